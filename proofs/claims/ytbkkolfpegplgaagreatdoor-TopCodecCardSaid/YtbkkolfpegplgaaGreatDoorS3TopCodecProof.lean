/- The statement of the law TopCodec, from its walk: for every input the call returns true and changes nothing that was there. -/
import Derived.Test.YtbkkolfpegplgaaGreatDoorS3TopCodecWalk
import Derived.Test.YtbkkolfpegplgaaGreatDoorS3G44
import Derived.Test.YtbkkolfpegplgaaGreatDoorS3G45
import Derived.Test.YtbkkolfpegplgaaGreatDoorS3G48
import Derived.Test.YtbkkolfpegplgaaGreatDoorTie
import Derived.Test.YtbkkolfpegplgaaGreatDoorCards
import Derived.SevenTiedAt
set_option maxRecDepth 100000
set_option linter.unusedVariables false
namespace Go.Proofs.YtbkkolfpegplgaaGreatDoor
open Go.ChangeShapes Go.WideShapes Go.ChangeAt Go.RowKit Go.Joins
open Go.ChangeMaps (open_string shut_string)
theorem topCodec_lifted(os:Os)(started:os.Started)(H:Type)(enc:TypeId×Value→H) :
  ReturnsInHanded {} Tryz.checked os 4 .any (fun w args => (Rows.topCodecSpec.pre enc Tryz.prog Tryz.f4 [] false w args ∧ laidMetH Tryz.prog [("errors.errorType", Rows.laid_errors_errorType)] w) ∧ sizedMet enc Tryz.prog Tryz.f4 (OpenSpec.ofChange Rows.topCodecSpec) false w args)
   (Rows.topCodecSpec.post enc Tryz.prog Tryz.f4 false true false false):=by
 refine returnsInHanded_of_change_and (C := Tryz.checked) (X := (fun w _ => laidMetH Tryz.prog [("errors.errorType", Rows.laid_errors_errorType)] w)) (fun _ _ _ hh h => h.of_heap hh) ownKnob_none started (by kernel_rfl) Tryz.func4
  (ChangeSpec.witness_at (enc := enc) (C := Tryz.checked) (os := os) (X := (fun w _ => laidMetH Tryz.prog [("errors.errorType", Rows.laid_errors_errorType)] w)) false (laidWorld os) #[.slice none 0 0] 8 rfl (by kernel_rfl) (by kernel_rfl) (by kernel_rfl) (by kernel_rfl) (by kernel_rfl) (laidWorld_met os _)) ?_
 intro W base args ds gs before hval0 hW hcnd _ hL _;have hg:=laid_of hL;have hval:∀(j:Nat) t v,Tryz.f4.params[j]?=some t→args[j]?=some v→Value.okWide Tryz.prog W .any base t v:=hval0;have hW':=hW;obtain⟨p,q,hA0,hV,rfl,hfz,hnd⟩:=hW;have hA:DataW.TrodAll enc Tryz.prog W 0 (fun _=>true) true Tryz.f4.params.toList args.toList ds p:=hA0;rw[Tryz.params4]at hA hval;obtain⟨v0,vs0,d0,ds0,p0,q0,hargs,rfl,rfl,h0,r0⟩:=trodAll_cons hA;obtain⟨rfl,rfl,rfl⟩:=trodAll_nil r0;obtain rfl:args=#[v0]:=by cases args;simp_all
 obtain⟨rfl,rfl⟩:=trodVars_none hV;have k0:=h0;have lt0:∀x∈p0,x.block<W.heap.size:=by obtain⟨m,hm⟩:=k0;exact DataW.trod_lt m _ _ _ hm
 obtain⟨a0,len0,cap0,rfl⟩:=okWide_slice Tryz.underlying23 (hval 0 23 v0 rfl rfl);obtain⟨z0,w0⟩:=open_know h0 ⟨_,_,_,rfl⟩;clear hA0 hval0;refine(topCodec_walk (.slice a0 len0 cap0) z0 W w0 hg).mono fun e W' ⟨he,bel⟩=>?_;subst he;exact⟨_,rfl,_,_,_,[],_,[],hW',trodAll_mk1 (shut_bool Tryz.underlying4 _),(trodAll_cons_mk (Below.trod laidOut (by kernel_rfl) (of_decide_eq_true (by kernel_rfl)) k0 bel lt0) trodAll_mk0),rfl,bel.frame _,fun h=>by cases h⟩
theorem topCodec_over:Rows.topCodecRow.holds Tryz.pinned (OpenSpec.ofChange Rows.topCodecSpec):=
 OpenClaim.holds_of_wide 4 Tryz.f4 rfl rfl rfl rfl rfl rfl rfl ⟨rfl,rfl,rfl,rfl,rfl⟩ rfl rfl rfl rfl rfl (by kernel_rfl) Tryz.func4 (by kernel_rfl)
  (of_decide_eq_true (by kernel_rfl)) (by unfold Func.isWrapper;first | (rw[if_pos (by decide +kernel)];kernel_rfl) | (rw[if_neg (by decide +kernel)];exact⟨rfl,rfl⟩))
  (fun os started H enc _=>topCodec_lifted os started H enc)
theorem topCodec_holds:Rows.TopCodecCardSaid:=
 Claim7.holds_tied_plain_at .later [] [.handle] true _ true
  topCodec_over (fun _ h=>by cases h) (by kernel_rfl) (fun _ h=>by cases h) topCodec_row_tie rfl ⟨rfl,rfl⟩ (by kernel_rfl) rfl
  (fun f fn hf hfn=>by
    obtain rfl : f = 4 := Option.some.inj ((show Tryz.prog.funcNamed "kenning/kenningtop.TopCodec" = some 4 by kernel_rfl).symm.trans hf) |>.symm
    obtain rfl:fn=Tryz.f4:=(Option.some.inj (Tryz.func4.symm.trans hfn)).symm;exact⟨by kernel_rfl,fun j t ht=>by
     rw[Tryz.params4]at ht;rcases j with _ | j
     ·obtain rfl:23=t:=by simpa using ht
      exact(show Tryz.prog.wantsStandIn 23=false by kernel_rfl)
     ·simp at ht⟩)
  (by kernel_rfl)
#print axioms topCodec_holds
end Go.Proofs.YtbkkolfpegplgaaGreatDoor
