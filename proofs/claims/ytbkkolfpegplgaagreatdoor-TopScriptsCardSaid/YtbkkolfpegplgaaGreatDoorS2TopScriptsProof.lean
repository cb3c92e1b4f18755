/- The statement of the law TopScripts, from its walk: for every input the call returns true and changes nothing that was there. -/
import Derived.Test.YtbkkolfpegplgaaGreatDoorS2TopScriptsWalk
import Derived.Test.YtbkkolfpegplgaaGreatDoorS2G51
import Derived.Test.YtbkkolfpegplgaaGreatDoorS2G44
import Derived.Test.YtbkkolfpegplgaaGreatDoorS2G45
import Derived.Test.YtbkkolfpegplgaaGreatDoorS2G50
import Derived.Test.YtbkkolfpegplgaaGreatDoorS2G48
import Derived.Test.YtbkkolfpegplgaaGreatDoorTie
import Derived.Test.YtbkkolfpegplgaaGreatDoorCards
import Derived.SevenTiedAt
set_option maxRecDepth 100000
set_option linter.unusedVariables false
namespace Go.Proofs.YtbkkolfpegplgaaGreatDoor
open Go.ChangeShapes Go.WideShapes Go.ChangeAt Go.RowKit Go.Joins
open Go.ChangeMaps (open_string shut_string)
theorem topScripts_lifted(os:Os)(started:os.Started)(H:Type)(enc:TypeId×Value→H) :
  ReturnsInHanded {} Tryz.checked os 6 .any (fun w args => (Rows.topScriptsSpec.pre enc Tryz.prog Tryz.f6 [] false w args ∧ laidMetH Tryz.prog [("errors.errorType", Rows.laid_errors_errorType)] w) ∧ sizedMet enc Tryz.prog Tryz.f6 (OpenSpec.ofChange Rows.topScriptsSpec) false w args)
   (Rows.topScriptsSpec.post enc Tryz.prog Tryz.f6 false true false false):=by
 refine returnsInHanded_of_change_and (C := Tryz.checked) (X := (fun w _ => laidMetH Tryz.prog [("errors.errorType", Rows.laid_errors_errorType)] w)) (fun _ _ _ hh h => h.of_heap hh) ownKnob_none started (by kernel_rfl) Tryz.func6
  (ChangeSpec.witness_at (enc := enc) (C := Tryz.checked) (os := os) (X := (fun w _ => laidMetH Tryz.prog [("errors.errorType", Rows.laid_errors_errorType)] w)) false (laidWorld os) #[.slice none 0 0, .slice none 0 0, .slice none 0 0] 8 rfl (by kernel_rfl) (by kernel_rfl) (by kernel_rfl) (by kernel_rfl) (by kernel_rfl) (laidWorld_met os _)) ?_
 intro W base args ds gs before hval0 hW hcnd _ hL _;have hg:=laid_of hL;have hval:∀(j:Nat) t v,Tryz.f6.params[j]?=some t→args[j]?=some v→Value.okWide Tryz.prog W .any base t v:=hval0;have hW':=hW;obtain⟨p,q,hA0,hV,rfl,hfz,hnd⟩:=hW;have hA:DataW.TrodAll enc Tryz.prog W 0 (fun _=>true) true Tryz.f6.params.toList args.toList ds p:=hA0;rw[Tryz.params6]at hA hval;obtain⟨v0,vs0,d0,ds0,p0,q0,hargs,rfl,rfl,h0,r0⟩:=trodAll_cons hA;obtain⟨v1,vs1,d1,ds1,p1,q1,rfl,rfl,rfl,h1,r1⟩:=trodAll_cons r0;obtain⟨v2,vs2,d2,ds2,p2,q2,rfl,rfl,rfl,h2,r2⟩:=trodAll_cons r1;obtain⟨rfl,rfl,rfl⟩:=trodAll_nil r2;obtain rfl:args=#[v0,v1,v2]:=by cases args;simp_all
 obtain⟨rfl,rfl⟩:=trodVars_none hV;have k0:=h0;have lt0:∀x∈p0,x.block<W.heap.size:=by obtain⟨m,hm⟩:=k0;exact DataW.trod_lt m _ _ _ hm
 obtain⟨a0,len0,cap0,rfl⟩:=okWide_slice Tryz.underlying51 (hval 0 51 v0 rfl rfl);obtain⟨z0,w0'⟩:=open_knows h0 ⟨_,_,_,rfl⟩;have w0:=w0' _ _ _ rfl;have k1:=h1;have lt1:∀x∈p1,x.block<W.heap.size:=by obtain⟨m,hm⟩:=k1;exact DataW.trod_lt m _ _ _ hm
 obtain⟨a1,len1,cap1,rfl⟩:=okWide_slice Tryz.underlying52 (hval 1 52 v1 rfl rfl);obtain⟨z1,w1'⟩:=open_ops h1 ⟨_,_,_,rfl⟩;have w1:=w1' _ _ _ rfl;have k2:=h2;have lt2:∀x∈p2,x.block<W.heap.size:=by obtain⟨m,hm⟩:=k2;exact DataW.trod_lt m _ _ _ hm
 obtain⟨a2,len2,cap2,rfl⟩:=okWide_slice Tryz.underlying53 (hval 2 53 v2 rfl rfl);obtain⟨z2,w2'⟩:=open_vers h2 ⟨_,_,_,rfl⟩;have w2:=w2' _ _ _ rfl;clear hA0 hval0;refine(topScripts_walk a0 len0 cap0 z0 a1 len1 cap1 z1 a2 len2 cap2 z2 W w0 w1 w2 hg).mono fun e W' ⟨he,bel⟩=>?_;subst he;exact⟨_,rfl,_,_,_,[],_,[],hW',trodAll_mk1 (shut_bool Tryz.underlying4 _),(trodAll_cons_mk (Below.trod laidOut (by kernel_rfl) (of_decide_eq_true (by kernel_rfl)) k0 bel lt0) (trodAll_cons_mk (Below.trod laidOut (by kernel_rfl) (of_decide_eq_true (by kernel_rfl)) k1 bel lt1) (trodAll_cons_mk (Below.trod laidOut (by kernel_rfl) (of_decide_eq_true (by kernel_rfl)) k2 bel lt2) trodAll_mk0))),rfl,bel.frame _,fun h=>by cases h⟩
theorem z4o:(Rows.topScriptsRow.recurses == Tryz.prog.recurses 6)=true:=by kernel_rfl
theorem topScripts_named:(Rows.topScriptsRow.named == Tryz.prog.varsNamed 6)=true:=by kernel_rfl
theorem topScripts_closed:joinedFacts Tryz.prog 6 Tryz.f6 Rows.topScriptsSpec Rows.topScriptsRow=true:=by
 unfold joinedFacts;rw[z4z,z40,z4o,topScripts_named];kernel_rfl
theorem topScripts_over:Rows.topScriptsRow.holds Tryz.pinned (OpenSpec.ofChange Rows.topScriptsSpec):=
 OpenClaim.holds_of_wide 6 Tryz.f6 rfl rfl rfl rfl rfl rfl rfl ⟨rfl,rfl,rfl,rfl,rfl⟩ rfl rfl rfl rfl rfl (by kernel_rfl) Tryz.func6 topScripts_closed
  (of_decide_eq_true (by kernel_rfl)) (by unfold Func.isWrapper;first | (rw[if_pos (by decide +kernel)];kernel_rfl) | (rw[if_neg (by decide +kernel)];exact⟨rfl,rfl⟩))
  (fun os started H enc _=>topScripts_lifted os started H enc)
theorem topScripts_holds:Rows.TopScriptsCardSaid:=
 Claim7.holds_tied_plain_at .later [] [.handle] true _ true
  topScripts_over (fun _ h=>by cases h) (by kernel_rfl) (fun _ h=>by cases h) topScripts_row_tie rfl ⟨rfl,rfl⟩ (by kernel_rfl) rfl
  (fun f fn hf hfn=>by
    obtain rfl : f = 6 := Option.some.inj ((show Tryz.prog.funcNamed "kenning/kenningtop.TopScripts" = some 6 by kernel_rfl).symm.trans hf) |>.symm
    obtain rfl:fn=Tryz.f6:=(Option.some.inj (Tryz.func6.symm.trans hfn)).symm;exact⟨by kernel_rfl,fun j t ht=>by
     rw[Tryz.params6]at ht;rcases j with _ | _ | _ | j
     ·obtain rfl:51=t:=by simpa using ht
      exact(show Tryz.prog.wantsStandIn 51=false by kernel_rfl)
     ·obtain rfl:52=t:=by simpa using ht
      exact(show Tryz.prog.wantsStandIn 52=false by kernel_rfl)
     ·obtain rfl:53=t:=by simpa using ht
      exact(show Tryz.prog.wantsStandIn 53=false by kernel_rfl)
     ·simp at ht⟩)
  (by kernel_rfl)
#print axioms topScripts_holds
end Go.Proofs.YtbkkolfpegplgaaGreatDoor
