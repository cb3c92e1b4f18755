/- The statement of the law TopChanges, from its walk: for every input the call returns true and changes nothing that was there. -/
import Derived.Test.YtbkkolfpegplgaaGreatDoorTTopChangesWalk
import Derived.Test.YtbkkolfpegplgaaGreatDoorTG44
import Derived.Test.YtbkkolfpegplgaaGreatDoorTie
import Derived.Test.YtbkkolfpegplgaaGreatDoorCards
open Go.Proofs.Tryz
set_option maxRecDepth 100000
set_option linter.unusedVariables false
namespace Go.Proofs.YtbkkolfpegplgaaGreatDoor
open Go.ChangeShapes Go.WideShapes Go.ChangeAt Go.RowKit Go.Joins
open Go.ChangeMaps (open_string shut_string)
theorem topChanges_lifted(os:Os)(started:os.Started)(H:Type)(enc:TypeId×Value→H) :
  ReturnsInHanded {} Tryz.checked os 5 .any (fun w args => (Rows.topChangesSpec.pre enc prog f5 [] false w args ∧ laidMetH prog [("errors.errorType", Rows.laid_errors_errorType)] w) ∧ sizedMet enc prog f5 (OpenSpec.ofChange Rows.topChangesSpec) false w args)
   (Rows.topChangesSpec.post enc prog f5 false true false false):=by
 refine returnsInHanded_of_change_and (C := Tryz.checked) (X := (fun w _ => laidMetH prog [("errors.errorType", Rows.laid_errors_errorType)] w)) (fun _ _ _ hh h => h.of_heap hh) Da started (by kernel_rfl) func5
  (ChangeSpec.witness_at (enc := enc) (C := Tryz.checked) (os := os) (X := (fun w _ => laidMetH prog [("errors.errorType", Rows.laid_errors_errorType)] w)) false (Ap os) #[.slice none 0 0, .int .u16 0, .int .u8 0] 8 rfl (by kernel_rfl) (by kernel_rfl) (by kernel_rfl) (by kernel_rfl) (by kernel_rfl) (zF os _)) ?_
 intro W base args ds gs before hval0 hW hcnd _ hL _;have hg:=Zq hL;have hval:∀(j:Nat) t v,f5.params[j]?=some t→args[j]?=some v→Value.okWide prog W .any base t v:=hval0;have hW':=hW;obtain⟨p,q,hA0,hV,rfl,hfz,hnd⟩:=hW;have hA:DataW.TrodAll enc prog W 0 (fun _=>true) true f5.params.toList args.toList ds p:=hA0;rw[Tryz.params5]at hA hval;obtain⟨v0,vs0,d0,ds0,p0,q0,hargs,rfl,rfl,h0,r0⟩:=trodAll_cons hA;obtain⟨v1,vs1,d1,ds1,p1,q1,rfl,rfl,rfl,h1,r1⟩:=trodAll_cons r0;obtain⟨v2,vs2,d2,ds2,p2,q2,rfl,rfl,rfl,h2,r2⟩:=trodAll_cons r1;obtain⟨rfl,rfl,rfl⟩:=trodAll_nil r2;obtain rfl:args=#[v0,v1,v2]:=by cases args;simp_all
 obtain⟨rfl,rfl⟩:=trodVars_none hV;have k0:=h0;have lt0:∀x∈p0,x.block<W.heap.size:=by obtain⟨m,hm⟩:=k0;exact DataW.trod_lt m _ _ _ hm
 obtain⟨a0,len0,cap0,rfl⟩:=okWide_slice underlying23 (hval 0 23 v0 rfl rfl);obtain⟨z0,w0⟩:=Qh h0 ⟨_,_,_,rfl⟩;have k1:=h1;have lt1:∀x∈p1,x.block<W.heap.size:=by obtain⟨m,hm⟩:=k1;exact DataW.trod_lt m _ _ _ hm
 obtain⟨a1,rfl,_,_,w1⟩:=open_int underlying46 (hval 1 46 v1 rfl rfl) h1;have k2:=h2;have lt2:∀x∈p2,x.block<W.heap.size:=by obtain⟨m,hm⟩:=k2;exact DataW.trod_lt m _ _ _ hm
 obtain⟨a2,rfl,_,_,w2⟩:=open_int underlying5 (hval 2 5 v2 rfl rfl) h2;clear hA0 hval0;refine(topChanges_walk (.slice a0 len0 cap0) z0 a1 a2 W w0 w1 w2 hg).mono fun e W' ⟨he,bel⟩=>?_;subst he;exact⟨_,rfl,_,_,_,[],_,[],hW',trodAll_mk1 (shut_bool underlying4 _),(trodAll_cons_mk (Below.trod Dg (by kernel_rfl) (of_decide_eq_true (by kernel_rfl)) k0 bel lt0) (trodAll_cons_mk (Below.trod Dg (by kernel_rfl) (of_decide_eq_true (by kernel_rfl)) k1 bel lt1) (trodAll_cons_mk (Below.trod Dg (by kernel_rfl) (of_decide_eq_true (by kernel_rfl)) k2 bel lt2) trodAll_mk0))),rfl,bel.frame _,fun h=>by cases h⟩
theorem topChanges_over:Rows.topChangesRow.holds Tryz.pinned (OpenSpec.ofChange Rows.topChangesSpec):=
 OpenClaim.holds_of_wide 5 f5 rfl rfl rfl rfl rfl rfl rfl ⟨rfl,rfl,rfl,rfl,rfl⟩ rfl rfl rfl rfl rfl aC func5 aC
  (of_decide_eq_true aC) (by unfold Func.isWrapper;first | (rw[if_pos (by decide +kernel)];kernel_rfl) | (rw[if_neg (by decide +kernel)];exact⟨rfl,rfl⟩))
  (fun os b H enc _=>topChanges_lifted os b H enc)
theorem topChanges_holds:Rows.TopChangesCardSaid:=
 Claim7.holds_tied_plain_at .later [] [.handle] true _ true
  topChanges_over (fun _ h=>by cases h) (by kernel_rfl) (fun _ h=>by cases h) topChanges_row_tie rfl ⟨rfl,rfl⟩ (by kernel_rfl) rfl
  (fun f fn hf hfn=>by
    obtain rfl : f = 5 := Option.some.inj ((show prog.funcNamed "kenning/kenningtop.TopChanges" = some 5 by kernel_rfl).symm.trans hf) |>.symm
    obtain rfl:fn=f5:=(Option.some.inj (func5.symm.trans hfn)).symm;exact⟨by kernel_rfl,fun j t ht=>by
     rw[Tryz.params5]at ht;rcases j with _ | _ | _ | j
     ·obtain rfl:23=t:=by simpa using ht
      exact(show prog.wantsStandIn 23=false by kernel_rfl)
     ·obtain rfl:46=t:=by simpa using ht
      exact(show prog.wantsStandIn 46=false by kernel_rfl)
     ·obtain rfl:5=t:=by simpa using ht
      exact(show prog.wantsStandIn 5=false by kernel_rfl)
     simp at ht⟩)
  (by kernel_rfl)
#print axioms topChanges_holds
end Go.Proofs.YtbkkolfpegplgaaGreatDoor
