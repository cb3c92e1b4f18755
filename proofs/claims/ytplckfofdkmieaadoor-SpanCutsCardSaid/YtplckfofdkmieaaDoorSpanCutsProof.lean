/- The statement of the law SpanCuts, from its walk: for every input the call returns true and changes nothing that was there. -/
import Derived.Test.YtplckfofdkmieaaDoorSpanCutsWalk
import Derived.Test.YtplckfofdkmieaaDoorFrame
import Derived.Test.YtplckfofdkmieaaDoorCardFrame
import Derived.Test.YtplckfofdkmieaaDoorTie
import Derived.Test.YtplckfofdkmieaaDoorCards
import Derived.SevenTiedAt
namespace Go.Proofs.YtplckfofdkmieaaDoor
open Go.ChangeShapes Go.WideShapes Go.ChangeAt Go.RowKit Go.Joins
open Go.ChangeMaps (open_string shut_string)
set_option linter.unusedVariables false

set_option maxRecDepth 100000 in
theorem spanCuts_lifted (os : Os) (started : os.Started) (H : Type) (enc : TypeId × Value → H) :
    ReturnsInHanded {} Tryd.checked os 8 .any (fun w args => (Rows.spanCutsSpec.pre enc Tryd.prog Tryd.f8 [] false w args ∧ laidMetH Tryd.prog [("errors.errorType", Rows.laid_errors_errorType)] w) ∧ sizedMet enc Tryd.prog Tryd.f8 (OpenSpec.ofChange Rows.spanCutsSpec) false w args)
      (Rows.spanCutsSpec.post enc Tryd.prog Tryd.f8 false true false false) := by
  refine returnsInHanded_of_change_and (C := Tryd.checked) (X := (fun w _ => laidMetH Tryd.prog [("errors.errorType", Rows.laid_errors_errorType)] w)) (fun _ _ _ hh h => h.of_heap hh) ownKnob_none started (by kernel_rfl) Tryd.func8
    (ChangeSpec.witness_at (enc := enc) (C := Tryd.checked) (os := os) (X := (fun w _ => laidMetH Tryd.prog [("errors.errorType", Rows.laid_errors_errorType)] w)) false (laidWorld os) #[.agg #[.int .u64 0, .int .u64 0], .agg #[.int .u64 0, .int .u64 0], .int .u64 0] 8 rfl (by kernel_rfl) (by kernel_rfl) (by kernel_rfl) (by kernel_rfl) (by kernel_rfl) (laidWorld_met os _)) ?_
  intro W base args ds gs before hval0 hW hcnd _ hL _
  have hg := laid_of hL
  have hval : ∀ (j : Nat) t v, Tryd.f8.params[j]? = some t → args[j]? = some v → Value.okWide Tryd.prog W .any base t v := hval0
  have hW' := hW
  obtain ⟨p, q, hA0, hV, rfl, hfz, hnd⟩ := hW
  have hA : DataW.TrodAll enc Tryd.prog W 0 (fun _ => true) true Tryd.f8.params.toList args.toList ds p := hA0
  rw [Tryd.params8] at hA hval
  obtain ⟨v0, vs0, d0, ds0, p0, q0, hargs, rfl, rfl, h0, r0⟩ := trodAll_cons hA
  obtain ⟨v1, vs1, d1, ds1, p1, q1, rfl, rfl, rfl, h1, r1⟩ := trodAll_cons r0
  obtain ⟨v2, vs2, d2, ds2, p2, q2, rfl, rfl, rfl, h2, r2⟩ := trodAll_cons r1
  obtain ⟨rfl, rfl, rfl⟩ := trodAll_nil r2
  obtain rfl : args = #[v0, v1, v2] := by cases args; simp_all
  obtain ⟨rfl, rfl⟩ := trodVars_none hV
  have k0 := h0
  have lt0 : ∀ x ∈ p0, x.block < W.heap.size := by obtain ⟨m, hm⟩ := k0; exact DataW.trod_lt m _ _ _ hm
  obtain ⟨c0, e0, y0, z0, m0, rfl, _, _, ya0, yb0⟩ := open_agg2 Tryd.underlying24 (by kernel_rfl) (show Tryd.prog.cellsOf 24 = 2 by kernel_rfl) (hval 0 24 v0 rfl rfl) h0
  obtain ⟨a0, ea0, _, wa0⟩ := DataW.trod_int Tryd.underlying22 ya0
  obtain ⟨b0, eb0, _, wb0⟩ := DataW.trod_int Tryd.underlying22 yb0
  simp at ea0 eb0; subst ea0 eb0
  have k1 := h1
  have lt1 : ∀ x ∈ p1, x.block < W.heap.size := by obtain ⟨m, hm⟩ := k1; exact DataW.trod_lt m _ _ _ hm
  obtain ⟨c1, e1, y1, z1, m1, rfl, _, _, ya1, yb1⟩ := open_agg2 Tryd.underlying24 (by kernel_rfl) (show Tryd.prog.cellsOf 24 = 2 by kernel_rfl) (hval 1 24 v1 rfl rfl) h1
  obtain ⟨a1, ea1, _, wa1⟩ := DataW.trod_int Tryd.underlying22 ya1
  obtain ⟨b1, eb1, _, wb1⟩ := DataW.trod_int Tryd.underlying22 yb1
  simp at ea1 eb1; subst ea1 eb1
  have k2 := h2
  have lt2 : ∀ x ∈ p2, x.block < W.heap.size := by obtain ⟨m, hm⟩ := k2; exact DataW.trod_lt m _ _ _ hm
  obtain ⟨a2, rfl, _, _, w2⟩ := open_int Tryd.underlying22 (hval 2 22 v2 rfl rfl) h2
  clear hA0 hval0
  refine (spanCuts_walk a0 b0 a1 b1 a2 W (word_wf wa0) (word_wf wb0) (word_wf wa1) (word_wf wb1) (word_wf w2) hg).mono fun e W' ⟨he, bel⟩ => ?_
  subst he
  exact ⟨_, rfl, _, _, _, [], _, [], hW', trodAll_mk1 (shut_bool Tryd.underlying4 _), (trodAll_cons_mk (Below.trod laidOut (by kernel_rfl) (of_decide_eq_true (by kernel_rfl)) k0 bel lt0) (trodAll_cons_mk (Below.trod laidOut (by kernel_rfl) (of_decide_eq_true (by kernel_rfl)) k1 bel lt1) (trodAll_cons_mk (Below.trod laidOut (by kernel_rfl) (of_decide_eq_true (by kernel_rfl)) k2 bel lt2) trodAll_mk0))), rfl, bel.frame _, fun h => by cases h⟩

theorem spanCuts_over : Rows.spanCutsRow.holds Tryd.pinned (OpenSpec.ofChange Rows.spanCutsSpec) :=
  OpenClaim.holds_of_wide 8 Tryd.f8 rfl rfl rfl rfl rfl rfl rfl ⟨rfl, rfl, rfl, rfl, rfl⟩ rfl rfl rfl rfl rfl (by kernel_rfl) Tryd.func8 (by kernel_rfl)
    (of_decide_eq_true (by kernel_rfl)) (by unfold Func.isWrapper; first | (rw [if_pos (by decide +kernel)]; kernel_rfl) | (rw [if_neg (by decide +kernel)]; exact ⟨rfl, rfl⟩))
    (fun os started H enc _ => spanCuts_lifted os started H enc)

/-- The given statement: the card. -/
theorem spanCuts_holds : Rows.SpanCutsCardSaid :=
  Claim7.holds_tied_plain_at .later [] [.handle] true _ true
    spanCuts_over (fun _ h => by cases h) (by kernel_rfl) (fun _ h => by cases h) spanCuts_row_tie rfl ⟨rfl, rfl⟩ (by kernel_rfl) rfl
    (fun f fn hf hfn => by
      obtain rfl : f = 8 := Option.some.inj ((show Tryd.prog.funcNamed "kenning/kenninglaw03.SpanCuts" = some 8 by kernel_rfl).symm.trans hf) |>.symm
      obtain rfl : fn = Tryd.f8 := (Option.some.inj (Tryd.func8.symm.trans hfn)).symm
      exact ⟨by kernel_rfl, fun j t ht => by
        rw [Tryd.params8] at ht
        rcases j with _ | _ | _ | j
        · obtain rfl : 24 = t := by simpa using ht
          exact (show Tryd.prog.wantsStandIn 24 = false by kernel_rfl)
        · obtain rfl : 24 = t := by simpa using ht
          exact (show Tryd.prog.wantsStandIn 24 = false by kernel_rfl)
        · obtain rfl : 22 = t := by simpa using ht
          exact (show Tryd.prog.wantsStandIn 22 = false by kernel_rfl)
        · simp at ht⟩)
    (by kernel_rfl)
#print axioms spanCuts_holds
end Go.Proofs.YtplckfofdkmieaaDoor
