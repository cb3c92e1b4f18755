/- The contract of the iterator span.parts: the parts of an interval that are not in another one. -/
import Derived.Test.YtplckfofdkmieaaDoorSpan
import Derived.Test.YtplckfofdkmieaaDoorRangeFree
import Derived.RangeFuncBound
import Derived.OwnWalkIn
import Derived.TacticsInMore
import Derived.LoopNIn
import Derived.LoopIn
import Derived.Deep.RegionWith
namespace Go.Proofs.YtplckfofdkmieaaDoor
open Go.RowKit
attribute [local go_sem] Oper.semAt_some

/-- The parts of a that are not in b. -/
def pcLo (al ah bl : Int) : List Iv := if al < bl then [(al, mnI ah (bl - 1))] else []
def pcHi (al ah bh : Int) : List Iv := if bh < ah then [(mxI al (bh + 1), ah)] else []
def pcL (al ah bl bh : Int) : List Iv := pcLo al ah bl ++ pcHi al ah bh
def encP (zs : List Iv) (k : Nat) : Array Value := #[.agg #[.int .u64 (Lo zs k), .int .u64 (Hi zs k)]]

theorem parts_any (al ah bl bh : Int) (w : World) :
    Calls Tryd.prog 32 #[.agg #[.int .u64 al, .int .u64 ah], .agg #[.int .u64 bl, .int .u64 bh]] w fun e w' => e = .returned (.func (.func 40) #[] #[.pointer (some ⟨w.heap.size + 1, 0, none⟩), .pointer (some ⟨w.heap.size, 0, none⟩)]) ∧ w' = (w.alloc (.cells #[.int .u64 al, .int .u64 ah] 24)).alloc (.cells #[.int .u64 bl, .int .u64 bh] 24) := by
  go_enter Tryd.func32, Tryd.ntmps32
  go_wp2
  go_ret
  exact ⟨rfl, rfl⟩

set_option maxRecDepth 100000 in
set_option maxHeartbeats 2000000 in
theorem parts1_free (n : Nat) (hn : 1 ≤ n) (Ba Bb : Nat) (al ah bl bh : Int) (h1 : Word al) (h2 : Word ah) (h3 : Word bl) (h4 : Word bh) (w0 : World) (M : Nat → Prop)
    (ha : w0.heap[Ba]? = some (.cells #[.int .u64 al, .int .u64 ah] 24 (0, 0))) (hb : w0.heap[Bb]? = some (.cells #[.int .u64 bl, .int .u64 bh] 24 (0, 0))) (hMa : ¬ M Ba) (hMb : ¬ M Bb) :
    SeqFree Fence.wide n Tryd.prog 40 #[.pointer (some ⟨Bb, 0, none⟩), .pointer (some ⟨Ba, 0, none⟩)] (encP (pcL al ah bl bh)) M (pcL al ah bl bh).length w0 := by
  intro l J Jx W hW hl0 hl1 hJ hJx hY h0
  have HA := hide ((hW.block _ (Blk_lt ha)).trans ha)
  have HB := hide ((hW.block _ (Blk_lt hb)).trans hb)
  have na : Ba ≠ l := by have := Blk_lt ha; omega
  have nb : Bb ≠ l := by have := Blk_lt hb; omega
  have HJ := hide hJ; have HJx := hide hJx; have HY := hide hY
  clear hJ hJx hY ha hb
  obtain ⟨c0, c1, _, l0⟩ := cells_two HA.out
  obtain ⟨d0, d1, _, l1⟩ := cells_two HB.out
  by_cases g1 : al < bl
  · by_cases m1 : bl - 1 < ah
    · skip
      by_cases g2 : bh < ah
      · by_cases m2 : al < bh + 1
        · skip
          have e : pcL al ah bl bh = [(al, (bl - 1)), ((bh + 1), ah)] := by
            unfold pcL pcLo pcHi mnI mxI
            rw [if_pos g1, if_pos m1, if_pos g2, if_pos m2]
            rfl
          rw [e] at HY ⊢
          clear e
          have P := hide (fun W => prev_pos bl h3 (by unfold Word at *; omega) W)
          have q1 : al ≤ bl - 1 := by omega
          have N := hide (fun W => next_lt bh h4 (by unfold Word at *; omega) W)
          have q2 : bh + 1 ≤ ah := by omega
          obtain ⟨fn, tmps, assign, body, hy, hR⟩ := HY.out 0 W h0 (by simp) (Nat.le_refl _)
          have HR := hide hR
          clear hR
          simp only [encP, Lo, Hi, List.getD_cons_zero] at hy
          clear h1 h2 h3 h4 g1 g2
          refine callsIn_of_wp Tryd.func40 rfl trivial ?_ rfl
          simp only [Tryd.ntmps40, List.size_toArray, List.length_cons, List.length_nil, Nat.reduceAdd, Nat.reduceSub, Array.replicate_succ, Array.replicate_zero, List.push_toArray, List.append_toArray, List.nil_append, List.cons_append]
          gi_wp2_with (first | (refine ⟨trivial, ?_⟩; gi_at_call 41; refine (callsIn_wide.2 (P.out _)).mono ?_; rintro e w' ⟨rfl, rfl⟩) | (refine ⟨trivial, ?_⟩; gi_at_call 42; refine (callsIn_wide.2 (N.out _)).mono ?_; rintro e w' ⟨rfl, rfl⟩))
          refine HR.out.mono ?_
          rintro e W3 (⟨rfl, hJ3, ho3⟩ | ⟨rfl, hJx3⟩)
          · skip
            have hna : ¬ (M Ba ∨ Ba = l) := fun h => h.elim hMa na
            have hnb : ¬ (M Bb ∨ Bb = l) := fun h => h.elim hMb nb
            obtain ⟨c0, c1, _, l0⟩ := cells_two (ho3.obj hna HA.out)
            obtain ⟨d0, d1, _, l1⟩ := cells_two (ho3.obj hnb HB.out)
            obtain ⟨fn2, tmps2, assign2, body2, hy2, hR2⟩ := HY.out 1 W3 hJ3 (by simp) ho3.size
            have HR2 := hide hR2
            clear hR2 hy
            simp only [encP, Lo, Hi, List.getD_cons_zero, List.getD_cons_succ] at hy2
            gi_wp2_with (first | (refine ⟨trivial, ?_⟩; gi_at_call 41; refine (callsIn_wide.2 (P.out _)).mono ?_; rintro e w' ⟨rfl, rfl⟩) | (refine ⟨trivial, ?_⟩; gi_at_call 42; refine (callsIn_wide.2 (N.out _)).mono ?_; rintro e w' ⟨rfl, rfl⟩))
            refine HR2.out.mono ?_
            rintro e W4 (⟨rfl, hJ4, ho4⟩ | ⟨rfl, hJx4⟩)
            · gi_wp2
              go_end0
              exact ⟨⟨_, rfl⟩, .inl hJ4⟩
            · gi_wp2
              go_end0
              exact ⟨⟨_, rfl⟩, .inr ⟨1, by simp, hJx4⟩⟩
          · gi_wp2
            refine bodyPost_ret (results_none rfl _ _ _) rfl ?_
            exact ⟨⟨_, rfl⟩, .inr ⟨0, by simp, hJx3⟩⟩
        · skip
          have e : pcL al ah bl bh = [(al, (bl - 1)), (al, ah)] := by
            unfold pcL pcLo pcHi mnI mxI
            rw [if_pos g1, if_pos m1, if_pos g2, if_neg m2]
            rfl
          rw [e] at HY ⊢
          clear e
          have P := hide (fun W => prev_pos bl h3 (by unfold Word at *; omega) W)
          have q1 : al ≤ bl - 1 := by omega
          have N := hide (fun W => next_lt bh h4 (by unfold Word at *; omega) W)
          have q2 : bh + 1 ≤ ah := by omega
          have m2 : bh + 1 ≤ al := by omega
          obtain ⟨fn, tmps, assign, body, hy, hR⟩ := HY.out 0 W h0 (by simp) (Nat.le_refl _)
          have HR := hide hR
          clear hR
          simp only [encP, Lo, Hi, List.getD_cons_zero] at hy
          clear h1 h2 h3 h4 g1 g2
          refine callsIn_of_wp Tryd.func40 rfl trivial ?_ rfl
          simp only [Tryd.ntmps40, List.size_toArray, List.length_cons, List.length_nil, Nat.reduceAdd, Nat.reduceSub, Array.replicate_succ, Array.replicate_zero, List.push_toArray, List.append_toArray, List.nil_append, List.cons_append]
          gi_wp2_with (first | (refine ⟨trivial, ?_⟩; gi_at_call 41; refine (callsIn_wide.2 (P.out _)).mono ?_; rintro e w' ⟨rfl, rfl⟩) | (refine ⟨trivial, ?_⟩; gi_at_call 42; refine (callsIn_wide.2 (N.out _)).mono ?_; rintro e w' ⟨rfl, rfl⟩))
          refine HR.out.mono ?_
          rintro e W3 (⟨rfl, hJ3, ho3⟩ | ⟨rfl, hJx3⟩)
          · skip
            have hna : ¬ (M Ba ∨ Ba = l) := fun h => h.elim hMa na
            have hnb : ¬ (M Bb ∨ Bb = l) := fun h => h.elim hMb nb
            obtain ⟨c0, c1, _, l0⟩ := cells_two (ho3.obj hna HA.out)
            obtain ⟨d0, d1, _, l1⟩ := cells_two (ho3.obj hnb HB.out)
            obtain ⟨fn2, tmps2, assign2, body2, hy2, hR2⟩ := HY.out 1 W3 hJ3 (by simp) ho3.size
            have HR2 := hide hR2
            clear hR2 hy
            simp only [encP, Lo, Hi, List.getD_cons_zero, List.getD_cons_succ] at hy2
            gi_wp2_with (first | (refine ⟨trivial, ?_⟩; gi_at_call 41; refine (callsIn_wide.2 (P.out _)).mono ?_; rintro e w' ⟨rfl, rfl⟩) | (refine ⟨trivial, ?_⟩; gi_at_call 42; refine (callsIn_wide.2 (N.out _)).mono ?_; rintro e w' ⟨rfl, rfl⟩))
            refine HR2.out.mono ?_
            rintro e W4 (⟨rfl, hJ4, ho4⟩ | ⟨rfl, hJx4⟩)
            · gi_wp2
              go_end0
              exact ⟨⟨_, rfl⟩, .inl hJ4⟩
            · gi_wp2
              go_end0
              exact ⟨⟨_, rfl⟩, .inr ⟨1, by simp, hJx4⟩⟩
          · gi_wp2
            refine bodyPost_ret (results_none rfl _ _ _) rfl ?_
            exact ⟨⟨_, rfl⟩, .inr ⟨0, by simp, hJx3⟩⟩
      · by_cases z2 : bh = 18446744073709551615
        · skip
          have e : pcL al ah bl bh = [(al, (bl - 1))] := by
            unfold pcL pcLo pcHi mnI mxI
            rw [if_pos g1, if_pos m1, if_neg g2]
            rfl
          rw [e] at HY ⊢
          clear e
          have P := hide (fun W => prev_pos bl h3 (by unfold Word at *; omega) W)
          have q1 : al ≤ bl - 1 := by omega
          subst z2
          have N := hide (fun W => next_top W)
          obtain ⟨fn, tmps, assign, body, hy, hR⟩ := HY.out 0 W h0 (by simp) (Nat.le_refl _)
          have HR := hide hR
          clear hR
          simp only [encP, Lo, Hi, List.getD_cons_zero] at hy
          clear h1 h2 h3 h4 g1 g2
          refine callsIn_of_wp Tryd.func40 rfl trivial ?_ rfl
          simp only [Tryd.ntmps40, List.size_toArray, List.length_cons, List.length_nil, Nat.reduceAdd, Nat.reduceSub, Array.replicate_succ, Array.replicate_zero, List.push_toArray, List.append_toArray, List.nil_append, List.cons_append]
          gi_wp2_with (first | (refine ⟨trivial, ?_⟩; gi_at_call 41; refine (callsIn_wide.2 (P.out _)).mono ?_; rintro e w' ⟨rfl, rfl⟩) | (refine ⟨trivial, ?_⟩; gi_at_call 42; refine (callsIn_wide.2 (N.out _)).mono ?_; rintro e w' ⟨rfl, rfl⟩))
          refine HR.out.mono ?_
          rintro e W3 (⟨rfl, hJ3, ho3⟩ | ⟨rfl, hJx3⟩)
          · skip
            have hna : ¬ (M Ba ∨ Ba = l) := fun h => h.elim hMa na
            have hnb : ¬ (M Bb ∨ Bb = l) := fun h => h.elim hMb nb
            obtain ⟨c0, c1, _, l0⟩ := cells_two (ho3.obj hna HA.out)
            obtain ⟨d0, d1, _, l1⟩ := cells_two (ho3.obj hnb HB.out)
            gi_wp2_with (first | (refine ⟨trivial, ?_⟩; gi_at_call 41; refine (callsIn_wide.2 (P.out _)).mono ?_; rintro e w' ⟨rfl, rfl⟩) | (refine ⟨trivial, ?_⟩; gi_at_call 42; refine (callsIn_wide.2 (N.out _)).mono ?_; rintro e w' ⟨rfl, rfl⟩))
            go_end0
            exact ⟨⟨_, rfl⟩, .inl hJ3⟩
          · gi_wp2
            refine bodyPost_ret (results_none rfl _ _ _) rfl ?_
            exact ⟨⟨_, rfl⟩, .inr ⟨0, by simp, hJx3⟩⟩
        · skip
          have e : pcL al ah bl bh = [(al, (bl - 1))] := by
            unfold pcL pcLo pcHi mnI mxI
            rw [if_pos g1, if_pos m1, if_neg g2]
            rfl
          rw [e] at HY ⊢
          clear e
          have P := hide (fun W => prev_pos bl h3 (by unfold Word at *; omega) W)
          have q1 : al ≤ bl - 1 := by omega
          have N := hide (fun W => next_lt bh h4 (by unfold Word at *; omega) W)
          have q2 : ah < bh + 1 := by omega
          obtain ⟨fn, tmps, assign, body, hy, hR⟩ := HY.out 0 W h0 (by simp) (Nat.le_refl _)
          have HR := hide hR
          clear hR
          simp only [encP, Lo, Hi, List.getD_cons_zero] at hy
          clear h1 h2 h3 h4 g1 g2
          refine callsIn_of_wp Tryd.func40 rfl trivial ?_ rfl
          simp only [Tryd.ntmps40, List.size_toArray, List.length_cons, List.length_nil, Nat.reduceAdd, Nat.reduceSub, Array.replicate_succ, Array.replicate_zero, List.push_toArray, List.append_toArray, List.nil_append, List.cons_append]
          gi_wp2_with (first | (refine ⟨trivial, ?_⟩; gi_at_call 41; refine (callsIn_wide.2 (P.out _)).mono ?_; rintro e w' ⟨rfl, rfl⟩) | (refine ⟨trivial, ?_⟩; gi_at_call 42; refine (callsIn_wide.2 (N.out _)).mono ?_; rintro e w' ⟨rfl, rfl⟩))
          refine HR.out.mono ?_
          rintro e W3 (⟨rfl, hJ3, ho3⟩ | ⟨rfl, hJx3⟩)
          · skip
            have hna : ¬ (M Ba ∨ Ba = l) := fun h => h.elim hMa na
            have hnb : ¬ (M Bb ∨ Bb = l) := fun h => h.elim hMb nb
            obtain ⟨c0, c1, _, l0⟩ := cells_two (ho3.obj hna HA.out)
            obtain ⟨d0, d1, _, l1⟩ := cells_two (ho3.obj hnb HB.out)
            gi_wp2_with (first | (refine ⟨trivial, ?_⟩; gi_at_call 41; refine (callsIn_wide.2 (P.out _)).mono ?_; rintro e w' ⟨rfl, rfl⟩) | (refine ⟨trivial, ?_⟩; gi_at_call 42; refine (callsIn_wide.2 (N.out _)).mono ?_; rintro e w' ⟨rfl, rfl⟩))
            go_end0
            exact ⟨⟨_, rfl⟩, .inl hJ3⟩
          · gi_wp2
            refine bodyPost_ret (results_none rfl _ _ _) rfl ?_
            exact ⟨⟨_, rfl⟩, .inr ⟨0, by simp, hJx3⟩⟩
    · skip
      by_cases g2 : bh < ah
      · by_cases m2 : al < bh + 1
        · skip
          have e : pcL al ah bl bh = [(al, ah), ((bh + 1), ah)] := by
            unfold pcL pcLo pcHi mnI mxI
            rw [if_pos g1, if_neg m1, if_pos g2, if_pos m2]
            rfl
          rw [e] at HY ⊢
          clear e
          have P := hide (fun W => prev_pos bl h3 (by unfold Word at *; omega) W)
          have q1 : al ≤ bl - 1 := by omega
          have N := hide (fun W => next_lt bh h4 (by unfold Word at *; omega) W)
          have q2 : bh + 1 ≤ ah := by omega
          have m1 : ah ≤ bl - 1 := by omega
          obtain ⟨fn, tmps, assign, body, hy, hR⟩ := HY.out 0 W h0 (by simp) (Nat.le_refl _)
          have HR := hide hR
          clear hR
          simp only [encP, Lo, Hi, List.getD_cons_zero] at hy
          clear h1 h2 h3 h4 g1 g2
          refine callsIn_of_wp Tryd.func40 rfl trivial ?_ rfl
          simp only [Tryd.ntmps40, List.size_toArray, List.length_cons, List.length_nil, Nat.reduceAdd, Nat.reduceSub, Array.replicate_succ, Array.replicate_zero, List.push_toArray, List.append_toArray, List.nil_append, List.cons_append]
          gi_wp2_with (first | (refine ⟨trivial, ?_⟩; gi_at_call 41; refine (callsIn_wide.2 (P.out _)).mono ?_; rintro e w' ⟨rfl, rfl⟩) | (refine ⟨trivial, ?_⟩; gi_at_call 42; refine (callsIn_wide.2 (N.out _)).mono ?_; rintro e w' ⟨rfl, rfl⟩))
          refine HR.out.mono ?_
          rintro e W3 (⟨rfl, hJ3, ho3⟩ | ⟨rfl, hJx3⟩)
          · skip
            have hna : ¬ (M Ba ∨ Ba = l) := fun h => h.elim hMa na
            have hnb : ¬ (M Bb ∨ Bb = l) := fun h => h.elim hMb nb
            obtain ⟨c0, c1, _, l0⟩ := cells_two (ho3.obj hna HA.out)
            obtain ⟨d0, d1, _, l1⟩ := cells_two (ho3.obj hnb HB.out)
            obtain ⟨fn2, tmps2, assign2, body2, hy2, hR2⟩ := HY.out 1 W3 hJ3 (by simp) ho3.size
            have HR2 := hide hR2
            clear hR2 hy
            simp only [encP, Lo, Hi, List.getD_cons_zero, List.getD_cons_succ] at hy2
            gi_wp2_with (first | (refine ⟨trivial, ?_⟩; gi_at_call 41; refine (callsIn_wide.2 (P.out _)).mono ?_; rintro e w' ⟨rfl, rfl⟩) | (refine ⟨trivial, ?_⟩; gi_at_call 42; refine (callsIn_wide.2 (N.out _)).mono ?_; rintro e w' ⟨rfl, rfl⟩))
            refine HR2.out.mono ?_
            rintro e W4 (⟨rfl, hJ4, ho4⟩ | ⟨rfl, hJx4⟩)
            · gi_wp2
              go_end0
              exact ⟨⟨_, rfl⟩, .inl hJ4⟩
            · gi_wp2
              go_end0
              exact ⟨⟨_, rfl⟩, .inr ⟨1, by simp, hJx4⟩⟩
          · gi_wp2
            refine bodyPost_ret (results_none rfl _ _ _) rfl ?_
            exact ⟨⟨_, rfl⟩, .inr ⟨0, by simp, hJx3⟩⟩
        · skip
          have e : pcL al ah bl bh = [(al, ah), (al, ah)] := by
            unfold pcL pcLo pcHi mnI mxI
            rw [if_pos g1, if_neg m1, if_pos g2, if_neg m2]
            rfl
          rw [e] at HY ⊢
          clear e
          have P := hide (fun W => prev_pos bl h3 (by unfold Word at *; omega) W)
          have q1 : al ≤ bl - 1 := by omega
          have N := hide (fun W => next_lt bh h4 (by unfold Word at *; omega) W)
          have q2 : bh + 1 ≤ ah := by omega
          have m1 : ah ≤ bl - 1 := by omega
          have m2 : bh + 1 ≤ al := by omega
          obtain ⟨fn, tmps, assign, body, hy, hR⟩ := HY.out 0 W h0 (by simp) (Nat.le_refl _)
          have HR := hide hR
          clear hR
          simp only [encP, Lo, Hi, List.getD_cons_zero] at hy
          clear h1 h2 h3 h4 g1 g2
          refine callsIn_of_wp Tryd.func40 rfl trivial ?_ rfl
          simp only [Tryd.ntmps40, List.size_toArray, List.length_cons, List.length_nil, Nat.reduceAdd, Nat.reduceSub, Array.replicate_succ, Array.replicate_zero, List.push_toArray, List.append_toArray, List.nil_append, List.cons_append]
          gi_wp2_with (first | (refine ⟨trivial, ?_⟩; gi_at_call 41; refine (callsIn_wide.2 (P.out _)).mono ?_; rintro e w' ⟨rfl, rfl⟩) | (refine ⟨trivial, ?_⟩; gi_at_call 42; refine (callsIn_wide.2 (N.out _)).mono ?_; rintro e w' ⟨rfl, rfl⟩))
          refine HR.out.mono ?_
          rintro e W3 (⟨rfl, hJ3, ho3⟩ | ⟨rfl, hJx3⟩)
          · skip
            have hna : ¬ (M Ba ∨ Ba = l) := fun h => h.elim hMa na
            have hnb : ¬ (M Bb ∨ Bb = l) := fun h => h.elim hMb nb
            obtain ⟨c0, c1, _, l0⟩ := cells_two (ho3.obj hna HA.out)
            obtain ⟨d0, d1, _, l1⟩ := cells_two (ho3.obj hnb HB.out)
            obtain ⟨fn2, tmps2, assign2, body2, hy2, hR2⟩ := HY.out 1 W3 hJ3 (by simp) ho3.size
            have HR2 := hide hR2
            clear hR2 hy
            simp only [encP, Lo, Hi, List.getD_cons_zero, List.getD_cons_succ] at hy2
            gi_wp2_with (first | (refine ⟨trivial, ?_⟩; gi_at_call 41; refine (callsIn_wide.2 (P.out _)).mono ?_; rintro e w' ⟨rfl, rfl⟩) | (refine ⟨trivial, ?_⟩; gi_at_call 42; refine (callsIn_wide.2 (N.out _)).mono ?_; rintro e w' ⟨rfl, rfl⟩))
            refine HR2.out.mono ?_
            rintro e W4 (⟨rfl, hJ4, ho4⟩ | ⟨rfl, hJx4⟩)
            · gi_wp2
              go_end0
              exact ⟨⟨_, rfl⟩, .inl hJ4⟩
            · gi_wp2
              go_end0
              exact ⟨⟨_, rfl⟩, .inr ⟨1, by simp, hJx4⟩⟩
          · gi_wp2
            refine bodyPost_ret (results_none rfl _ _ _) rfl ?_
            exact ⟨⟨_, rfl⟩, .inr ⟨0, by simp, hJx3⟩⟩
      · by_cases z2 : bh = 18446744073709551615
        · skip
          have e : pcL al ah bl bh = [(al, ah)] := by
            unfold pcL pcLo pcHi mnI mxI
            rw [if_pos g1, if_neg m1, if_neg g2]
            rfl
          rw [e] at HY ⊢
          clear e
          have P := hide (fun W => prev_pos bl h3 (by unfold Word at *; omega) W)
          have q1 : al ≤ bl - 1 := by omega
          subst z2
          have N := hide (fun W => next_top W)
          have m1 : ah ≤ bl - 1 := by omega
          obtain ⟨fn, tmps, assign, body, hy, hR⟩ := HY.out 0 W h0 (by simp) (Nat.le_refl _)
          have HR := hide hR
          clear hR
          simp only [encP, Lo, Hi, List.getD_cons_zero] at hy
          clear h1 h2 h3 h4 g1 g2
          refine callsIn_of_wp Tryd.func40 rfl trivial ?_ rfl
          simp only [Tryd.ntmps40, List.size_toArray, List.length_cons, List.length_nil, Nat.reduceAdd, Nat.reduceSub, Array.replicate_succ, Array.replicate_zero, List.push_toArray, List.append_toArray, List.nil_append, List.cons_append]
          gi_wp2_with (first | (refine ⟨trivial, ?_⟩; gi_at_call 41; refine (callsIn_wide.2 (P.out _)).mono ?_; rintro e w' ⟨rfl, rfl⟩) | (refine ⟨trivial, ?_⟩; gi_at_call 42; refine (callsIn_wide.2 (N.out _)).mono ?_; rintro e w' ⟨rfl, rfl⟩))
          refine HR.out.mono ?_
          rintro e W3 (⟨rfl, hJ3, ho3⟩ | ⟨rfl, hJx3⟩)
          · skip
            have hna : ¬ (M Ba ∨ Ba = l) := fun h => h.elim hMa na
            have hnb : ¬ (M Bb ∨ Bb = l) := fun h => h.elim hMb nb
            obtain ⟨c0, c1, _, l0⟩ := cells_two (ho3.obj hna HA.out)
            obtain ⟨d0, d1, _, l1⟩ := cells_two (ho3.obj hnb HB.out)
            gi_wp2_with (first | (refine ⟨trivial, ?_⟩; gi_at_call 41; refine (callsIn_wide.2 (P.out _)).mono ?_; rintro e w' ⟨rfl, rfl⟩) | (refine ⟨trivial, ?_⟩; gi_at_call 42; refine (callsIn_wide.2 (N.out _)).mono ?_; rintro e w' ⟨rfl, rfl⟩))
            go_end0
            exact ⟨⟨_, rfl⟩, .inl hJ3⟩
          · gi_wp2
            refine bodyPost_ret (results_none rfl _ _ _) rfl ?_
            exact ⟨⟨_, rfl⟩, .inr ⟨0, by simp, hJx3⟩⟩
        · skip
          have e : pcL al ah bl bh = [(al, ah)] := by
            unfold pcL pcLo pcHi mnI mxI
            rw [if_pos g1, if_neg m1, if_neg g2]
            rfl
          rw [e] at HY ⊢
          clear e
          have P := hide (fun W => prev_pos bl h3 (by unfold Word at *; omega) W)
          have q1 : al ≤ bl - 1 := by omega
          have N := hide (fun W => next_lt bh h4 (by unfold Word at *; omega) W)
          have q2 : ah < bh + 1 := by omega
          have m1 : ah ≤ bl - 1 := by omega
          obtain ⟨fn, tmps, assign, body, hy, hR⟩ := HY.out 0 W h0 (by simp) (Nat.le_refl _)
          have HR := hide hR
          clear hR
          simp only [encP, Lo, Hi, List.getD_cons_zero] at hy
          clear h1 h2 h3 h4 g1 g2
          refine callsIn_of_wp Tryd.func40 rfl trivial ?_ rfl
          simp only [Tryd.ntmps40, List.size_toArray, List.length_cons, List.length_nil, Nat.reduceAdd, Nat.reduceSub, Array.replicate_succ, Array.replicate_zero, List.push_toArray, List.append_toArray, List.nil_append, List.cons_append]
          gi_wp2_with (first | (refine ⟨trivial, ?_⟩; gi_at_call 41; refine (callsIn_wide.2 (P.out _)).mono ?_; rintro e w' ⟨rfl, rfl⟩) | (refine ⟨trivial, ?_⟩; gi_at_call 42; refine (callsIn_wide.2 (N.out _)).mono ?_; rintro e w' ⟨rfl, rfl⟩))
          refine HR.out.mono ?_
          rintro e W3 (⟨rfl, hJ3, ho3⟩ | ⟨rfl, hJx3⟩)
          · skip
            have hna : ¬ (M Ba ∨ Ba = l) := fun h => h.elim hMa na
            have hnb : ¬ (M Bb ∨ Bb = l) := fun h => h.elim hMb nb
            obtain ⟨c0, c1, _, l0⟩ := cells_two (ho3.obj hna HA.out)
            obtain ⟨d0, d1, _, l1⟩ := cells_two (ho3.obj hnb HB.out)
            gi_wp2_with (first | (refine ⟨trivial, ?_⟩; gi_at_call 41; refine (callsIn_wide.2 (P.out _)).mono ?_; rintro e w' ⟨rfl, rfl⟩) | (refine ⟨trivial, ?_⟩; gi_at_call 42; refine (callsIn_wide.2 (N.out _)).mono ?_; rintro e w' ⟨rfl, rfl⟩))
            go_end0
            exact ⟨⟨_, rfl⟩, .inl hJ3⟩
          · gi_wp2
            refine bodyPost_ret (results_none rfl _ _ _) rfl ?_
            exact ⟨⟨_, rfl⟩, .inr ⟨0, by simp, hJx3⟩⟩
  · by_cases z1 : bl = 0
    · skip
      by_cases g2 : bh < ah
      · by_cases m2 : al < bh + 1
        · skip
          have e : pcL al ah bl bh = [((bh + 1), ah)] := by
            unfold pcL pcLo pcHi mnI mxI
            rw [if_neg g1, if_pos g2, if_pos m2]
            rfl
          rw [e] at HY ⊢
          clear e
          subst z1
          have P := hide (fun W => prev_zero W)
          have N := hide (fun W => next_lt bh h4 (by unfold Word at *; omega) W)
          have q2 : bh + 1 ≤ ah := by omega
          obtain ⟨fn2, tmps2, assign2, body2, hy2, hR2⟩ := HY.out 0 W h0 (by simp) (Nat.le_refl _)
          have HR2 := hide hR2
          clear hR2
          simp only [encP, Lo, Hi, List.getD_cons_zero] at hy2
          clear h1 h2 h3 h4 g1 g2
          refine callsIn_of_wp Tryd.func40 rfl trivial ?_ rfl
          simp only [Tryd.ntmps40, List.size_toArray, List.length_cons, List.length_nil, Nat.reduceAdd, Nat.reduceSub, Array.replicate_succ, Array.replicate_zero, List.push_toArray, List.append_toArray, List.nil_append, List.cons_append]
          gi_wp2_with (first | (refine ⟨trivial, ?_⟩; gi_at_call 41; refine (callsIn_wide.2 (P.out _)).mono ?_; rintro e w' ⟨rfl, rfl⟩) | (refine ⟨trivial, ?_⟩; gi_at_call 42; refine (callsIn_wide.2 (N.out _)).mono ?_; rintro e w' ⟨rfl, rfl⟩))
          refine HR2.out.mono ?_
          rintro e W4 (⟨rfl, hJ4, ho4⟩ | ⟨rfl, hJx4⟩)
          · gi_wp2
            go_end0
            exact ⟨⟨_, rfl⟩, .inl hJ4⟩
          · gi_wp2
            go_end0
            exact ⟨⟨_, rfl⟩, .inr ⟨0, by simp, hJx4⟩⟩
        · skip
          have e : pcL al ah bl bh = [(al, ah)] := by
            unfold pcL pcLo pcHi mnI mxI
            rw [if_neg g1, if_pos g2, if_neg m2]
            rfl
          rw [e] at HY ⊢
          clear e
          subst z1
          have P := hide (fun W => prev_zero W)
          have N := hide (fun W => next_lt bh h4 (by unfold Word at *; omega) W)
          have q2 : bh + 1 ≤ ah := by omega
          have m2 : bh + 1 ≤ al := by omega
          obtain ⟨fn2, tmps2, assign2, body2, hy2, hR2⟩ := HY.out 0 W h0 (by simp) (Nat.le_refl _)
          have HR2 := hide hR2
          clear hR2
          simp only [encP, Lo, Hi, List.getD_cons_zero] at hy2
          clear h1 h2 h3 h4 g1 g2
          refine callsIn_of_wp Tryd.func40 rfl trivial ?_ rfl
          simp only [Tryd.ntmps40, List.size_toArray, List.length_cons, List.length_nil, Nat.reduceAdd, Nat.reduceSub, Array.replicate_succ, Array.replicate_zero, List.push_toArray, List.append_toArray, List.nil_append, List.cons_append]
          gi_wp2_with (first | (refine ⟨trivial, ?_⟩; gi_at_call 41; refine (callsIn_wide.2 (P.out _)).mono ?_; rintro e w' ⟨rfl, rfl⟩) | (refine ⟨trivial, ?_⟩; gi_at_call 42; refine (callsIn_wide.2 (N.out _)).mono ?_; rintro e w' ⟨rfl, rfl⟩))
          refine HR2.out.mono ?_
          rintro e W4 (⟨rfl, hJ4, ho4⟩ | ⟨rfl, hJx4⟩)
          · gi_wp2
            go_end0
            exact ⟨⟨_, rfl⟩, .inl hJ4⟩
          · gi_wp2
            go_end0
            exact ⟨⟨_, rfl⟩, .inr ⟨0, by simp, hJx4⟩⟩
      · by_cases z2 : bh = 18446744073709551615
        · skip
          have e : pcL al ah bl bh = [] := by
            unfold pcL pcLo pcHi mnI mxI
            rw [if_neg g1, if_neg g2]
            rfl
          rw [e] at HY ⊢
          clear e
          subst z1
          have P := hide (fun W => prev_zero W)
          subst z2
          have N := hide (fun W => next_top W)
          clear h1 h2 h3 h4 g1 g2
          refine callsIn_of_wp Tryd.func40 rfl trivial ?_ rfl
          simp only [Tryd.ntmps40, List.size_toArray, List.length_cons, List.length_nil, Nat.reduceAdd, Nat.reduceSub, Array.replicate_succ, Array.replicate_zero, List.push_toArray, List.append_toArray, List.nil_append, List.cons_append]
          gi_wp2_with (first | (refine ⟨trivial, ?_⟩; gi_at_call 41; refine (callsIn_wide.2 (P.out _)).mono ?_; rintro e w' ⟨rfl, rfl⟩) | (refine ⟨trivial, ?_⟩; gi_at_call 42; refine (callsIn_wide.2 (N.out _)).mono ?_; rintro e w' ⟨rfl, rfl⟩))
          go_end0
          exact ⟨⟨_, rfl⟩, .inl h0⟩
        · skip
          have e : pcL al ah bl bh = [] := by
            unfold pcL pcLo pcHi mnI mxI
            rw [if_neg g1, if_neg g2]
            rfl
          rw [e] at HY ⊢
          clear e
          subst z1
          have P := hide (fun W => prev_zero W)
          have N := hide (fun W => next_lt bh h4 (by unfold Word at *; omega) W)
          have q2 : ah < bh + 1 := by omega
          clear h1 h2 h3 h4 g1 g2
          refine callsIn_of_wp Tryd.func40 rfl trivial ?_ rfl
          simp only [Tryd.ntmps40, List.size_toArray, List.length_cons, List.length_nil, Nat.reduceAdd, Nat.reduceSub, Array.replicate_succ, Array.replicate_zero, List.push_toArray, List.append_toArray, List.nil_append, List.cons_append]
          gi_wp2_with (first | (refine ⟨trivial, ?_⟩; gi_at_call 41; refine (callsIn_wide.2 (P.out _)).mono ?_; rintro e w' ⟨rfl, rfl⟩) | (refine ⟨trivial, ?_⟩; gi_at_call 42; refine (callsIn_wide.2 (N.out _)).mono ?_; rintro e w' ⟨rfl, rfl⟩))
          go_end0
          exact ⟨⟨_, rfl⟩, .inl h0⟩
    · skip
      by_cases g2 : bh < ah
      · by_cases m2 : al < bh + 1
        · skip
          have e : pcL al ah bl bh = [((bh + 1), ah)] := by
            unfold pcL pcLo pcHi mnI mxI
            rw [if_neg g1, if_pos g2, if_pos m2]
            rfl
          rw [e] at HY ⊢
          clear e
          have P := hide (fun W => prev_pos bl h3 (by unfold Word at *; omega) W)
          have q1 : bl - 1 < al := by omega
          have N := hide (fun W => next_lt bh h4 (by unfold Word at *; omega) W)
          have q2 : bh + 1 ≤ ah := by omega
          obtain ⟨fn2, tmps2, assign2, body2, hy2, hR2⟩ := HY.out 0 W h0 (by simp) (Nat.le_refl _)
          have HR2 := hide hR2
          clear hR2
          simp only [encP, Lo, Hi, List.getD_cons_zero] at hy2
          clear h1 h2 h3 h4 g1 g2
          refine callsIn_of_wp Tryd.func40 rfl trivial ?_ rfl
          simp only [Tryd.ntmps40, List.size_toArray, List.length_cons, List.length_nil, Nat.reduceAdd, Nat.reduceSub, Array.replicate_succ, Array.replicate_zero, List.push_toArray, List.append_toArray, List.nil_append, List.cons_append]
          gi_wp2_with (first | (refine ⟨trivial, ?_⟩; gi_at_call 41; refine (callsIn_wide.2 (P.out _)).mono ?_; rintro e w' ⟨rfl, rfl⟩) | (refine ⟨trivial, ?_⟩; gi_at_call 42; refine (callsIn_wide.2 (N.out _)).mono ?_; rintro e w' ⟨rfl, rfl⟩))
          refine HR2.out.mono ?_
          rintro e W4 (⟨rfl, hJ4, ho4⟩ | ⟨rfl, hJx4⟩)
          · gi_wp2
            go_end0
            exact ⟨⟨_, rfl⟩, .inl hJ4⟩
          · gi_wp2
            go_end0
            exact ⟨⟨_, rfl⟩, .inr ⟨0, by simp, hJx4⟩⟩
        · skip
          have e : pcL al ah bl bh = [(al, ah)] := by
            unfold pcL pcLo pcHi mnI mxI
            rw [if_neg g1, if_pos g2, if_neg m2]
            rfl
          rw [e] at HY ⊢
          clear e
          have P := hide (fun W => prev_pos bl h3 (by unfold Word at *; omega) W)
          have q1 : bl - 1 < al := by omega
          have N := hide (fun W => next_lt bh h4 (by unfold Word at *; omega) W)
          have q2 : bh + 1 ≤ ah := by omega
          have m2 : bh + 1 ≤ al := by omega
          obtain ⟨fn2, tmps2, assign2, body2, hy2, hR2⟩ := HY.out 0 W h0 (by simp) (Nat.le_refl _)
          have HR2 := hide hR2
          clear hR2
          simp only [encP, Lo, Hi, List.getD_cons_zero] at hy2
          clear h1 h2 h3 h4 g1 g2
          refine callsIn_of_wp Tryd.func40 rfl trivial ?_ rfl
          simp only [Tryd.ntmps40, List.size_toArray, List.length_cons, List.length_nil, Nat.reduceAdd, Nat.reduceSub, Array.replicate_succ, Array.replicate_zero, List.push_toArray, List.append_toArray, List.nil_append, List.cons_append]
          gi_wp2_with (first | (refine ⟨trivial, ?_⟩; gi_at_call 41; refine (callsIn_wide.2 (P.out _)).mono ?_; rintro e w' ⟨rfl, rfl⟩) | (refine ⟨trivial, ?_⟩; gi_at_call 42; refine (callsIn_wide.2 (N.out _)).mono ?_; rintro e w' ⟨rfl, rfl⟩))
          refine HR2.out.mono ?_
          rintro e W4 (⟨rfl, hJ4, ho4⟩ | ⟨rfl, hJx4⟩)
          · gi_wp2
            go_end0
            exact ⟨⟨_, rfl⟩, .inl hJ4⟩
          · gi_wp2
            go_end0
            exact ⟨⟨_, rfl⟩, .inr ⟨0, by simp, hJx4⟩⟩
      · by_cases z2 : bh = 18446744073709551615
        · skip
          have e : pcL al ah bl bh = [] := by
            unfold pcL pcLo pcHi mnI mxI
            rw [if_neg g1, if_neg g2]
            rfl
          rw [e] at HY ⊢
          clear e
          have P := hide (fun W => prev_pos bl h3 (by unfold Word at *; omega) W)
          have q1 : bl - 1 < al := by omega
          subst z2
          have N := hide (fun W => next_top W)
          clear h1 h2 h3 h4 g1 g2
          refine callsIn_of_wp Tryd.func40 rfl trivial ?_ rfl
          simp only [Tryd.ntmps40, List.size_toArray, List.length_cons, List.length_nil, Nat.reduceAdd, Nat.reduceSub, Array.replicate_succ, Array.replicate_zero, List.push_toArray, List.append_toArray, List.nil_append, List.cons_append]
          gi_wp2_with (first | (refine ⟨trivial, ?_⟩; gi_at_call 41; refine (callsIn_wide.2 (P.out _)).mono ?_; rintro e w' ⟨rfl, rfl⟩) | (refine ⟨trivial, ?_⟩; gi_at_call 42; refine (callsIn_wide.2 (N.out _)).mono ?_; rintro e w' ⟨rfl, rfl⟩))
          go_end0
          exact ⟨⟨_, rfl⟩, .inl h0⟩
        · skip
          have e : pcL al ah bl bh = [] := by
            unfold pcL pcLo pcHi mnI mxI
            rw [if_neg g1, if_neg g2]
            rfl
          rw [e] at HY ⊢
          clear e
          have P := hide (fun W => prev_pos bl h3 (by unfold Word at *; omega) W)
          have q1 : bl - 1 < al := by omega
          have N := hide (fun W => next_lt bh h4 (by unfold Word at *; omega) W)
          have q2 : ah < bh + 1 := by omega
          clear h1 h2 h3 h4 g1 g2
          refine callsIn_of_wp Tryd.func40 rfl trivial ?_ rfl
          simp only [Tryd.ntmps40, List.size_toArray, List.length_cons, List.length_nil, Nat.reduceAdd, Nat.reduceSub, Array.replicate_succ, Array.replicate_zero, List.push_toArray, List.append_toArray, List.nil_append, List.cons_append]
          gi_wp2_with (first | (refine ⟨trivial, ?_⟩; gi_at_call 41; refine (callsIn_wide.2 (P.out _)).mono ?_; rintro e w' ⟨rfl, rfl⟩) | (refine ⟨trivial, ?_⟩; gi_at_call 42; refine (callsIn_wide.2 (N.out _)).mono ?_; rintro e w' ⟨rfl, rfl⟩))
          go_end0
          exact ⟨⟨_, rfl⟩, .inl h0⟩
end Go.Proofs.YtplckfofdkmieaaDoor
