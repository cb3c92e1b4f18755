/- The examples of the chapter span hold: the law's function alive returns true. -/
import Derived.Test.YtplckfofdkmieaaDoorSpanShift
import Derived.Test.YtplckfofdkmieaaDoorErrAsE
namespace Go.Proofs.YtplckfofdkmieaaDoor
open Go.RowKit

theorem row_keep {X Y : World} {b : Nat} {o : Obj} (hb : Below X.heap.size X Y) (h : X.heap[b]? = some o) : Y.heap[b]? = some o := (hb.block _ (Blk_lt h)).trans h
theorem keep_cs {X Y : World} {b i : Nat} {v : Value} (hb : Below X.heap.size X Y) (hc : X.cell? ⟨b, i, none⟩ = some v) : Y.cell? ⟨b, i, none⟩ = some v := by
  refine keep_cell hb ?_ hc
  rcases Nat.lt_or_ge b X.heap.size with hlt | hge
  · exact hlt
  · have e : X.heap[b]? = none := by simp; omega
    simp [World.cell?, e] at hc
theorem joinA (w : World) : Calls Tryd.prog 13 #[.agg #[.int .u64 1, .int .u64 4], .agg #[.int .u64 5, .int .u64 9]] w fun e w' => e = .returned (.tuple #[.agg #[.int .u64 1, .int .u64 9], .bool true]) ∧ Below w.heap.size w w' :=
  (join_any 1 4 5 9 ⟨by decide, by decide⟩ ⟨by decide, by decide⟩ ⟨by decide, by decide⟩ ⟨by decide, by decide⟩ (by decide) (by decide) w).mono fun _ _ ⟨he, hb⟩ => ⟨he, hb⟩
theorem shiftA (w : World) : Calls Tryd.prog 22 #[.int .u64 4, .int .u64 2, .int .u64 1] w fun e w' => e = .returned (.tuple #[.agg #[.int .u64 7, .int .u64 8], .nilIface]) ∧ Below w.heap.size w w' :=
  (shift_yes 4 2 1 ⟨by decide, by decide⟩ ⟨by decide, by decide⟩ ⟨by decide, by decide⟩ (by decide) w).mono fun _ _ ⟨he, hb⟩ => ⟨he, hb⟩
theorem relateA (w : World) : Calls Tryd.prog 11 #[.agg #[.int .u64 1, .int .u64 4], .agg #[.int .u64 5, .int .u64 9]] w fun e w' => e = .returned (.int .i64 1) ∧ Below w.heap.size w w' :=
  (relate_any 1 4 5 9 ⟨by decide, by decide⟩ ⟨by decide, by decide⟩ ⟨by decide, by decide⟩ ⟨by decide, by decide⟩ (by decide) (by decide) w).mono fun _ _ ⟨he, hb⟩ => ⟨he, hb⟩
theorem hasA (w : World) : Calls Tryd.prog 21 #[.agg #[.int .u64 1, .int .u64 4], .int .u64 4] w fun e w' => e = .returned (.bool true) ∧ Below w.heap.size w w' :=
  (has_any 1 4 4 ⟨by decide, by decide⟩ ⟨by decide, by decide⟩ ⟨by decide, by decide⟩ (by decide) w).mono fun _ _ ⟨he, hb⟩ => ⟨he, hb⟩
theorem checkA (w : World) : Calls Tryd.prog 18 #[.agg #[.int .u64 1, .int .u64 0]] w fun e w' => e = .returned (.iface 36 (.int .i64 2)) ∧ Below w.heap.size w w' := check_no 1 0 (by decide) w

set_option maxHeartbeats 1600000 in
theorem alive_any (w : World) (hg : Laid w) : Calls Tryd.prog 10 #[] w fun e w' => e = .returned (.bool true) ∧ Below w.heap.size w w' := by
  have HG := hide hg
  clear hg
  go_enter Tryd.func10, Tryd.ntmps10
  go_wp2_with fail
  refine (joinA _).mono ?_
  rintro e w1 ⟨rfl, b1⟩
  have B1 := bl_trans (bl_alloc (bl_alloc (Below.refl _ w) _) _) b1
  have R0 := row_keep b1 (heap_old_at _ _ (by simp) (heap_new_at _ _ rfl))
  have R1 := row_keep b1 (heap_new_at _ _ (g := w.heap.size + 1) (by simp))
  obtain ⟨c0, c1, _, l0⟩ := cells_two R0
  obtain ⟨d0, d1, _, l1⟩ := cells_two R1
  clear b1
  go_wp2_with fail
  refine (shiftA _).mono ?_
  rintro e w2 ⟨rfl, b2⟩
  have B2 := bl_trans (bl_alloc B1 _) b2
  have R0 := row_keep b2 (heap_old_at _ _ l0 R0)
  have R1 := row_keep b2 (heap_old_at _ _ l1 R1)
  have R2 := row_keep b2 (heap_new_at _ _ rfl)
  clear b2 c0 c1 d0 d1 l0 l1
  obtain ⟨c0, c1, _, l0⟩ := cells_two R0
  obtain ⟨d0, d1, _, l1⟩ := cells_two R1
  obtain ⟨e0, e1, _, l2⟩ := cells_two R2
  go_wp2_with fail
  refine (relateA _).mono ?_
  rintro e w3 ⟨rfl, b3⟩
  have B3 := bl_trans (bl_alloc B2 _) b3
  have R0 := row_keep b3 (heap_old_at _ _ l0 R0)
  have R2 := row_keep b3 (heap_old_at _ _ l2 R2)
  have R3 := row_keep b3 (heap_new_at _ _ rfl)
  clear b3 c0 c1 d0 d1 e0 e1 l0 l1 l2 R1
  obtain ⟨c0, c1, _, l0⟩ := cells_two R0
  obtain ⟨e0, e1, _, l2⟩ := cells_two R2
  obtain ⟨f0, f1, _, l3⟩ := cells_two R3
  go_wp2_with fail
  refine (hasA _).mono ?_
  rintro e w4 ⟨rfl, b4⟩
  have B4 := bl_trans B3 b4
  clear b4 c0 c1 e0 e1 f0 f1 l0 l2 l3
  go_wp2_with fail
  refine (checkA _).mono ?_
  rintro e w5 ⟨rfl, b5⟩
  have B5 := bl_trans B4 b5
  clear b5
  go_wp2_with fail
  refine (code_E 2 _ (HG.out.below B5)).mono ?_
  rintro e w6 ⟨rfl, b6⟩
  have B6 := bl_trans B5 b6
  clear b6
  go_wp2
  go_ret
  exact ⟨rfl, B6⟩
end Go.Proofs.YtplckfofdkmieaaDoor
