/- The walk of the law DeltaNil: for every number the law returns true and changes nothing that was there. -/
import Derived.Test.YtpoodkihngnhpaaDeltaAlive
namespace Go.Proofs.Ytpoodkihngnhpaa
open Go.RowKit

set_option maxHeartbeats 800000 in
theorem deltaNil_walk (x : Int) (w : World) (_hx : Word x) :
    Calls Try.prog 8 #[.int .u64 x] w fun e w' => e = .returned (.bool true) ∧ Below w.heap.size w w' := by

  go_enter Try.func8, Try.ntmps8
  go_wp2_with fail
  refine (lo_nil x _).mono ?_
  rintro e w1 ⟨rfl, rfl⟩
  go_wp2_with fail
  refine (hi_nil x _).mono ?_
  rintro e w2 ⟨rfl, b2⟩
  have B2 := hide (bl_alloc b2 (.cells #[.int .u64 0, .int .u64 0] 44))
  clear b2
  go_wp2_with fail
  refine (last_nil _).mono ?_
  rintro e w3 ⟨rfl, b3⟩
  have c0 : w3.cell? ⟨w2.heap.size, 0, none⟩ = some (.int .u64 0) := keep_cell b3 (by simp) (by simp)
  have c1 : w3.cell? ⟨w2.heap.size, 1, none⟩ = some (.int .u64 0) := keep_cell b3 (by simp) (by simp)
  have l3 : w2.heap.size < w3.heap.size := keep_lt b3 (by simp)
  have B3 := hide (bl_alloc (bl_trans B2.out b3) (.cells #[.int .u64 0, .int .u64 0] 44))
  clear b3
  go_wp2_with fail
  refine (alive_any _).mono ?_
  rintro e w4 ⟨rfl, b4⟩
  have d0 : w4.cell? ⟨w2.heap.size, 0, none⟩ = some (.int .u64 0) := keep_cell b4 (by simp; omega) (by rw [World.cell?_alloc_lt _ _ _ l3]; exact c0)
  have d1 : w4.cell? ⟨w2.heap.size, 1, none⟩ = some (.int .u64 0) := keep_cell b4 (by simp; omega) (by rw [World.cell?_alloc_lt _ _ _ l3]; exact c1)
  have d2 : w4.cell? ⟨w3.heap.size, 0, none⟩ = some (.int .u64 0) := keep_cell b4 (by simp) (by simp)
  have d3 : w4.cell? ⟨w3.heap.size, 1, none⟩ = some (.int .u64 0) := keep_cell b4 (by simp) (by simp)
  clear c0 c1
  go_wp2_with fail
  go_ret
  exact ⟨by simp, bl_trans B3.out b4⟩
end Go.Proofs.Ytpoodkihngnhpaa
