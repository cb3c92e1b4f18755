/- The examples of the chapter measure hold: the law's function alive returns true. -/
import Derived.Test.YtccaeocnecfmaaaMeasureRank
import Derived.Test.YtccaeocnecfmaaaMeasureSmall
namespace Go.Proofs.Ytccaeocnecfmaaa
open Go.RowKit

abbrev zsA : List Iv := [(2, 3), (9, 9)]
theorem prsA {w : World} {b : Nat} (h : w.heap[b]? = some (.cells #[.int .u64 2, .int .u64 3, .int .u64 9, .int .u64 9] 39 (0, 0))) : Prs w (some ⟨b, 0, none⟩) 2 zsA :=
  ⟨rfl, by decide, by intro z hz; simp at hz; rcases hz with rfl | rfl <;> exact ⟨⟨by decide, by decide⟩, ⟨by decide, by decide⟩⟩, fun i hi => by
    have hb := Blk_lt h
    have : i = 0 ∨ i = 1 := by omega
    rcases this with rfl | rfl <;> exact ⟨b, 0, rfl, hb, by simp [World.cell?, h, Lo], by simp [World.cell?, h, Hi]⟩⟩
theorem corA : CorTo zsA 2 := by
  intro i hi
  have : i = 0 ∨ i = 1 := by omega
  rcases this with rfl | rfl <;> exact ⟨by decide, by decide⟩

theorem nthA1 {a : Option Addr} {W : World} (h : Prs W a 2 zsA) : Calls Try.prog 14 #[.slice a 2 2, .int .u64 1] W fun e w' => e = .returned (.tuple #[.int .u64 3, .bool true]) ∧ Below W.heap.size W w' :=
  (nth_any a 2 2 zsA 1 0 W h corA ⟨by decide, by decide⟩ ⟨by decide, fun k hk => by omega, fun _ => by decide⟩).mono fun _ _ ⟨he, hb⟩ => ⟨he.trans (ret_ib (by decide) (by decide)), hb⟩
theorem nthA3 {a : Option Addr} {W : World} (h : Prs W a 2 zsA) : Calls Try.prog 14 #[.slice a 2 2, .int .u64 3] W fun e w' => e = .returned (.tuple #[.int .u64 0, .bool false]) ∧ Below W.heap.size W w' :=
  (nth_any a 2 2 zsA 3 2 W h corA ⟨by decide, by decide⟩ ⟨by decide, fun k hk => by (have : k = 0 ∨ k = 1 := by omega); rcases this with rfl | rfl <;> decide, fun h => absurd h (by decide)⟩).mono fun _ _ ⟨he, hb⟩ => ⟨he.trans (ret_ib (by decide) (by decide)), hb⟩
theorem hullA {a : Option Addr} {W : World} (h : Prs W a 2 zsA) : Calls Try.prog 20 #[.slice a 2 2] W fun e w' => e = .returned (.tuple #[.agg #[.int .u64 2, .int .u64 9], .bool true]) ∧ Below W.heap.size W w' :=
  hull_any a 2 2 zsA W h (by decide)
theorem rankA {a : Option Addr} {W : World} (h : Prs W a 2 zsA) : Calls Try.prog 13 #[.slice a 2 2, .int .u64 9] W fun e w' => e = .returned (.agg #[.int .u64 0, .int .u64 2]) ∧ Below W.heap.size W w' :=
  (rank_any a 2 2 zsA 9 1 W h ⟨by decide, by decide⟩ ⟨by decide, fun k hk => by (have : k = 0 := by omega); subst this; decide, fun _ => by decide⟩).mono fun _ _ ⟨he, hb⟩ => ⟨he.trans (ret_agg (by decide) (by decide)), hb⟩
theorem countA {a : Option Addr} {W : World} (h : Prs W a 2 zsA) : Calls Try.prog 12 #[.slice a 2 2] W fun e w' => e = .returned (.agg #[.int .u64 0, .int .u64 3]) ∧ Below W.heap.size W w' :=
  (count_any a 2 2 zsA W h).mono fun _ _ ⟨he, hb⟩ => ⟨he.trans (ret_agg (by decide) (by decide)), hb⟩

set_option maxHeartbeats 800000 in
theorem alive_any (w : World) : Calls Try.prog 10 #[] w fun e w' => e = .returned (.bool true) ∧ Below w.heap.size w w' := by
  go_enter Try.func10, Try.ntmps10
  go_wp2_with fail
  have hP : Prs (w.alloc (.cells #[.int .u64 2, .int .u64 3, .int .u64 9, .int .u64 9] 39)) (some ⟨w.heap.size, 0, none⟩) 2 zsA := prsA (heap_new_at _ _ rfl)
  have B0 : Below w.heap.size w (w.alloc (.cells #[.int .u64 2, .int .u64 3, .int .u64 9, .int .u64 9] 39)) := bl_alloc (Below.refl _ _) _
  obtain ⟨w0, e0⟩ : ∃ w0, w.alloc (.cells #[.int .u64 2, .int .u64 3, .int .u64 9, .int .u64 9] 39) = w0 := ⟨_, rfl⟩
  rw [e0] at hP B0 ⊢
  clear e0
  have P0 := hide hP
  clear hP
  refine (nthA1 P0.out).mono ?_
  rintro e w1 ⟨rfl, b1⟩
  have P1 := hide (P0.out.below b1)
  go_wp2_with fail
  refine (nthA3 P1.out).mono ?_
  rintro e w2 ⟨rfl, b2⟩
  have P2 := hide (P1.out.below b2)
  go_wp2_with fail
  refine (hullA P2.out).mono ?_
  rintro e w3 ⟨rfl, b3⟩
  have b4 := bl_alloc b3 (.cells #[.int .u64 2, .int .u64 9] 39)
  have P3 := hide (P2.out.below b4)
  go_wp2_with fail
  refine (rankA P3.out).mono ?_
  rintro e w5 ⟨rfl, b5⟩
  have P5 := hide (P3.out.below b5)
  go_wp2_with fail
  refine (countA P5.out).mono ?_
  rintro e w6 ⟨rfl, b6⟩
  have c0 : w6.cell? ⟨w3.heap.size, 0, none⟩ = some (.int .u64 2) := keep_cell b6 (keep_lt b5 (by simp)) (keep_cell b5 (by simp) (by simp))
  have c1 : w6.cell? ⟨w3.heap.size, 1, none⟩ = some (.int .u64 9) := keep_cell b6 (keep_lt b5 (by simp)) (keep_cell b5 (by simp) (by simp))
  go_wp2_with fail
  go_ret
  exact ⟨rfl, bl_trans (bl_trans (bl_trans (bl_trans (bl_trans B0 b1) b2) b4) b5) b6⟩
end Go.Proofs.Ytccaeocnecfmaaa
