/- The walk of the law DeltaCursors: for all numbers the law returns true and changes nothing that was there. -/
import Derived.Test.YtpoodkihngnhpaaDeltaAlive
namespace Go.Proofs.Ytpoodkihngnhpaa
open Go.RowKit

theorem hi_zero (p : Nat) (ap lo llo lhi : Int) (sm : Bool) (f : FuncId) (w : World) (h : CurAt w p ap lo llo lhi sm true f) (hl : Word lo) :
    Calls Try.prog 21 #[.pointer (some ⟨p, 0, none⟩), .int .u64 0] w fun e w' => e = .returned (.tuple #[.agg #[.int .u64 lo, .int .u64 lo], .bool true]) ∧ CurAt w' p ap lo lo lo true false 30 ∧ Only (fun b => b = p) w w' := by
  have e : lo + 0 = lo := by omega
  have := hi_yes p 0 ap lo llo lhi sm f w h hl zero_word (by rw [e]; exact hl.2)
  rw [e] at this
  exact this

set_option maxHeartbeats 1600000 in
theorem deltaCursors_walk (x y : Int) (w : World) (hx : Word x) (hy : Word y) :
    Calls Try.prog 7 #[.int .u64 x, .int .u64 y] w fun e w' => e = .returned (.bool true) ∧ Below w.heap.size w w' := by
  have HX := hide hx; have HY := hide hy
  clear hx hy
  go_enter Try.func7, Try.ntmps7
  go_wp2_with fail
  refine (start_any 0 _).mono ?_
  rintro e w1 ⟨rfl, hC, b1⟩
  have C1 := hide hC
  have B1 := hide b1
  have l1 := hide hC.lt
  clear hC b1
  go_wp2_with fail
  refine (start_any 0 _).mono ?_
  rintro e w2 ⟨rfl, hC, b2⟩
  have C2 := hide (C1.out.below b2)
  have E2 := hide hC
  have B2 := hide (bl_trans B1.out b2)
  have n12 : w.heap.size ≠ w1.heap.size := by have := l1.out; omega
  have l2 := hide hC.lt
  have m2 := hide B1.out.size
  clear hC b2
  go_wp2_with fail
  refine (lo_first _ x _ _ _ _ _ C2.out).mono ?_
  rintro e w3 ⟨rfl, hC, hO⟩
  have C3 := hide hC
  have E3 := hide (hO.obj (fun h => n12 h.symm) E2.out)
  have B3 := hide (B2.out.trans (hO.below B2.out.size (fun k hk => by omega)))
  clear hC hO
  go_wp2_with fail
  refine (lo_first _ y _ _ _ _ _ E3.out).mono ?_
  rintro e w4 ⟨rfl, hC, hO⟩
  have E4 := hide hC
  have C4 := hide (hO.obj n12 C3.out)
  have B4 := hide (B3.out.trans (hO.below B3.out.size (fun k hk => by have := m2.out; omega)))
  clear hC hO
  go_wp2_with fail
  refine (hi_zero _ _ _ _ _ _ _ _ C4.out HX.out).mono ?_
  rintro e w5 ⟨rfl, hC, hO⟩
  have l4 := hide (show w.heap.size < w4.heap.size ∧ w1.heap.size < w4.heap.size from ⟨Blk_lt C4.out, Blk_lt E4.out⟩)
  have C5 := hide (CurAt.below hC (bl_alloc (Below.refl _ _) (.cells #[.int .u64 x, .int .u64 x] 44)))
  have E5 := hide (CurAt.below (hO.obj (fun h => n12 h.symm) E4.out) (bl_alloc (Below.refl _ _) (.cells #[.int .u64 x, .int .u64 x] 44)))
  have B5 := hide (bl_alloc (B4.out.trans (hO.below B4.out.size (fun k hk => by omega))) (.cells #[.int .u64 x, .int .u64 x] 44))
  have a5 := heap_new_at w5 (.cells #[.int .u64 x, .int .u64 x] 44) rfl
  have A5 := hide a5
  have l5 := hide hO.size
  clear hC hO a5
  go_wp2_with fail
  refine (hi_zero _ _ _ _ _ _ _ _ E5.out HY.out).mono ?_
  rintro e w6 ⟨rfl, hC, hO⟩
  have n15 : w1.heap.size ≠ w5.heap.size := by have := l4.out; have := l5.out; omega
  have A6 := hide (heap_old_at w6 (.cells #[.int .u64 y, .int .u64 y] 44) (Blk_lt (hO.obj (fun h => n15 h.symm) A5.out)) (hO.obj (fun h => n15 h.symm) A5.out))
  have C6 := hide (CurAt.below (hO.obj n12 C5.out) (bl_alloc (Below.refl _ _) (.cells #[.int .u64 y, .int .u64 y] 44)))
  have B6 := hide (bl_alloc (B5.out.trans (hO.below B5.out.size (fun k hk => by have := m2.out; omega))) (.cells #[.int .u64 y, .int .u64 y] 44))
  have D6 := hide (heap_new_at w6 (.cells #[.int .u64 y, .int .u64 y] 44) rfl)
  clear hC hO
  go_wp2_with fail
  refine (last_any _ _ _ _ _ _ _ _ _ C6.out).mono ?_
  rintro e w7 ⟨rfl, b7⟩
  have A7 := hide (heap_old_at w7 (.cells #[.int .u64 x, .int .u64 x] 44) (Blk_lt ((b7.block _ (Blk_lt A6.out)).trans A6.out)) ((b7.block _ (Blk_lt A6.out)).trans A6.out))
  have D7 := hide (heap_old_at w7 (.cells #[.int .u64 x, .int .u64 x] 44) (Blk_lt ((b7.block _ (Blk_lt D6.out)).trans D6.out)) ((b7.block _ (Blk_lt D6.out)).trans D6.out))
  have G7 := hide (heap_new_at w7 (.cells #[.int .u64 x, .int .u64 x] 44) rfl)
  have B7 := hide (bl_alloc (bl_trans B6.out b7) (.cells #[.int .u64 x, .int .u64 x] 44))
  clear b7
  go_wp2_with fail
  refine (alive_any _).mono ?_
  rintro e w8 ⟨rfl, b8⟩
  have h1 := (b8.block _ (Blk_lt A7.out)).trans A7.out
  have h2 := (b8.block _ (Blk_lt D7.out)).trans D7.out
  have h3 := (b8.block _ (Blk_lt G7.out)).trans G7.out
  have k1 : w8.cell? ⟨w5.heap.size, 0, none⟩ = some (.int .u64 x) := by simp [World.cell?, h1]
  have k2 : w8.cell? ⟨w5.heap.size, 1, none⟩ = some (.int .u64 x) := by simp [World.cell?, h1]
  have k3 : w8.cell? ⟨w6.heap.size, 0, none⟩ = some (.int .u64 y) := by simp [World.cell?, h2]
  have k4 : w8.cell? ⟨w6.heap.size, 1, none⟩ = some (.int .u64 y) := by simp [World.cell?, h2]
  have k5 : w8.cell? ⟨w7.heap.size, 0, none⟩ = some (.int .u64 x) := by simp [World.cell?, h3]
  have k6 : w8.cell? ⟨w7.heap.size, 1, none⟩ = some (.int .u64 x) := by simp [World.cell?, h3]
  clear h1 h2 h3
  go_wp2_with fail
  go_ret
  exact ⟨by simp, bl_trans B7.out b8⟩
end Go.Proofs.Ytpoodkihngnhpaa
