/- The walk of the law SpanRelates. -/
import Derived.Test.YtplckfofdkmieaaDoorSpanAlive
namespace Go.Proofs.YtplckfofdkmieaaDoor
open Go.RowKit

theorem relI_swap (al ah bl bh : Int) (ha : al ≤ ah) (hb : bl ≤ bh) : relI bl bh al ah = 4 - relI al ah bl bh := by
  unfold relI
  split <;> split <;> (try split) <;> (try split) <;> (try split) <;> omega
theorem relI_self (al ah : Int) (ha : al ≤ ah) : relI al ah al ah = 2 := by
  unfold relI
  rw [if_neg (by omega), if_neg (by omega)]
theorem relI_range (al ah bl bh : Int) : 0 ≤ relI al ah bl bh ∧ relI al ah bl bh ≤ 4 := by
  unfold relI
  split <;> (try split) <;> (try split) <;> omega

set_option maxHeartbeats 1600000 in
theorem spanRelates_walk (al ah bl bh : Int) (w : World) (h1 : Word al) (h2 : Word ah) (h3 : Word bl) (h4 : Word bh) (hg : Laid w) :
    Calls Tryd.prog 3 #[.agg #[.int .u64 al, .int .u64 ah], .agg #[.int .u64 bl, .int .u64 bh]] w fun e w' => e = .returned (.bool true) ∧ Below w.heap.size w w' := by
  have HA := hide (fun W (hb : Below w.heap.size w W) => alive_any W (hg.below hb))
  clear hg
  by_cases ha : al ≤ ah
  · have K1 := hide (fun W => rright_yes al ah h1 h2 ha W)
    by_cases hb : bl ≤ bh
    · have K2 := hide (fun W => rright_yes bl bh h3 h4 hb W)
      have K3 := hide (fun W => relate_any al ah bl bh h1 h2 h3 h4 ha hb W)
      have K4 := hide (fun W => rrelate_any al ah bl bh h1 h2 h3 h4 W)
      have K5 := hide (fun W => relate_any bl bh al ah h3 h4 h1 h2 hb ha W)
      have K6 := hide (fun W => relate_any al ah al ah h1 h2 h1 h2 ha ha W)
      rw [relI_swap al ah bl bh ha hb] at K5
      rw [relI_self al ah ha] at K6
      obtain ⟨r0, r1⟩ := relI_range al ah bl bh
      obtain ⟨r, er⟩ : ∃ r, r = relI al ah bl bh := ⟨_, rfl⟩
      rw [← er] at K3 K4 K5 r0 r1
      clear h1 h2 h3 h4 ha hb er
      go_enter Tryd.func3, Tryd.ntmps3
      go_wp2_with fail
      refine (K1.out _).mono ?_
      rintro e w1 ⟨rfl, b1⟩
      have B1 := bl_trans (bl_alloc (bl_alloc (Below.refl _ w) _) _) b1
      have R0 := row_keep b1 (heap_old_at _ _ (by simp) (heap_new_at _ _ rfl))
      have R1 := row_keep b1 (heap_new_at _ _ (g := w.heap.size + 1) (by simp))
      obtain ⟨c0, c1, _, l0⟩ := cells_two R0
      obtain ⟨d0, d1, _, l1⟩ := cells_two R1
      clear b1
      go_wp2_with fail
      refine (K2.out _).mono ?_
      rintro e w2 ⟨rfl, b2⟩
      have B2 := bl_trans B1 b2
      have R0 := row_keep b2 R0
      have R1 := row_keep b2 R1
      clear b2 c0 c1 d0 d1 l0 l1
      obtain ⟨c0, c1, _, l0⟩ := cells_two R0
      obtain ⟨d0, d1, _, l1⟩ := cells_two R1
      go_wp2_with fail
      refine (K3.out _).mono ?_
      rintro e w3 ⟨rfl, b3⟩
      have B3 := bl_trans B2 b3
      have R0 := row_keep b3 R0
      have R1 := row_keep b3 R1
      clear b3 c0 c1 d0 d1 l0 l1
      go_wp2_with fail
      refine (HA.out _ B3).mono ?_
      rintro e w4 ⟨rfl, b4⟩
      have B4 := bl_trans B3 b4
      have R0 := row_keep b4 R0
      have R1 := row_keep b4 R1
      clear b4
      obtain ⟨c0, c1, _, l0⟩ := cells_two R0
      obtain ⟨d0, d1, _, l1⟩ := cells_two R1
      go_wp2_with fail
      refine (K4.out _).mono ?_
      rintro e w5 ⟨rfl, b5⟩
      have B5 := bl_trans B4 b5
      have R0 := row_keep b5 R0
      have R1 := row_keep b5 R1
      clear b5 c0 c1 d0 d1 l0 l1
      obtain ⟨c0, c1, _, l0⟩ := cells_two R0
      obtain ⟨d0, d1, _, l1⟩ := cells_two R1
      go_wp2_with fail
      refine (K5.out _).mono ?_
      rintro e w6 ⟨rfl, b6⟩
      have B6 := bl_trans B5 b6
      have R0 := row_keep b6 R0
      clear b6 c0 c1 d0 d1 l0 l1 R1
      obtain ⟨c0, c1, _, l0⟩ := cells_two R0
      go_wp2_with fail
      refine (K6.out _).mono ?_
      rintro e w7 ⟨rfl, b7⟩
      have B7 := bl_trans B6 b7
      clear b7
      go_wp2
      go_ret
      exact ⟨rfl, B7⟩
    · skip
      have K2 := hide (fun W => rright_no bl bh h3 h4 (by omega) W)
      clear h1 h2 h3 h4 ha hb
      go_enter Tryd.func3, Tryd.ntmps3
      go_wp2_with fail
      refine (K1.out _).mono ?_
      rintro e w1 ⟨rfl, b1⟩
      have B1 := bl_trans (bl_alloc (bl_alloc (Below.refl _ w) _) _) b1
      have R1 := row_keep b1 (heap_new_at _ _ (g := w.heap.size + 1) (by simp))
      obtain ⟨d0, d1, _, l1⟩ := cells_two R1
      clear b1 R1
      go_wp2_with fail
      refine (K2.out _).mono ?_
      rintro e w2 ⟨rfl, b2⟩
      have B2 := bl_trans B1 b2
      clear b2 d0 d1 l1
      go_wp2_with fail
      refine (HA.out _ B2).mono ?_
      rintro e w3 ⟨rfl, b3⟩
      have B3 := bl_trans B2 b3
      clear b3
      go_wp2
      go_ret
      exact ⟨rfl, B3⟩
  · skip
    have K1 := hide (fun W => rright_no al ah h1 h2 (by omega) W)
    clear h1 h2 h3 h4 ha
    go_enter Tryd.func3, Tryd.ntmps3
    go_wp2_with fail
    refine (K1.out _).mono ?_
    rintro e w1 ⟨rfl, b1⟩
    have B1 := bl_trans (bl_alloc (bl_alloc (Below.refl _ w) _) _) b1
    clear b1
    go_wp2_with fail
    refine (HA.out _ B1).mono ?_
    rintro e w3 ⟨rfl, b3⟩
    have B3 := bl_trans B1 b3
    clear b3
    go_wp2
    go_ret
    exact ⟨rfl, B3⟩
end Go.Proofs.YtplckfofdkmieaaDoor
