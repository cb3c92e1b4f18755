/- The walk of the law SpanShifts. -/
import Derived.Test.YtplckfofdkmieaaDoorSpanAlive
import Derived.Test.YtplckfofdkmieaaDoorErrAsF
import Derived.WideMake
namespace Go.Proofs.YtplckfofdkmieaaDoor
open Go.RowKit

/-! ### The table that the law makes: true at 1, false at 0 -/
theorem alloc_over (W : World) (o o' : Obj) : ({ W.alloc o with heap := (W.alloc o).heap.setIfInBounds W.heap.size o' } : World) = W.alloc o' := by
  unfold World.alloc
  simp only [World.mk.injEq, and_true]
  apply Array.ext
  · simp
  · intro i h1 h2
    rw [Array.getElem_setIfInBounds]
    · split
      · next h => subst h; simp
      · next h =>
        have hi : i < W.heap.size := by simp at h1; omega
        rw [Array.getElem_push_lt hi, Array.getElem_push_lt hi]
    · simpa using h1
abbrev en1 : MapEntry := { key := .bool true, val := .int .i64 1, born := 0 }
abbrev en2 : MapEntry := { key := .bool false, val := .int .i64 0, born := 1 }
theorem map_make (W : World) : (Instr.makeMap 42 none).run Tryd.prog W = .ok (.map (some W.heap.size)) (W.alloc (.map #[] 0)) := run_makeMap_plain W _
theorem map_put1 (W : World) : (Instr.mapUpdate 42 (.map (some W.heap.size)) (.bool true) (.int .i64 1)).run Tryd.prog (W.alloc (.map #[] 0)) = .ok () (W.alloc (.map #[en1] 1)) := by
  have hb : (W.alloc (.map #[] 0)).heap[W.heap.size]? = some (.map #[] 0) := heap_new_at _ _ rfl
  have hf : Instr.findNow .bool (.bool true) ([] : List MapEntry) 0 = some none := rfl
  have hc : (Instr.checkKey false 10000 4 (.bool true)).run Tryd.prog (W.alloc (.map #[] 0)) = .ok () (W.alloc (.map #[] 0)) := MapKept.run_checkKey (k := .bool true) Tryd.underlying4 (by simp [MapKept.IsKey]) false 9999
  simp [Instr.mapUpdate, run_underlying Tryd.underlying42, MapKept.run_getObj_map hb, hc, MapKept.run_findKey Tryd.underlying4 hf, MapKept.run_setObj_map _ hb, Result.andThen]
  exact alloc_over W _ _
theorem map_put2 (W : World) : (Instr.mapUpdate 42 (.map (some W.heap.size)) (.bool false) (.int .i64 0)).run Tryd.prog (W.alloc (.map #[en1] 1)) = .ok () (W.alloc (.map #[en1, en2] 2)) := by
  have hb : (W.alloc (.map #[en1] 1)).heap[W.heap.size]? = some (.map #[en1] 1) := heap_new_at _ _ rfl
  have hf : Instr.findNow .bool (.bool false) [en1] 0 = some none := rfl
  have hc : (Instr.checkKey false 10000 4 (.bool false)).run Tryd.prog (W.alloc (.map #[en1] 1)) = .ok () (W.alloc (.map #[en1] 1)) := MapKept.run_checkKey (k := .bool false) Tryd.underlying4 (by simp [MapKept.IsKey]) false 9999
  simp [Instr.mapUpdate, run_underlying Tryd.underlying42, MapKept.run_getObj_map hb, hc, MapKept.run_findKey Tryd.underlying4 hf, MapKept.run_setObj_map _ hb, Result.andThen]
  exact alloc_over W _ _
theorem map_get1 (W : World) : (Instr.lookup 42 (.map (some W.heap.size)) (.bool true) false).run Tryd.prog (W.alloc (.map #[en1, en2] 2)) = .ok (.int .i64 1) (W.alloc (.map #[en1, en2] 2)) := by
  have hb : (W.alloc (.map #[en1, en2] 2)).heap[W.heap.size]? = some (.map #[en1, en2] 2) := heap_new_at _ _ rfl
  have hf : Instr.findNow .bool (.bool true) [en1, en2] 0 = some (some (0, .int .i64 1)) := rfl
  have hc : (Instr.checkKey false 10000 4 (.bool true)).run Tryd.prog (W.alloc (.map #[en1, en2] 2)) = .ok () (W.alloc (.map #[en1, en2] 2)) := MapKept.run_checkKey (k := .bool true) Tryd.underlying4 (by simp [MapKept.IsKey]) false 9999
  simp [Instr.lookup, run_underlying Tryd.underlying42, MapKept.run_getObj_map hb, hc, MapKept.run_findKey Tryd.underlying4 hf, Result.andThen]
theorem map_get2 (W : World) : (Instr.lookup 42 (.map (some W.heap.size)) (.bool false) false).run Tryd.prog (W.alloc (.map #[en1, en2] 2)) = .ok (.int .i64 0) (W.alloc (.map #[en1, en2] 2)) := by
  have hb : (W.alloc (.map #[en1, en2] 2)).heap[W.heap.size]? = some (.map #[en1, en2] 2) := heap_new_at _ _ rfl
  have hf : Instr.findNow .bool (.bool false) [en1, en2] 0 = some (some (1, .int .i64 0)) := rfl
  have hc : (Instr.checkKey false 10000 4 (.bool false)).run Tryd.prog (W.alloc (.map #[en1, en2] 2)) = .ok () (W.alloc (.map #[en1, en2] 2)) := MapKept.run_checkKey (k := .bool false) Tryd.underlying4 (by simp [MapKept.IsKey]) false 9999
  simp [Instr.lookup, run_underlying Tryd.underlying42, MapKept.run_getObj_map hb, hc, MapKept.run_findKey Tryd.underlying4 hf, Result.andThen]

set_option maxHeartbeats 1600000 in
theorem spanShifts_walk (l g s : Int) (w : World) (hl : Word l) (hgp : Word g) (hs : Word s) (hg : Laid w) :
    Calls Tryd.prog 7 #[.int .u64 l, .int .u64 g, .int .u64 s] w fun e w' => e = .returned (.bool true) ∧ Below w.heap.size w w' := by
  have HA := hide (fun W (hb : Below w.heap.size w W) => alive_any W (hg.below hb))
  have HG := hide (fun W (hb : Below w.heap.size w W) => hg.below hb)
  clear hg
  have K2 := rshift_any l g s hl hgp hs
  by_cases h : l + g + 1 + s < 18446744073709551616
  · have K1 := hide (fun W => shift_yes l g s hl hgp hs h W)
    have K3 := hide (fun W => relate_any l l (l + g + 1) (l + g + 1 + s) hl hl (by unfold Word at *; omega) (by unfold Word at *; omega) (Int.le_refl _) (by unfold Word at *; omega) W)
    rw [if_pos h, if_pos h, decide_eq_true h] at K2
    have K2 := hide K2
    by_cases hz : g = 0
    · have e : relI l l (l + g + 1) (l + g + 1 + s) = 1 := by unfold relI; rw [if_pos (by unfold Word at *; omega), if_pos (by omega)]
      rw [e] at K3
      subst hz
      obtain ⟨a, ea⟩ : ∃ a, a = l + 0 + 1 := ⟨_, rfl⟩
      rw [← ea] at K1 K2 K3
      obtain ⟨b, eb⟩ : ∃ b, b = a + s := ⟨_, rfl⟩
      rw [← eb] at K1 K2 K3
      clear hl hgp hs h e ea eb
      go_enter Tryd.func7, Tryd.ntmps7
      go_wp2_with fail
      refine (K1.out _).mono ?_
      rintro e w1 ⟨rfl, b1⟩
      go_wp2_with fail
      refine (K2.out _).mono ?_
      rintro e w2 ⟨rfl, b2⟩
      have B2 := bl_trans (bl_alloc b1 _) b2
      have R0 := row_keep b2 (heap_new_at _ _ rfl)
      obtain ⟨c0, c1, _, l0⟩ := cells_two R0
      clear b1 b2
      go_wp2_with fail
      refine (K3.out _).mono ?_
      rintro e w3 ⟨rfl, b3⟩
      have B3 := bl_trans (bl_alloc B2 _) b3
      have R0 := row_keep b3 (heap_old_at _ _ l0 R0)
      have R1 := row_keep b3 (heap_new_at _ _ rfl)
      clear b3 c0 c1 l0
      go_wp2_with fail
      refine (HA.out _ B3).mono ?_
      rintro e w4 ⟨rfl, b4⟩
      have B4 := bl_trans B3 b4
      have R0 := row_keep b4 R0
      have R1 := row_keep b4 R1
      obtain ⟨c0, c1, _, l0⟩ := cells_two R0
      obtain ⟨d0, d1, _, l1⟩ := cells_two R1
      clear b4
      have m0 := map_make w4
      have m1 := map_put1 w4
      have m2 := map_put2 w4
      have m3 := map_get1 w4
      go_wp2
      go_ret
      exact ⟨rfl, bl_alloc B4 _⟩
    · have e : relI l l (l + g + 1) (l + g + 1 + s) = 0 := by unfold relI; rw [if_pos (by unfold Word at *; omega), if_neg (by omega)]
      rw [e] at K3
      have q0 : (g == 0) = false := by simp [hz]
      clear hz
      obtain ⟨a, ea⟩ : ∃ a, a = l + g + 1 := ⟨_, rfl⟩
      rw [← ea] at K1 K2 K3
      obtain ⟨b, eb⟩ : ∃ b, b = a + s := ⟨_, rfl⟩
      rw [← eb] at K1 K2 K3
      clear hl hgp hs h e ea eb
      go_enter Tryd.func7, Tryd.ntmps7
      go_wp2_with fail
      refine (K1.out _).mono ?_
      rintro e w1 ⟨rfl, b1⟩
      go_wp2_with fail
      refine (K2.out _).mono ?_
      rintro e w2 ⟨rfl, b2⟩
      have B2 := bl_trans (bl_alloc b1 _) b2
      have R0 := row_keep b2 (heap_new_at _ _ rfl)
      obtain ⟨c0, c1, _, l0⟩ := cells_two R0
      clear b1 b2
      go_wp2_with fail
      refine (K3.out _).mono ?_
      rintro e w3 ⟨rfl, b3⟩
      have B3 := bl_trans (bl_alloc B2 _) b3
      have R0 := row_keep b3 (heap_old_at _ _ l0 R0)
      have R1 := row_keep b3 (heap_new_at _ _ rfl)
      clear b3 c0 c1 l0
      go_wp2_with fail
      refine (HA.out _ B3).mono ?_
      rintro e w4 ⟨rfl, b4⟩
      have B4 := bl_trans B3 b4
      have R0 := row_keep b4 R0
      have R1 := row_keep b4 R1
      obtain ⟨c0, c1, _, l0⟩ := cells_two R0
      obtain ⟨d0, d1, _, l1⟩ := cells_two R1
      clear b4
      have m0 := map_make w4
      have m1 := map_put1 w4
      have m2 := map_put2 w4
      have m3 := map_get2 w4
      go_wp2
      go_ret
      exact ⟨rfl, bl_alloc B4 _⟩
  · have K1 := hide (fun W => shift_no l g s hl hgp hs h W)
    rw [if_neg h, if_neg h, decide_eq_false h] at K2
    have K2 := hide K2
    clear hl hgp hs h
    go_enter Tryd.func7, Tryd.ntmps7
    go_wp2_with fail
    refine (K1.out _).mono ?_
    rintro e w1 ⟨rfl, b1⟩
    go_wp2_with fail
    refine (K2.out _).mono ?_
    rintro e w2 ⟨rfl, b2⟩
    have B2 := bl_trans (bl_alloc b1 _) b2
    have R0 := row_keep b2 (heap_new_at _ _ rfl)
    obtain ⟨c0, c1, _, l0⟩ := cells_two R0
    clear b1 b2
    have B2' := bl_alloc B2 (.cells #[.int .u64 0, .int .u64 0] 24)
    go_wp2_with fail
    refine (HA.out _ B2').mono ?_
    rintro e w3 ⟨rfl, b3⟩
    have B3 := bl_trans B2' b3
    have R0 := row_keep b3 (heap_old_at _ _ l0 R0)
    have R1 := row_keep b3 (heap_new_at _ _ rfl)
    clear b3 c0 c1 l0 B2 B2'
    obtain ⟨c0, c1, _, l0⟩ := cells_two R0
    obtain ⟨d0, d1, _, l1⟩ := cells_two R1
    go_wp2_with fail
    refine (code_E 8 _ (HG.out _ B3)).mono ?_
    rintro e w4 ⟨rfl, b4⟩
    have B4 := bl_trans B3 b4
    clear b4
    go_wp2_with fail
    refine (at_E 8 _ (HG.out _ B4)).mono ?_
    rintro e w5 ⟨rfl, b5⟩
    have B5 := bl_trans B4 b5
    clear b5
    go_wp2
    go_ret
    exact ⟨rfl, B5⟩
end Go.Proofs.YtplckfofdkmieaaDoor
