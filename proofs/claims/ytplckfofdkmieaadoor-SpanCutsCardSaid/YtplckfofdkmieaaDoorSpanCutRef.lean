/- Contracts of the reference's Cut, and of slices.Equal over one list twice. -/
import Derived.Test.YtplckfofdkmieaaDoorSpanCut
import Derived.RangeFuncBox
namespace Go.Proofs.YtplckfofdkmieaaDoor
open Go.RowKit

theorem cell_two_at (w : World) (x y : Value) (t : TypeId) {g : Nat} (hg : g = w.heap.size) : ∀ j u, [x, y][j]? = some u → (w.alloc (.cells #[x, y] t)).cell? ((⟨g, 0, none⟩ : Addr).add j) = some u := by
  subst hg
  exact cell_two_new w x y t

set_option maxRecDepth 10000 in
set_option maxHeartbeats 2000000 in
theorem rcut_any (al ah bl bh : Int) (h1 : Word al) (h2 : Word ah) (h3 : Word bl) (h4 : Word bh) (w : World) :
    Calls Tryd.prog 26 #[.agg #[.int .u64 al, .int .u64 ah], .agg #[.int .u64 bl, .int .u64 bh]] w fun e w' => ∃ v, e = .returned v ∧ OwnL w' w.heap.size 24 v (pcL al ah bl bh) ∧ Below w.heap.size w w' := by
  obtain ⟨i0, hi, hz0, hz1, hz2⟩ := info_parts info_iv
  have hwd := hide (word_pc h1 h2 h3 h4)
  obtain ⟨a1, a2⟩ := h1; obtain ⟨a3, a4⟩ := h2; obtain ⟨a5, a6⟩ := h3; obtain ⟨a7, a8⟩ := h4
  by_cases g1 : al < bl
  · by_cases m1 : bl - 1 < ah
    · skip
      by_cases g2 : bh < ah
      · by_cases m2 : al < bh + 1
        · skip
          have e : pcL al ah bl bh = [(al, (bl - 1)), ((bh + 1), ah)] := by
            unfold pcL pcLo pcHi mnI mxI
            rw [if_pos g1, if_pos m1, if_pos g2, if_pos m2]
            rfl
          rw [e] at hwd ⊢
          clear e
          go_enter Tryd.func26, Tryd.ntmps26
          go_wp2_with (first | (at_builtin; refine wpList_append_own_at _ rfl _ _ 44 rfl w.heap.size 24 i0 (.agg #[.int .u64 0, .int .u64 0]) 2 16 Tryd.underlying44 hi hz0 hz1 hz2 rfl (by decide) _ _ _ rfl (World.ownsRow_nil _ _ _ _) ⟨w.heap.size + 1 + 1, 0, none⟩ 1 1 [.int .u64 al, .int .u64 (bl - 1)] rfl rfl (cell_two_at _ _ _ _ (by first | rfl | (simp; done))) (two_one _ _) (by unfold maxLen; omega) (by omega) (by first | (simp; done) | (simp; omega)) ?_; intro v1 w1 hown1 hgrow1 _ _; obtain ⟨g1, cap1, rfl⟩ := ownsRow_succ hown1; have r1a := grown_kept hgrow1 (by first | (simp; done) | (simp; omega)) (fun e => by cases e) (heap_old_at _ _ (by first | (simp; done) | (simp; omega)) (heap_old_at _ _ (by simp) (heap_new_at w (.cells #[.int .u64 al, .int .u64 ah] 24) rfl))); have r1b := grown_kept hgrow1 (by simp) (fun e => by cases e) (heap_old_at _ _ (by simp) (heap_new_at (w.alloc (.cells #[.int .u64 al, .int .u64 ah] 24)) (.cells #[.int .u64 bl, .int .u64 bh] 24) (g := w.heap.size + 1) (by simp))); obtain ⟨c0, c1, _, l0⟩ := cells_two r1a; obtain ⟨d0, d1, _, l1⟩ := cells_two r1b; have b1 := (bl_alloc (bl_alloc (bl_alloc (Below.refl w.heap.size w) (.cells #[.int .u64 al, .int .u64 ah] 24)) (.cells #[.int .u64 bl, .int .u64 bh] 24)) (.cells #[.int .u64 al, .int .u64 (bl - 1)] 24)).grown hgrow1 (by first | (simp; done) | (simp; omega)) (fun g hg => by cases hg); have lb1 := b1.size) | (at_builtin; refine wpList_append_own_at _ rfl _ _ 44 rfl w.heap.size 24 i0 (.agg #[.int .u64 0, .int .u64 0]) 2 16 Tryd.underlying44 hi hz0 hz1 hz2 rfl (by decide) _ _ _ rfl (row_only hown1 ((Only.refl (fun _ => False) w1).alloc _) (fun k h => h.elim)) ⟨w1.heap.size, 0, none⟩ 1 1 [.int .u64 (bh + 1), .int .u64 ah] rfl rfl (cell_two_at _ _ _ _ (by first | rfl | (simp; done))) (two_one _ _) (by unfold maxLen; omega) (by omega) (by first | (simp; done) | (simp; omega)) ?_; intro v2 w2 hown2 hgrow2 _ _; obtain ⟨g2, cap2, rfl⟩ := ownsRow_succ hown2))
          have b2 := (bl_alloc b1 (.cells #[.int .u64 (bh + 1), .int .u64 ah] 24)).grown hgrow2 (by first | (simp; done) | (simp; omega)) (fun g hg => (hown1.lt g hg).1)
          go_ret
          exact ⟨_, rfl, ⟨hown2, hwd.out⟩, b2⟩
        · skip
          have e : pcL al ah bl bh = [(al, (bl - 1)), (al, ah)] := by
            unfold pcL pcLo pcHi mnI mxI
            rw [if_pos g1, if_pos m1, if_pos g2, if_neg m2]
            rfl
          rw [e] at hwd ⊢
          clear e
          have m2 : bh + 1 ≤ al := by omega
          go_enter Tryd.func26, Tryd.ntmps26
          go_wp2_with (first | (at_builtin; refine wpList_append_own_at _ rfl _ _ 44 rfl w.heap.size 24 i0 (.agg #[.int .u64 0, .int .u64 0]) 2 16 Tryd.underlying44 hi hz0 hz1 hz2 rfl (by decide) _ _ _ rfl (World.ownsRow_nil _ _ _ _) ⟨w.heap.size + 1 + 1, 0, none⟩ 1 1 [.int .u64 al, .int .u64 (bl - 1)] rfl rfl (cell_two_at _ _ _ _ (by first | rfl | (simp; done))) (two_one _ _) (by unfold maxLen; omega) (by omega) (by first | (simp; done) | (simp; omega)) ?_; intro v1 w1 hown1 hgrow1 _ _; obtain ⟨g1, cap1, rfl⟩ := ownsRow_succ hown1; have r1a := grown_kept hgrow1 (by first | (simp; done) | (simp; omega)) (fun e => by cases e) (heap_old_at _ _ (by first | (simp; done) | (simp; omega)) (heap_old_at _ _ (by simp) (heap_new_at w (.cells #[.int .u64 al, .int .u64 ah] 24) rfl))); have r1b := grown_kept hgrow1 (by simp) (fun e => by cases e) (heap_old_at _ _ (by simp) (heap_new_at (w.alloc (.cells #[.int .u64 al, .int .u64 ah] 24)) (.cells #[.int .u64 bl, .int .u64 bh] 24) (g := w.heap.size + 1) (by simp))); obtain ⟨c0, c1, _, l0⟩ := cells_two r1a; obtain ⟨d0, d1, _, l1⟩ := cells_two r1b; have b1 := (bl_alloc (bl_alloc (bl_alloc (Below.refl w.heap.size w) (.cells #[.int .u64 al, .int .u64 ah] 24)) (.cells #[.int .u64 bl, .int .u64 bh] 24)) (.cells #[.int .u64 al, .int .u64 (bl - 1)] 24)).grown hgrow1 (by first | (simp; done) | (simp; omega)) (fun g hg => by cases hg); have lb1 := b1.size) | (at_builtin; refine wpList_append_own_at _ rfl _ _ 44 rfl w.heap.size 24 i0 (.agg #[.int .u64 0, .int .u64 0]) 2 16 Tryd.underlying44 hi hz0 hz1 hz2 rfl (by decide) _ _ _ rfl (row_only hown1 ((Only.refl (fun _ => False) w1).alloc _) (fun k h => h.elim)) ⟨w1.heap.size, 0, none⟩ 1 1 [.int .u64 al, .int .u64 ah] rfl rfl (cell_two_at _ _ _ _ (by first | rfl | (simp; done))) (two_one _ _) (by unfold maxLen; omega) (by omega) (by first | (simp; done) | (simp; omega)) ?_; intro v2 w2 hown2 hgrow2 _ _; obtain ⟨g2, cap2, rfl⟩ := ownsRow_succ hown2))
          have b2 := (bl_alloc b1 (.cells #[.int .u64 al, .int .u64 ah] 24)).grown hgrow2 (by first | (simp; done) | (simp; omega)) (fun g hg => (hown1.lt g hg).1)
          go_ret
          exact ⟨_, rfl, ⟨hown2, hwd.out⟩, b2⟩
      · skip
        have e : pcL al ah bl bh = [(al, (bl - 1))] := by
          unfold pcL pcLo pcHi mnI mxI
          rw [if_pos g1, if_pos m1, if_neg g2]
          rfl
        rw [e] at hwd ⊢
        clear e
        have g2 : ah ≤ bh := by omega
        go_enter Tryd.func26, Tryd.ntmps26
        go_wp2_with (at_builtin; refine wpList_append_own_at _ rfl _ _ 44 rfl w.heap.size 24 i0 (.agg #[.int .u64 0, .int .u64 0]) 2 16 Tryd.underlying44 hi hz0 hz1 hz2 rfl (by decide) _ _ _ rfl (World.ownsRow_nil _ _ _ _) ⟨w.heap.size + 1 + 1, 0, none⟩ 1 1 [.int .u64 al, .int .u64 (bl - 1)] rfl rfl (cell_two_at _ _ _ _ (by first | rfl | (simp; done))) (two_one _ _) (by unfold maxLen; omega) (by omega) (by first | (simp; done) | (simp; omega)) ?_; intro v1 w1 hown1 hgrow1 _ _; obtain ⟨g1, cap1, rfl⟩ := ownsRow_succ hown1; have r1a := grown_kept hgrow1 (by first | (simp; done) | (simp; omega)) (fun e => by cases e) (heap_old_at _ _ (by first | (simp; done) | (simp; omega)) (heap_old_at _ _ (by simp) (heap_new_at w (.cells #[.int .u64 al, .int .u64 ah] 24) rfl))); have r1b := grown_kept hgrow1 (by simp) (fun e => by cases e) (heap_old_at _ _ (by simp) (heap_new_at (w.alloc (.cells #[.int .u64 al, .int .u64 ah] 24)) (.cells #[.int .u64 bl, .int .u64 bh] 24) (g := w.heap.size + 1) (by simp))); obtain ⟨c0, c1, _, l0⟩ := cells_two r1a; obtain ⟨d0, d1, _, l1⟩ := cells_two r1b; have b1 := (bl_alloc (bl_alloc (bl_alloc (Below.refl w.heap.size w) (.cells #[.int .u64 al, .int .u64 ah] 24)) (.cells #[.int .u64 bl, .int .u64 bh] 24)) (.cells #[.int .u64 al, .int .u64 (bl - 1)] 24)).grown hgrow1 (by first | (simp; done) | (simp; omega)) (fun g hg => by cases hg); have lb1 := b1.size)
        go_ret
        exact ⟨_, rfl, ⟨hown1, hwd.out⟩, b1⟩
    · skip
      by_cases g2 : bh < ah
      · by_cases m2 : al < bh + 1
        · skip
          have e : pcL al ah bl bh = [(al, ah), ((bh + 1), ah)] := by
            unfold pcL pcLo pcHi mnI mxI
            rw [if_pos g1, if_neg m1, if_pos g2, if_pos m2]
            rfl
          rw [e] at hwd ⊢
          clear e
          have m1 : ah ≤ bl - 1 := by omega
          go_enter Tryd.func26, Tryd.ntmps26
          go_wp2_with (first | (at_builtin; refine wpList_append_own_at _ rfl _ _ 44 rfl w.heap.size 24 i0 (.agg #[.int .u64 0, .int .u64 0]) 2 16 Tryd.underlying44 hi hz0 hz1 hz2 rfl (by decide) _ _ _ rfl (World.ownsRow_nil _ _ _ _) ⟨w.heap.size + 1 + 1, 0, none⟩ 1 1 [.int .u64 al, .int .u64 ah] rfl rfl (cell_two_at _ _ _ _ (by first | rfl | (simp; done))) (two_one _ _) (by unfold maxLen; omega) (by omega) (by first | (simp; done) | (simp; omega)) ?_; intro v1 w1 hown1 hgrow1 _ _; obtain ⟨g1, cap1, rfl⟩ := ownsRow_succ hown1; have r1a := grown_kept hgrow1 (by first | (simp; done) | (simp; omega)) (fun e => by cases e) (heap_old_at _ _ (by first | (simp; done) | (simp; omega)) (heap_old_at _ _ (by simp) (heap_new_at w (.cells #[.int .u64 al, .int .u64 ah] 24) rfl))); have r1b := grown_kept hgrow1 (by simp) (fun e => by cases e) (heap_old_at _ _ (by simp) (heap_new_at (w.alloc (.cells #[.int .u64 al, .int .u64 ah] 24)) (.cells #[.int .u64 bl, .int .u64 bh] 24) (g := w.heap.size + 1) (by simp))); obtain ⟨c0, c1, _, l0⟩ := cells_two r1a; obtain ⟨d0, d1, _, l1⟩ := cells_two r1b; have b1 := (bl_alloc (bl_alloc (bl_alloc (Below.refl w.heap.size w) (.cells #[.int .u64 al, .int .u64 ah] 24)) (.cells #[.int .u64 bl, .int .u64 bh] 24)) (.cells #[.int .u64 al, .int .u64 ah] 24)).grown hgrow1 (by first | (simp; done) | (simp; omega)) (fun g hg => by cases hg); have lb1 := b1.size) | (at_builtin; refine wpList_append_own_at _ rfl _ _ 44 rfl w.heap.size 24 i0 (.agg #[.int .u64 0, .int .u64 0]) 2 16 Tryd.underlying44 hi hz0 hz1 hz2 rfl (by decide) _ _ _ rfl (row_only hown1 ((Only.refl (fun _ => False) w1).alloc _) (fun k h => h.elim)) ⟨w1.heap.size, 0, none⟩ 1 1 [.int .u64 (bh + 1), .int .u64 ah] rfl rfl (cell_two_at _ _ _ _ (by first | rfl | (simp; done))) (two_one _ _) (by unfold maxLen; omega) (by omega) (by first | (simp; done) | (simp; omega)) ?_; intro v2 w2 hown2 hgrow2 _ _; obtain ⟨g2, cap2, rfl⟩ := ownsRow_succ hown2))
          have b2 := (bl_alloc b1 (.cells #[.int .u64 (bh + 1), .int .u64 ah] 24)).grown hgrow2 (by first | (simp; done) | (simp; omega)) (fun g hg => (hown1.lt g hg).1)
          go_ret
          exact ⟨_, rfl, ⟨hown2, hwd.out⟩, b2⟩
        · skip
          have e : pcL al ah bl bh = [(al, ah), (al, ah)] := by
            unfold pcL pcLo pcHi mnI mxI
            rw [if_pos g1, if_neg m1, if_pos g2, if_neg m2]
            rfl
          rw [e] at hwd ⊢
          clear e
          have m1 : ah ≤ bl - 1 := by omega
          have m2 : bh + 1 ≤ al := by omega
          go_enter Tryd.func26, Tryd.ntmps26
          go_wp2_with (first | (at_builtin; refine wpList_append_own_at _ rfl _ _ 44 rfl w.heap.size 24 i0 (.agg #[.int .u64 0, .int .u64 0]) 2 16 Tryd.underlying44 hi hz0 hz1 hz2 rfl (by decide) _ _ _ rfl (World.ownsRow_nil _ _ _ _) ⟨w.heap.size + 1 + 1, 0, none⟩ 1 1 [.int .u64 al, .int .u64 ah] rfl rfl (cell_two_at _ _ _ _ (by first | rfl | (simp; done))) (two_one _ _) (by unfold maxLen; omega) (by omega) (by first | (simp; done) | (simp; omega)) ?_; intro v1 w1 hown1 hgrow1 _ _; obtain ⟨g1, cap1, rfl⟩ := ownsRow_succ hown1; have r1a := grown_kept hgrow1 (by first | (simp; done) | (simp; omega)) (fun e => by cases e) (heap_old_at _ _ (by first | (simp; done) | (simp; omega)) (heap_old_at _ _ (by simp) (heap_new_at w (.cells #[.int .u64 al, .int .u64 ah] 24) rfl))); have r1b := grown_kept hgrow1 (by simp) (fun e => by cases e) (heap_old_at _ _ (by simp) (heap_new_at (w.alloc (.cells #[.int .u64 al, .int .u64 ah] 24)) (.cells #[.int .u64 bl, .int .u64 bh] 24) (g := w.heap.size + 1) (by simp))); obtain ⟨c0, c1, _, l0⟩ := cells_two r1a; obtain ⟨d0, d1, _, l1⟩ := cells_two r1b; have b1 := (bl_alloc (bl_alloc (bl_alloc (Below.refl w.heap.size w) (.cells #[.int .u64 al, .int .u64 ah] 24)) (.cells #[.int .u64 bl, .int .u64 bh] 24)) (.cells #[.int .u64 al, .int .u64 ah] 24)).grown hgrow1 (by first | (simp; done) | (simp; omega)) (fun g hg => by cases hg); have lb1 := b1.size) | (at_builtin; refine wpList_append_own_at _ rfl _ _ 44 rfl w.heap.size 24 i0 (.agg #[.int .u64 0, .int .u64 0]) 2 16 Tryd.underlying44 hi hz0 hz1 hz2 rfl (by decide) _ _ _ rfl (row_only hown1 ((Only.refl (fun _ => False) w1).alloc _) (fun k h => h.elim)) ⟨w1.heap.size, 0, none⟩ 1 1 [.int .u64 al, .int .u64 ah] rfl rfl (cell_two_at _ _ _ _ (by first | rfl | (simp; done))) (two_one _ _) (by unfold maxLen; omega) (by omega) (by first | (simp; done) | (simp; omega)) ?_; intro v2 w2 hown2 hgrow2 _ _; obtain ⟨g2, cap2, rfl⟩ := ownsRow_succ hown2))
          have b2 := (bl_alloc b1 (.cells #[.int .u64 al, .int .u64 ah] 24)).grown hgrow2 (by first | (simp; done) | (simp; omega)) (fun g hg => (hown1.lt g hg).1)
          go_ret
          exact ⟨_, rfl, ⟨hown2, hwd.out⟩, b2⟩
      · skip
        have e : pcL al ah bl bh = [(al, ah)] := by
          unfold pcL pcLo pcHi mnI mxI
          rw [if_pos g1, if_neg m1, if_neg g2]
          rfl
        rw [e] at hwd ⊢
        clear e
        have m1 : ah ≤ bl - 1 := by omega
        have g2 : ah ≤ bh := by omega
        go_enter Tryd.func26, Tryd.ntmps26
        go_wp2_with (at_builtin; refine wpList_append_own_at _ rfl _ _ 44 rfl w.heap.size 24 i0 (.agg #[.int .u64 0, .int .u64 0]) 2 16 Tryd.underlying44 hi hz0 hz1 hz2 rfl (by decide) _ _ _ rfl (World.ownsRow_nil _ _ _ _) ⟨w.heap.size + 1 + 1, 0, none⟩ 1 1 [.int .u64 al, .int .u64 ah] rfl rfl (cell_two_at _ _ _ _ (by first | rfl | (simp; done))) (two_one _ _) (by unfold maxLen; omega) (by omega) (by first | (simp; done) | (simp; omega)) ?_; intro v1 w1 hown1 hgrow1 _ _; obtain ⟨g1, cap1, rfl⟩ := ownsRow_succ hown1; have r1a := grown_kept hgrow1 (by first | (simp; done) | (simp; omega)) (fun e => by cases e) (heap_old_at _ _ (by first | (simp; done) | (simp; omega)) (heap_old_at _ _ (by simp) (heap_new_at w (.cells #[.int .u64 al, .int .u64 ah] 24) rfl))); have r1b := grown_kept hgrow1 (by simp) (fun e => by cases e) (heap_old_at _ _ (by simp) (heap_new_at (w.alloc (.cells #[.int .u64 al, .int .u64 ah] 24)) (.cells #[.int .u64 bl, .int .u64 bh] 24) (g := w.heap.size + 1) (by simp))); obtain ⟨c0, c1, _, l0⟩ := cells_two r1a; obtain ⟨d0, d1, _, l1⟩ := cells_two r1b; have b1 := (bl_alloc (bl_alloc (bl_alloc (Below.refl w.heap.size w) (.cells #[.int .u64 al, .int .u64 ah] 24)) (.cells #[.int .u64 bl, .int .u64 bh] 24)) (.cells #[.int .u64 al, .int .u64 ah] 24)).grown hgrow1 (by first | (simp; done) | (simp; omega)) (fun g hg => by cases hg); have lb1 := b1.size)
        go_ret
        exact ⟨_, rfl, ⟨hown1, hwd.out⟩, b1⟩
  · skip
    by_cases g2 : bh < ah
    · by_cases m2 : al < bh + 1
      · skip
        have e : pcL al ah bl bh = [((bh + 1), ah)] := by
          unfold pcL pcLo pcHi mnI mxI
          rw [if_neg g1, if_pos g2, if_pos m2]
          rfl
        rw [e] at hwd ⊢
        clear e
        have g1 : bl ≤ al := by omega
        go_enter Tryd.func26, Tryd.ntmps26
        go_wp2_with (at_builtin; refine wpList_append_own_at _ rfl _ _ 44 rfl w.heap.size 24 i0 (.agg #[.int .u64 0, .int .u64 0]) 2 16 Tryd.underlying44 hi hz0 hz1 hz2 rfl (by decide) _ _ _ rfl (World.ownsRow_nil _ _ _ _) ⟨w.heap.size + 1 + 1, 0, none⟩ 1 1 [.int .u64 (bh + 1), .int .u64 ah] rfl rfl (cell_two_at _ _ _ _ (by first | rfl | (simp; done))) (two_one _ _) (by unfold maxLen; omega) (by omega) (by first | (simp; done) | (simp; omega)) ?_; intro v1 w1 hown1 hgrow1 _ _; obtain ⟨g1, cap1, rfl⟩ := ownsRow_succ hown1; have r1a := grown_kept hgrow1 (by first | (simp; done) | (simp; omega)) (fun e => by cases e) (heap_old_at _ _ (by first | (simp; done) | (simp; omega)) (heap_old_at _ _ (by simp) (heap_new_at w (.cells #[.int .u64 al, .int .u64 ah] 24) rfl))); have r1b := grown_kept hgrow1 (by simp) (fun e => by cases e) (heap_old_at _ _ (by simp) (heap_new_at (w.alloc (.cells #[.int .u64 al, .int .u64 ah] 24)) (.cells #[.int .u64 bl, .int .u64 bh] 24) (g := w.heap.size + 1) (by simp))); obtain ⟨c0, c1, _, l0⟩ := cells_two r1a; obtain ⟨d0, d1, _, l1⟩ := cells_two r1b; have b1 := (bl_alloc (bl_alloc (bl_alloc (Below.refl w.heap.size w) (.cells #[.int .u64 al, .int .u64 ah] 24)) (.cells #[.int .u64 bl, .int .u64 bh] 24)) (.cells #[.int .u64 (bh + 1), .int .u64 ah] 24)).grown hgrow1 (by first | (simp; done) | (simp; omega)) (fun g hg => by cases hg); have lb1 := b1.size)
        go_ret
        exact ⟨_, rfl, ⟨hown1, hwd.out⟩, b1⟩
      · skip
        have e : pcL al ah bl bh = [(al, ah)] := by
          unfold pcL pcLo pcHi mnI mxI
          rw [if_neg g1, if_pos g2, if_neg m2]
          rfl
        rw [e] at hwd ⊢
        clear e
        have m2 : bh + 1 ≤ al := by omega
        have g1 : bl ≤ al := by omega
        go_enter Tryd.func26, Tryd.ntmps26
        go_wp2_with (at_builtin; refine wpList_append_own_at _ rfl _ _ 44 rfl w.heap.size 24 i0 (.agg #[.int .u64 0, .int .u64 0]) 2 16 Tryd.underlying44 hi hz0 hz1 hz2 rfl (by decide) _ _ _ rfl (World.ownsRow_nil _ _ _ _) ⟨w.heap.size + 1 + 1, 0, none⟩ 1 1 [.int .u64 al, .int .u64 ah] rfl rfl (cell_two_at _ _ _ _ (by first | rfl | (simp; done))) (two_one _ _) (by unfold maxLen; omega) (by omega) (by first | (simp; done) | (simp; omega)) ?_; intro v1 w1 hown1 hgrow1 _ _; obtain ⟨g1, cap1, rfl⟩ := ownsRow_succ hown1; have r1a := grown_kept hgrow1 (by first | (simp; done) | (simp; omega)) (fun e => by cases e) (heap_old_at _ _ (by first | (simp; done) | (simp; omega)) (heap_old_at _ _ (by simp) (heap_new_at w (.cells #[.int .u64 al, .int .u64 ah] 24) rfl))); have r1b := grown_kept hgrow1 (by simp) (fun e => by cases e) (heap_old_at _ _ (by simp) (heap_new_at (w.alloc (.cells #[.int .u64 al, .int .u64 ah] 24)) (.cells #[.int .u64 bl, .int .u64 bh] 24) (g := w.heap.size + 1) (by simp))); obtain ⟨c0, c1, _, l0⟩ := cells_two r1a; obtain ⟨d0, d1, _, l1⟩ := cells_two r1b; have b1 := (bl_alloc (bl_alloc (bl_alloc (Below.refl w.heap.size w) (.cells #[.int .u64 al, .int .u64 ah] 24)) (.cells #[.int .u64 bl, .int .u64 bh] 24)) (.cells #[.int .u64 al, .int .u64 ah] 24)).grown hgrow1 (by first | (simp; done) | (simp; omega)) (fun g hg => by cases hg); have lb1 := b1.size)
        go_ret
        exact ⟨_, rfl, ⟨hown1, hwd.out⟩, b1⟩
    · skip
      have e : pcL al ah bl bh = [] := by
        unfold pcL pcLo pcHi mnI mxI
        rw [if_neg g1, if_neg g2]
        rfl
      rw [e] at hwd ⊢
      clear e
      have g1 : bl ≤ al := by omega
      have g2 : ah ≤ bh := by omega
      go_enter Tryd.func26, Tryd.ntmps26
      go_wp2
      go_ret
      exact ⟨_, rfl, ⟨World.ownsRow_nil _ _ _ _, by simp⟩, bl_alloc (bl_alloc (Below.refl _ _) _) _⟩
end Go.Proofs.YtplckfofdkmieaaDoor
