/- fault.Code, find, At over any error. -/
import Derived.Test.YtgggnjgcbmpibaaDoorErrGen
import Derived.Test.YtgggnjgcbmpibaaDoorErrAsF
namespace Go.Proofs.YtgggnjgcbmpibaaDoor
open Go.RowKit

theorem code_yes (x : Er) (n : Int) (w : World) (hg : Laid w) (hx : x.code = some n) :
    Calls Tryd.prog 13 #[x.v] w fun e w' => e = .returned (.int .i64 n) ∧ Below w.heap.size w w' := by
  have HA := hide (as_E x n ⟨w.heap.size, 0, none⟩ (.int .i64 0) (w.alloc (.cells #[.int .i64 0] 31)) (hg.alloc _) hx (by simp) (by simp))
  clear hg hx
  unfold Er.v at HA ⊢
  go_enter Tryd.func13, Tryd.ntmps13
  go_wp2_with fail
  refine HA.out.mono ?_
  rintro e w' ⟨rfl, w1, b1, rfl⟩
  have hr : w1.heap[w.heap.size]? = some (.cells #[.int .i64 0] 31 (0, 0)) := (b1.block _ (by simp)).trans (heap_new_at _ _ rfl)
  have k0 : (w1.setCell ⟨w.heap.size, 0, none⟩ (.int .i64 n)).cell? ⟨w.heap.size, 0, none⟩ = some (.int .i64 n) := by
    have := heap_setCell_same _ _ 0 _ _ (.int .i64 n) hr
    simp [World.cell?, this]
  have B := hide (bl_set (bl_trans (bl_alloc (Below.refl w.heap.size w) (.cells #[.int .i64 0] 31)) b1) (p := ⟨w.heap.size, 0, none⟩) (Nat.le_refl _) (.int .i64 n))
  clear b1 hr
  obtain ⟨w2, e2⟩ : ∃ w2, w1.setCell ⟨w.heap.size, 0, none⟩ (.int .i64 n) = w2 := ⟨_, rfl⟩
  rw [e2] at k0 B ⊢
  clear e2
  go_wp2
  go_ret
  exact ⟨rfl, B.out⟩
theorem code_no (x : Er) (w : World) (hg : Laid w) (hx : x.code = none) :
    Calls Tryd.prog 13 #[x.v] w fun e w' => e = .returned (.int .i64 17) ∧ Below w.heap.size w w' := by
  have HA := hide (as_E_no x ⟨w.heap.size, 0, none⟩ (w.alloc (.cells #[.int .i64 0] 31)) (hg.alloc _) hx)
  clear hg hx
  unfold Er.v at HA ⊢
  go_enter Tryd.func13, Tryd.ntmps13
  go_wp2_with fail
  refine HA.out.mono ?_
  rintro e w' ⟨rfl, b1⟩
  go_wp2
  go_ret
  exact ⟨rfl, bl_trans (bl_alloc (Below.refl _ _) _) b1⟩
theorem find_no (x : Er) (w : World) (hg : Laid w) (hx : x.fault = none) :
    Calls Tryd.prog 27 #[x.v] w fun e w' => e = .returned (.tuple #[.agg #[.int .i64 0, .int .i64 0], .bool false]) ∧ Below w.heap.size w w' := by
  have HA := hide (as_F_no x ⟨w.heap.size + 1, 0, none⟩ ((w.alloc (.cells #[.int .i64 0, .int .i64 0] 40)).alloc (.cells #[.int .i64 0, .int .i64 0] 40)) ((hg.alloc _).alloc _) hx)
  clear hg hx
  go_enter Tryd.func27, Tryd.ntmps27
  go_wp2_with fail
  refine HA.out.mono ?_
  rintro e w' ⟨rfl, b1⟩
  have r0 : w'.heap[w.heap.size]? = some (.cells #[.int .i64 0, .int .i64 0] 40 (0, 0)) := (b1.block _ (by simp; omega)).trans (heap_old_at _ _ (by simp) (heap_new_at _ _ rfl))
  have r1 : w'.heap[w.heap.size + 1]? = some (.cells #[.int .i64 0, .int .i64 0] 40 (0, 0)) := (b1.block _ (by simp)).trans (heap_new_at _ _ (by simp))
  have k0 : w'.cell? ⟨w.heap.size + 1, 0, none⟩ = some (.int .i64 0) := by simp [World.cell?, r1]
  have k1 : w'.cell? ⟨w.heap.size + 1, 1, none⟩ = some (.int .i64 0) := by simp [World.cell?, r1]
  have m0 : w'.cell? ⟨w.heap.size, 0, none⟩ = some (.int .i64 0) := by simp [World.cell?, r0]
  have m1 : w'.cell? ⟨w.heap.size, 1, none⟩ = some (.int .i64 0) := by simp [World.cell?, r0]
  have f0 : ∀ j, w'.frozen? ⟨w.heap.size, j, none⟩ = false := by intro j; simp [World.frozen?, r0]
  have hb := bl_trans (bl_alloc (bl_alloc (Below.refl w.heap.size w) _) _) b1
  have e0 := heap_setCell_same _ _ 1 _ _ (.int .i64 0) (heap_setCell_same _ _ 0 _ _ (.int .i64 0) r0)
  clear b1 r0 r1
  go_wp2
  exact bodyPost_ret (v := .tuple #[.agg #[.int .i64 0, .int .i64 0], .bool false]) (by simp [results, Tryd.results27, go_sem, World.cell?, e0]) rfl ⟨rfl, bl_set (bl_set hb (p := ⟨w.heap.size, 0, none⟩) (Nat.le_refl _) _) (p := ⟨w.heap.size, 1, none⟩) (Nat.le_refl _) _⟩
theorem find_yes (x : Er) (c n : Int) (w : World) (hg : Laid w) (hx : x.fault = some (c, n)) :
    Calls Tryd.prog 27 #[x.v] w fun e w' => e = .returned (.tuple #[.agg #[.int .i64 c, .int .i64 n], .bool true]) ∧ Below w.heap.size w w' := by
  have HA := hide (as_F x c n (w.heap.size + 1) (.int .i64 0) (.int .i64 0) ((w.alloc (.cells #[.int .i64 0, .int .i64 0] 40)).alloc (.cells #[.int .i64 0, .int .i64 0] 40)) ((hg.alloc _).alloc _) hx (heap_new_at _ _ (by simp)))
  clear hg hx
  go_enter Tryd.func27, Tryd.ntmps27
  go_wp2_with fail
  refine HA.out.mono ?_
  rintro e w' ⟨rfl, w1, b1, rfl⟩
  have r0 : w1.heap[w.heap.size]? = some (.cells #[.int .i64 0, .int .i64 0] 40 (0, 0)) := (b1.block _ (by simp; omega)).trans (heap_old_at _ _ (by simp) (heap_new_at _ _ rfl))
  have r1 : w1.heap[w.heap.size + 1]? = some (.cells #[.int .i64 0, .int .i64 0] 40 (0, 0)) := (b1.block _ (by simp)).trans (heap_new_at _ _ (by simp))
  have r1' := heap_setCell_same _ _ 1 _ _ (.int .i64 n) (heap_setCell_same _ _ 0 _ _ (.int .i64 c) r1)
  have r0' := (Below.heap_setCell (w1.setCell ⟨w.heap.size + 1, 0, none⟩ (.int .i64 c)) ⟨w.heap.size + 1, 1, none⟩ (.int .i64 n) w.heap.size (by show w.heap.size ≠ w.heap.size + 1; omega)).trans ((Below.heap_setCell w1 ⟨w.heap.size + 1, 0, none⟩ (.int .i64 c) w.heap.size (by show w.heap.size ≠ w.heap.size + 1; omega)).trans r0)
  have hb := hide (bl_set (bl_set (bl_trans (bl_alloc (bl_alloc (Below.refl w.heap.size w) _) _) b1) (p := ⟨w.heap.size + 1, 0, none⟩) (by show _ ≤ w.heap.size + 1; omega) (.int .i64 c)) (p := ⟨w.heap.size + 1, 1, none⟩) (by show _ ≤ w.heap.size + 1; omega) (.int .i64 n))
  obtain ⟨w2, e2⟩ : ∃ w2, (w1.setCell ⟨w.heap.size + 1, 0, none⟩ (.int .i64 c)).setCell ⟨w.heap.size + 1, 1, none⟩ (.int .i64 n) = w2 := ⟨_, rfl⟩
  rw [e2] at r0' r1' hb ⊢
  clear e2 r0 r1 b1
  have k0 : w2.cell? ⟨w.heap.size + 1, 0, none⟩ = some (.int .i64 c) := by simp [World.cell?, r1']
  have k1 : w2.cell? ⟨w.heap.size + 1, 1, none⟩ = some (.int .i64 n) := by simp [World.cell?, r1']
  have m0 : w2.cell? ⟨w.heap.size, 0, none⟩ = some (.int .i64 0) := by simp [World.cell?, r0']
  have m1 : w2.cell? ⟨w.heap.size, 1, none⟩ = some (.int .i64 0) := by simp [World.cell?, r0']
  have f0 : ∀ j, w2.frozen? ⟨w.heap.size, j, none⟩ = false := by intro j; simp [World.frozen?, r0']
  have e0 := heap_setCell_same _ _ 1 _ _ (.int .i64 n) (heap_setCell_same _ _ 0 _ _ (.int .i64 c) r0')
  clear r0' r1'
  go_wp2
  exact bodyPost_ret (v := .tuple #[.agg #[.int .i64 c, .int .i64 n], .bool true]) (by simp [results, Tryd.results27, go_sem, World.cell?, e0]) rfl ⟨rfl, bl_set (bl_set hb.out (p := ⟨w.heap.size, 0, none⟩) (Nat.le_refl _) _) (p := ⟨w.heap.size, 1, none⟩) (Nat.le_refl _) _⟩

theorem at_no (x : Er) (w : World) (hg : Laid w) (hx : x.fault = none) :
    Calls Tryd.prog 14 #[x.v] w fun e w' => e = .returned (.int .i64 (-1)) ∧ Below w.heap.size w w' := by
  have H := hide hg
  clear hg
  go_enter Tryd.func14, Tryd.ntmps14
  go_wp2_with fail
  refine (find_no x _ H.out hx).mono ?_
  rintro e w1 ⟨rfl, b1⟩
  go_wp2
  go_ret
  exact ⟨rfl, bl_alloc b1 _⟩
theorem at_yes (x : Er) (c n : Int) (w : World) (hg : Laid w) (hx : x.fault = some (c, n)) :
    Calls Tryd.prog 14 #[x.v] w fun e w' => e = .returned (.int .i64 n) ∧ Below w.heap.size w w' := by
  have H := hide hg
  clear hg
  go_enter Tryd.func14, Tryd.ntmps14
  go_wp2_with fail
  refine (find_yes x c n _ H.out hx).mono ?_
  rintro e w1 ⟨rfl, b1⟩
  go_wp2
  go_ret
  exact ⟨rfl, bl_alloc b1 _⟩

/-- The code and the offset of an error. -/
def Er.cd (x : Er) : Int := x.code.getD 17
def Er.at' (x : Er) : Int := match x.fault with | some (_, n) => n | none => -1
theorem code_any (x : Er) (w : World) (hg : Laid w) : Calls Tryd.prog 13 #[x.v] w fun e w' => e = .returned (.int .i64 x.cd) ∧ Below w.heap.size w w' := by
  cases h : x.code with
  | none => have := code_no x w hg h; unfold Er.cd; rw [h]; exact this
  | some c => have := code_yes x c w hg h; unfold Er.cd; rw [h]; exact this
theorem at_any (x : Er) (w : World) (hg : Laid w) : Calls Tryd.prog 14 #[x.v] w fun e w' => e = .returned (.int .i64 x.at') ∧ Below w.heap.size w w' := by
  cases h : x.fault with
  | none => have := at_no x w hg h; unfold Er.at'; rw [h]; exact this
  | some p => obtain ⟨c, n⟩ := p; have := at_yes x c n w hg h; unfold Er.at'; rw [h]; exact this
end Go.Proofs.YtgggnjgcbmpibaaDoor
