/- Contracts of the reference of layer 3: an interval is correct, has a number, is related to another one. -/
import Derived.Test.YtbphphmjhcehkaaDoorIntervals
namespace Go.Proofs.YtbphphmjhcehkaaDoor
open Go.RowKit

theorem rright_any (lo hi : Int) (h1 : Word lo) (h2 : Word hi) (w : World) :
    Calls Tryd.prog 95 #[.agg #[.int .u64 lo, .int .u64 hi]] w fun e w' => e = .returned (.bool (decide (lo ≤ hi))) ∧ Below w.heap.size w w' := by
  obtain ⟨a1, a2⟩ := h1; obtain ⟨b1, b2⟩ := h2
  go_enter Tryd.func95, Tryd.ntmps95
  go_wp2
  go_ret
  exact ⟨rfl, by repeat (first | exact Below.refl _ _ | refine bl_alloc ?_ _)⟩
theorem rright_yes (lo hi : Int) (h1 : Word lo) (h2 : Word hi) (h : lo ≤ hi) (w : World) :
    Calls Tryd.prog 95 #[.agg #[.int .u64 lo, .int .u64 hi]] w fun e w' => e = .returned (.bool true) ∧ Below w.heap.size w w' :=
  (rright_any lo hi h1 h2 w).mono fun _ _ ⟨he, hb⟩ => ⟨he.trans (ret_bool (by simp; omega)), hb⟩
theorem rright_no (lo hi : Int) (h1 : Word lo) (h2 : Word hi) (h : hi < lo) (w : World) :
    Calls Tryd.prog 95 #[.agg #[.int .u64 lo, .int .u64 hi]] w fun e w' => e = .returned (.bool false) ∧ Below w.heap.size w w' :=
  (rright_any lo hi h1 h2 w).mono fun _ _ ⟨he, hb⟩ => ⟨he.trans (ret_bool (by simp; omega)), hb⟩

/-- The relation of two intervals: 0 before, 1 touching, 2 meeting, 3 touched, 4 behind. -/
def relI (al ah bl bh : Int) : Int := if ah < bl then (if bl - ah = 1 then 1 else 0) else if bh < al then (if al - bh = 1 then 3 else 4) else 2
theorem rrelate_any (al ah bl bh : Int) (h1 : Word al) (h2 : Word ah) (h3 : Word bl) (h4 : Word bh) (w : World) :
    Calls Tryd.prog 96 #[.agg #[.int .u64 al, .int .u64 ah], .agg #[.int .u64 bl, .int .u64 bh]] w fun e w' => e = .returned (.int .i64 (relI al ah bl bh)) ∧ Below w.heap.size w w' := by
  obtain ⟨a1, a2⟩ := h1; obtain ⟨b1, b2⟩ := h2; obtain ⟨c1, c2⟩ := h3; obtain ⟨d1, d2⟩ := h4
  go_enter Tryd.func96, Tryd.ntmps96
  go_wp2
  all_goals go_ret
  all_goals (refine ⟨ret_int ?_, by repeat (first | exact Below.refl _ _ | refine bl_alloc ?_ _)⟩)
  all_goals ((try simp only [beq_iff_eq, beq_eq_false_iff_ne, ne_eq] at *); unfold relI; split <;> (try split) <;> (try split) <;> omega)
def hasI (lo hi x : Int) : Bool := decide (lo ≤ x ∧ x ≤ hi)
theorem rhas_any (lo hi x : Int) (h1 : Word lo) (h2 : Word hi) (h3 : Word x) (w : World) :
    Calls Tryd.prog 72 #[.agg #[.int .u64 lo, .int .u64 hi], .int .u64 x] w fun e w' => e = .returned (.bool (hasI lo hi x)) ∧ Below w.heap.size w w' := by
  obtain ⟨a1, a2⟩ := h1; obtain ⟨b1, b2⟩ := h2; obtain ⟨c1, c2⟩ := h3
  by_cases g1 : lo ≤ x
  · by_cases g2 : x ≤ hi
    · skip
      go_enter Tryd.func72, Tryd.ntmps72
      go_wp2
      go_ret
      exact ⟨ret_bool (by unfold hasI; rw [Bool.eq_iff_iff]; simp; omega), by repeat (first | exact Below.refl _ _ | refine bl_alloc ?_ _)⟩
    · skip
      have g2' : hi < x := by omega
      clear g2
      go_enter Tryd.func72, Tryd.ntmps72
      go_wp2
      go_ret
      exact ⟨ret_bool (by unfold hasI; rw [Bool.eq_iff_iff]; simp; omega), by repeat (first | exact Below.refl _ _ | refine bl_alloc ?_ _)⟩
  · skip
    have g1' : x < lo := by omega
    clear g1
    go_enter Tryd.func72, Tryd.ntmps72
    go_wp2
    go_ret
    exact ⟨ret_bool (by unfold hasI; rw [Bool.eq_iff_iff]; simp; omega), by repeat (first | exact Below.refl _ _ | refine bl_alloc ?_ _)⟩
end Go.Proofs.YtbphphmjhcehkaaDoor
