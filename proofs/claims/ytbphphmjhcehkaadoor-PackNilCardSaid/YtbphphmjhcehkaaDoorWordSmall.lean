/- Contracts of the small functions of the packages word and kenningref02: neighbours, differences, widths, sums and comparisons, for all words. -/
import Derived.Test.YtbphphmjhcehkaaDoorBase
namespace Go.Proofs.YtbphphmjhcehkaaDoor
open Go.RowKit

/-! ### Neighbours -/
def nextV (x : Int) : Int := lo64 (x + 1)
def nextB (x : Int) : Bool := decide (x + 1 < 18446744073709551616)
def prevV (x : Int) : Int := if x = 0 then 0 else x - 1
def prevB (x : Int) : Bool := decide (0 < x)
theorem word_next (x : Int) : Word (nextV x) := word_lo _
theorem word_prev {x : Int} (h : Word x) : Word (prevV x) := by unfold Word at *; unfold prevV; split <;> omega
/-! ### Differences -/
def btV (a b : Int) : Int := if a < b then b - a - 1 else 0
def btB (a b : Int) : Bool := decide (a < b)
theorem word_bt {a b : Int} (ha : Word a) (hb : Word b) : Word (btV a b) := by unfold Word at *; unfold btV; split <;> omega
theorem between_any (a b : Int) (ha : Word a) (hb : Word b) (w : World) :
    Calls Tryd.prog 31 #[.int .u64 a, .int .u64 b] w fun e w' => e = .returned (.tuple #[.int .u64 (btV a b), .bool (btB a b)]) ∧ w = w' := by
  obtain ⟨h0, h1⟩ := ha; obtain ⟨h2, h3⟩ := hb
  go_enter Tryd.func31, Tryd.ntmps31
  go_wp2
  · have hc : b ≤ a := by assumption
    go_ret2
    exact ⟨ret_ib (by unfold btV; rw [if_neg (by omega)]) (by unfold btB; simp; omega), rfl⟩
  · have hc : a < b := by assumption
    go_ret2
    exact ⟨ret_ib (by unfold btV; rw [if_pos hc]) (by unfold btB; simp; omega), rfl⟩
/-! ### Sums of counts, widths -/
theorem rmax_any (w : World) : Calls Tryd.prog 78 #[] w fun e w' => e = .returned (.int .u64 18446744073709551615) ∧ w = w' := by
  go_enter Tryd.func78, Tryd.ntmps78
  go_wp2
  go_ret
  exact ⟨rfl, rfl⟩
theorem plus_hi_c {ah al bh bl : Int} (h : (al + bl) % 18446744073709551616 < al) (h2 : Word al) (h4 : Word bl) :
    ((ah + bh) % 18446744073709551616 + 1) % 18446744073709551616 = hi64 (val ah al + val bh bl) := by unfold Word at h2 h4; unfold hi64 val; omega
theorem plus_hi_n {ah al bh bl : Int} (h : al ≤ (al + bl) % 18446744073709551616) (h2 : Word al) (h4 : Word bl) :
    (ah + bh) % 18446744073709551616 = hi64 (val ah al + val bh bl) := by unfold Word at h2 h4; unfold hi64 val; omega
theorem plus_lo {ah al bh bl : Int} : (al + bl) % 18446744073709551616 = lo64 (val ah al + val bh bl) := by unfold lo64 val; omega
theorem plus_any (ah al bh bl : Int) (h1 : Word ah) (h2 : Word al) (h3 : Word bh) (h4 : Word bl) (w : World) :
    Calls Tryd.prog 88 #[.agg #[.int .u64 ah, .int .u64 al], .agg #[.int .u64 bh, .int .u64 bl]] w fun e w' =>
      e = .returned (.agg #[.int .u64 (hi64 (val ah al + val bh bl)), .int .u64 (lo64 (val ah al + val bh bl))]) ∧ Below w.heap.size w w' := by
  have H2 := h2; have H4 := h4
  obtain ⟨a1, a2⟩ := h1; obtain ⟨b1, b2⟩ := h2; obtain ⟨c1, c2⟩ := h3; obtain ⟨d1, d2⟩ := h4
  go_enter Tryd.func88, Tryd.ntmps88
  go_wp2
  · have hc : IntKind.u64.wrap (al + bl) < al := by assumption
    refine bodyPost_ret (v := .agg #[.int .u64 (IntKind.u64.wrap (IntKind.u64.wrap (ah + bh) + 1)), .int .u64 (IntKind.u64.wrap (al + bl))]) (by simp [results, Tryd.results88, go_sem]) rfl ⟨?_, ?_⟩
    · simp only [IntKind.wrap_u64] at hc ⊢
      exact ret_agg (plus_hi_c hc H2 H4) plus_lo
    · repeat (first | exact Below.refl _ _ | refine bl_alloc ?_ _ | refine bl_drew ?_ | refine bl_set ?_ (by first | (simp; done) | (simp; omega)) _ | refine bl_trans ?_ (by assumption))
  · have hc : al ≤ IntKind.u64.wrap (al + bl) := by assumption
    refine bodyPost_ret (v := .agg #[.int .u64 (IntKind.u64.wrap (ah + bh)), .int .u64 (IntKind.u64.wrap (al + bl))]) (by simp [results, Tryd.results88, go_sem]) rfl ⟨?_, ?_⟩
    · simp only [IntKind.wrap_u64] at hc ⊢
      exact ret_agg (plus_hi_n hc H2 H4) plus_lo
    · repeat (first | exact Below.refl _ _ | refine bl_alloc ?_ _ | refine bl_drew ?_ | refine bl_set ?_ (by first | (simp; done) | (simp; omega)) _ | refine bl_trans ?_ (by assumption))
/-- How many numbers are in an interval. -/
def wd (lo hi : Int) : Int := if lo ≤ hi then hi - lo + 1 else 0
theorem wd_long {lo hi : Int} (a : Word lo) (b : Word hi) : Long (wd lo hi) := by unfold Word at a b; unfold Long wd; split <;> omega
theorem rplus_hi_c {ah al bh bl : Int} (h : 18446744073709551615 - bl < al) (h2 : Word al) (h4 : Word bl) :
    ((ah + bh) % 18446744073709551616 + 1) % 18446744073709551616 = hi64 (val ah al + val bh bl) := by unfold Word at h2 h4; unfold hi64 val; omega
theorem rplus_hi_n {ah al bh bl : Int} (h : al ≤ 18446744073709551615 - bl) (h2 : Word al) (h4 : Word bl) :
    (ah + bh) % 18446744073709551616 = hi64 (val ah al + val bh bl) := by unfold Word at h2 h4; unfold hi64 val; omega
theorem plus_lo0 {ah al bh bl : Int} (h : al ≤ 18446744073709551615 - bl) (h2 : Word al) (h4 : Word bl) : al + bl = lo64 (val ah al + val bh bl) := by unfold Word at h2 h4; unfold lo64 val; omega
/-- The order of two numbers. -/
def cmpI (m n : Int) : Int := if m = n then 0 else if m < n then -1 else 1
/-! ### The same, case by case -/
theorem between_lt (a b : Int) (ha : Word a) (hb : Word b) (h : a < b) (w : World) :
    Calls Tryd.prog 31 #[.int .u64 a, .int .u64 b] w fun e w' => e = .returned (.tuple #[.int .u64 (b - a - 1), .bool true]) ∧ w = w' :=
  (between_any a b ha hb w).mono fun _ _ ⟨he, hw⟩ => ⟨he.trans (ret_ib (by unfold btV; rw [if_pos h]) (by unfold btB; simp; omega)), hw⟩
theorem between_ge (a b : Int) (ha : Word a) (hb : Word b) (h : b ≤ a) (w : World) :
    Calls Tryd.prog 31 #[.int .u64 a, .int .u64 b] w fun e w' => e = .returned (.tuple #[.int .u64 0, .bool false]) ∧ w = w' :=
  (between_any a b ha hb w).mono fun _ _ ⟨he, hw⟩ => ⟨he.trans (ret_ib (by unfold btV; rw [if_neg (by omega)]) (by unfold btB; simp; omega)), hw⟩
end Go.Proofs.YtbphphmjhcehkaaDoor
