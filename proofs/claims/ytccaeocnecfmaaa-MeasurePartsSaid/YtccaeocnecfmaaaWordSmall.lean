/- Contracts of the small functions of the packages word and kenningref02: neighbours, differences, widths, sums and comparisons, for all words. -/
import Derived.Test.YtccaeocnecfmaaaBase
namespace Go.Proofs.Ytccaeocnecfmaaa
open Go.RowKit

/-! ### Neighbours -/
def nextV (x : Int) : Int := lo64 (x + 1)
def nextB (x : Int) : Bool := decide (x + 1 < 18446744073709551616)
def prevV (x : Int) : Int := if x = 0 then 0 else x - 1
def prevB (x : Int) : Bool := decide (0 < x)
theorem word_next (x : Int) : Word (nextV x) := word_lo _
theorem word_prev {x : Int} (h : Word x) : Word (prevV x) := by unfold Word at *; unfold prevV; split <;> omega
theorem prev_any (x : Int) (h : Word x) (w : World) :
    Calls Try.prog 30 #[.int .u64 x] w fun e w' => e = .returned (.tuple #[.int .u64 (prevV x), .bool (prevB x)]) ∧ w = w' := by
  obtain ⟨h0, h1⟩ := h
  by_cases hx : x = 0
  · subst hx
    go_enter Try.func30, Try.ntmps30
    go_wp2
    go_ret2
    exact ⟨ret_ib rfl rfl, rfl⟩
  · have hp : 1 ≤ x := by omega
    clear hx
    go_enter Try.func30, Try.ntmps30
    go_wp2
    go_ret2
    exact ⟨ret_ib (by unfold prevV; rw [if_neg (by omega)]) (by unfold prevB; simp; omega), rfl⟩
/-! ### Differences -/
def btV (a b : Int) : Int := if a < b then b - a - 1 else 0
def btB (a b : Int) : Bool := decide (a < b)
theorem word_bt {a b : Int} (ha : Word a) (hb : Word b) : Word (btV a b) := by unfold Word at *; unfold btV; split <;> omega
/-! ### Sums of counts, widths -/
theorem rmax_any (w : World) : Calls Try.prog 35 #[] w fun e w' => e = .returned (.int .u64 18446744073709551615) ∧ w = w' := by
  go_enter Try.func35, Try.ntmps35
  go_wp2
  go_ret
  exact ⟨rfl, rfl⟩
theorem plus_hi_c {ah al bh bl : Int} (h : (al + bl) % 18446744073709551616 < al) (h2 : Word al) (h4 : Word bl) :
    ((ah + bh) % 18446744073709551616 + 1) % 18446744073709551616 = hi64 (val ah al + val bh bl) := by unfold Word at h2 h4; unfold hi64 val; omega
theorem plus_hi_n {ah al bh bl : Int} (h : al ≤ (al + bl) % 18446744073709551616) (h2 : Word al) (h4 : Word bl) :
    (ah + bh) % 18446744073709551616 = hi64 (val ah al + val bh bl) := by unfold Word at h2 h4; unfold hi64 val; omega
theorem plus_lo {ah al bh bl : Int} : (al + bl) % 18446744073709551616 = lo64 (val ah al + val bh bl) := by unfold lo64 val; omega
theorem plus_any (ah al bh bl : Int) (h1 : Word ah) (h2 : Word al) (h3 : Word bh) (h4 : Word bl) (w : World) :
    Calls Try.prog 17 #[.agg #[.int .u64 ah, .int .u64 al], .agg #[.int .u64 bh, .int .u64 bl]] w fun e w' =>
      e = .returned (.agg #[.int .u64 (hi64 (val ah al + val bh bl)), .int .u64 (lo64 (val ah al + val bh bl))]) ∧ Below w.heap.size w w' := by
  have H2 := h2; have H4 := h4
  obtain ⟨a1, a2⟩ := h1; obtain ⟨b1, b2⟩ := h2; obtain ⟨c1, c2⟩ := h3; obtain ⟨d1, d2⟩ := h4
  go_enter Try.func17, Try.ntmps17
  go_wp2
  · have hc : IntKind.u64.wrap (al + bl) < al := by assumption
    refine bodyPost_ret (v := .agg #[.int .u64 (IntKind.u64.wrap (IntKind.u64.wrap (ah + bh) + 1)), .int .u64 (IntKind.u64.wrap (al + bl))]) (by simp [results, Try.results17, go_sem]) rfl ⟨?_, ?_⟩
    · simp only [IntKind.wrap_u64] at hc ⊢
      exact ret_agg (plus_hi_c hc H2 H4) plus_lo
    · repeat (first | exact Below.refl _ _ | refine bl_alloc ?_ _ | refine bl_drew ?_ | refine bl_set ?_ (by first | (simp; done) | (simp; omega)) _ | refine bl_trans ?_ (by assumption))
  · have hc : al ≤ IntKind.u64.wrap (al + bl) := by assumption
    refine bodyPost_ret (v := .agg #[.int .u64 (IntKind.u64.wrap (ah + bh)), .int .u64 (IntKind.u64.wrap (al + bl))]) (by simp [results, Try.results17, go_sem]) rfl ⟨?_, ?_⟩
    · simp only [IntKind.wrap_u64] at hc ⊢
      exact ret_agg (plus_hi_n hc H2 H4) plus_lo
    · repeat (first | exact Below.refl _ _ | refine bl_alloc ?_ _ | refine bl_drew ?_ | refine bl_set ?_ (by first | (simp; done) | (simp; omega)) _ | refine bl_trans ?_ (by assumption))
/-- How many numbers are in an interval. -/
def wd (lo hi : Int) : Int := if lo ≤ hi then hi - lo + 1 else 0
theorem wd_long {lo hi : Int} (a : Word lo) (b : Word hi) : Long (wd lo hi) := by unfold Word at a b; unfold Long wd; split <;> omega
theorem width_any (lo hi : Int) (h1 : Word lo) (h2 : Word hi) (w : World) :
    Calls Try.prog 29 #[.int .u64 lo, .int .u64 hi] w fun e w' => e = .returned (.agg #[.int .u64 (hi64 (wd lo hi)), .int .u64 (lo64 (wd lo hi))]) ∧ Below w.heap.size w w' := by
  by_cases h : hi < lo
  · have e : Hid (wd lo hi = 0) := by unfold Hid wd; rw [if_neg (by omega)]
    obtain ⟨a1, a2⟩ := h1; obtain ⟨b1, b2⟩ := h2
    go_enter Try.func29, Try.ntmps29
    go_wp2
    refine bodyPost_ret (v := .agg #[.int .u64 0, .int .u64 0]) (by simp [results, Try.results29, go_sem]) rfl ⟨?_, ?_⟩
    · rw [e.out]; rfl
    · repeat (first | exact Below.refl _ _ | refine bl_alloc ?_ _ | refine bl_drew ?_ | refine bl_set ?_ (by first | (simp; done) | (simp; omega)) _ | refine bl_trans ?_ (by assumption))
  · have e : Hid (val 0 (hi - lo) + val 0 1 = wd lo hi) := by unfold Hid wd val; rw [if_pos (by omega)]; omega
    have hle : lo ≤ hi := by omega
    have wd1 : Word (hi - lo) := by unfold Word at *; omega
    clear h
    obtain ⟨a1, a2⟩ := h1; obtain ⟨b1, b2⟩ := h2
    go_enter Try.func29, Try.ntmps29
    go_wp2_with (go_at_call 17; refine (plus_any 0 (hi - lo) 0 1 ⟨by decide, by decide⟩ wd1 ⟨by decide, by decide⟩ ⟨by decide, by decide⟩ _).mono ?_; rintro e w1 ⟨rfl, hb⟩; obtain ⟨hc, hf⟩ := bcell hb; have hz := hb.size)
    refine bodyPost_ret (v := .agg #[.int .u64 (hi64 (val 0 (hi - lo) + val 0 1)), .int .u64 (lo64 (val 0 (hi - lo) + val 0 1))]) (by simp [results, Try.results29, go_sem, hc]) rfl ⟨by rw [e.out], ?_⟩
    repeat (first | exact Below.refl _ _ | refine bl_alloc ?_ _ | refine bl_drew ?_ | refine bl_set ?_ (by first | (simp; done) | (simp; omega)) _ | refine bl_trans ?_ (by assumption))
theorem rwidth_any (lo hi : Int) (h1 : Word lo) (h2 : Word hi) (w : World) :
    Calls Try.prog 26 #[.int .u64 lo, .int .u64 hi] w fun e w' => e = .returned (.tuple #[.int .u64 (hi64 (wd lo hi)), .int .u64 (lo64 (wd lo hi))]) ∧ w = w' := by
  by_cases h : hi < lo
  · have e : Hid (wd lo hi = 0) := by unfold Hid wd; rw [if_neg (by omega)]
    obtain ⟨a1, a2⟩ := h1; obtain ⟨b1, b2⟩ := h2
    go_enter Try.func26, Try.ntmps26
    go_wp2
    go_ret2
    exact ⟨by rw [e.out]; rfl, rfl⟩
  · have hle : lo ≤ hi := by omega
    clear h
    obtain ⟨a1, a2⟩ := h1; obtain ⟨b1, b2⟩ := h2
    by_cases h0 : lo = 0
    · subst h0
      by_cases h3 : hi = 18446744073709551615
      · subst h3
        have e : Hid (wd 0 18446744073709551615 = 18446744073709551616) := by unfold Hid wd; decide
        go_enter Try.func26, Try.ntmps26
        go_wp2_with (go_at_call 35; refine (rmax_any _).mono ?_; rintro e w1 ⟨rfl, rfl⟩)
        go_ret2
        exact ⟨by rw [e.out]; rfl, rfl⟩
      · have hlt : hi < 18446744073709551615 := by omega
        have hne : (hi == 18446744073709551615) = false := by simp; omega
        have e : Hid (wd 0 hi = hi + 1) := by unfold Hid wd; rw [if_pos (by omega)]; omega
        have hw : Hid (Word (hi + 1)) := by unfold Hid Word; omega
        clear h3
        go_enter Try.func26, Try.ntmps26
        go_wp2_with (go_at_call 35; refine (rmax_any _).mono ?_; rintro e w1 ⟨rfl, rfl⟩)
        go_ret2
        exact ⟨by rw [e.out]; exact ret_two (hi_word hw.out).symm (by rw [lo_word hw.out]), rfl⟩
    · have hlt : 0 < lo := by omega
      have hne : (lo == 0) = false := by simp; omega
      have e : Hid (wd lo hi = hi - lo + 1) := by unfold Hid wd; rw [if_pos (by omega)]
      have hw : Hid (Word (hi - lo + 1)) := by unfold Hid Word; omega
      clear h0
      go_enter Try.func26, Try.ntmps26
      go_wp2
      go_ret2
      exact ⟨by rw [e.out]; exact ret_two (hi_word hw.out).symm (by rw [lo_word hw.out]), rfl⟩
theorem rplus_hi_c {ah al bh bl : Int} (h : 18446744073709551615 - bl < al) (h2 : Word al) (h4 : Word bl) :
    ((ah + bh) % 18446744073709551616 + 1) % 18446744073709551616 = hi64 (val ah al + val bh bl) := by unfold Word at h2 h4; unfold hi64 val; omega
theorem rplus_hi_n {ah al bh bl : Int} (h : al ≤ 18446744073709551615 - bl) (h2 : Word al) (h4 : Word bl) :
    (ah + bh) % 18446744073709551616 = hi64 (val ah al + val bh bl) := by unfold Word at h2 h4; unfold hi64 val; omega
theorem plus_lo0 {ah al bh bl : Int} (h : al ≤ 18446744073709551615 - bl) (h2 : Word al) (h4 : Word bl) : al + bl = lo64 (val ah al + val bh bl) := by unfold Word at h2 h4; unfold lo64 val; omega
theorem rplus_any (ah al bh bl : Int) (h1 : Word ah) (h2 : Word al) (h3 : Word bh) (h4 : Word bl) (w : World) :
    Calls Try.prog 27 #[.int .u64 ah, .int .u64 al, .int .u64 bh, .int .u64 bl] w fun e w' =>
      e = .returned (.tuple #[.int .u64 (hi64 (val ah al + val bh bl)), .int .u64 (lo64 (val ah al + val bh bl))]) ∧ w = w' := by
  have H2 := h2; have H4 := h4
  obtain ⟨a1, a2⟩ := h1; obtain ⟨b1, b2⟩ := h2; obtain ⟨c1, c2⟩ := h3; obtain ⟨d1, d2⟩ := h4
  go_enter Try.func27, Try.ntmps27
  go_wp2_with (go_at_call 35; refine (rmax_any _).mono ?_; rintro e w1 ⟨rfl, rfl⟩)
  · have hc : 18446744073709551615 - bl < al := by assumption
    go_ret2
    exact ⟨ret_two (by simp only [IntKind.wrap_u64]; exact rplus_hi_c hc H2 H4) (by simp only [IntKind.wrap_u64]; exact plus_lo), rfl⟩
  · have hc : al ≤ 18446744073709551615 - bl := by assumption
    go_ret2
    exact ⟨ret_two (by simp only [IntKind.wrap_u64]; exact rplus_hi_n hc H2 H4) (plus_lo0 hc H2 H4), rfl⟩
/-- The order of two numbers. -/
def cmpI (m n : Int) : Int := if m = n then 0 else if m < n then -1 else 1
theorem compare_any (ah al bh bl : Int) (h1 : Word ah) (h2 : Word al) (h3 : Word bh) (h4 : Word bl) (w : World) :
    Calls Try.prog 24 #[.agg #[.int .u64 ah, .int .u64 al], .agg #[.int .u64 bh, .int .u64 bl]] w fun e w' => e = .returned (.int .i64 (cmpI (val ah al) (val bh bl))) ∧ Below w.heap.size w w' := by
  obtain ⟨a1, a2⟩ := h1; obtain ⟨b1, b2⟩ := h2; obtain ⟨c1, c2⟩ := h3; obtain ⟨d1, d2⟩ := h4
  go_enter Try.func24, Try.ntmps24
  go_wp2
  all_goals go_ret
  all_goals (refine ⟨ret_int ?_, ?_⟩)
  all_goals first
    | (unfold cmpI val; simp_all; done)
    | (unfold cmpI val; split <;> (try split) <;> omega)
    | (repeat (first | exact Below.refl _ _ | refine bl_alloc ?_ _ | refine bl_drew ?_ | refine bl_set ?_ (by first | (simp; done) | (simp; omega)) _ | refine bl_trans ?_ (by assumption)))
/-! ### The same, case by case -/
theorem prev_pos (x : Int) (h : Word x) (hx : 0 < x) (w : World) :
    Calls Try.prog 30 #[.int .u64 x] w fun e w' => e = .returned (.tuple #[.int .u64 (x - 1), .bool true]) ∧ w = w' :=
  (prev_any x h w).mono fun _ _ ⟨he, hw⟩ => ⟨he.trans (ret_ib (by unfold prevV; rw [if_neg (by omega)]) (by unfold prevB; simp; omega)), hw⟩
theorem prev_zero (w : World) :
    Calls Try.prog 30 #[.int .u64 0] w fun e w' => e = .returned (.tuple #[.int .u64 0, .bool false]) ∧ w = w' :=
  (prev_any _ ⟨by decide, by decide⟩ w).mono fun _ _ ⟨he, hw⟩ => ⟨he.trans (ret_ib (by decide) (by decide)), hw⟩
end Go.Proofs.Ytccaeocnecfmaaa
