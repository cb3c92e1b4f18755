/- Plain law: the two parts of a list have its numbers, and the first part's lie before the second's. -/
import Derived.Test.YtccaeocnecfmaaaSplitPlain
namespace Go.Proofs.Ytccaeocnecfmaaa
open Go.RowKit

/-- How many numbers are in a list. -/
def cntL : List Iv → Int
  | [] => 0
  | z :: zs => wd z.1 z.2 + cntL zs
theorem cntL_append (xs ys : List Iv) : cntL (xs ++ ys) = cntL xs + cntL ys := by
  induction xs with
  | nil => simp [cntL]
  | cons z xs ih => simp only [List.cons_append, cntL, ih]; omega
theorem cntTo_take (zs : List Iv) : ∀ k, k ≤ zs.length → cntTo zs k = cntL (zs.take k) := by
  intro k
  induction k with
  | zero => intro _; rfl
  | succ k ih =>
    intro hk
    rw [take_iv (by omega), cntL_append, ← ih (by omega)]
    simp [cntTo, cntL]
theorem cntTo_all (zs : List Iv) : cntTo zs zs.length = cntL zs := by
  rw [cntTo_take zs _ (Nat.le_refl _), List.take_length]
theorem wd_nonneg (lo hi : Int) : 0 ≤ wd lo hi := by unfold wd; split <;> omega
theorem cntTo_mono (zs : List Iv) (k : Nat) : ∀ d, cntTo zs k ≤ cntTo zs (k + d) := by
  intro d
  induction d with
  | zero => exact Int.le_refl _
  | succ d ih =>
    have := wd_nonneg (Lo zs (k + d)) (Hi zs (k + d))
    show cntTo zs k ≤ cntTo zs (k + d) + wd (Lo zs (k + d)) (Hi zs (k + d))
    omega

/-- The counts of the parts. -/
theorem parts_cnt {zs : List Iv} {len m : Nat} {x : Int} (hc : CorTo zs len) (hz : zs.length = len) (h0 : 0 ≤ x) (hm : At zs x len m) :
    cntL (loS zs (fVal zs x len m) m) + cntL (hiS zs (fVal zs x len m) m) = cntL zs := by
  by_cases hl : m < len
  · obtain ⟨v1, v2⟩ := fval_between hc h0 hm hl
    have hk : m < zs.length := by omega
    have e0 : cntL zs = cntL (zs.take m) + cntL (zs.drop m) := by rw [← cntL_append, List.take_append_drop]
    unfold loS hiS
    by_cases h : Lo zs m < fVal zs x len m
    · rw [if_pos ⟨hk, h⟩, if_pos ⟨hk, h⟩, e0, drop_iv hk, cntL_append]
      simp only [cntL]
      unfold wd
      rw [if_pos (by omega), if_pos (by omega), if_pos (by omega)]
      omega
    · rw [if_neg (fun k => h k.2), if_neg (fun k => h k.2), e0]
  · obtain rfl : m = len := by have := hm.le; omega
    unfold loS hiS
    rw [if_neg (by omega), if_neg (by omega), ← hz]
    simp [cntL]
theorem lo_snoc (zs : List Iv) (z : Iv) : Hi (zs ++ [z]) ((zs ++ [z]).length - 1) = z.2 := by
  unfold Hi
  rw [getD_snoc]
  simp
theorem hi_take {zs : List Iv} {m : Nat} (h0 : 0 < m) (hm : m ≤ zs.length) : Hi (zs.take m) ((zs.take m).length - 1) = Hi zs (m - 1) := by
  unfold Hi
  rw [List.length_take, Nat.min_eq_left hm]
  simp only [List.getD_eq_getElem?_getD]
  rw [List.getElem?_take_of_lt (by omega)]
theorem lo_drop {zs : List Iv} {m : Nat} : Lo (zs.drop m) 0 = Lo zs m := by
  unfold Lo
  simp [List.getD_eq_getElem?_getD, List.getElem?_drop]
/-- All numbers of the first part are less than those of the second one. -/
theorem parts_lt {zs : List Iv} {len m : Nat} {x : Int} (hc : CorTo zs len) (hz : zs.length = len) (h0 : 0 ≤ x) (hm : At zs x len m) (hl : m < len)
    (hA : 0 < (loS zs (fVal zs x len m) m).length) : Hi (loS zs (fVal zs x len m) m) ((loS zs (fVal zs x len m) m).length - 1) < Lo (hiS zs (fVal zs x len m) m) 0 := by
  obtain ⟨v1, v2⟩ := fval_between hc h0 hm hl
  have hk : m < zs.length := by omega
  unfold loS hiS at *
  by_cases h : Lo zs m < fVal zs x len m
  · rw [if_pos ⟨hk, h⟩, if_pos ⟨hk, h⟩, lo_snoc]
    show fVal zs x len m - 1 < fVal zs x len m
    omega
  · rw [if_neg (fun k => h k.2)] at hA
    rw [if_neg (fun k => h k.2), if_neg (fun k => h k.2)]
    have hm0 : 0 < m := by
      rw [List.length_take] at hA
      omega
    rw [hi_take hm0 (by omega), lo_drop]
    have := cor_lt' hc (show m - 1 < m by omega) hl
    omega
/-- The second part has a number exactly if the list has more numbers than asked for. -/
theorem parts_is {zs : List Iv} {len m : Nat} {x : Int} (hz : zs.length = len) (h0 : 0 ≤ x) (hm : At zs x len m) :
    (0 < (hiS zs (fVal zs x len m) m).length ↔ m < len) ∧ (m < len ↔ x < cntTo zs len) := by
  refine ⟨?_, ?_, ?_⟩
  · unfold hiS
    split
    · next h => simp; omega
    · simp; omega
  · intro hl
    have h1 := hm.at' hl
    have := cntTo_mono zs (m + 1) (len - (m + 1))
    rw [show m + 1 + (len - (m + 1)) = len by omega] at this
    omega
  · intro hx
    rcases Nat.lt_or_ge m len with h | h
    · exact h
    · have hml := hm.le
      obtain rfl : m = len := by omega
      rcases Nat.eq_zero_or_pos m with e | e
      · subst e
        simp [cntTo] at hx
        omega
      · have := hm.before (m - 1) (by omega)
        rw [show m - 1 + 1 = m by omega] at this
        omega
end Go.Proofs.Ytccaeocnecfmaaa
