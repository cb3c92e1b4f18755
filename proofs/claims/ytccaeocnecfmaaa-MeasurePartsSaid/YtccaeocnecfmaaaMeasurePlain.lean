/- Plain laws on ranks in a correct list. No program in sight. -/
import Derived.Test.YtccaeocnecfmaaaMeasureRef
import Derived.Test.YtccaeocnecfmaaaMeasureSmall
namespace Go.Proofs.Ytccaeocnecfmaaa
open Go.RowKit

theorem cor_lt {zs : List Iv} {len : Nat} (hc : CorTo zs len) (j : Nat) : ∀ d, j + d + 1 < len → Hi zs j + 1 < Lo zs (j + d + 1) := by
  intro d
  induction d with
  | zero => intro h; have := (hc (j + 1) h).2 (by omega); simpa using this
  | succ d ih =>
    intro h
    have h1 := ih (by omega)
    have h2 := (hc (j + d + 1) (by omega)).1
    have h3 := (hc (j + (d + 1) + 1) h).2 (by omega)
    simp only [Nat.add_sub_cancel] at h3
    rw [show j + (d + 1) = j + d + 1 by omega] at h3
    rw [show j + (d + 1) + 1 = j + d + 1 + 1 by omega]
    omega
theorem cor_lt' {zs : List Iv} {len : Nat} (hc : CorTo zs len) {j k : Nat} (h : j < k) (hk : k < len) : Hi zs j + 1 < Lo zs k := by
  have := cor_lt hc j (k - j - 1) (by omega)
  rwa [show j + (k - j - 1) + 1 = k by omega] at this
theorem outK_succ (zs : List Iv) (x : Int) (k : Nat) : outK zs x (k + 1) = cntTo zs k + wd (Lo zs k) (if x - 1 < Hi zs k then x - 1 else Hi zs k) := rfl
/-- A number at the beginning of interval m, or behind all intervals in front of it by 1 at least: all of these are counted whole. -/
theorem outK_whole {zs : List Iv} {x : Int} {m : Nat} (h : ∀ k, k + 1 = m → Hi zs k < x) : outK zs x m = cntTo zs m := by
  cases m with
  | zero => rfl
  | succ k =>
    rw [outK_succ, if_neg (by have := h k rfl; omega)]
    rfl
theorem wd_le {lo hi : Int} (h : lo ≤ hi) : wd lo hi = hi - lo + 1 := by unfold wd; rw [if_pos h]

theorem rank_at {zs : List Iv} {len m : Nat} {rk : Int} (hc : CorTo zs len) (h0 : 0 ≤ rk) (hm : At zs rk len m) (hl : m < len) :
    ∃ m', Stop zs (Lo zs m + (rk - cntTo zs m)) len m' ∧ outK zs (Lo zs m + (rk - cntTo zs m)) m' = rk := by
  have b := hm.base h0 (Nat.le_refl m)
  have n := hm.at' hl
  have s := cnt_succ hc hl
  have hlh := (hc m hl).1
  by_cases e : rk = cntTo zs m
  · refine ⟨m, ⟨by omega, fun k hk => ?_, fun _ => by omega⟩, ?_⟩
    · have := cor_lt' hc hk hl; have := (hc k (by omega)).1; omega
    · rw [outK_whole (fun k hk => by have := cor_lt' hc (show k < m by omega) hl; omega)]; exact e.symm
  · refine ⟨m + 1, ⟨by omega, fun k hk => ?_, fun h => ?_⟩, ?_⟩
    · by_cases ek : k = m
      · subst ek; omega
      · have := cor_lt' hc (show k < m by omega) hl; have := (hc k (by omega)).1; omega
    · have := cor_lt' hc (show m < m + 1 by omega) h; omega
    · rw [outK_succ, if_pos (by omega), wd_le (by omega)]; omega

theorem fval_in {zs : List Iv} {len m : Nat} {rk : Int} (hc : CorTo zs len) (hz : zs.length = len) (h0 : 0 ≤ rk) (hm : At zs rk len m) (hl : m < len) : hasL zs (Lo zs m + (rk - cntTo zs m)) = true := by
  have b := hm.base h0 (Nat.le_refl m)
  have n := hm.at' hl
  have s := cnt_succ hc hl
  refine hasL_yes (k := m) (by omega) ?_
  unfold hasI
  simp only [decide_eq_true_eq]
  omega

/-- The rank of the next number is greater by 1 if the number is in the list, else the same. -/
theorem rank_rises {zs : List Iv} {len m : Nat} {x : Int} (hc : CorTo zs len) (hz : zs.length = len) (hm : Stop zs x len m) :
    ∃ m', Stop zs (x + 1) len m' ∧ ((hasL zs x = true ∧ outK zs (x + 1) m' = outK zs x m + 1) ∨ (hasL zs x = false ∧ outK zs (x + 1) m' = outK zs x m)) := by
  have hle := hm.le
  by_cases hA : m < len ∧ Lo zs m = x
  · obtain ⟨hl, ex⟩ := hA
    have hlh := (hc m hl).1
    refine ⟨m + 1, ⟨by omega, fun k hk => ?_, fun h => ?_⟩, .inl ⟨hasL_yes (k := m) (by omega) (by unfold hasI; simp only [decide_eq_true_eq]; omega), ?_⟩⟩
    · by_cases ek : k = m
      · subst ek; omega
      · have := hm.before k (by omega); omega
    · have := cor_lt' hc (show m < m + 1 by omega) h; omega
    · rw [outK_whole (m := m) (fun k hk => by have := cor_lt' hc (show k < m by omega) hl; omega), outK_succ]
      have e : (if x + 1 - 1 < Hi zs m then x + 1 - 1 else Hi zs m) = x := by split <;> omega
      rw [e, wd_le (by omega)]; omega
  · have hS : Stop zs (x + 1) len m := ⟨hle, fun k hk => by have := hm.before k hk; omega, fun h => by have := hm.at' h; have : ¬ Lo zs m = x := fun e => hA ⟨h, e⟩; omega⟩
    have far : ∀ j, m ≤ j → j < len → x < Lo zs j := by
      intro j hj hjl
      have h1 := hS.at' (by omega)
      by_cases e : j = m
      · subst e; omega
      · have := cor_lt' hc (show m < j by omega) hjl; have := (hc m (by omega)).1; omega
    refine ⟨m, hS, ?_⟩
    cases m with
    | zero =>
      refine .inr ⟨hasL_no fun i hi => ?_, rfl⟩
      unfold hasI; simp only [decide_eq_false_iff_not]; have := far i (by omega) (by omega); omega
    | succ k =>
      have hk := hm.before k (by omega)
      have hlh := (hc k (by omega)).1
      rw [outK_succ, outK_succ]
      by_cases hx : x ≤ Hi zs k
      · refine .inl ⟨hasL_yes (k := k) (by omega) (by unfold hasI; simp only [decide_eq_true_eq]; omega), ?_⟩
        have e : (if x + 1 - 1 < Hi zs k then x + 1 - 1 else Hi zs k) = x := by split <;> omega
        rw [e, if_pos (by omega), wd_le (by omega), wd_le (by omega)]; omega
      · refine .inr ⟨hasL_no fun i hi => ?_, ?_⟩
        · unfold hasI; simp only [decide_eq_false_iff_not]
          by_cases h1 : i = k
          · subst h1; omega
          · by_cases h2 : i < k
            · have := cor_lt' hc h2 (by omega); omega
            · have := far i (by omega) (by omega); omega
        · rw [if_neg (by omega), if_neg (by omega)]
end Go.Proofs.Ytccaeocnecfmaaa
