/- Plain law: the lists of measure.Split are those of the reference. -/
import Derived.Test.YtccaeocnecfmaaaMeasureRefSplit
import Derived.Test.YtccaeocnecfmaaaMeasurePlain
namespace Go.Proofs.Ytccaeocnecfmaaa
open Go.RowKit

/-- The parts of a list at the number x, which is in its interval m, or at its end. -/
def loS (zs : List Iv) (x : Int) (m : Nat) : List Iv := if m < zs.length ∧ Lo zs m < x then zs.take m ++ [(Lo zs m, x - 1)] else zs.take m
def hiS (zs : List Iv) (x : Int) (m : Nat) : List Iv := if m < zs.length ∧ Lo zs m < x then (x, Hi zs m) :: zs.drop (m + 1) else zs.drop m

theorem iv_at {zs : List Iv} {k : Nat} (h : k < zs.length) : zs[k] = (Lo zs k, Hi zs k) := by
  unfold Lo Hi
  simp [List.getD, List.getElem?_eq_getElem h]
theorem take_iv {zs : List Iv} {k : Nat} (h : k < zs.length) : zs.take (k + 1) = zs.take k ++ [(Lo zs k, Hi zs k)] := by
  rw [List.take_succ_eq_append_getElem h, iv_at h]
theorem drop_iv {zs : List Iv} {k : Nat} (h : k < zs.length) : zs.drop k = (Lo zs k, Hi zs k) :: zs.drop (k + 1) := by
  rw [List.drop_eq_getElem_cons h, iv_at h]

theorem lowT_take {zs : List Iv} {x : Int} {m : Nat} (hm : m ≤ zs.length) (h : ∀ k, k < m → Hi zs k < x) : ∀ k, k ≤ m → lowT zs x k = zs.take k := by
  intro k
  induction k with
  | zero => intro _; rfl
  | succ k ih =>
    intro hk
    rw [take_iv (by omega), ← ih (by omega)]
    show lowT zs x k ++ lowP x (Lo zs k, Hi zs k) = _
    unfold lowP
    rw [if_pos (h k (by omega))]
theorem highT_nil {zs : List Iv} {x : Int} {m : Nat} (h : ∀ k, k < m → Hi zs k < x) : ∀ k, k ≤ m → highT zs x k = [] := by
  intro k
  induction k with
  | zero => intro _; rfl
  | succ k ih =>
    intro hk
    show highT zs x k ++ highP x (Lo zs k, Hi zs k) = _
    unfold highP
    rw [if_pos (h k (by omega)), ih (by omega)]
    rfl

theorem split_lists {zs : List Iv} {len m : Nat} {x : Int} (hc : CorTo zs len) (hz : zs.length = len) (hl : m < len) (h1 : Lo zs m ≤ x) (h2 : x ≤ Hi zs m) :
    lowT zs x len = loS zs x m ∧ highT zs x len = hiS zs x m := by
  have hb : ∀ k, k < m → Hi zs k < x := fun k hk => by have := cor_lt' hc hk hl; omega
  have ha : ∀ k, m < k → k < len → x < Lo zs k := fun k hk hl' => by have := cor_lt' hc hk hl'; omega
  have both : ∀ d, m + 1 + d ≤ len → lowT zs x (m + 1 + d) = loS zs x m ∧ highT zs x (m + 1 + d) = (if Lo zs m < x then (x, Hi zs m) else (Lo zs m, Hi zs m)) :: (zs.drop (m + 1)).take d := by
    intro d
    induction d with
    | zero =>
      intro _
      refine ⟨?_, ?_⟩
      · show lowT zs x m ++ lowP x (Lo zs m, Hi zs m) = _
        rw [lowT_take (by omega) hb m (Nat.le_refl m)]
        unfold lowP loS
        rw [if_neg (by simp; omega)]
        by_cases e : Lo zs m < x
        · rw [if_neg (by simp; omega), if_pos ⟨by omega, e⟩]
        · rw [if_pos (by simp; omega), if_neg (by intro h; exact e h.2), List.append_nil]
      · show highT zs x m ++ highP x (Lo zs m, Hi zs m) = _
        rw [highT_nil hb m (Nat.le_refl m)]
        unfold highP
        rw [if_neg (by simp; omega)]
        by_cases e : Lo zs m < x
        · rw [if_neg (by simp; omega), if_pos e]; simp
        · rw [if_pos (by simp; omega), if_neg e]; simp
    | succ d ih =>
      intro hd
      obtain ⟨i1, i2⟩ := ih (by omega)
      have hx := ha (m + 1 + d) (by omega) (by omega)
      have hlh := (hc (m + 1 + d) (by omega)).1
      have hk : m + 1 + d < zs.length := by omega
      have ed : (zs.drop (m + 1)).take (d + 1) = (zs.drop (m + 1)).take d ++ [(Lo zs (m + 1 + d), Hi zs (m + 1 + d))] := by
        rw [List.take_succ_eq_append_getElem (by simp; omega), List.getElem_drop, iv_at hk]
      refine ⟨?_, ?_⟩
      · show lowT zs x (m + 1 + d) ++ lowP x (Lo zs (m + 1 + d), Hi zs (m + 1 + d)) = _
        rw [i1]
        unfold lowP
        rw [if_neg (by simp; omega), if_pos (by simp; omega), List.append_nil]
      · show highT zs x (m + 1 + d) ++ highP x (Lo zs (m + 1 + d), Hi zs (m + 1 + d)) = _
        have e1 : highP x (Lo zs (m + 1 + d), Hi zs (m + 1 + d)) = [(Lo zs (m + 1 + d), Hi zs (m + 1 + d))] := by
          unfold highP
          rw [if_neg (by simp; omega), if_pos (by simp; omega)]
        rw [i2, ed, e1]
        rfl
  obtain ⟨r1, r2⟩ := both (len - (m + 1)) (by omega)
  rw [show m + 1 + (len - (m + 1)) = len by omega] at r1 r2
  refine ⟨r1, r2.trans ?_⟩
  rw [List.take_of_length_le (by simp; omega)]
  unfold hiS
  by_cases e : Lo zs m < x
  · rw [if_pos e, if_pos ⟨by omega, e⟩]
  · rw [if_neg e, if_neg (by intro h; exact e h.2), drop_iv (show m < zs.length by omega)]
theorem fval_between {zs : List Iv} {len m : Nat} {rk : Int} (hc : CorTo zs len) (h0 : 0 ≤ rk) (hm : At zs rk len m) (hl : m < len) : Lo zs m ≤ fVal zs rk len m ∧ fVal zs rk len m ≤ Hi zs m := by
  have b := hm.base h0 (Nat.le_refl m)
  have n := hm.at' hl
  have s := cnt_succ hc hl
  unfold fVal
  rw [if_pos hl]
  omega
end Go.Proofs.Ytccaeocnecfmaaa
