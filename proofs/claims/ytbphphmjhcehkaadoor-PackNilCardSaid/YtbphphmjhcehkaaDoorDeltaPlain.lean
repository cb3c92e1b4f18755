/- Plain laws on differences of intervals. No program in sight. -/
import Derived.Test.YtbphphmjhcehkaaDoorIntervals
namespace Go.Proofs.YtbphphmjhcehkaaDoor

/-- The first k intervals are correct and apart by ap. -/
def ApTo (zs : List Iv) (ap : Int) (k : Nat) : Prop := ∀ i, i < k → Lo zs i ≤ Hi zs i ∧ (0 < i → Hi zs (i - 1) < Lo zs i ∧ ap ≤ Lo zs i - Hi zs (i - 1) - 1)
theorem ApTo.zero (zs : List Iv) (ap : Int) : ApTo zs ap 0 := fun i h => absurd h (by omega)
theorem ApTo.succ {zs : List Iv} {ap : Int} {k : Nat} (h : ApTo zs ap k) (h1 : Lo zs k ≤ Hi zs k) (h2 : 0 < k → Hi zs (k - 1) < Lo zs k ∧ ap ≤ Lo zs k - Hi zs (k - 1) - 1) : ApTo zs ap (k + 1) := by
  intro i hi
  by_cases e : i = k
  · subst e; exact ⟨h1, h2⟩
  · exact h i (by omega)
/-- The differences of the first k intervals. -/
def gapD (zs : List Iv) (ap : Int) (i : Nat) : Int := if i = 0 then Lo zs 0 else Lo zs i - Hi zs (i - 1) - 1 - ap
def dif (zs : List Iv) (ap : Int) : Nat → List Int
  | 0 => []
  | k + 1 => dif zs ap k ++ [gapD zs ap k, Hi zs k - Lo zs k]
theorem dif_length (zs : List Iv) (ap : Int) : ∀ k, (dif zs ap k).length = 2 * k := by
  intro k
  induction k with
  | zero => rfl
  | succ k ih => unfold dif; rw [List.length_append, ih]; simp; omega
theorem dif_get (zs : List Iv) (ap : Int) : ∀ k i, i < k → (dif zs ap k).getD (2 * i) 0 = gapD zs ap i ∧ (dif zs ap k).getD (2 * i + 1) 0 = Hi zs i - Lo zs i := by
  intro k
  induction k with
  | zero => intro i h; omega
  | succ k ih =>
    intro i hi
    have hl := dif_length zs ap k
    unfold dif
    by_cases e : i = k
    · subst e
      simp only [List.getD]
      rw [List.getElem?_append_right (by omega), List.getElem?_append_right (by omega), hl]
      rw [show 2 * i - 2 * i = 0 by omega, show 2 * i + 1 - 2 * i = 1 by omega]
      exact ⟨rfl, rfl⟩
    · obtain ⟨a, b⟩ := ih i (by omega)
      simp only [List.getD] at a b ⊢
      rw [List.getElem?_append_left (by omega), List.getElem?_append_left (by omega)]
      exact ⟨a, b⟩

/-- The intervals of differences, as long as they are words. -/
def hiN (ds : List Int) (ap : Int) : Nat → Int
  | 0 => ds.getD 0 0 + ds.getD 1 0
  | j + 1 => hiN ds ap j + 1 + ap + ds.getD (2 * (j + 1)) 0 + ds.getD (2 * (j + 1) + 1) 0
def loN (ds : List Int) (ap : Int) : Nat → Int
  | 0 => ds.getD 0 0
  | j + 1 => hiN ds ap j + 1 + ap + ds.getD (2 * (j + 1)) 0
theorem hiN_eq (ds : List Int) (ap : Int) (j : Nat) : hiN ds ap j = loN ds ap j + ds.getD (2 * j + 1) 0 := by
  cases j <;> rfl
def ivs (ds : List Int) (ap : Int) (j : Nat) : List Iv := (List.range j).map fun i => (loN ds ap i, hiN ds ap i)
theorem ivs_zero (ds : List Int) (ap : Int) : ivs ds ap 0 = [] := rfl
theorem ivs_succ (ds : List Int) (ap : Int) (j : Nat) : ivs ds ap (j + 1) = ivs ds ap j ++ [(loN ds ap j, hiN ds ap j)] := by
  unfold ivs; rw [List.range_succ, List.map_append]; rfl
theorem ivs_length (ds : List Int) (ap : Int) (j : Nat) : (ivs ds ap j).length = j := by simp [ivs]
theorem ivs_lo {ds : List Int} {ap : Int} {j i : Nat} (h : i < j) : Lo (ivs ds ap j) i = loN ds ap i := by simp [Lo, ivs, List.getD, h]
theorem ivs_hi {ds : List Int} {ap : Int} {j i : Nat} (h : i < j) : Hi (ivs ds ap j) i = hiN ds ap i := by simp [Hi, ivs, List.getD, h]
/-- All sums of the first k differences are words. -/
def OkTo (ds : List Int) (ap : Int) (k : Nat) : Prop := (∀ j, 2 * j < k → loN ds ap j < 18446744073709551616) ∧ (∀ j, 2 * j + 1 < k → hiN ds ap j < 18446744073709551616)
theorem OkTo.zero (ds : List Int) (ap : Int) : OkTo ds ap 0 := ⟨fun _ h => absurd h (by omega), fun _ h => absurd h (by omega)⟩
theorem OkTo.lo {ds : List Int} {ap : Int} {j : Nat} (h : OkTo ds ap (2 * j)) (h1 : loN ds ap j < 18446744073709551616) : OkTo ds ap (2 * j + 1) :=
  ⟨fun i hi => by
    by_cases e : i = j
    · subst e; exact h1
    · exact h.1 i (by omega), fun i hi => h.2 i (by omega)⟩
theorem OkTo.hi {ds : List Int} {ap : Int} {j : Nat} (h : OkTo ds ap (2 * j + 1)) (h1 : hiN ds ap j < 18446744073709551616) : OkTo ds ap (2 * j + 2) :=
  ⟨fun i hi => h.1 i (by omega), fun i hi => by
    by_cases e : i = j
    · subst e; exact h1
    · exact h.2 i (by omega)⟩
def SumsOk (ds : List Int) (ap : Int) : Prop := ds.length % 2 = 0 ∧ OkTo ds ap ds.length

/-- The differences of intervals that are apart give the intervals back. -/
theorem lohi_dif {zs : List Iv} {ap : Int} {k : Nat} : ∀ j, j < k → loN (dif zs ap k) ap j = Lo zs j ∧ hiN (dif zs ap k) ap j = Hi zs j := by
  intro j
  induction j with
  | zero =>
    intro h
    obtain ⟨a, b⟩ := dif_get zs ap k 0 h
    rw [hiN_eq]
    have e : loN (dif zs ap k) ap 0 = Lo zs 0 := by
      show (dif zs ap k).getD 0 0 = _
      exact a
    refine ⟨e, ?_⟩
    rw [e, b]; omega
  | succ j ih =>
    intro h
    obtain ⟨_, i2⟩ := ih (by omega)
    obtain ⟨a, b⟩ := dif_get zs ap k (j + 1) h
    have e : loN (dif zs ap k) ap (j + 1) = Lo zs (j + 1) := by
      show hiN (dif zs ap k) ap j + 1 + ap + (dif zs ap k).getD (2 * (j + 1)) 0 = _
      rw [i2, a]
      unfold gapD
      rw [if_neg (by omega), Nat.add_sub_cancel]
      omega
    refine ⟨e, ?_⟩
    rw [hiN_eq, e, b]; omega
theorem iv_ext {xs ys : List Iv} (hl : xs.length = ys.length) (h : ∀ i, i < xs.length → Lo xs i = Lo ys i ∧ Hi xs i = Hi ys i) : xs = ys := by
  refine List.ext_getElem hl fun i h1 h2 => ?_
  obtain ⟨a, b⟩ := h i h1
  unfold Lo at a
  unfold Hi at b
  simp [List.getD, List.getElem?_eq_getElem h1, List.getElem?_eq_getElem h2] at a b
  exact Prod.ext a b
theorem ivs_dif {zs : List Iv} {ap : Int} : ivs (dif zs ap zs.length) ap zs.length = zs := by
  refine iv_ext (ivs_length _ _ _) fun i hi => ?_
  rw [ivs_length] at hi
  obtain ⟨a, b⟩ := lohi_dif (zs := zs) (ap := ap) i hi
  rw [ivs_lo hi, ivs_hi hi]
  exact ⟨a, b⟩
theorem sumsOk_dif {zs : List Iv} {ap : Int} (hw : ∀ i, i < zs.length → Lo zs i < 18446744073709551616 ∧ Hi zs i < 18446744073709551616) : SumsOk (dif zs ap zs.length) ap := by
  have hl := dif_length zs ap zs.length
  refine ⟨by omega, ⟨fun j hj => ?_, fun j hj => ?_⟩⟩
  · obtain ⟨a, _⟩ := lohi_dif (zs := zs) (ap := ap) (k := zs.length) j (by omega)
    rw [a]; exact (hw j (by omega)).1
  · obtain ⟨_, b⟩ := lohi_dif (zs := zs) (ap := ap) (k := zs.length) j (by omega)
    rw [b]; exact (hw j (by omega)).2

/-- The intervals of differences are apart, and have these differences. -/
theorem loN_le {ds : List Int} {ap : Int} (hd : ∀ i, 0 ≤ ds.getD i 0) (j : Nat) : loN ds ap j ≤ hiN ds ap j := by
  rw [hiN_eq]; have := hd (2 * j + 1); omega
theorem apart_ivs {ds : List Int} {ap : Int} (ha : 0 ≤ ap) (hd : ∀ i, 0 ≤ ds.getD i 0) (n : Nat) : ApTo (ivs ds ap n) ap n := by
  intro i hi
  rw [ivs_lo hi, ivs_hi hi]
  refine ⟨loN_le hd i, fun h0 => ?_⟩
  rw [ivs_hi (show i - 1 < n by omega)]
  obtain ⟨i, rfl⟩ : ∃ j, i = j + 1 := ⟨i - 1, by omega⟩
  rw [Nat.add_sub_cancel]
  have e : loN ds ap (i + 1) = hiN ds ap i + 1 + ap + ds.getD (2 * (i + 1)) 0 := rfl
  have := hd (2 * (i + 1))
  rw [e]
  omega
theorem gapD_ivs {ds : List Int} {ap : Int} {n i : Nat} (hi : i < n) : gapD (ivs ds ap n) ap i = ds.getD (2 * i) 0 ∧ Hi (ivs ds ap n) i - Lo (ivs ds ap n) i = ds.getD (2 * i + 1) 0 := by
  refine ⟨?_, by rw [ivs_lo hi, ivs_hi hi, hiN_eq]; omega⟩
  unfold gapD
  cases i with
  | zero => rw [if_pos rfl, ivs_lo hi]; rfl
  | succ i =>
    rw [if_neg (by omega), ivs_lo hi, Nat.add_sub_cancel, ivs_hi (by omega)]
    show hiN ds ap i + 1 + ap + ds.getD (2 * (i + 1)) 0 - hiN ds ap i - 1 - ap = _
    omega
theorem dif_ivs {ds : List Int} {ap : Int} {n : Nat} (hl : ds.length = 2 * n) : dif (ivs ds ap n) ap n = ds := by
  refine List.ext_getElem (by rw [dif_length, hl]) fun i h1 h2 => ?_
  rw [dif_length] at h1
  obtain ⟨a, b⟩ := dif_get (ivs ds ap n) ap n (i / 2) (by omega)
  obtain ⟨c, d⟩ := gapD_ivs (ds := ds) (ap := ap) (n := n) (i := i / 2) (by omega)
  rw [c] at a
  rw [d] at b
  have hd1 : i < (dif (ivs ds ap n) ap n).length := by rw [dif_length]; exact h1
  by_cases e : i % 2 = 0
  · rw [show 2 * (i / 2) = i by omega] at a
    simpa [List.getD, List.getElem?_eq_getElem h2, List.getElem?_eq_getElem hd1] using a
  · rw [show 2 * (i / 2) + 1 = i by omega] at b
    simpa [List.getD, List.getElem?_eq_getElem h2, List.getElem?_eq_getElem hd1] using b
theorem cor_of_apart {zs : List Iv} {k : Nat} : ApTo zs 1 k ↔ CorTo zs k := by
  constructor
  · intro h i hi
    obtain ⟨a, b⟩ := h i hi
    exact ⟨a, fun h0 => by have := b h0; omega⟩
  · intro h i hi
    obtain ⟨a, b⟩ := h i hi
    exact ⟨a, fun h0 => by have := b h0; omega⟩
end Go.Proofs.YtbphphmjhcehkaaDoor
