/- The law FaultLeast's plain side: the first error, the error with the least offset. -/
import Derived.Test.YtgggnjgcbmpibaaDoorErrs
import Derived.Test.YtgggnjgcbmpibaaDoorFaultBuild
namespace Go.Proofs.YtgggnjgcbmpibaaDoor

/-- The index of the least offset among the first k, -1 if there is none. -/
def bst (rs : List Rec) : Nat → Int
  | 0 => -1
  | k + 1 => if (nth rs k).nil = false ∧ (nth rs k).has = true ∧ (bst rs k < 0 ∨ (nth rs k).at' < (nth rs (bst rs k).toNat).at') then (k : Int) else bst rs k
/-- The index of the first error among the first k, -1 if there is none. -/
def frs (rs : List Rec) : Nat → Int
  | 0 => -1
  | k + 1 => if frs rs k < 0 ∧ (nth rs k).nil = false then (k : Int) else frs rs k
def least (rs : List Rec) (len : Nat) : Int := if bst rs len < 0 then frs rs len else bst rs len
theorem bst_lt (rs : List Rec) : ∀ k, -1 ≤ bst rs k ∧ bst rs k < k
  | 0 => by simp [bst]
  | k + 1 => by
    have := bst_lt rs k
    unfold bst
    split <;> omega
theorem bst_is (rs : List Rec) : ∀ k, 0 ≤ bst rs k → (nth rs (bst rs k).toNat).nil = false ∧ (nth rs (bst rs k).toNat).has = true
  | 0 => by simp [bst]
  | k + 1 => by
    have ih := bst_is rs k
    unfold bst
    split
    · rename_i h
      intro _
      rw [Int.toNat_natCast]
      exact ⟨h.1, h.2.1⟩
    · exact ih
theorem frs_lt (rs : List Rec) : ∀ k, -1 ≤ frs rs k ∧ frs rs k < k
  | 0 => by simp [frs]
  | k + 1 => by
    have := frs_lt rs k
    unfold frs
    split <;> omega
theorem frs_is (rs : List Rec) : ∀ k, 0 ≤ frs rs k → (nth rs (frs rs k).toNat).nil = false
  | 0 => by simp [frs]
  | k + 1 => by
    have ih := frs_is rs k
    unfold frs
    split
    · rename_i h
      intro _
      rw [Int.toNat_natCast]
      exact h.2
    · exact ih
theorem frs_stay (rs : List Rec) (k : Nat) (h : 0 ≤ frs rs k) : ∀ m, frs rs (k + m) = frs rs k
  | 0 => rfl
  | m + 1 => by
    have ih := frs_stay rs k h m
    show (if frs rs (k + m) < 0 ∧ (nth rs (k + m)).nil = false then ((k + m : Nat) : Int) else frs rs (k + m)) = _
    rw [ih, if_neg (by omega)]
theorem least_lt (rs : List Rec) (len : Nat) : -1 ≤ least rs len ∧ least rs len < len := by
  have h1 := bst_lt rs len
  have h2 := frs_lt rs len
  unfold least
  split <;> omega
theorem least_is (rs : List Rec) (len : Nat) (h : 0 ≤ least rs len) : (nth rs (least rs len).toNat).nil = false := by
  unfold least at h ⊢
  split
  · rename_i g
    rw [if_pos g] at h
    exact frs_is rs len h
  · rename_i g
    exact (bst_is rs len (by omega)).1
/-- The error of a description, and its value. -/
def er (r : Rec) : Er := chn (bas r.has r.code r.at') r.ss r.len
def ev (r : Rec) : Value := if r.nil = true then .nilIface else (er r).v
theorem ev_nil {r : Rec} (h : r.nil = true) : ev r = .nilIface := if_pos h
theorem ev_er {r : Rec} (h : r.nil = false) : ev r = (er r).v := if_neg (by simp [h])
theorem er_fault_yes {r : Rec} (h : r.has = true) : (er r).fault = some (r.code, r.at') := by
  unfold er; rw [chn_fault, h]; rfl
theorem er_fault_no {r : Rec} (h : r.has = false) : (er r).fault = none := by
  unfold er; rw [chn_fault, h]; rfl
/-- The value at an index. -/
def vi (rs : List Rec) (i : Int) : Value := if i < 0 then .nilIface else ev (nth rs i.toNat)
theorem vi_neg {rs : List Rec} {i : Int} (h : i < 0) : vi rs i = .nilIface := if_pos h
theorem vi_nat (rs : List Rec) (i : Nat) : vi rs (i : Int) = ev (nth rs i) := by
  unfold vi; rw [if_neg (by omega), Int.toNat_natCast]
theorem vi_pos {rs : List Rec} {i : Int} (h : 0 ≤ i) (hn : (nth rs i.toNat).nil = false) : vi rs i = (er (nth rs i.toNat)).v := by
  unfold vi; rw [if_neg (by omega), ev_er hn]
/-- The list of the values. -/
def evs (rs : List Rec) (k : Nat) : List Value := (List.range k).map fun i => ev (nth rs i)
theorem evs_length (rs : List Rec) (k : Nat) : (evs rs k).length = k := by simp [evs]
theorem evs_at (rs : List Rec) {k i : Nat} (h : i < k) : (evs rs k)[i]? = some (ev (nth rs i)) := by simp [evs, h]
theorem evs_succ (rs : List Rec) (k : Nat) : evs rs (k + 1) = evs rs k ++ [ev (nth rs k)] := by simp [evs, List.range_succ]
end Go.Proofs.YtgggnjgcbmpibaaDoor
