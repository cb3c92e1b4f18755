/- Lists of intervals: how a slice of intervals is read, and when a list is correct. -/
import Derived.Test.YtbphphmjhcehkaaDoorBase
namespace Go.Proofs.YtbphphmjhcehkaaDoor
open Go.RowKit

abbrev Iv := Int × Int
def Lo (zs : List Iv) (i : Nat) : Int := (zs.getD i (0, 0)).1
def Hi (zs : List Iv) (i : Nat) : Int := (zs.getD i (0, 0)).2
/-- The slice value (a, len) holds the intervals zs. -/
structure Prs (w : World) (a : Option Addr) (len : Nat) (zs : List Iv) : Prop where
  length : zs.length = len
  most : len ≤ 9223372036854775807
  words : ∀ z ∈ zs, Word z.1 ∧ Word z.2
  cells : ∀ i, i < len → ∃ b off, a = some ⟨b, off, none⟩ ∧ b < w.heap.size ∧ w.cell? ⟨b, off + i * 2, none⟩ = some (.int .u64 (Lo zs i)) ∧ w.cell? ⟨b, off + i * 2 + 1, none⟩ = some (.int .u64 (Hi zs i))
theorem Prs.below {w w1 : World} {a : Option Addr} {len : Nat} {zs : List Iv} (h : Prs w a len zs) (hb : Below w.heap.size w w1) : Prs w1 a len zs :=
  ⟨h.length, h.most, h.words, fun i hi => by
    obtain ⟨b, off, e, hlt, h1, h2⟩ := h.cells i hi
    exact ⟨b, off, e, Nat.lt_of_lt_of_le hlt hb.size, keep_cell hb hlt h1, keep_cell hb hlt h2⟩⟩
theorem Prs.word {w : World} {a : Option Addr} {len : Nat} {zs : List Iv} (h : Prs w a len zs) {i : Nat} (hi : i < len) : Word (Lo zs i) ∧ Word (Hi zs i) := by
  have hl := h.length
  have e : zs.getD i (0, 0) = zs[i]'(by omega) := by simp [List.getD, List.getElem?_eq_getElem (show i < zs.length by omega)]
  unfold Lo Hi
  rw [e]
  exact h.words _ (List.getElem_mem _)
/-- The first k intervals are correct, and numbers are between them. -/
def CorTo (zs : List Iv) (k : Nat) : Prop := ∀ i, i < k → Lo zs i ≤ Hi zs i ∧ (0 < i → Hi zs (i - 1) + 1 < Lo zs i)
def Cor (zs : List Iv) : Prop := CorTo zs zs.length
theorem CorTo.succ {zs : List Iv} {k : Nat} (h : CorTo zs k) (h1 : Lo zs k ≤ Hi zs k) (h2 : 0 < k → Hi zs (k - 1) + 1 < Lo zs k) : CorTo zs (k + 1) := by
  intro i hi
  by_cases e : i = k
  · subst e; exact ⟨h1, h2⟩
  · exact h i (by omega)
theorem getD_snoc (l : List Iv) (x : Iv) (i : Nat) : (l ++ [x]).getD i (0, 0) = if i < l.length then l.getD i (0, 0) else if i = l.length then x else (0, 0) := by
  simp only [List.getD, List.getElem?_append]
  split
  · rfl
  · split
    · next h => subst h; simp
    · next h1 h2 =>
      have : i - l.length ≠ 0 := by omega
      rw [List.getElem?_eq_none (by simp; omega)]
      rfl
end Go.Proofs.YtbphphmjhcehkaaDoor
