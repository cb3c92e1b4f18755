/- Lists of strings that are read. -/
import Derived.Test.YtgggnjgcbmpibaaDoorBase
namespace Go.Proofs.YtgggnjgcbmpibaaDoor
open Go.RowKit

/-- The slice value (a, len) holds the strings ss. -/
structure Strs (w : World) (a : Option Addr) (len : Nat) (ss : List ByteArray) : Prop where
  length : ss.length = len
  most : len ≤ 9223372036854775807
  sizes : ∀ s ∈ ss, s.size ≤ 9223372036854775807
  cells : ∀ i, i < len → ∃ b off, a = some ⟨b, off, none⟩ ∧ b < w.heap.size ∧ w.cell? ⟨b, off + i, none⟩ = some (.string (ss.getD i ByteArray.empty))
theorem Strs.below {w w1 : World} {a : Option Addr} {len : Nat} {ss : List ByteArray} (h : Strs w a len ss) (hb : Below w.heap.size w w1) : Strs w1 a len ss :=
  ⟨h.length, h.most, h.sizes, fun i hi => by
    obtain ⟨b, off, e, hlt, h1⟩ := h.cells i hi
    exact ⟨b, off, e, Nat.lt_of_lt_of_le hlt hb.size, keep_cell hb hlt h1⟩⟩
theorem Strs.size {w : World} {a : Option Addr} {len : Nat} {ss : List ByteArray} (h : Strs w a len ss) {i : Nat} (hi : i < len) : (ss.getD i ByteArray.empty).size ≤ 9223372036854775807 := by
  have hl := h.length
  refine h.sizes _ ?_
  rw [List.getD_eq_getElem?_getD, List.getElem?_eq_getElem (by omega)]
  exact List.getElem_mem _
end Go.Proofs.YtgggnjgcbmpibaaDoor
