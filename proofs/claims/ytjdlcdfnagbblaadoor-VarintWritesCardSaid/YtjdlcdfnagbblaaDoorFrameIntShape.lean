/- An argument that is a slice of integers: its length and its capacity. -/
import Derived.Test.YtjdlcdfnagbblaaDoorFrame
namespace Go.Proofs.YtjdlcdfnagbblaaDoor
open Go.ChangeShapes Go.WideShapes Go.ChangeAt Go.RowKit Go.Joins
/-- A slice's length, capacity and address hang together. -/
structure Shaped (a : Option Addr) (len cap : Nat) : Prop where
  none : a = none → cap = 0
  le : len ≤ cap
  most : cap ≤ 9223372036854775807
section
variable {H : Type} {enc : TypeId × Value → H} {P : Program} {w : World}
theorem shape_of_ints {t e : TypeId} {k : IntKind} {a : Option Addr} {len cap : Nat} {d : DataW H} {p : List MemPlace} (ht : P.underlying t = some (.slice e)) (he : P.underlying e = some (.int k)) (hc : P.cellsOf e = 1)
    (h : DataW.Trod enc P w 0 (fun _ => true) true t (.slice a len cap) d p) : Shaped a len cap := by
  obtain ⟨fuel, hf⟩ := h
  rcases open_ints ht he hc hf with ⟨hcs, _⟩ | ⟨x, l, c, zs, hcs, _, hl, hm, hz, _, hcell, hwz⟩
  · simp [Value.cells] at hcs
    obtain ⟨rfl, rfl, rfl⟩ := hcs
    exact ⟨fun _ => rfl, Nat.le_refl _, by omega⟩
  · simp [Value.cells] at hcs
    obtain ⟨rfl, rfl, rfl⟩ := hcs
    unfold maxLen at hm
    exact ⟨fun e => (by cases e), by omega, by omega⟩
end
end Go.Proofs.YtjdlcdfnagbblaaDoor
