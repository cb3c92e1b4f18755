/- 'Of what was there, only some blocks have changed'. No program in sight. -/
import Derived.Test.YtbphphmjhcehkaaDoorBase
namespace Go.Proofs.YtbphphmjhcehkaaDoor
open Go Go.RowKit

/-- Of what was there, only the blocks that may change have changed. -/
structure Only (may : Nat → Prop) (W W' : World) : Prop where
  os : W'.os = W.os
  tape : W'.tape = W.tape
  output : W'.output = W.output
  size : W.heap.size ≤ W'.heap.size
  block : ∀ k, k < W.heap.size → ¬ may k → W'.heap[k]? = W.heap[k]?
variable {may : Nat → Prop} {A B C : World}
theorem Only.refl (may : Nat → Prop) (W : World) : Only may W W := ⟨rfl, rfl, rfl, Nat.le_refl _, fun _ _ _ => rfl⟩
theorem Only.trans (h : Only may A B) (k : Only may B C) : Only may A C :=
  ⟨k.os.trans h.os, k.tape.trans h.tape, k.output.trans h.output, Nat.le_trans h.size k.size, fun i hi hl => (k.block i (Nat.lt_of_lt_of_le hi h.size) hl).trans (h.block i hi hl)⟩
theorem Only.wide {may' : Nat → Prop} (h : Only may A B) (hm : ∀ k, may k → may' k) : Only may' A B :=
  ⟨h.os, h.tape, h.output, h.size, fun i hi hl => h.block i hi (fun hk => hl (hm i hk))⟩
theorem Only.of_below (h : Below A.heap.size A B) : Only may A B := ⟨h.os, h.tape, h.output, h.size, fun i hi _ => h.block i hi⟩
theorem Only.below {n : Nat} (h : Only may A B) (hs : n ≤ A.heap.size) (hm : ∀ k, may k → n ≤ k) : Below n A B := ⟨h.os, h.tape, h.output, h.size, fun i hi => h.block i (by omega) (fun hk => by have := hm i hk; omega)⟩
theorem Only.alloc (h : Only may A B) (o : Obj) : Only may A (B.alloc o) :=
  ⟨h.os, h.tape, h.output, Nat.le_trans h.size (by simp), fun i hi hl => (Below.heap_alloc B o i (Nat.lt_of_lt_of_le hi h.size)).trans (h.block i hi hl)⟩
theorem Only.drew (h : Only may A B) : Only may A B.drew := ⟨h.os, h.tape, h.output, h.size, h.block⟩
theorem Only.drewN (h : Only may A B) (n : Nat) : Only may A (B.drewN n) := h.trans ⟨rfl, rfl, rfl, Nat.le_refl _, fun _ _ _ => rfl⟩
theorem Only.call (h : Only may A B) (k : Below B.heap.size B C) : Only may A C := h.trans (Only.of_below k)
theorem Only.setCell (h : Only may A B) {p : Addr} (hp : may p.block ∨ A.heap.size ≤ p.block) (v : Value) : Only may A (B.setCell p v) :=
  ⟨h.os, h.tape, h.output, by simpa [World.setCell] using h.size, fun i hi hl => (Below.heap_setCell B p v i (by rintro rfl; rcases hp with hp | hp <;> first | exact hl hp | omega)).trans (h.block i hi hl)⟩
theorem Only.obj (h : Only may A B) {b : Nat} {o : Obj} (hb : ¬ may b) (hc : A.heap[b]? = some o) : B.heap[b]? = some o :=
  (h.block b (Array.getElem?_eq_some_iff.1 hc).1 hb).trans hc
theorem Only.cell (h : Only may A B) {b i : Nat} {v : Value} (hb : ¬ may b) (hc : A.cell? ⟨b, i, none⟩ = some v) : B.cell? ⟨b, i, none⟩ = some v := by
  refine (World.cell?_of_block (w := A) ?_).trans hc
  refine h.block b ?_ hb
  rcases Nat.lt_or_ge b A.heap.size with hlt | hge
  · exact hlt
  · have e : A.heap[b]? = none := by simp; omega
    simp [World.cell?, e] at hc
end Go.Proofs.YtbphphmjhcehkaaDoor
