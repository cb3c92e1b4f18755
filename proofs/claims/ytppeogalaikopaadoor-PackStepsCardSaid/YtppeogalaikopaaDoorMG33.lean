/- An argument opened: an array of two integers, by value. -/
import Derived.Test.YtppeogalaikopaaDoorMG26
namespace Go.Proofs.YtppeogalaikopaaDoor
open Go.ChangeShapes Go.WideShapes Go.ChangeAt Go.RowKit Go.Joins Go.Deep

section
variable {H : Type} {enc : TypeId × Value → H} {P : Program} {w : World}
theorem trod_array2 {base : Nat} {spare : Nat → Bool} {held : Bool} {t e : TypeId} {fuel : Nat} {c0 c1 : Value} {x : DataW H × List MemPlace} (ht : P.underlying t = some (.array 2 e)) (hce : P.cellsOf e = 1)
    (h : DataW.trod enc P w base spare held fuel t [c0, c1] = some x) :
    ∃ y0 y1 n, DataW.trod enc P w base spare held n e [c0] = some y0 ∧ DataW.trod enc P w base spare held n e [c1] = some y1 := by
  cases fuel with
  | zero => simp [DataW.trod] at h
  | succ n =>
    unfold DataW.trod at h
    rw [ht] at h
    have r3 : List.range 2 = [0, 1] := rfl
    simp [r3, hce] at h
    obtain ⟨_, h⟩ := h
    cases h0 : DataW.trod enc P w base spare held n e [c0] with
    | none => simp [h0] at h
    | some y0 =>
      cases h1 : DataW.trod enc P w base spare held n e [c1] with
      | none => simp [h0, h1] at h
      | some y1 => exact ⟨y0, y1, n, h0, h1⟩
theorem open_arr2 {k : IntKind} {r : Reach} {b0 : Nat} {t e : TypeId} {v : Value} {d : DataW H} {p : List MemPlace} (ht : P.underlying t = some (.array 2 e)) (hce : P.cellsOf e = 1) (hC : P.cellsOf t = 2) (he : P.underlying e = some (.int k))
    (hv : Value.okWide P w r b0 t v) (h : DataW.Trod enc P w 0 (fun _ => true) true t v d p) :
    ∃ (n0 n1 : Int), v = .agg #[.int k n0, .int k n1] ∧ (Lit.int k n0).wf = true ∧ (Lit.int k n1).wf = true := by
  obtain ⟨cs, rfl, hsz, _⟩ : ∃ cs, v = .agg cs ∧ cs.size = P.cellsOf t ∧ Row.okWide P w r b0 t cs := by simpa [Value.okWide, ht] using hv
  obtain ⟨l⟩ := cs
  match l, hsz.trans hC with
  | [c0, c1], _ =>
    obtain ⟨fuel, hf⟩ := h
    obtain ⟨y0, y1, n, g0, g1⟩ := trod_array2 ht hce hf
    obtain ⟨n0, e0, _, w0⟩ := DataW.trod_int he g0
    obtain ⟨n1, e1, _, w1⟩ := DataW.trod_int he g1
    simp at e0 e1
    subst e0 e1
    exact ⟨n0, n1, rfl, w0, w1⟩
end
end Go.Proofs.YtppeogalaikopaaDoor
