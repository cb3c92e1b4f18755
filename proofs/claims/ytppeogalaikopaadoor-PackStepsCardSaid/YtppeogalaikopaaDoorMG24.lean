/- What the frames of all laws of this seat use. Arguments opened: a list of strings, the description of an error. An argument that is a slice of integers: its length and its capacity. -/
import Derived.Test.YtppeogalaikopaaDoorMG1
import Derived.ProofKit
import Derived.OpenShut
import Derived.ShutString
import Derived.ChangeOld
import Derived.Below
import Derived.Lib.SmallJoins
import Derived.SliceStrings
import Derived.Deep.Fields
namespace Go.Proofs.YtppeogalaikopaaDoor
open Go.ChangeShapes Go.WideShapes Go.ChangeAt Go.RowKit Go.Joins

theorem ownKnob_none : ownKnob Tryd.prog.godebug = none := by kernel_rfl
theorem laidOut : laidOutB Tryd.prog = true := by kernel_rfl
theorem word_wf {x : Int} (h : (Lit.int .u64 x).wf = true) : Word x := by
  have := bounds_u64 h
  exact ⟨by omega, by omega⟩

section
variable {H : Type} {enc : TypeId × Value → H} {P : Program} {w : World}
theorem row_of_ints {t e : TypeId} {k : IntKind} {a : Option Addr} {len cap : Nat} {d : DataW H} {p : List MemPlace} (ht : P.underlying t = some (.slice e)) (he : P.underlying e = some (.int k)) (hc : P.cellsOf e = 1)
    (h : DataW.Trod enc P w 0 (fun _ => true) true t (.slice a len cap) d p) : ∃ zs, Ints k w a len zs := by
  obtain ⟨fuel, hf⟩ := h
  rcases open_ints ht he hc hf with ⟨hcs, _⟩ | ⟨x, l, c, zs, hcs, _, hl, hm, hz, _, hcell, hwz⟩
  · simp [Value.cells] at hcs
    obtain ⟨rfl, rfl, rfl⟩ := hcs
    exact ⟨[], rfl, by omega, by simp, fun i hi => absurd hi (by omega)⟩
  · simp [Value.cells] at hcs
    obtain ⟨rfl, rfl, rfl⟩ := hcs
    have hz' : zs.length = cap := by simpa using hz
    unfold maxLen at hm
    refine ⟨zs.take len, by simp; omega, by omega, fun z hz => hwz z (List.mem_of_mem_take hz), fun i hi => ?_⟩
    have hc := hcell i (by omega)
    have hc0 := hcell 0 (by omega)
    obtain ⟨b, off, spot⟩ := x
    have hspot : spot = none := by simpa [Addr.add] using World.cell?_spot hc0
    subst hspot
    have ea : (⟨b, off, none⟩ : Addr).add i = ⟨b, off + i, none⟩ := by
      unfold Addr.add; split <;> simp_all
    rw [ea] at hc
    refine ⟨b, off, rfl, block_lt_of_cell hc, ?_⟩
    rw [hc]
    have e : (zs.take len).getD i 0 = zs.getD i 0 := by simp [List.getD, hi]
    rw [e]
end
end Go.Proofs.YtppeogalaikopaaDoor
namespace Go.Proofs.YtppeogalaikopaaDoor
open Go.ChangeShapes Go.WideShapes Go.ChangeAt Go.RowKit Go.Joins Go.Deep

section
variable {H : Type} {enc : TypeId × Value → H} {P : Program} {w : World}
theorem strs_of {t e : TypeId} {fuel : Nat} {v : Value} {x : DataW H × List MemPlace} (ht : P.underlying t = some (.slice e)) (he : P.underlying e = some .string) (hc : P.cellsOf e = 1)
    (h : DataW.trod enc P w 0 (fun _ => true) true fuel t [v] = some x) : ∃ a len cap ss, v = .slice a len cap ∧ Strs w a len ss := by
  rcases open_strings ht he hc h with ⟨hcs, _⟩ | ⟨a, len, cap, ss, hcs, _, hl, hm, hz, _, hcell, hsz⟩
  · simp at hcs
    subst hcs
    exact ⟨none, 0, 0, [], rfl, rfl, by omega, by simp, fun i hi => absurd hi (by omega)⟩
  · simp at hcs
    subst hcs
    have hz' : ss.length = cap := by simpa using hz
    unfold maxLen at hm hsz
    refine ⟨some a, len, cap, ss.take len, rfl, by simp; omega, by omega, fun s hs => by have := hsz s (List.mem_of_mem_take hs); omega, fun i hi => ?_⟩
    have hc1 := hcell i (by omega)
    have hc0 := hcell 0 (by omega)
    obtain ⟨b, off, spot⟩ := a
    have hspot : spot = none := by simpa [Addr.add] using World.cell?_spot hc0
    subst hspot
    have ea : (⟨b, off, none⟩ : Addr).add i = ⟨b, off + i, none⟩ := by
      unfold Addr.add; split <;> simp_all
    rw [ea] at hc1
    refine ⟨b, off, rfl, block_lt_of_cell hc1, ?_⟩
    rw [hc1]
    simp [List.getD_eq_getElem?_getD, List.getElem?_take_of_lt hi]
theorem row_of_strs {t e : TypeId} {a : Option Addr} {len cap : Nat} {d : DataW H} {p : List MemPlace} (ht : P.underlying t = some (.slice e)) (he : P.underlying e = some .string) (hc : P.cellsOf e = 1)
    (h : DataW.Trod enc P w 0 (fun _ => true) true t (.slice a len cap) d p) : ∃ ss, Strs w a len ss := by
  obtain ⟨fuel, hf⟩ := h
  obtain ⟨a', len', cap', ss, e, hS⟩ := strs_of ht he hc (v := .slice a len cap) (by simpa [Value.cells] using hf)
  simp at e
  obtain ⟨rfl, rfl, rfl⟩ := e
  exact ⟨ss, hS⟩
/-- The description of an error, by value. -/
theorem open_err {r : Reach} {b0 : Nat} {t e : TypeId} {f0 f1 f2 f3 f4 : Field} {v : Value} {d : DataW H} {p : List MemPlace} (hs : P.underlying t = some (.struct #[f0, f1, f2, f3, f4])) (hone : oneCellFields P #[f0, f1, f2, f3, f4] = true) (hC : P.cellsOf t = 5)
    (u0 : P.underlying f0.type = some .bool) (u1 : P.underlying f1.type = some (.int .i64)) (u2 : P.underlying f2.type = some .bool) (u3 : P.underlying f3.type = some (.int .i64)) (u4 : P.underlying f4.type = some (.slice e)) (ue : P.underlying e = some .string) (ce : P.cellsOf e = 1)
    (hv : Value.okWide P w r b0 t v) (h : DataW.Trod enc P w 0 (fun _ => true) true t v d p) :
    ∃ (nil has : Bool) (code at' : Int) (a : Option Addr) (len cap : Nat) (ss : List ByteArray), v = .agg #[.bool nil, .int .i64 code, .bool has, .int .i64 at', .slice a len cap] ∧ Strs w a len ss ∧ (Lit.int .i64 code).wf = true ∧ (Lit.int .i64 at').wf = true := by
  obtain ⟨cs, rfl, hsz⟩ := okWide_struct hs hv
  obtain ⟨l⟩ := cs
  match l, hsz.trans hC with
  | [c0, c1, c2, c3, c4], _ =>
    obtain ⟨fuel, hf⟩ := h
    obtain ⟨xs, n, _, _, _, hlen, hg⟩ := DataW.trod_struct hs hf
    have part : ∀ (i : Nat) (f : Field) (c : Value), (#[f0, f1, f2, f3, f4] : Array Field)[i]? = some f → ([c0, c1, c2, c3, c4] : List Value)[i]? = some c → ∃ y, DataW.trod enc P w 0 (fun _ => true) true n f.type [c] = some y := by
      intro i f c hi hc
      obtain ⟨o, k⟩ := hone_of hone i f hi
      have g := hg i f hi
      rw [o, k] at g
      have hil : i < xs.length := by rw [hlen]; exact (Array.getElem?_eq_some_iff.1 hi).1
      rw [List.getElem?_eq_getElem hil] at g
      refine ⟨xs[i], ?_⟩
      rw [← g]
      congr 1
      obtain ⟨hcl, hce⟩ := List.getElem?_eq_some_iff.1 hc
      simp only [Value.cells]
      rw [List.drop_eq_getElem_cons hcl, hce]
      rfl
    obtain ⟨y0, g0⟩ := part 0 f0 c0 rfl rfl
    obtain ⟨y1, g1⟩ := part 1 f1 c1 rfl rfl
    obtain ⟨y2, g2⟩ := part 2 f2 c2 rfl rfl
    obtain ⟨y3, g3⟩ := part 3 f3 c3 rfl rfl
    obtain ⟨y4, g4⟩ := part 4 f4 c4 rfl rfl
    obtain ⟨b0, e0, _⟩ := DataW.trod_bool u0 g0
    obtain ⟨n1, e1, _, w1⟩ := DataW.trod_int u1 g1
    obtain ⟨b2, e2, _⟩ := DataW.trod_bool u2 g2
    obtain ⟨n3, e3, _, w3⟩ := DataW.trod_int u3 g3
    obtain ⟨a, len, cap, ss, e4, hS⟩ := strs_of u4 ue ce g4
    simp at e0 e1 e2 e3
    subst e0 e1 e2 e3 e4
    exact ⟨b0, b2, n1, n3, a, len, cap, ss, rfl, hS, w1, w3⟩
end
end Go.Proofs.YtppeogalaikopaaDoor
namespace Go.Proofs.YtppeogalaikopaaDoor
open Go.ChangeShapes Go.WideShapes Go.ChangeAt Go.RowKit Go.Joins
/-- A slice's length, capacity and address hang together. -/
structure Shaped (a : Option Addr) (len cap : Nat) : Prop where
  none : a = none → cap = 0
  le : len ≤ cap
  most : cap ≤ 9223372036854775807
section
variable {H : Type} {enc : TypeId × Value → H} {P : Program} {w : World}
theorem shape_of_ints {t e : TypeId} {k : IntKind} {a : Option Addr} {len cap : Nat} {d : DataW H} {p : List MemPlace} (ht : P.underlying t = some (.slice e)) (he : P.underlying e = some (.int k)) (hc : P.cellsOf e = 1)
    (h : DataW.Trod enc P w 0 (fun _ => true) true t (.slice a len cap) d p) : Shaped a len cap := by
  obtain ⟨fuel, hf⟩ := h
  rcases open_ints ht he hc hf with ⟨hcs, _⟩ | ⟨x, l, c, zs, hcs, _, hl, hm, hz, _, hcell, hwz⟩
  · simp [Value.cells] at hcs
    obtain ⟨rfl, rfl, rfl⟩ := hcs
    exact ⟨fun _ => rfl, Nat.le_refl _, by omega⟩
  · simp [Value.cells] at hcs
    obtain ⟨rfl, rfl, rfl⟩ := hcs
    unfold maxLen at hm
    exact ⟨fun e => (by cases e), by omega, by omega⟩
end
end Go.Proofs.YtppeogalaikopaaDoor
