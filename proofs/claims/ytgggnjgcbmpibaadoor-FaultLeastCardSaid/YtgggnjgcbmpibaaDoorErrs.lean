/- Lists of descriptions of errors that are read: a slice of structs of five cells, of which the last is a list of strings. -/
import Derived.Test.YtgggnjgcbmpibaaDoorFrameErr
namespace Go.Proofs.YtgggnjgcbmpibaaDoor
open Go.ChangeShapes Go.WideShapes Go.ChangeAt Go.RowKit Go.Joins Go.Deep

/-- The description of an error. -/
structure Rec where
  nil : Bool
  code : Int
  has : Bool
  at' : Int
  a : Option Addr
  len : Nat
  cap : Nat
  ss : List ByteArray
def Rec.z : Rec := ⟨true, 0, false, 0, none, 0, 0, []⟩
/-- The element i. -/
abbrev nth (rs : List Rec) (i : Nat) : Rec := rs.getD i Rec.z
/-- What holds of one element whose cells begin at off. -/
structure RecAt (w : World) (b off : Nat) (r : Rec) : Prop where
  c0 : w.cell? ⟨b, off, none⟩ = some (.bool r.nil)
  c1 : w.cell? ⟨b, off + 1, none⟩ = some (.int .i64 r.code)
  c2 : w.cell? ⟨b, off + 2, none⟩ = some (.bool r.has)
  c3 : w.cell? ⟨b, off + 3, none⟩ = some (.int .i64 r.at')
  c4 : w.cell? ⟨b, off + 4, none⟩ = some (.slice r.a r.len r.cap)
  strs : Strs w r.a r.len r.ss
  w1 : (Lit.int .i64 r.code).wf = true
  w3 : (Lit.int .i64 r.at').wf = true
theorem RecAt.lt {w : World} {b off : Nat} {r : Rec} (h : RecAt w b off r) : b < w.heap.size := block_lt_of_cell h.c0
theorem RecAt.below {w w1 : World} {b off : Nat} {r : Rec} (h : RecAt w b off r) (hb : Below w.heap.size w w1) : RecAt w1 b off r :=
  ⟨keep_cell hb h.lt h.c0, keep_cell hb h.lt h.c1, keep_cell hb h.lt h.c2, keep_cell hb h.lt h.c3, keep_cell hb h.lt h.c4, h.strs.below hb, h.w1, h.w3⟩
/-- The slice value (a, len) holds the descriptions rs. -/
structure Errs (w : World) (a : Option Addr) (len : Nat) (rs : List Rec) : Prop where
  length : rs.length = len
  most : len ≤ 9223372036854775807
  cells : ∀ i, i < len → ∃ b off, a = some ⟨b, off, none⟩ ∧ RecAt w b (off + i * 5) (nth rs i)
theorem Errs.below {w w1 : World} {a : Option Addr} {len : Nat} {rs : List Rec} (h : Errs w a len rs) (hb : Below w.heap.size w w1) : Errs w1 a len rs :=
  ⟨h.length, h.most, fun i hi => by
    obtain ⟨b, off, e, hr⟩ := h.cells i hi
    exact ⟨b, off, e, hr.below hb⟩⟩
section
variable {H : Type} {enc : TypeId × Value → H} {P : Program} {w : World}
theorem row_of_errs {t e s : TypeId} {f0 f1 f2 f3 f4 : Field} {a : Option Addr} {len cap : Nat} {d : DataW H} {p : List MemPlace} (ht : P.underlying t = some (.slice e)) (hs : P.underlying e = some (.struct #[f0, f1, f2, f3, f4])) (hone : oneCellFields P #[f0, f1, f2, f3, f4] = true) (hC : P.cellsOf e = 5)
    (u0 : P.underlying f0.type = some .bool) (u1 : P.underlying f1.type = some (.int .i64)) (u2 : P.underlying f2.type = some .bool) (u3 : P.underlying f3.type = some (.int .i64)) (u4 : P.underlying f4.type = some (.slice s)) (us : P.underlying s = some .string) (cs : P.cellsOf s = 1)
    (h : DataW.Trod enc P w 0 (fun _ => true) true t (.slice a len cap) d p) : ∃ rs, Errs w a len rs := by
  obtain ⟨fuel, hf⟩ := h
  rcases open_slice ht hf with ⟨hcs, _⟩ | ⟨x, l, c, m, n, D, Pl, hcs, _, hl, hm, hmm, _, hx⟩
  · simp [Value.cells] at hcs
    obtain ⟨rfl, rfl, rfl⟩ := hcs
    exact ⟨[], rfl, by omega, fun i hi => absurd hi (by omega)⟩
  · simp [Value.cells] at hcs
    obtain ⟨rfl, rfl, rfl⟩ := hcs
    simp only [if_true] at hmm
    unfold maxLen at hm
    obtain ⟨b, off, spot⟩ := x
    have part : ∀ i, i < len → ∃ n', ∀ (j : Nat) (f : Field), (#[f0, f1, f2, f3, f4] : Array Field)[j]? = some f → ∃ v y, w.cell? ((⟨b, off, spot⟩ : Addr).add (i * 5 + j)) = some v ∧ DataW.trod enc P w 0 (fun _ => true) true n' f.type [v] = some y := by
      intro i hi
      obtain ⟨cs', hc, ht'⟩ := hx i (by omega)
      rw [hC] at hc
      obtain ⟨_, hcl, hat⟩ := World.cells?_some hc
      obtain ⟨xs, n', _, _, _, hlen, hg⟩ := DataW.trod_struct hs ht'
      refine ⟨n', ?_⟩
      intro j f hj
      obtain ⟨o, k⟩ := hone_of hone j f hj
      have hj5 : j < 5 := (Array.getElem?_eq_some_iff.1 hj).1
      have g := hg j f hj
      rw [o, k] at g
      have hil : j < xs.length := by rw [hlen]; exact hj5
      rw [List.getElem?_eq_getElem hil] at g
      have hcj : j < cs'.length := by omega
      have hcell := hat j hj5
      rw [List.getElem?_eq_getElem hcj, add_add] at hcell
      refine ⟨cs'[j], xs[j], hcell, ?_⟩
      rw [← g]
      congr 1
      rw [List.drop_eq_getElem_cons hcj]
      rfl
    have hspot : 0 < len → spot = none := by
      intro h0
      obtain ⟨_, p0⟩ := part 0 h0
      obtain ⟨v0, y0, k0, _⟩ := p0 0 f0 rfl
      simpa [Addr.add] using World.cell?_spot k0
    have hv : ∀ i, i < len → ∃ r : Rec, RecAt w b (off + i * 5) r ∧ spot = none := by
      intro i hi
      obtain rfl := hspot (by omega)
      obtain ⟨n', part⟩ := part i hi
      obtain ⟨v0, y0, k0, g0⟩ := part 0 f0 rfl
      obtain ⟨v1, y1, k1, g1⟩ := part 1 f1 rfl
      obtain ⟨v2, y2, k2, g2⟩ := part 2 f2 rfl
      obtain ⟨v3, y3, k3, g3⟩ := part 3 f3 rfl
      obtain ⟨v4, y4, k4, g4⟩ := part 4 f4 rfl
      have ea : ∀ j, (⟨b, off, none⟩ : Addr).add j = ⟨b, off + j, none⟩ := by
        intro j
        unfold Addr.add; split <;> simp_all
      simp only [ea] at k0 k1 k2 k3 k4
      obtain ⟨b0, e0, _⟩ := DataW.trod_bool u0 g0
      obtain ⟨n1, e1, _, w1⟩ := DataW.trod_int u1 g1
      obtain ⟨b2, e2, _⟩ := DataW.trod_bool u2 g2
      obtain ⟨n3, e3, _, w3⟩ := DataW.trod_int u3 g3
      obtain ⟨a4, l4, c4, ss, e4, hS⟩ := strs_of u4 us cs g4
      simp at e0 e1 e2 e3
      subst e0 e1 e2 e3 e4
      exact ⟨⟨b0, n1, b2, n3, a4, l4, c4, ss⟩, ⟨k0, k1, k2, k3, k4, hS, w1, w3⟩, rfl⟩
    have hg : ∀ i, i < len → nth ((List.range len).map fun i => if h : i < len then Classical.choose (hv i h) else Rec.z) i = (if h : i < len then Classical.choose (hv i h) else Rec.z) := by
      intro i hi
      simp [nth, List.getD, hi]
    refine ⟨(List.range len).map fun i => if h : i < len then Classical.choose (hv i h) else Rec.z, by simp, by omega, fun i hi => ?_⟩
    have hc := Classical.choose_spec (hv i hi)
    rw [hg i hi, dif_pos hi]
    exact ⟨b, off, by rw [hc.2], hc.1⟩
end
end Go.Proofs.YtgggnjgcbmpibaaDoor
