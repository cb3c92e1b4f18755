/- Arguments opened: limits; a vector. -/
import Derived.Test.YtppeogalaikopaaDoorMG24
import Derived.Test.YtppeogalaikopaaDoorMG25
import Derived.Test.YtppeogalaikopaaDoorMG13
namespace Go.Proofs.YtppeogalaikopaaDoor
open Go.ChangeShapes Go.WideShapes Go.ChangeAt Go.RowKit Go.Joins Go.Deep

section
variable {H : Type} {enc : TypeId × Value → H} {P : Program} {w : World}
/-- Limits, by value. -/
theorem open_lim {r : Reach} {b0 : Nat} {t : TypeId} {f0 f1 f2 f3 f4 : Field} {v : Value} {d : DataW H} {p : List MemPlace} (hs : P.underlying t = some (.struct #[f0, f1, f2, f3, f4])) (hone : oneCellFields P #[f0, f1, f2, f3, f4] = true) (hC : P.cellsOf t = 5)
    (u0 : P.underlying f0.type = some (.int .i64)) (u1 : P.underlying f1.type = some (.int .i64)) (u2 : P.underlying f2.type = some (.int .i64)) (u3 : P.underlying f3.type = some (.int .i64)) (u4 : P.underlying f4.type = some (.int .i64))
    (hv : Value.okWide P w r b0 t v) (h : DataW.Trod enc P w 0 (fun _ => true) true t v d p) :
    ∃ (n0 n1 n2 n3 n4 : Int), v = .agg #[.int .i64 n0, .int .i64 n1, .int .i64 n2, .int .i64 n3, .int .i64 n4] ∧ (Lit.int .i64 n2).wf = true ∧ (Lit.int .i64 n3).wf = true := by
  obtain ⟨cs, rfl, hsz⟩ := okWide_struct hs hv
  obtain ⟨l⟩ := cs
  match l, hsz.trans hC with
  | [c0, c1, c2, c3, c4], _ =>
    obtain ⟨fuel, hf⟩ := h
    obtain ⟨xs, n, _, _, _, hlen, hg⟩ := DataW.trod_struct hs hf
    have part : ∀ (i : Nat) (f : Field) (c : Value), (#[f0, f1, f2, f3, f4] : Array Field)[i]? = some f → ([c0, c1, c2, c3, c4] : List Value)[i]? = some c → ∃ y, DataW.trod enc P w 0 (fun _ => true) true n f.type [c] = some y := by
      intro i f c hi hc
      obtain ⟨o, k⟩ := hone_of hone i f hi
      have g := hg i f hi
      rw [o, k] at g
      have hil : i < xs.length := by rw [hlen]; exact (Array.getElem?_eq_some_iff.1 hi).1
      rw [List.getElem?_eq_getElem hil] at g
      refine ⟨xs[i], ?_⟩
      rw [← g]
      congr 1
      obtain ⟨hcl, hce⟩ := List.getElem?_eq_some_iff.1 hc
      simp only [Value.cells]
      rw [List.drop_eq_getElem_cons hcl, hce]
      rfl
    obtain ⟨y0, g0⟩ := part 0 f0 c0 rfl rfl
    obtain ⟨y1, g1⟩ := part 1 f1 c1 rfl rfl
    obtain ⟨y2, g2⟩ := part 2 f2 c2 rfl rfl
    obtain ⟨y3, g3⟩ := part 3 f3 c3 rfl rfl
    obtain ⟨y4, g4⟩ := part 4 f4 c4 rfl rfl
    obtain ⟨n0, e0, _, _⟩ := DataW.trod_int u0 g0
    obtain ⟨n1, e1, _, _⟩ := DataW.trod_int u1 g1
    obtain ⟨n2, e2, _, w2⟩ := DataW.trod_int u2 g2
    obtain ⟨n3, e3, _, w3⟩ := DataW.trod_int u3 g3
    obtain ⟨n4, e4, _, _⟩ := DataW.trod_int u4 g4
    simp at e0 e1 e2 e3 e4
    subst e0 e1 e2 e3 e4
    exact ⟨n0, n1, n2, n3, n4, rfl, w2, w3⟩
theorem pairs_of {t e : TypeId} {f0 f1 : Field} {fuel : Nat} {v : Value} {x : DataW H × List MemPlace} (ht : P.underlying t = some (.slice e)) (he : P.underlying e = some (.struct #[f0, f1]))
    (ce : P.cellsOf e = 2) (o0 : f0.offset = 0) (o1 : f1.offset = 1) (c0 : P.cellsOf f0.type = 1) (c1 : P.cellsOf f1.type = 1) (u0 : P.underlying f0.type = some (.int .u64)) (u1 : P.underlying f1.type = some (.int .u64))
    (h : DataW.trod enc P w 0 (fun _ => true) true fuel t [v] = some x) : ∃ a len cap zs, v = .slice a len cap ∧ Prs w a len zs ∧ len ≤ cap := by
  have hv : ∃ a len cap, v = .slice a len cap ∧ len ≤ cap := by
    rcases Go.Deep.open_slice_pairs ht he ce o0 o1 c0 c1 h with ⟨hcs, _⟩ | ⟨x, l, c, m, n, V0, V1, D0, D1, P0, P1, hcs, _, hl, hm, hmm, _, hx⟩
    · simp at hcs
      exact ⟨none, 0, 0, hcs, Nat.le_refl _⟩
    · simp at hcs
      exact ⟨some x, l, c, hcs, by omega⟩
  obtain ⟨a, len, cap, rfl, hle⟩ := hv
  obtain ⟨zs, hz⟩ := row_of_pairs ht he ce o0 o1 c0 c1 u0 u1 (a := a) (len := len) (cap := cap) (d := x.1) (p := x.2) ⟨fuel, by simpa [Value.cells] using h⟩
  exact ⟨a, len, cap, zs, rfl, hz, hle⟩
theorem row_of_ents {t e i2 : TypeId} {f0 f1 f2 g0 g1 : Field} {a : Option Addr} {len cap : Nat} {d : DataW H} {p : List MemPlace} (ht : P.underlying t = some (.slice e)) (hs : P.underlying e = some (.struct #[f0, f1, f2])) (hone : oneCellFields P #[f0, f1, f2] = true) (hC : P.cellsOf e = 3)
    (u0 : P.underlying f0.type = some (.int .u64)) (u1 : P.underlying f1.type = some (.int .u64)) (u2 : P.underlying f2.type = some (.slice i2)) (ui : P.underlying i2 = some (.struct #[g0, g1]))
    (ce : P.cellsOf i2 = 2) (o0 : g0.offset = 0) (o1 : g1.offset = 1) (cg0 : P.cellsOf g0.type = 1) (cg1 : P.cellsOf g1.type = 1) (v0 : P.underlying g0.type = some (.int .u64)) (v1 : P.underlying g1.type = some (.int .u64))
    (h : DataW.Trod enc P w 0 (fun _ => true) true t (.slice a len cap) d p) : ∃ l, EntsAt w a len l := by
  obtain ⟨fuel, hf⟩ := h
  rcases open_slice ht hf with ⟨hcs, _⟩ | ⟨x, l, c, m, n, D, Pl, hcs, _, hl, hm, hmm, _, hx⟩
  · simp [Value.cells] at hcs
    obtain ⟨rfl, rfl, rfl⟩ := hcs
    exact ⟨[], rfl, by omega, by simp, by simp, fun i hi => absurd hi (by omega)⟩
  · simp [Value.cells] at hcs
    obtain ⟨rfl, rfl, rfl⟩ := hcs
    simp only [if_true] at hmm
    unfold maxLen at hm
    obtain ⟨b, off, spot⟩ := x
    have part : ∀ i, i < len → ∃ n', ∀ (j : Nat) (f : Field), (#[f0, f1, f2] : Array Field)[j]? = some f → ∃ v y, w.cell? ((⟨b, off, spot⟩ : Addr).add (i * 3 + j)) = some v ∧ DataW.trod enc P w 0 (fun _ => true) true n' f.type [v] = some y := by
      intro i hi
      obtain ⟨cs', hc, ht'⟩ := hx i (by omega)
      rw [hC] at hc
      obtain ⟨_, hcl, hat⟩ := World.cells?_some hc
      obtain ⟨xs, n', _, _, _, hlen, hg⟩ := DataW.trod_struct hs ht'
      refine ⟨n', ?_⟩
      intro j f hj
      obtain ⟨o, k⟩ := hone_of hone j f hj
      have hj5 : j < 3 := (Array.getElem?_eq_some_iff.1 hj).1
      have g := hg j f hj
      rw [o, k] at g
      have hil : j < xs.length := by rw [hlen]; exact hj5
      rw [List.getElem?_eq_getElem hil] at g
      have hcj : j < cs'.length := by omega
      have hcell := hat j hj5
      rw [List.getElem?_eq_getElem hcj, add_add] at hcell
      refine ⟨cs'[j], xs[j], hcell, ?_⟩
      rw [← g]
      congr 1
      rw [List.drop_eq_getElem_cons hcj]
      rfl
    have hspot : 0 < len → spot = none := by
      intro h0
      obtain ⟨_, p0⟩ := part 0 h0
      obtain ⟨v0, y0, k0, _⟩ := p0 0 f0 rfl
      simpa [Addr.add] using World.cell?_spot k0
    have hv : ∀ i, i < len → ∃ r : EV, (EntW r.1 ∧ HolesAt w r ∧ w.cell? ⟨b, off + i * 3, none⟩ = some (.int .u64 r.1.rep) ∧ w.cell? ⟨b, off + i * 3 + 1, none⟩ = some (.int .u64 r.1.mx) ∧ w.cell? ⟨b, off + i * 3 + 2, none⟩ = some r.2) ∧ spot = none := by
      intro i hi
      obtain rfl := hspot (by omega)
      obtain ⟨n', part⟩ := part i hi
      obtain ⟨x0, y0, k0, q0⟩ := part 0 f0 rfl
      obtain ⟨x1, y1, k1, q1⟩ := part 1 f1 rfl
      obtain ⟨x2, y2, k2, q2⟩ := part 2 f2 rfl
      have ea : ∀ j, (⟨b, off, none⟩ : Addr).add j = ⟨b, off + j, none⟩ := by
        intro j
        unfold Addr.add; split <;> simp_all
      simp only [ea] at k0 k1 k2
      obtain ⟨n0, e0, _, w0⟩ := DataW.trod_int u0 q0
      obtain ⟨n1, e1, _, w1⟩ := DataW.trod_int u1 q1
      obtain ⟨a2, l2, c2, zs, e2, hP, hle⟩ := pairs_of u2 ui ce o0 o1 cg0 cg1 v0 v1 q2
      simp at e0 e1
      subst e0 e1 e2
      have hzl := hP.length
      subst hzl
      exact ⟨(⟨n0, n1, zs⟩, .slice a2 zs.length c2), ⟨⟨word_wf w0, word_wf w1, hP.words⟩, ⟨a2, c2, rfl, hP, hle⟩, k0, k1, k2⟩, rfl⟩
    have hg : ∀ i, i < len → ((List.range len).map fun i => if h : i < len then Classical.choose (hv i h) else EV.z).getD i EV.z = (if h : i < len then Classical.choose (hv i h) else EV.z) := by
      intro i hi
      simp [List.getD, hi]
    refine ⟨(List.range len).map fun i => if h : i < len then Classical.choose (hv i h) else EV.z, by simp, by omega, fun p hp => ?_, fun p hp => ?_, fun i hi => ?_⟩
    · obtain ⟨i, hi, rfl⟩ := List.mem_map.1 hp
      have hi' := List.mem_range.1 hi
      rw [dif_pos hi']
      exact (Classical.choose_spec (hv i hi')).1.1
    · obtain ⟨i, hi, rfl⟩ := List.mem_map.1 hp
      have hi' := List.mem_range.1 hi
      rw [dif_pos hi']
      exact (Classical.choose_spec (hv i hi')).1.2.1
    · have hc := Classical.choose_spec (hv i hi)
      rw [hg i hi, dif_pos hi]
      obtain ⟨⟨_, _, k0, k1, k2⟩, hsp⟩ := hc
      exact ⟨b, off, by rw [hsp], block_lt_of_cell k0, k0, k1, k2⟩
end
theorem lim_w {a b c d e : Int} (h2 : (Lit.int .i64 c).wf = true) (h3 : (Lit.int .i64 d).wf = true) : LimW ⟨a, b, c, d, e⟩ := by
  simp [Lit.wf, IntKind.min, IntKind.max, IntKind.signed, IntKind.bits] at h2 h3
  exact ⟨by simp only; omega, by simp only; omega⟩
end Go.Proofs.YtppeogalaikopaaDoor
