/- append(s, l...) of a list that is read, of no element or of some: by one law. No program in sight. -/
import Derived.Test.YtccaeocnecfmaaaOwnList
import Derived.Laws.AppendOwnNone
namespace Go.Proofs.Ytccaeocnecfmaaa
open Go Go.RowKit

theorem wpList_append_gen {P : Program} {w : World} {ops : Array Oper} {rest : List Oper} {o : Oper} {a : Act} {Q : Exit → Act → World → Prop} (hgd : o.guard = none) (s x : Operand) (t : TypeId)
    (ho : o.op = .call { callee := .builtin .append, args := #[s, x], argTypes := #[t, t] })
    (base : Nat) (e : TypeId) (i : TypeInfo) (z : Value) (bytes : Nat) (ht : P.underlying t = some (.slice e)) (hi : P.info? e = some i) (hz : i.zero = some z)
    (hsize : i.size = 2) (hby : i.bytes = bytes) (hzs : z.cells.size = 2)
    (v : Value) (n : Nat) (xs : List Value) (hs : a.eval s = v) (hown : w.ownsRow base e 2 v n xs)
    (sa : Option Addr) (m c : Nat) (zs : List Iv) (hx : a.eval x = .slice sa m c) (hP : Prs w sa m zs) (hcn : sa = none → c = 0)
    (h63 : n + m ≤ maxLen) (hbytes : (n + m) * bytes ≤ 140737488355328) (hbase : base ≤ w.heap.size)
    (h : ∀ v' w', w'.ownsRow base e 2 v' (n + m) (xs ++ cellsL zs) → Below base w w' → wpList P ops Q rest (a.put o.dst v') w') :
    wpList P ops Q (o :: rest) a w := by
  have hl := hP.length
  have hcl := cellsL_length zs
  cases sa with
  | none =>
    obtain rfl : m = 0 := by
      by_cases e : m = 0
      · exact e
      · obtain ⟨b, off, e, _⟩ := hP.cells 0 (by omega); cases e
    obtain rfl : c = 0 := hcn rfl
    obtain rfl : zs = [] := List.length_eq_zero_iff.1 hl
    refine wpList_append_own_none hgd s x t ho base e i 2 ht hi v n xs hs hown hx (h v w ?_ (Below.refl _ _))
    simpa [cellsL] using hown
  | some ad =>
    have hnews : ∀ j u, (cellsL zs)[j]? = some u → w.cell? (ad.add j) = some u := by
      by_cases e : m = 0
      · obtain rfl : zs = [] := List.length_eq_zero_iff.1 (by omega)
        intro j u hj; simp [cellsL] at hj
      · obtain ⟨b, off, e, _⟩ := hP.cells 0 (by omega)
        obtain rfl : ad = ⟨b, off, none⟩ := by simpa using e
        exact hP.news
    refine wpList_append_own_at _ hgd s x t ho base e i z 2 bytes ht hi hz hsize hby hzs (by decide) v n xs hs hown ad m c (cellsL zs) hx (by rw [hcl, hl]) hnews (cellsL_one zs) h63 hbytes hbase ?_
    intro v' w' hown' hgrow _ _
    exact h v' w' hown' ((Below.refl base w).grown hgrow hbase (fun k hk => (hown.lt k hk).1))
end Go.Proofs.Ytccaeocnecfmaaa
