/- Lists of words that the call itself made: a row of its own; delta's join; slices.Equal. -/
import Derived.Test.YtbphphmjhcehkaaDoorCursor
import Derived.Deep.AppendLies
import Derived.ArgAppend
import Derived.Maps.AppendAt
import Derived.BigQuiet
import Derived.Deep.QuietTactic
namespace Go.Proofs.YtbphphmjhcehkaaDoor
open Go.RowKit

/-- A list of words in a row of the call's own, not in front of base. -/
structure OwnI (w : World) (base : Nat) (v : Value) (zs : List Int) : Prop where
  row : w.ownsRow base 51 1 v zs.length (zs.map (Value.int .u64))
  words : ∀ z ∈ zs, Word z
theorem wf_of_word {x : Int} (h : Word x) : (Lit.int .u64 x).wf = true := by
  unfold Word at h
  simp [Lit.wf, IntKind.min, IntKind.max, IntKind.signed, IntKind.bits]; omega
theorem OwnI.nil (w : World) (base : Nat) : OwnI w base (.slice none 0 0) [] := ⟨World.ownsRow_nil _ _ _ _, by simp⟩
theorem OwnI.ints {w : World} {base : Nat} {v : Value} {zs : List Int} (h : OwnI w base v zs) (hm : zs.length ≤ 9223372036854775807) : ∃ a cap, v = .slice a zs.length cap ∧ Ints .u64 w a zs.length zs ∧ zs.length ≤ cap := by
  obtain ⟨a, cap, hv, h1, _, h3⟩ := ints_of_own h.row hm (fun z hz => wf_of_word (h.words z hz))
  exact ⟨a, cap, hv, h3, h1⟩
theorem irowI_below {w w' : World} {base n : Nat} {t : TypeId} {v : Value} {xs : List Value} (h : w.ownsRow base t 1 v n xs) (hb : Below w.heap.size w w') : w'.ownsRow base t 1 v n xs := by
  refine ⟨h.1, ?_⟩
  rcases h.2 with hn | ⟨g, cap, cur, hv, hg, hc, rest⟩
  · exact .inl hn
  · exact .inr ⟨g, cap, cur, hv, hg, (hb.block g (Array.getElem?_eq_some_iff.1 hc).1).trans hc, rest⟩
theorem OwnI.below {w w' : World} {base : Nat} {v : Value} {zs : List Int} (h : OwnI w base v zs) (hb : Below w.heap.size w w') : OwnI w' base v zs := ⟨irowI_below h.row hb, h.words⟩

theorem info_u64 : (Tryd.prog.info? 51).map (fun i => (i.zero, i.size, i.bytes)) = some (some (.int .u64 0), 1, 8) := by kernel_rfl
theorem two_new (w : World) {b : Nat} {x y : Value} {t : TypeId} (h : w.heap[b]? = some (.cells #[x, y] t (0, 0))) : ∀ j u, [x, y][j]? = some u → w.cell? ((⟨b, 0, none⟩ : Addr).add j) = some u := by
  intro j u hj
  have ea : ∀ j, (⟨b, 0, none⟩ : Addr).add j = ⟨b, 0 + j, none⟩ := by
    intro j
    unfold Addr.add; split <;> simp_all
  rw [ea]
  match j, hj with
  | 0, hj => simp at hj; subst hj; simp [World.cell?, h]
  | 1, hj => simp at hj; subst hj; simp [World.cell?, h]

theorem join_any (w0 : World) (v : Value) (zs : List Int) (b : Nat) (x y : Int) (w : World) (h : OwnI w w0.heap.size v zs) (h0 : Below w0.heap.size w0 w) (hx : w.heap[b]? = some (.cells #[.int .u64 x, .int .u64 y] 51 (0, 0))) (wx : Word x) (wy : Word y) (hn : zs.length ≤ 1000000) :
    Calls Tryd.prog 53 #[v, .slice (some ⟨b, 0, none⟩) 2 2] w fun e w' => ∃ v', e = .returned v' ∧ OwnI w' w0.heap.size v' (zs ++ [x, y]) ∧ Below w0.heap.size w0 w' ∧ w.heap.size ≤ w'.heap.size ∧ w.grownBy w' v.ownBlock := by
  obtain ⟨i0, hi, hz0, hz1, hz2⟩ := info_parts info_u64
  have H := hide h
  have HX := hide hx
  have H0 := hide h0
  have hs := h0.size
  clear h hx h0
  go_enter Tryd.func53, Tryd.ntmps53
  go_wp2_with (at_builtin; refine wpList_append_own_at _ rfl _ _ 49 rfl w0.heap.size 51 i0 (.int .u64 0) 1 8 Tryd.underlying49 hi hz0 hz1 hz2 rfl (by decide) _ _ _ rfl H.out.row ⟨b, 0, none⟩ 2 2 [.int .u64 x, .int .u64 y] rfl rfl ?c1 ?c2 ?c3 ?c4 ?c5 ?_)
  case c1 => exact two_new _ HX.out
  case c2 => intro u hu; simp at hu; rcases hu with rfl | rfl <;> rfl
  case c3 => unfold maxLen; omega
  case c4 => omega
  case c5 => exact hs
  intro v' w1 hown hgrow _ _
  have hb1 := H0.out.grown hgrow hs (fun g hg => (H.out.row.lt g hg).1)
  have hO : OwnI w1 w0.heap.size v' (zs ++ [x, y]) := ⟨by simpa using hown, fun z hz => by
    simp at hz
    rcases hz with hz | rfl | rfl
    · exact H.out.words z hz
    · exact wx
    · exact wy⟩
  have HO := hide hO
  have hg := hgrow.size
  have HG := hide hgrow
  clear hown hgrow hO
  go_wp2
  go_ret
  exact ⟨_, rfl, HO.out, hb1, hg, HG.out⟩

end Go.Proofs.YtbphphmjhcehkaaDoor
