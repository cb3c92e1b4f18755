/- The contract of slices.Clone over a list of intervals: the same list, in a row of its own. -/
import Derived.Test.YtccaeocnecfmaaaOwnList
namespace Go.Proofs.Ytccaeocnecfmaaa
open Go.RowKit

theorem info_iv : (Try.prog.info? 39).map (fun i => (i.zero, i.size, i.bytes)) = some (some (.agg #[.int .u64 0, .int .u64 0]), 2, 16) := by kernel_rfl

set_option maxHeartbeats 400000 in
theorem clone_any (a : Option Addr) (len cap : Nat) (zs : List Iv) (w : World) (h : Prs w a len zs) (hn : a = none → cap = 0) (hs : len ≤ 1000) :
    Calls Try.prog 33 #[.slice a len cap] w fun e w' => ∃ v, e = .returned v ∧ OwnL w' w.heap.size 39 v zs ∧ Below w.heap.size w w' := by
  obtain ⟨i0, hi, hz0, hz1, hz2⟩ := info_parts info_iv
  have hl := h.length
  have hw := h.words
  cases a with
  | none =>
    obtain rfl : len = 0 := by
      by_cases e : len = 0
      · exact e
      · obtain ⟨b, off, e, _⟩ := h.cells 0 (by omega); cases e
    obtain rfl : cap = 0 := hn rfl
    obtain rfl : zs = [] := List.length_eq_zero_iff.1 hl
    clear h hn
    have hb : ∀ w, (binOp .eql 23 (.slice none 0 0) (.slice none 0 0)).run Try.prog w = .ok (.bool true) w := fun w => by rfl
    go_enter Try.func33, Try.ntmps33
    go_wp2
    go_ret
    exact ⟨_, rfl, ⟨World.ownsRow_nil _ _ _ _, by simp⟩, Below.refl _ _⟩
  | some ad =>
    have hnews : ∀ j u, (cellsL zs)[j]? = some u → w.cell? (ad.add j) = some u := by
      by_cases e : len = 0
      · obtain rfl : zs = [] := List.length_eq_zero_iff.1 (by omega)
        intro j u hj; simp [cellsL] at hj
      · obtain ⟨b, off, e, _⟩ := h.cells 0 (by omega)
        obtain rfl : ad = ⟨b, off, none⟩ := by simpa using e
        exact h.news
    have hmade := World.ownsRow_made w (base := w.heap.size) (e := 39) (size := 2) #[] 0 (Nat.le_refl _) (by decide) rfl
    have hcl := cellsL_length zs
    have hb : ∀ w, (binOp .eql 23 (.slice (some ad) len cap) (.slice none 0 0)).run Try.prog w = .ok (.bool false) w := fun w => by rfl
    go_enter Try.func33, Try.ntmps33
    go_wp2_with (at_builtin; refine wpList_append_own_at _ rfl _ _ 23 rfl w.heap.size 39 i0 (.agg #[.int .u64 0, .int .u64 0]) 2 16 Try.underlying23 hi hz0 hz1 hz2 rfl (by decide) _ _ _ rfl hmade ad len cap (cellsL zs) rfl ?c1 ?c2 ?c3 ?c4 ?c5 ?c6 ?_)
    case c1 => rw [hcl, hl]
    case c2 => intro j u hj; exact (World.cell?_alloc_lt _ _ _ (World.block_lt_of_cell? _ _ (hnews j u hj))).trans (hnews j u hj)
    case c3 => exact cellsL_one zs
    case c4 => unfold maxLen; omega
    case c5 => omega
    case c6 => simp
    intro v' w1 hown' hgrow _ _
    have hb1 := (bl_alloc (Below.refl w.heap.size w) (.cells #[] 39)).grown hgrow (by simp) (fun g hg => by simp [Value.ownBlock] at hg; omega)
    go_wp2
    go_ret
    exact ⟨v', rfl, ⟨by rw [hl]; simpa using hown', hw⟩, hb1⟩
end Go.Proofs.Ytccaeocnecfmaaa
