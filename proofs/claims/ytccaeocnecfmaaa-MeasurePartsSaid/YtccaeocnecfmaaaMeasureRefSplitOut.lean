/- The contract of the reference's Split over a correct list, where the rank is not below the number of its numbers. -/
import Derived.Test.YtccaeocnecfmaaaMeasureRefSplit
import Derived.Laws.AppendOwnNone
namespace Go.Proofs.Ytccaeocnecfmaaa
open Go.RowKit

set_option maxHeartbeats 800000 in
theorem rsplit_out (a : Option Addr) (len cap : Nat) (zs : List Iv) (rk : Int) (m : Nat) (w : World) (h : Prs w a len zs) (hc : CorTo zs len) (hx : Word rk) (hm : At zs rk len m) (hl : ¬ m < len) (hs : len ≤ 60) (hn : a = none → cap = 0) :
    Calls Try.prog 22 #[.slice a len cap, .int .u64 rk] w fun e w' => ∃ va, e = .returned (.tuple #[va, .slice none 0 0]) ∧ OwnL w' w.heap.size 39 va zs ∧ Below w.heap.size w w' := by
  obtain ⟨i0, hi0, hz0, hz1, hz2⟩ := info_parts info_iv
  have hlen := h.length
  have hw := h.words
  have hcl := cellsL_length zs
  have H := hide h
  have hN := rnth_any a len cap zs rk m w h hc hx hm
  rw [decide_eq_false hl] at hN
  have HN := hide hN
  have ho := hide hn
  clear h hN hc hx hm hl hn
  cases a with
  | none =>
    obtain rfl : len = 0 := by
      by_cases e : len = 0
      · exact e
      · obtain ⟨b, off, e, _⟩ := H.out.cells 0 (by omega); cases e
    obtain rfl : cap = 0 := ho.out rfl
    obtain rfl : zs = [] := List.length_eq_zero_iff.1 hlen
    go_enter Try.func22, Try.ntmps22
    go_wp2_with fail
    refine HN.out.mono ?_
    rintro e w1 ⟨rfl, b1⟩
    have hsz := b1.size
    have hmade := World.ownsRow_made w1 (base := w.heap.size) (e := 39) (size := 2) #[] 0 hsz (by decide) rfl
    go_wp2_with (at_builtin; refine wpList_append_own_none _ rfl _ _ 23 rfl w.heap.size 39 i0 2 Try.underlying23 hi0 _ _ _ rfl hmade rfl ?_)
    go_ret2
    exact ⟨_, rfl, ⟨hmade, hw⟩, bl_alloc b1 _⟩
  | some ad =>
    have hnews : ∀ (W : World), Below w.heap.size w W → ∀ j u, (cellsL zs)[j]? = some u → W.cell? (ad.add j) = some u := by
      intro W hW
      by_cases e : len = 0
      · obtain rfl : zs = [] := List.length_eq_zero_iff.1 (by omega)
        intro j u hj; simp [cellsL] at hj
      · obtain ⟨b, off, e, _⟩ := H.out.cells 0 (by omega)
        obtain rfl : ad = ⟨b, off, none⟩ := by simpa using e
        exact (H.out.below hW).news
    go_enter Try.func22, Try.ntmps22
    go_wp2_with fail
    refine HN.out.mono ?_
    rintro e w1 ⟨rfl, b1⟩
    have hsz := b1.size
    have hmade := World.ownsRow_made w1 (base := w.heap.size) (e := 39) (size := 2) #[] 0 hsz (by decide) rfl
    have b2 := bl_alloc b1 (.cells #[] 39)
    go_wp2_with (at_builtin; refine wpList_append_own_at _ rfl _ _ 23 rfl w.heap.size 39 i0 (.agg #[.int .u64 0, .int .u64 0]) 2 16 Try.underlying23 hi0 hz0 hz1 hz2 rfl (by decide) _ _ _ rfl hmade ad len cap (cellsL zs) rfl ?k1 ?k2 ?k3 ?k4 ?k5 ?k6 ?_)
    case k1 => rw [hcl, hlen]
    case k2 => exact hnews _ b2
    case k3 => exact cellsL_one zs
    case k4 => unfold maxLen; omega
    case k5 => omega
    case k6 => simp; omega
    intro v' w2 hown' hgrow _ _
    have hb1 := b2.grown hgrow (by simp; omega) (fun g hg => by simp [Value.ownBlock] at hg; omega)
    go_wp2
    go_ret2
    exact ⟨v', rfl, ⟨by rw [hlen]; simpa using hown', hw⟩, hb1⟩
end Go.Proofs.Ytccaeocnecfmaaa
