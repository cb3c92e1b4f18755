/- The walk of the law MeasureSplits: for every list and number the law returns true and changes nothing that was there. -/
import Derived.Test.YtccaeocnecfmaaaMeasureSplitNil
import Derived.Test.YtccaeocnecfmaaaMeasureRefSplitOut
import Derived.Test.YtccaeocnecfmaaaMeasureAlive
namespace Go.Proofs.Ytccaeocnecfmaaa
open Go.RowKit

/-- Split over any correct list: two lists of its own, those of the plain law. -/
theorem split_any (a : Option Addr) (len cap : Nat) (zs : List Iv) (rk : Int) (m : Nat) (w : World) (h : Prs w a len zs) (hc : CorTo zs len) (hx : Word rk) (hm : At zs rk len m) (hs : len ≤ 60) (hn : a = none → cap = 0) (hcap : len ≤ cap) (hcap2 : cap ≤ 9223372036854775807) :
    Calls Try.prog 21 #[.slice a len cap, .int .u64 rk] w fun e w' => ∃ va vb, e = .returned (.tuple #[va, vb]) ∧ Two w w' va vb (loS zs (fVal zs rk len m) m) (hiS zs (fVal zs rk len m) m) := by
  have hz := h.length
  by_cases h0 : len = 0
  · subst h0
    obtain rfl : zs = [] := List.length_eq_zero_iff.1 hz
    have e1 : loS [] (fVal [] rk 0 m) m = [] := by unfold loS; simp
    have e2 : hiS [] (fVal [] rk 0 m) m = [] := by unfold hiS; simp
    rw [e1, e2]
    exact split_nil a cap rk w hx hn hcap2
  · obtain ⟨b, off, rfl, _⟩ := h.cells 0 (by omega)
    by_cases hl : m < len
    · exact split_in b off len cap zs rk m w h hc hx hm hl hs hcap hcap2
    · obtain rfl : m = len := by have := hm.le; omega
      have e1 : loS zs (fVal zs rk m m) m = zs := by unfold loS; rw [if_neg (by omega), ← hz]; simp
      have e2 : hiS zs (fVal zs rk m m) m = [] := by unfold hiS; rw [if_neg (by omega), ← hz]; simp
      rw [e1, e2]
      exact split_end b off m cap zs rk w h hc hx hm hs hcap hcap2
/-- The reference's Split over any correct list. -/
theorem rsplit_any (a : Option Addr) (len cap : Nat) (zs : List Iv) (rk : Int) (m : Nat) (w : World) (h : Prs w a len zs) (hc : CorTo zs len) (hx : Word rk) (hm : At zs rk len m) (hs : len ≤ 60) (hn : a = none → cap = 0) :
    Calls Try.prog 22 #[.slice a len cap, .int .u64 rk] w fun e w' => ∃ va vb, e = .returned (.tuple #[va, vb]) ∧ OwnL w' w.heap.size 39 va (loS zs (fVal zs rk len m) m) ∧ OwnL w' w.heap.size 39 vb (hiS zs (fVal zs rk len m) m) ∧ Below w.heap.size w w' := by
  have hz := h.length
  by_cases hl : m < len
  · obtain ⟨v1, v2⟩ := fval_between hc hx.1 hm hl
    obtain ⟨e1, e2⟩ := split_lists hc hz hl v1 v2
    have hw := h.word hl
    have hv : Word (fVal zs rk len m) := by unfold Word at *; omega
    have ww : ∀ z ∈ loS zs (fVal zs rk len m) m, Word z.1 ∧ Word z.2 := by
      intro z hz'
      unfold loS at hz'
      split at hz'
      · next hh =>
        simp at hz'
        rcases hz' with hz' | rfl
        · exact h.words z (List.mem_of_mem_take hz')
        · refine ⟨hw.1, ?_⟩
          have := hh.2
          unfold Word at *; simp; omega
      · exact h.words z (List.mem_of_mem_take hz')
    have wh : ∀ z ∈ hiS zs (fVal zs rk len m) m, Word z.1 ∧ Word z.2 := by
      intro z hz'
      unfold hiS at hz'
      split at hz'
      · simp only [List.mem_cons] at hz'
        rcases hz' with rfl | hz'
        · exact ⟨hv, hw.2⟩
        · exact h.words z (List.mem_of_mem_drop hz')
      · exact h.words z (List.mem_of_mem_drop hz')
    refine (rsplit_in a len cap zs rk m w h hc hx hm hl hs).mono ?_
    rintro e w' ⟨va, vb, rfl, hA, hB, hb⟩
    rw [e1] at hA
    rw [e2] at hB
    exact ⟨va, vb, rfl, ⟨hA, ww⟩, ⟨hB, wh⟩, hb⟩
  · obtain rfl : m = len := by have := hm.le; omega
    have e1 : loS zs (fVal zs rk m m) m = zs := by unfold loS; rw [if_neg (by omega), ← hz]; simp
    have e2 : hiS zs (fVal zs rk m m) m = [] := by unfold hiS; rw [if_neg (by omega), ← hz]; simp
    rw [e1, e2]
    refine (rsplit_out a m cap zs rk m w h hc hx hm hl hs hn).mono ?_
    rintro e w' ⟨va, rfl, hA, hb⟩
    exact ⟨va, _, rfl, hA, ⟨World.ownsRow_nil _ _ _ _, by simp⟩, hb⟩
/-- Same over two lists of the call's own that are one list. -/
theorem same_own {w : World} {b1 b2 : Nat} {va vb : Value} {zs : List Iv} (hA : OwnL w b1 39 va zs) (hB : OwnL w b2 39 vb zs) :
    Calls Try.prog 23 #[va, vb] w fun e w' => e = .returned (.bool true) ∧ Below w.heap.size w w' := by
  obtain ⟨a, c, rfl, hP, _⟩ := hA.prs
  obtain ⟨a', c', rfl, hP', _⟩ := hB.prs
  exact (same_any a a' _ c _ c' zs zs w hP hP').mono fun _ _ ⟨he, hb⟩ => ⟨he.trans (ret_bool (decide_eq_true rfl)), hb⟩

set_option maxHeartbeats 1600000 in
theorem measureSplits_walk (a : Option Addr) (len cap : Nat) (zs : List Iv) (x : Int) (w : World) (h : Prs w a len zs) (hn : a = none → cap = 0) (hcap : len ≤ cap) (hcap2 : cap ≤ 9223372036854775807) (hx : Word x) :
    Calls Try.prog 7 #[.slice a len cap, .int .u64 x] w fun e w' => e = .returned (.bool true) ∧ Below w.heap.size w w' := by
  have H := hide h
  by_cases hR : Cor zs ∧ len ≤ 60
  · have hz := h.length
    have hc : CorTo zs len := by have := hR.1; unfold Cor at this; rw [hz] at this; exact this
    obtain ⟨m, hm⟩ := at_some zs x len
    have HA := hide (fun W (hb : Below w.heap.size w W) => split_any a len cap zs x m W (H.out.below hb) hc hx hm hR.2 hn hcap hcap2)
    have HB := hide (fun W (hb : Below w.heap.size w W) => rsplit_any a len cap zs x m W (H.out.below hb) hc hx hm hR.2 hn)
    obtain ⟨xs, exs⟩ : ∃ xs, xs = loS zs (fVal zs x len m) m := ⟨_, rfl⟩
    obtain ⟨ys, eys⟩ : ∃ ys, ys = hiS zs (fVal zs x len m) m := ⟨_, rfl⟩
    rw [← exs, ← eys] at HA HB
    have HR := hide hR
    clear h hR hz hc hm exs eys hn hcap hcap2 hx
    go_enter Try.func7, Try.ntmps7
    go_wp2_with fail
    refine (right_yes a len cap zs _ H.out HR.out.1 HR.out.2).mono ?_
    rintro e w1 ⟨rfl, b1⟩
    go_wp2_with fail
    refine (HA.out _ b1).mono ?_
    rintro e w2 ⟨va, vb, rfl, hA, hB, _, b2⟩
    have c2 := bl_trans b1 b2
    go_wp2_with fail
    refine (HB.out _ c2).mono ?_
    rintro e w3 ⟨vc, vd, rfl, hC, hD, b3⟩
    have c3 := bl_trans c2 b3
    go_wp2_with fail
    refine (alive_any _).mono ?_
    rintro e w4 ⟨rfl, b4⟩
    have c4 := bl_trans c3 b4
    go_wp2_with fail
    refine (same_own ((hA.below b3).below b4) (hC.below b4)).mono ?_
    rintro e w5 ⟨rfl, b5⟩
    have c5 := bl_trans c4 b5
    go_wp2_with fail
    refine (same_own (((hB.below b3).below b4).below b5) ((hD.below b4).below b5)).mono ?_
    rintro e w6 ⟨rfl, b6⟩
    go_wp2_with fail
    go_ret
    exact ⟨rfl, bl_trans c5 b6⟩
  · have HR := hide hR
    clear h hx hR hn hcap hcap2
    go_enter Try.func7, Try.ntmps7
    go_wp2_with fail
    refine (right_no a len cap zs _ H.out HR.out).mono ?_
    rintro e w1 ⟨rfl, b1⟩
    go_wp2_with fail
    refine (alive_any _).mono ?_
    rintro e w2 ⟨rfl, b2⟩
    go_wp2_with fail
    go_ret
    exact ⟨rfl, bl_trans b1 b2⟩
end Go.Proofs.Ytccaeocnecfmaaa
