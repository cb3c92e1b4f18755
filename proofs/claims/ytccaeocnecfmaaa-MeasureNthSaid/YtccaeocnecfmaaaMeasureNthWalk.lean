/- The walk of the law MeasureNth: for every list and rank the law returns true and changes nothing that was there. -/
import Derived.Test.YtccaeocnecfmaaaMeasurePlain
import Derived.Test.YtccaeocnecfmaaaMeasureRefNth
import Derived.Test.YtccaeocnecfmaaaMeasureAlive
namespace Go.Proofs.Ytccaeocnecfmaaa
open Go.RowKit

set_option maxHeartbeats 1600000 in
theorem measureNth_walk (a : Option Addr) (len cap : Nat) (zs : List Iv) (x : Int) (w : World) (h : Prs w a len zs) (hx : Word x) :
    Calls Try.prog 4 #[.slice a len cap, .int .u64 x] w fun e w' => e = .returned (.bool true) ∧ Below w.heap.size w w' := by
  have H := hide h
  by_cases hR : Cor zs ∧ len ≤ 60
  · obtain ⟨m, hm⟩ := at_some zs x len
    have hc : CorTo zs len := by have := hR.1; unfold Cor at this; rw [h.length] at this; exact this
    have hz := h.length
    have HC := hide hc; have HM := hide hm; have HX := hide hx; have HR := hide hR; have HZ := hide hz
    clear h hc hm hx hR hz
    obtain ⟨v, ev⟩ : ∃ v, v = fVal zs x len m := ⟨_, rfl⟩
    by_cases hl : m < len
    · have ed : decide (m < len) = true := decide_eq_true hl
      have ev' : v = Lo zs m + (x - cntTo zs m) := by rw [ev]; unfold fVal; rw [if_pos hl]
      obtain ⟨m', hs, ho⟩ := rank_at HC.out HX.out.1 HM.out hl
      have hin := fval_in HC.out HZ.out HX.out.1 HM.out hl
      rw [← ev'] at hs ho hin
      have wv : Word v := by
        have := (H.out.word hl); have b := HM.out.base HX.out.1 (Nat.le_refl m); have n := HM.out.at' hl; have s := cnt_succ HC.out hl
        rw [ev']; unfold Word at *; omega
      have HN := fun W (hb : Below w.heap.size w W) => nth_any a len cap zs x m W (H.out.below hb) HC.out HX.out HM.out
      have HT := fun W (hb : Below w.heap.size w W) => rnth_any a len cap zs x m W (H.out.below hb) HC.out HX.out HM.out
      have HH := fun W (hb : Below w.heap.size w W) => hasL_any a len cap zs v W (H.out.below hb) wv
      have HK := fun W (hb : Below w.heap.size w W) => rank_any a len cap zs v m' W (H.out.below hb) wv hs
      rw [hin] at HH
      rw [ho, hi64_word HX.out, lo64_word HX.out] at HK
      rw [← ev, ed] at HN HT
      have HN := hide HN; have HT := hide HT; have HH := hide HH; have HK := hide HK
      clear ev ev' hs ho hin ed hl wv
      go_enter Try.func4, Try.ntmps4
      go_wp2_with fail
      refine (right_yes a len cap zs _ H.out HR.out.1 HR.out.2).mono ?_
      rintro e w1 ⟨rfl, b1⟩
      go_wp2_with fail
      refine (HN.out _ b1).mono ?_
      rintro e w2 ⟨rfl, b2⟩
      have c2 := bl_trans b1 b2
      go_wp2_with fail
      refine (HT.out _ c2).mono ?_
      rintro e w3 ⟨rfl, b3⟩
      have c3 := bl_trans c2 b3
      go_wp2_with fail
      refine (alive_any _).mono ?_
      rintro e w4 ⟨rfl, b4⟩
      have c4 := bl_trans c3 b4
      go_wp2_with fail
      refine (HH.out _ c4).mono ?_
      rintro e w5 ⟨rfl, b5⟩
      have c5 := bl_trans c4 b5
      go_wp2_with fail
      refine (HK.out _ c5).mono ?_
      rintro e w6 ⟨rfl, b6⟩
      go_wp2_with fail
      go_ret
      exact ⟨by simp, bl_trans c5 b6⟩
    · have ed : decide (m < len) = false := decide_eq_false hl
      have HN := fun W (hb : Below w.heap.size w W) => nth_any a len cap zs x m W (H.out.below hb) HC.out HX.out HM.out
      have HT := fun W (hb : Below w.heap.size w W) => rnth_any a len cap zs x m W (H.out.below hb) HC.out HX.out HM.out
      rw [← ev, ed] at HN HT
      have HN := hide HN; have HT := hide HT
      clear ev ed hl
      go_enter Try.func4, Try.ntmps4
      go_wp2_with fail
      refine (right_yes a len cap zs _ H.out HR.out.1 HR.out.2).mono ?_
      rintro e w1 ⟨rfl, b1⟩
      go_wp2_with fail
      refine (HN.out _ b1).mono ?_
      rintro e w2 ⟨rfl, b2⟩
      have c2 := bl_trans b1 b2
      go_wp2_with fail
      refine (HT.out _ c2).mono ?_
      rintro e w3 ⟨rfl, b3⟩
      have c3 := bl_trans c2 b3
      go_wp2_with fail
      refine (alive_any _).mono ?_
      rintro e w4 ⟨rfl, b4⟩
      go_wp2_with fail
      go_ret
      exact ⟨by simp, bl_trans c3 b4⟩
  · have HR := hide hR
    clear h hx hR
    go_enter Try.func4, Try.ntmps4
    go_wp2_with fail
    refine (right_no a len cap zs _ H.out HR.out).mono ?_
    rintro e w1 ⟨rfl, b1⟩
    go_wp2_with fail
    refine (alive_any _).mono ?_
    rintro e w2 ⟨rfl, b2⟩
    go_wp2_with fail
    go_ret
    exact ⟨rfl, bl_trans b1 b2⟩
end Go.Proofs.Ytccaeocnecfmaaa
