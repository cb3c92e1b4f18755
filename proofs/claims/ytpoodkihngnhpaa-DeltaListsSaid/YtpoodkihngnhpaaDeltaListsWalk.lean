/- The walk of the law DeltaLists: for all lists the law returns true and changes nothing that was there. -/
import Derived.Test.YtpoodkihngnhpaaDeltaAlive
namespace Go.Proofs.Ytpoodkihngnhpaa
open Go.RowKit

theorem right_own {w : World} {b1 : Nat} {va : Value} {zs : List Iv} (hA : OwnL w b1 44 va zs) (hc : Cor zs) :
    Calls Try.prog 17 #[va] w fun e w' => e = .returned (.bool true) ∧ Below w.heap.size w w' := by
  obtain ⟨a', c', rfl, hP, _⟩ := hA.prs
  exact rcor_yes a' _ c' zs w hP hc
theorem cor_ivs {ds : List Int} (hd : ∀ i, 0 ≤ ds.getD i 0) (n : Nat) : Cor (ivs ds 1 n) := by
  have h := cor_of_apart.1 (apart_ivs (ds := ds) (ap := 1) (by decide) hd n)
  unfold Cor
  rw [ivs_length]
  exact h

set_option maxHeartbeats 1600000 in
theorem deltaLists_walk (a : Option Addr) (len cap : Nat) (ds : List Int) (a' : Option Addr) (len' cap' : Nat) (zs : List Iv) (w : World) (h : Ints .u64 w a len ds) (h' : Prs w a' len' zs) :
    Calls Try.prog 5 #[.slice a len cap, .slice a' len' cap'] w fun e w' => e = .returned (.bool true) ∧ Below w.heap.size w w' := by
  have H := hide h; have H' := hide h'
  have hz := h.length
  have hmo := h.most
  have hz' := h'.length
  have hmo' := h'.most
  have HD := hide (fun i => (ints_get h i).1)
  have hcor : ApTo zs 1 len' ↔ Cor zs := by
    have := cor_of_apart (zs := zs) (k := len')
    unfold Cor
    rw [hz']
    exact this
  by_cases hs : len ≤ 100
  · have s1 : ¬ (100 : Int) < (len : Int) := by omega
    have s1d : decide ((100 : Int) < (len : Int)) = false := decide_eq_false s1
    have s1n : ¬ 100 < len := by omega
    by_cases hs' : len' ≤ 60
    · have s2 : ¬ (60 : Int) < (len' : Int) := by omega
      have s2d : decide ((60 : Int) < (len' : Int)) = false := decide_eq_false s2
      by_cases hA : SumsOk ds 1
      · have HA := hide hA
        by_cases hB : ApTo zs 1 len'
        · have HB := hide hB; have HC := hide (hcor.1 hB)
          clear h h' hz hz' hcor hA hB
          go_enter Try.func5, Try.ntmps5
          go_wp2_with fail
          refine (sums_yes a len cap ds 1 _ H.out one_word (by omega) HA.out).mono ?_
          rintro e w1 ⟨vl, rfl, hL, b1⟩
          have L1 := hide hL
          clear hL
          go_wp2_with fail
          refine (diffs_yes a' len' cap' zs 1 _ (H'.out.below b1) one_word (by omega) HB.out).mono ?_
          rintro e w2 ⟨vd, rfl, _, b2⟩
          have B2 := hide (bl_trans b1 b2)
          have L2 := hide (L1.out.keep b2)
          clear b1 b2
          go_wp2_with fail
          refine (alive_any _).mono ?_
          rintro e w3 ⟨rfl, b3⟩
          have B3 := hide (bl_trans B2.out b3)
          have L3 := hide (L2.out.keep b3)
          clear b3
          go_wp2_with fail
          refine (right_own L3.out (cor_ivs HD.out _)).mono ?_
          rintro e w4 ⟨rfl, b4⟩
          have B4 := hide (bl_trans B3.out b4)
          clear b4
          go_wp2_with fail
          refine (rcor_yes a' len' cap' zs _ (H'.out.below B4.out) HC.out).mono ?_
          rintro e w5 ⟨rfl, b5⟩
          go_wp2_with fail
          go_ret
          exact ⟨rfl, bl_trans B4.out b5⟩
        · have HB := hide hB; have HC := hide (show ¬ Cor zs from fun h => hB (hcor.2 h))
          clear h h' hz hz' hcor hA hB
          go_enter Try.func5, Try.ntmps5
          go_wp2_with fail
          refine (sums_yes a len cap ds 1 _ H.out one_word (by omega) HA.out).mono ?_
          rintro e w1 ⟨vl, rfl, hL, b1⟩
          have L1 := hide hL
          clear hL
          go_wp2_with fail
          refine (diffs_no a' len' cap' zs 1 _ (H'.out.below b1) one_word (by omega) HB.out).mono ?_
          rintro e w2 ⟨rfl, b2⟩
          have B2 := hide (bl_trans b1 b2)
          have L2 := hide (L1.out.keep b2)
          clear b1 b2
          go_wp2_with fail
          refine (alive_any _).mono ?_
          rintro e w3 ⟨rfl, b3⟩
          have B3 := hide (bl_trans B2.out b3)
          have L3 := hide (L2.out.keep b3)
          clear b3
          go_wp2_with fail
          refine (right_own L3.out (cor_ivs HD.out _)).mono ?_
          rintro e w4 ⟨rfl, b4⟩
          have B4 := hide (bl_trans B3.out b4)
          clear b4
          go_wp2_with fail
          refine (rcor_no a' len' cap' zs _ (H'.out.below B4.out) HC.out).mono ?_
          rintro e w5 ⟨rfl, b5⟩
          go_wp2_with fail
          go_ret
          exact ⟨rfl, bl_trans B4.out b5⟩
      · have HA := hide hA
        by_cases hB : ApTo zs 1 len'
        · have HB := hide hB; have HC := hide (hcor.1 hB)
          clear h h' hz hz' hcor hA hB
          go_enter Try.func5, Try.ntmps5
          go_wp2_with fail
          refine (sums_no a len cap ds 1 _ H.out one_word (by omega) HA.out).mono ?_
          rintro e w1 ⟨rfl, b1⟩
          go_wp2_with fail
          refine (diffs_yes a' len' cap' zs 1 _ (H'.out.below b1) one_word (by omega) HB.out).mono ?_
          rintro e w2 ⟨vd, rfl, _, b2⟩
          have B2 := hide (bl_trans b1 b2)
          clear b1 b2
          go_wp2_with fail
          refine (alive_any _).mono ?_
          rintro e w3 ⟨rfl, b3⟩
          have B3 := hide (bl_trans B2.out b3)
          clear b3
          go_wp2_with fail
          refine (rcor_yes a' len' cap' zs _ (H'.out.below B3.out) HC.out).mono ?_
          rintro e w5 ⟨rfl, b5⟩
          go_wp2_with fail
          go_ret
          exact ⟨rfl, bl_trans B3.out b5⟩
        · have HB := hide hB; have HC := hide (show ¬ Cor zs from fun h => hB (hcor.2 h))
          clear h h' hz hz' hcor hA hB
          go_enter Try.func5, Try.ntmps5
          go_wp2_with fail
          refine (sums_no a len cap ds 1 _ H.out one_word (by omega) HA.out).mono ?_
          rintro e w1 ⟨rfl, b1⟩
          go_wp2_with fail
          refine (diffs_no a' len' cap' zs 1 _ (H'.out.below b1) one_word (by omega) HB.out).mono ?_
          rintro e w2 ⟨rfl, b2⟩
          have B2 := hide (bl_trans b1 b2)
          clear b1 b2
          go_wp2_with fail
          refine (alive_any _).mono ?_
          rintro e w3 ⟨rfl, b3⟩
          have B3 := hide (bl_trans B2.out b3)
          clear b3
          go_wp2_with fail
          refine (rcor_no a' len' cap' zs _ (H'.out.below B3.out) HC.out).mono ?_
          rintro e w5 ⟨rfl, b5⟩
          go_wp2_with fail
          go_ret
          exact ⟨rfl, bl_trans B3.out b5⟩
    · have s2 : (60 : Int) < (len' : Int) := by omega
      clear h h' hz hz' hcor
      go_enter Try.func5, Try.ntmps5
      go_wp2_with fail
      refine (alive_any _).mono ?_
      rintro e w1 ⟨rfl, b1⟩
      go_wp2_with fail
      go_ret
      exact ⟨rfl, b1⟩
  · have s1 : (100 : Int) < (len : Int) := by omega
    clear h h' hz hz' hcor
    go_enter Try.func5, Try.ntmps5
    go_wp2_with fail
    refine (alive_any _).mono ?_
    rintro e w1 ⟨rfl, b1⟩
    go_wp2_with fail
    go_ret
    exact ⟨rfl, b1⟩
end Go.Proofs.Ytpoodkihngnhpaa
