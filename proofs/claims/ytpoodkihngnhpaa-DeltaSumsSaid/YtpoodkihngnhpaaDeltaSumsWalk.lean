/- The walk of the law DeltaSums: for all differences the law returns true and changes nothing that was there. -/
import Derived.Test.YtpoodkihngnhpaaDeltaAlive
namespace Go.Proofs.Ytpoodkihngnhpaa
open Go.RowKit

/-- Diffs over the intervals of differences gives the differences back. -/
theorem diffs_back {w : World} {b1 : Nat} {vl : Value} {ds : List Int} {n : Nat} (ap : Int) (hL : OwnL w b1 44 vl (ivs ds ap n)) (hn : ds.length = 2 * n) (hs : n ≤ 60) (ha : Word ap) (hd : ∀ i, 0 ≤ ds.getD i 0) :
    Calls Try.prog 10 #[vl, .int .u64 ap] w fun e w' => ∃ v, e = .returned (.tuple #[v, .bool true]) ∧ OwnI w' w.heap.size v ds ∧ Below w.heap.size w w' := by
  obtain ⟨a', c', rfl, hP, _⟩ := hL.prs
  rw [ivs_length] at hP ⊢
  have := diffs_yes a' n c' _ ap w hP ha (by omega) (apart_ivs ha.1 hd n)
  rw [dif_ivs hn] at this
  exact this
theorem diffs_nil (ap : Int) (w : World) (ha : Word ap) :
    Calls Try.prog 10 #[.slice none 0 0, .int .u64 ap] w fun e w' => ∃ v, e = .returned (.tuple #[v, .bool true]) ∧ Below w.heap.size w w' := by
  refine (diffs_yes none 0 0 [] ap w ⟨rfl, by omega, by simp, fun i hi => absurd hi (by omega)⟩ ha (by omega) (ApTo.zero _ _)).mono ?_
  rintro e w' ⟨v, he, _, hb⟩
  exact ⟨v, he, hb⟩
theorem same_nil (w : World) : Calls Try.prog 15 #[.slice none 0 0, .slice none 0 0] w fun e w' => e = .returned (.bool true) ∧ Below w.heap.size w w' :=
  same_owns (OwnL.nil w 0 _) (OwnL.nil w 0 _)

set_option maxHeartbeats 1600000 in
theorem deltaSums_walk (a : Option Addr) (len cap : Nat) (ds : List Int) (ap : Int) (w : World) (h : Ints .u64 w a len ds) (ha : Word ap) :
    Calls Try.prog 4 #[.slice a len cap, .int .u64 ap] w fun e w' => e = .returned (.bool true) ∧ Below w.heap.size w w' := by
  have H := hide h; have HA := hide ha
  have hz := h.length
  have hmo := h.most
  by_cases hs : len ≤ 100
  · have hs' : ¬ (100 : Int) < (len : Int) := by omega
    by_cases hA : SumsOk ds ap
    · have HT := hide hA
      have HD := hide (fun i => (ints_get h i).1)
      have HZ := hide hz
      have HE := hide (show ds.length = 2 * (ds.length / 2) by have := hA.1; omega)
      have HN := hide (show ds.length / 2 ≤ 60 by omega)
      have HM := hide (show ds.length ≤ 9223372036854775807 by omega)
      clear h ha hA hz
      go_enter Try.func4, Try.ntmps4
      go_wp2_with fail
      refine (sums_yes a len cap ds ap _ H.out HA.out (by omega) HT.out).mono ?_
      rintro e w1 ⟨vl, rfl, hL, b1⟩
      have L1 := hide hL
      clear hL
      go_wp2_with fail
      refine (rsums_yes a len cap ds ap _ (H.out.below b1) HA.out (by omega) HT.out).mono ?_
      rintro e w2 ⟨vr, rfl, hR, b2⟩
      have L2 := hide (L1.out.keep b2)
      have R2 := hide hR
      have B2 := hide (bl_trans b1 b2)
      clear b1 b2 hR
      go_wp2_with fail
      refine (same_owns L2.out R2.out).mono ?_
      rintro e w3 ⟨rfl, b3⟩
      have L3 := hide (L2.out.keep b3)
      have B3 := hide (bl_trans B2.out b3)
      clear b3
      go_wp2_with fail
      refine (diffs_back ap L3.out HE.out HN.out HA.out HD.out).mono ?_
      rintro e w4 ⟨ve, rfl, hE, b4⟩
      have E4 := hide hE
      have B4 := hide (bl_trans B3.out b4)
      clear b4 hE
      go_wp2_with fail
      refine (alive_any _).mono ?_
      rintro e w5 ⟨rfl, b5⟩
      have E5 := hide (E4.out.below b5)
      have B5 := hide (bl_trans B4.out b5)
      clear b5
      go_wp2_with fail
      refine (equal_own E5.out HM.out (H.out.below B5.out) rfl).mono ?_
      rintro e w6 ⟨rfl, b6⟩
      go_wp2_with fail
      go_ret
      exact ⟨rfl, bl_trans B5.out b6⟩
    · have HT := hide hA
      clear h ha hA hz
      go_enter Try.func4, Try.ntmps4
      go_wp2_with fail
      refine (sums_no a len cap ds ap _ H.out HA.out (by omega) HT.out).mono ?_
      rintro e w1 ⟨rfl, b1⟩
      go_wp2_with fail
      refine (rsums_not a len cap ds ap _ (H.out.below b1) HA.out (by omega) HT.out).mono ?_
      rintro e w2 ⟨rfl, b2⟩
      go_wp2_with fail
      refine (same_nil _).mono ?_
      rintro e w3 ⟨rfl, b3⟩
      go_wp2_with fail
      refine (diffs_nil ap _ HA.out).mono ?_
      rintro e w4 ⟨ve, rfl, b4⟩
      go_wp2_with fail
      refine (alive_any _).mono ?_
      rintro e w5 ⟨rfl, b5⟩
      go_wp2_with fail
      go_ret
      exact ⟨rfl, bl_trans (bl_trans (bl_trans (bl_trans b1 b2) b3) b4) b5⟩
  · have hs' : (100 : Int) < (len : Int) := by omega
    clear h ha hz
    go_enter Try.func4, Try.ntmps4
    go_wp2_with fail
    refine (alive_any _).mono ?_
    rintro e w1 ⟨rfl, b1⟩
    go_wp2_with fail
    go_ret
    exact ⟨rfl, b1⟩
end Go.Proofs.Ytpoodkihngnhpaa
