/- The walk of the law DeltaDiffs: for all intervals the law returns true and changes nothing that was there. -/
import Derived.Test.YtpoodkihngnhpaaDeltaAlive
namespace Go.Proofs.Ytpoodkihngnhpaa
open Go.RowKit

theorem rapart_yes (a : Option Addr) (len cap : Nat) (zs : List Iv) (ap : Int) (w : World) (h : Prs w a len zs) (ha : Word ap) (hA : ApTo zs ap len) :
    Calls Try.prog 11 #[.slice a len cap, .int .u64 ap] w fun e w' => e = .returned (.bool true) ∧ Below w.heap.size w w' := by
  refine (rapart_any a len cap zs ap w h ha).mono ?_
  rintro e w' ⟨hb, ⟨_, he⟩ | ⟨hn, _⟩⟩
  · exact ⟨he, hb⟩
  · exact absurd hA hn
theorem rapart_no (a : Option Addr) (len cap : Nat) (zs : List Iv) (ap : Int) (w : World) (h : Prs w a len zs) (ha : Word ap) (hA : ¬ ApTo zs ap len) :
    Calls Try.prog 11 #[.slice a len cap, .int .u64 ap] w fun e w' => e = .returned (.bool false) ∧ Below w.heap.size w w' := by
  refine (rapart_any a len cap zs ap w h ha).mono ?_
  rintro e w' ⟨hb, ⟨hy, _⟩ | ⟨_, he⟩⟩
  · exact absurd hy hA
  · exact ⟨he, hb⟩
/-- Sums over the differences of a list gives the list back. -/
theorem sums_back {w : World} {b1 : Nat} {vd : Value} {zs : List Iv} {len : Nat} (ap : Int) (hD : OwnI w b1 vd (dif zs ap len)) (hz : zs.length = len) (hs : len ≤ 60) (ha : Word ap) (hw : ∀ i, i < zs.length → Lo zs i < 18446744073709551616 ∧ Hi zs i < 18446744073709551616) :
    Calls Try.prog 12 #[vd, .int .u64 ap] w fun e w' => ∃ v, e = .returned (.tuple #[v, .bool true]) ∧ OwnL w' w.heap.size 44 v zs ∧ Below w.heap.size w w' := by
  have hl := dif_length zs ap len
  obtain ⟨a', c', rfl, hI, _⟩ := hD.ints (by omega)
  have hok : SumsOk (dif zs ap len) ap := by have := sumsOk_dif (ap := ap) hw; rw [hz] at this; exact this
  have e : ivs (dif zs ap len) ap ((dif zs ap len).length / 2) = zs := by
    rw [hl, show 2 * len / 2 = zs.length by omega, ← hz]; exact ivs_dif
  have := sums_yes a' _ c' _ ap w hI ha (by omega) hok
  rw [e] at this
  exact this

set_option maxHeartbeats 1600000 in
theorem deltaDiffs_walk (a : Option Addr) (len cap : Nat) (zs : List Iv) (ap : Int) (w : World) (h : Prs w a len zs) (ha : Word ap) :
    Calls Try.prog 3 #[.slice a len cap, .int .u64 ap] w fun e w' => e = .returned (.bool true) ∧ Below w.heap.size w w' := by
  have H := hide h; have HA := hide ha
  have hz := h.length
  have hmo := h.most
  by_cases hs : len ≤ 60
  · have hs' : ¬ (60 : Int) < (len : Int) := by omega
    by_cases hA : ApTo zs ap len
    · have HT := hide hA
      have HWD := hide (fun i (hi : i < zs.length) => (show Lo zs i < 18446744073709551616 ∧ Hi zs i < 18446744073709551616 from ⟨(h.word (i := i) (by omega)).1.2, (h.word (i := i) (by omega)).2.2⟩))
      have HZ := hide hz
      have HDL := hide (show (dif zs ap len).length ≤ 9223372036854775807 by rw [dif_length]; omega)
      clear h ha hA hz
      go_enter Try.func3, Try.ntmps3
      go_wp2_with fail
      refine (diffs_yes a len cap zs ap _ H.out HA.out (by omega) HT.out).mono ?_
      rintro e w1 ⟨vd, rfl, hD, b1⟩
      have D1 := hide hD
      clear hD
      go_wp2_with fail
      refine (rapart_yes a len cap zs ap _ (H.out.below b1) HA.out HT.out).mono ?_
      rintro e w2 ⟨rfl, b2⟩
      have D2 := hide (D1.out.below b2)
      have B2 := hide (bl_trans b1 b2)
      clear b1 b2
      go_wp2_with fail
      refine (sums_back ap D2.out HZ.out hs HA.out HWD.out).mono ?_
      rintro e w3 ⟨vm, rfl, hM, b3⟩
      have M3 := hide hM
      have D3 := hide (D2.out.below b3)
      have B3 := hide (bl_trans B2.out b3)
      clear hM b3
      go_wp2_with fail
      refine (alive_any _).mono ?_
      rintro e w4 ⟨rfl, b4⟩
      have M4 := hide (M3.out.keep b4)
      have D4 := hide (D3.out.below b4)
      have B4 := hide (bl_trans B3.out b4)
      clear b4
      go_wp2_with fail
      refine (rdiffs_any a len cap zs ap _ (H.out.below B4.out) HA.out HT.out (by omega)).mono ?_
      rintro e w5 ⟨vr, rfl, hR, b5⟩
      have M5 := hide (M4.out.keep b5)
      have D5 := hide (D4.out.below b5)
      have R5 := hide hR
      have B5 := hide (bl_trans B4.out b5)
      clear b5 hR
      go_wp2_with fail
      refine (equal_owns D5.out R5.out HDL.out).mono ?_
      rintro e w6 ⟨rfl, b6⟩
      have M6 := hide (M5.out.keep b6)
      have B6 := hide (bl_trans B5.out b6)
      clear b6
      go_wp2_with fail
      refine (same_list M6.out (H.out.below B6.out) rfl).mono ?_
      rintro e w7 ⟨rfl, b7⟩
      go_wp2_with fail
      go_ret
      exact ⟨rfl, bl_trans B6.out b7⟩
    · have HT := hide hA
      clear h ha hA hz
      go_enter Try.func3, Try.ntmps3
      go_wp2_with fail
      refine (diffs_no a len cap zs ap _ H.out HA.out (by omega) HT.out).mono ?_
      rintro e w1 ⟨rfl, b1⟩
      go_wp2_with fail
      refine (rapart_no a len cap zs ap _ (H.out.below b1) HA.out HT.out).mono ?_
      rintro e w2 ⟨rfl, b2⟩
      go_wp2_with fail
      refine (alive_any _).mono ?_
      rintro e w3 ⟨rfl, b3⟩
      go_wp2_with fail
      go_ret
      exact ⟨rfl, bl_trans (bl_trans b1 b2) b3⟩
  · have hs' : (60 : Int) < (len : Int) := by omega
    clear h ha hz
    go_enter Try.func3, Try.ntmps3
    go_wp2_with fail
    refine (alive_any _).mono ?_
    rintro e w1 ⟨rfl, b1⟩
    go_wp2_with fail
    go_ret
    exact ⟨rfl, b1⟩
end Go.Proofs.Ytpoodkihngnhpaa
