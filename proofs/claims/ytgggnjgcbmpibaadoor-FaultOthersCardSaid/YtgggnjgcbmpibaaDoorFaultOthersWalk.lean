/- The walk of the law FaultOthers. -/
import Derived.Test.YtgggnjgcbmpibaaDoorFaultBuild
namespace Go.Proofs.YtgggnjgcbmpibaaDoor
open Go.RowKit

set_option maxHeartbeats 1600000 in
theorem faultOthers_walk (s : ByteArray) (a : Option Addr) (len cap : Nat) (ss : List ByteArray) (w : World) (hs : s.size ≤ maxLen) (h : Strs w a len ss) (hg : Laid w) :
    Calls Tryd.prog 3 #[.string s, .slice a len cap] w fun e w' => e = .returned (.bool true) ∧ Below w.heap.size w w' := by
  have HG := hide (fun W (hb : Below w.heap.size w W) => hg.below hb)
  have HA := hide (fun W (hb : Below w.heap.size w W) => alive_any W (hg.below hb))
  have H := hide h
  have hm := h.most
  clear hg h
  unfold maxLen at hs
  by_cases h1 : s.size ≤ 100
  · have j1 : (s.size : Int) ≤ 100 := by omega
    by_cases hF : FewL ss len
    · have K := hide (fun W hb => few_yes false false 0 0 a len cap ss W (H.out.below (w1 := W) hb) hF)
      unfold Dsc at K
      clear hF h1
      go_enter Tryd.func3, Tryd.ntmps3
      go_wp2_with fail
      refine (K.out _ (Below.refl _ _)).mono ?_
      rintro e w1 ⟨rfl, b1⟩
      go_wp2_with fail
      refine (errNew s _).mono ?_
      rintro e w2 ⟨rfl, b2⟩
      have B2 := hide (bl_trans b1 b2)
      obtain ⟨x, ex⟩ : ∃ x, x = Er.s w1.heap.size := ⟨_, rfl⟩
      have C1 := hide (show x.cd = 17 by rw [ex]; rfl)
      have C2 := hide (show x.at' = -1 by rw [ex]; rfl)
      rw [← ex]
      clear b1 b2 ex K
      go_wp2_with fail
      go_loopw [5, 22] (fun er c wr => ∃ k : Nat, k ≤ len ∧ c = .int .i64 k ∧ er = (chn x ss k).v ∧ wr = w2)
        (fun _ c _ => len - (intOf c).toNat)
      case atStart => exact ⟨0, Nat.zero_le _, rfl, rfl, rfl⟩
      case round =>
        obtain ⟨k, hk, rfl, rfl, rfl⟩ := hrel
        by_cases hlt : k < len
        · obtain ⟨b, off, rfl, hbl, hc1⟩ := (H.out.below B2.out).cells k hlt
          have i0 : (0 : Int) ≤ (k : Int) := by omega
          have i1 : (k : Int) < (len : Int) := by omega
          obtain ⟨t, et⟩ : ∃ t, t = ss.getD k ByteArray.empty := ⟨_, rfl⟩
          rw [← et] at hc1
          have ET := hide et
          clear et
          go_wp2_with fail
          refine (wrap_any t _ _).mono ?_
          rintro e w3 ⟨rfl, rfl⟩
          go_wp2
          go_roundw
          case rel => exact ⟨k + 1, by omega, by go_num, by rw [ET.out]; rfl, trivial⟩
          case measure => simp [intOf]; omega
        · have : k = len := by omega
          subst this
          have K1 := hide (fun W hW => code_any (chn x ss k) W hW)
          have K2 := hide (fun W hW => at_any (chn x ss k) W hW)
          rw [chn_cd, C1.out] at K1
          rw [chn_at, C2.out] at K2
          unfold Er.v at K1 K2 ⊢
          go_wp2_with fail
          refine (HA.out _ B2.out).mono ?_
          rintro e w3 ⟨rfl, b3⟩
          have B3 := bl_trans B2.out b3
          clear b3
          go_wp2_with fail
          refine (K1.out _ (HG.out _ B3)).mono ?_
          rintro e w4 ⟨rfl, b4⟩
          have B4 := bl_trans B3 b4
          clear b4
          go_wp2_with fail
          refine (K2.out _ (HG.out _ B4)).mono ?_
          rintro e w5 ⟨rfl, b5⟩
          have B5 := bl_trans B4 b5
          clear b5
          go_wp2
          go_ret
          exact ⟨rfl, B5⟩
    · have K := hide (fun W hb => few_no false false 0 0 a len cap ss W (H.out.below (w1 := W) hb) hF)
      unfold Dsc at K
      clear hF h1
      go_enter Tryd.func3, Tryd.ntmps3
      go_wp2_with fail
      refine (K.out _ (Below.refl _ _)).mono ?_
      rintro e w1 ⟨rfl, b1⟩
      go_wp2_with fail
      refine (HA.out _ b1).mono ?_
      rintro e w3 ⟨rfl, b3⟩
      have B3 := bl_trans b1 b3
      clear b3 b1
      go_wp2
      go_ret
      exact ⟨rfl, B3⟩
  · have j1 : 100 < (s.size : Int) := by omega
    clear h1
    go_enter Tryd.func3, Tryd.ntmps3
    go_wp2_with fail
    refine (HA.out _ (Below.refl _ _)).mono ?_
    rintro e w3 ⟨rfl, b3⟩
    go_wp2
    go_ret
    exact ⟨rfl, b3⟩
end Go.Proofs.YtgggnjgcbmpibaaDoor
