/- The law VarintReads. -/
import Derived.Test.YtjdlcdfnagbblaaDoorVarAlive
import Derived.Test.YtjdlcdfnagbblaaDoorVarRefRead
import Derived.Test.YtjdlcdfnagbblaaDoorErrAsF
import Derived.Test.YtjdlcdfnagbblaaDoorFrameIntShape
namespace Go.Proofs.YtjdlcdfnagbblaaDoor
open Go.RowKit

set_option maxHeartbeats 1600000 in
theorem varintReads_walk (a : Option Addr) (len cap : Nat) (zs : List Int) (at' : Int) (w : World) (h : Ints .u8 w a len zs) (hsh : Shaped a len cap) (_hat : (Lit.int .i64 at').wf = true) (hg : Laid w) :
    Calls Tryd.prog 8 #[.slice a len cap, .int .i64 at'] w fun e w' => e = .returned (.bool true) ∧ Below w.heap.size w w' := by
  have H := hide h
  have HG := hide hg
  have hm := h.most
  have hl := h.length
  clear h hg
  by_cases g : 100 < (len : Int) ∨ 1073741824 < at' ∨ at' < -1073741824
  · skip
    by_cases g0 : 100 < (len : Int)
    · clear g
      go_enter Tryd.func8, Tryd.ntmps8
      go_wp2_with fail
      refine (alive_any _ HG.out).mono ?_
      rintro e w1 ⟨rfl, b1⟩
      go_wp2
      go_ret
      exact ⟨rfl, b1⟩
    · by_cases g1 : 1073741824 < at'
      · clear g
        go_enter Tryd.func8, Tryd.ntmps8
        go_wp2_with fail
        refine (alive_any _ HG.out).mono ?_
        rintro e w1 ⟨rfl, b1⟩
        go_wp2
        go_ret
        exact ⟨rfl, b1⟩
      · have g2 : at' < -1073741824 := by omega
        clear g
        go_enter Tryd.func8, Tryd.ntmps8
        go_wp2_with fail
        refine (alive_any _ HG.out).mono ?_
        rintro e w1 ⟨rfl, b1⟩
        go_wp2
        go_ret
        exact ⟨rfl, b1⟩
  · have g0 : ¬ 100 < (len : Int) := by omega
    have g1 : ¬ 1073741824 < at' := by omega
    have g2 : ¬ at' < -1073741824 := by omega
    clear g
    obtain ⟨x, n, c, hc, R, Q⟩ := reads_same a len cap zs at' hsh.le hl (by omega) (by omega)
    have RR := hide R
    have QQ := hide Q
    clear R Q
    have d1 : (x != x) = false := by simp
    have d2 : (n != n) = false := by simp
    have d3 : (c != c) = false := by simp
    by_cases hc0 : c = 0
    · subst hc0
      rw [show errV 0 at' = .nilIface from if_pos rfl] at RR
      go_enter Tryd.func8, Tryd.ntmps8
      go_wp2_with fail
      refine (RR.out _ H.out).mono ?_
      rintro e w1 ⟨rfl, b1⟩
      have B1 := hide b1
      clear b1
      go_wp2_with fail
      refine (QQ.out _ (H.out.below B1.out)).mono ?_
      rintro e w2 ⟨rfl, rfl⟩
      go_wp2_with fail
      refine (code_nil _).mono ?_
      rintro e w2 ⟨rfl, b2⟩
      have B2 := hide (bl_trans B1.out b2)
      clear b2
      go_wp2_with fail
      refine (alive_any _ (HG.out.below B2.out)).mono ?_
      rintro e w3 ⟨rfl, b3⟩
      have B3 := hide (bl_trans B2.out b3)
      clear b3
      go_wp2
      go_ret
      exact ⟨rfl, B3.out⟩
    · rw [show errV c at' = .iface 54 (.agg #[.int .i64 c, .int .i64 at']) from if_neg hc0] at RR
      have q0 : (c == 0) = false := by simp [hc0]
      clear hc hc0
      go_enter Tryd.func8, Tryd.ntmps8
      go_wp2_with fail
      refine (RR.out _ H.out).mono ?_
      rintro e w1 ⟨rfl, b1⟩
      have B1 := hide b1
      clear b1
      go_wp2_with fail
      refine (QQ.out _ (H.out.below B1.out)).mono ?_
      rintro e w2 ⟨rfl, rfl⟩
      go_wp2_with fail
      refine (code_F c at' _ (HG.out.below B1.out)).mono ?_
      rintro e w2 ⟨rfl, b2⟩
      have B2 := hide (bl_trans B1.out b2)
      clear b2
      go_wp2_with fail
      refine (alive_any _ (HG.out.below B2.out)).mono ?_
      rintro e w3 ⟨rfl, b3⟩
      have B3 := hide (bl_trans B2.out b3)
      clear b3
      go_wp2_with fail
      refine (at_F c at' _ (HG.out.below B3.out)).mono ?_
      rintro e w4 ⟨rfl, b4⟩
      go_wp2
      go_ret
      exact ⟨rfl, bl_trans B3.out b4⟩
end Go.Proofs.YtjdlcdfnagbblaaDoor
