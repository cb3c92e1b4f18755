/- The walk of the law MeasureCounts: for every list and number the law returns true and changes nothing that was there. -/
import Derived.Test.YtccaeocnecfmaaaMeasureRef
import Derived.Test.YtccaeocnecfmaaaMeasureAlive
namespace Go.Proofs.Ytccaeocnecfmaaa
open Go.RowKit

set_option maxHeartbeats 1600000 in
theorem measureCounts_walk (a : Option Addr) (len cap : Nat) (zs : List Iv) (x : Int) (w : World) (h : Prs w a len zs) (hx : Word x) :
    Calls Try.prog 3 #[.slice a len cap, .int .u64 x] w fun e w' => e = .returned (.bool true) ∧ Below w.heap.size w w' := by
  have H := hide h
  by_cases hR : Cor zs ∧ len ≤ 60
  · obtain ⟨m, hm⟩ := stop_some zs x len
    have hc : CorTo zs len := by have := hR.1; unfold Cor at this; rw [h.length] at this; exact this
    have HC := hide hc; have HM := hide hm; have HX := hide hx; have HR := hide hR
    clear h hc hm hx hR
    go_enter Try.func3, Try.ntmps3
    go_wp2_with fail
    refine (right_yes a len cap zs _ H.out HR.out.1 HR.out.2).mono ?_
    rintro e w1 ⟨rfl, b1⟩
    have H1 := hide (H.out.below b1)
    go_wp2_with fail
    refine (below_all a len cap zs 0 _ H1.out).mono ?_
    rintro e w2 ⟨rfl, b2⟩
    have H2 := hide (H1.out.below b2)
    go_wp2_with fail
    refine (below_any a len cap zs x m _ H2.out HC.out HX.out HM.out).mono ?_
    rintro e w3 ⟨rfl, b3⟩
    have H3 := hide (H2.out.below b3)
    go_wp2_with fail
    refine (alive_any _).mono ?_
    rintro e w4 ⟨rfl, b4⟩
    have H4 := hide (H3.out.below b4)
    go_wp2_with fail
    refine (count_any a len cap zs _ H4.out).mono ?_
    rintro e w5 ⟨rfl, b5⟩
    have H5 := hide (H4.out.below b5)
    go_wp2_with fail
    refine (rank_any a len cap zs x m _ H5.out HX.out HM.out).mono ?_
    rintro e w6 ⟨rfl, b6⟩
    go_wp2_with fail
    go_ret
    exact ⟨by simp, bl_trans (bl_trans (bl_trans (bl_trans (bl_trans b1 b2) b3) b4) b5) b6⟩
  · have HR := hide hR
    clear h hx hR
    go_enter Try.func3, Try.ntmps3
    go_wp2_with fail
    refine (right_no a len cap zs _ H.out HR.out).mono ?_
    rintro e w1 ⟨rfl, b1⟩
    go_wp2_with fail
    refine (alive_any _).mono ?_
    rintro e w2 ⟨rfl, b2⟩
    go_wp2_with fail
    go_ret
    exact ⟨rfl, bl_trans b1 b2⟩
end Go.Proofs.Ytccaeocnecfmaaa
