/- The walk of the law MeasureEnds: for every list the law returns true and changes nothing that was there. -/
import Derived.Test.YtccaeocnecfmaaaMeasureAlive
namespace Go.Proofs.Ytccaeocnecfmaaa
open Go.RowKit

set_option maxHeartbeats 1600000 in
theorem measureEnds_walk (a : Option Addr) (len cap : Nat) (zs : List Iv) (w : World) (h : Prs w a len zs) :
    Calls Try.prog 6 #[.slice a len cap] w fun e w' => e = .returned (.bool true) ∧ Below w.heap.size w w' := by
  have H := hide h
  by_cases hR : Cor zs ∧ len ≤ 60
  · have HR := hide hR
    have HFi := fun W (hb : Below w.heap.size w W) => first_any a len cap zs W (H.out.below hb)
    have HLa := fun W (hb : Below w.heap.size w W) => last_any a len cap zs W (H.out.below hb)
    by_cases hl : len = 0
    · subst hl
      have HFi := hide HFi; have HLa := hide HLa
      clear h hR
      go_enter Try.func6, Try.ntmps6
      go_wp2_with fail
      refine (right_yes a 0 cap zs _ H.out HR.out.1 HR.out.2).mono ?_
      rintro e w1 ⟨rfl, b1⟩
      go_wp2_with fail
      refine (HFi.out _ b1).mono ?_
      rintro e w2 ⟨rfl, b2⟩
      have c2 := bl_trans b1 b2
      go_wp2_with fail
      refine (HLa.out _ c2).mono ?_
      rintro e w3 ⟨rfl, b3⟩
      have c3 := bl_trans c2 b3
      go_wp2_with fail
      refine (hull_nil a cap _).mono ?_
      rintro e w4 ⟨rfl, b4⟩
      have c4 := bl_alloc (bl_trans c3 b4) (.cells #[.int .u64 0, .int .u64 0] 39)
      simp only [endV, if_true]
      go_wp2_with fail
      refine (alive_any _).mono ?_
      rintro e w5 ⟨rfl, b5⟩
      have k0 : w5.cell? ⟨w4.heap.size, 0, none⟩ = some (.int .u64 0) := keep_cell b5 (by simp) (by simp)
      have k1 : w5.cell? ⟨w4.heap.size, 1, none⟩ = some (.int .u64 0) := keep_cell b5 (by simp) (by simp)
      go_wp2_with fail
      go_ret
      exact ⟨rfl, bl_trans c4 b5⟩
    · have e2 : decide (0 < len) = true := by simp; omega
      obtain ⟨b, off, rfl, hbl, hc1, _⟩ := h.cells 0 (by omega)
      obtain ⟨b', off', eb, _, _, hc2⟩ := h.cells (len - 1) (by omega)
      obtain ⟨rfl, rfl⟩ : b = b' ∧ off = off' := by simpa using eb
      have HHu := fun W (hb : Below w.heap.size w W) => hull_any (some ⟨b, off, none⟩) len cap zs W (H.out.below hb) (by omega)
      have hm := h.most
      obtain ⟨d, hd⟩ : ∃ d, d = len - 1 := ⟨_, rfl⟩
      have i0 : (0 : Int) < (len : Int) := by omega
      have i1 : IntKind.i64.wrap ((len : Int) - 1) = (d : Int) := by rw [IntWalk.i64_in _ (by omega)]; omega
      have i2 : (d : Int) < (len : Int) := by omega
      have i3 : ¬ (len : Int) = 0 := by omega
      have i4 : (0 : Int) ≤ (d : Int) := by omega
      have e3 : endV len (Lo zs 0) = Lo zs 0 := if_neg hl
      have e4 : endV len (Hi zs (len - 1)) = Hi zs (len - 1) := if_neg hl
      rw [e2, e3] at HFi
      rw [e2, e4] at HLa
      rw [← hd] at hc2 HLa HHu
      simp only [Nat.zero_mul, Nat.add_zero] at hc1
      obtain ⟨lo, elo⟩ : ∃ lo, lo = Lo zs 0 := ⟨_, rfl⟩
      obtain ⟨hi, ehi⟩ : ∃ hi, hi = Hi zs d := ⟨_, rfl⟩
      rw [← elo] at hc1 HFi HHu
      rw [← ehi] at hc2 HLa HHu
      have HFi := hide HFi; have HLa := hide HLa; have HHu := hide HHu
      clear h hR eb e2 e3 e4 hd elo ehi
      go_enter Try.func6, Try.ntmps6
      go_wp2_with fail
      refine (right_yes _ len cap zs _ H.out HR.out.1 HR.out.2).mono ?_
      rintro e w1 ⟨rfl, b1⟩
      go_wp2_with fail
      refine (HFi.out _ b1).mono ?_
      rintro e w2 ⟨rfl, b2⟩
      have c2 := bl_trans b1 b2
      go_wp2_with fail
      refine (HLa.out _ c2).mono ?_
      rintro e w3 ⟨rfl, b3⟩
      have c3 := bl_trans c2 b3
      go_wp2_with fail
      refine (HHu.out _ c3).mono ?_
      rintro e w4 ⟨rfl, b4⟩
      have c4 := bl_alloc (bl_trans c3 b4) (.cells #[.int .u64 lo, .int .u64 hi] 39)
      go_wp2_with fail
      refine (alive_any _).mono ?_
      rintro e w5 ⟨rfl, b5⟩
      have c5 := bl_trans c4 b5
      have k0 : w5.cell? ⟨w4.heap.size, 0, none⟩ = some (.int .u64 lo) := keep_cell b5 (by simp) (by simp)
      have k1 : w5.cell? ⟨w4.heap.size, 1, none⟩ = some (.int .u64 hi) := keep_cell b5 (by simp) (by simp)
      have k2 := keep_cell c5 hbl hc1
      have k3 := keep_cell c5 hbl hc2
      go_wp2_with fail
      go_ret
      exact ⟨by simp, c5⟩
  · have HR := hide hR
    clear h hR
    go_enter Try.func6, Try.ntmps6
    go_wp2_with fail
    refine (right_no a len cap zs _ H.out HR.out).mono ?_
    rintro e w1 ⟨rfl, b1⟩
    go_wp2_with fail
    refine (alive_any _).mono ?_
    rintro e w2 ⟨rfl, b2⟩
    go_wp2_with fail
    go_ret
    exact ⟨rfl, bl_trans b1 b2⟩
end Go.Proofs.Ytccaeocnecfmaaa
