/- The contract of the reference's Nth over a correct list. -/
import Derived.Test.YtccaeocnecfmaaaMeasureFind
import Derived.BigQuiet
import Derived.Deep.QuietTactic
namespace Go.Proofs.Ytccaeocnecfmaaa
open Go.RowKit

set_option maxHeartbeats 1600000 in
theorem rnth_any (a : Option Addr) (len cap : Nat) (zs : List Iv) (rk : Int) (m : Nat) (w : World) (h : Prs w a len zs) (hc : CorTo zs len) (hx : Word rk) (hm : At zs rk len m) :
    Calls Try.prog 15 #[.slice a len cap, .int .u64 rk] w fun e w' => e = .returned (.tuple #[.int .u64 (fVal zs rk len m), .bool (decide (m < len))]) ∧ Below w.heap.size w w' := by
  have hmo := h.most
  have H := hide h
  have HM := hide hm
  have HC := hide hc
  have wx := hide hx
  clear h hm hc hx
  go_enter Try.func15, Try.ntmps15
  go_wp2
  go_loopw [1, 6] (fun c1 c wr => ∃ k : Nat, k ≤ m ∧ c1 = .int .u64 (rk - cntTo zs k) ∧ c = .int .i64 k ∧ Below w.heap.size w wr)
    (fun _ c _ => len - (intOf c).toNat)
  case atStart => exact ⟨0, Nat.zero_le _, by simp [cntTo], rfl, Below.refl _ _⟩
  case round =>
    obtain ⟨k, hk, rfl, rfl, hb⟩ := hrel
    have hml := HM.out.le
    by_cases hlt : k < len
    · obtain ⟨b, off, rfl, hbl, hc1, hc2⟩ := (H.out.below hb).cells k hlt
      have hw := H.out.word hlt
      have i0 : (0 : Int) ≤ (k : Int) := by omega
      have i1 : (k : Int) < (len : Int) := by omega
      obtain ⟨b1, b2⟩ := cor_cnt H.out HC.out k hlt
      have b3 := HM.out.base wx.out.1 hk
      have b4 := cnt_succ HC.out hlt
      have hlh := (HC.out k hlt).1
      have efv := fun (e : k = m) => show fVal zs rk len m = Lo zs k + (rk - cntTo zs k) by subst e; unfold fVal; rw [if_pos hlt]
      have bef := HM.out.before k
      have att := HM.out.at'
      obtain ⟨lo, elo⟩ : ∃ lo, lo = Lo zs k := ⟨_, rfl⟩
      obtain ⟨hi, ehi⟩ : ∃ hi, hi = Hi zs k := ⟨_, rfl⟩
      obtain ⟨n, en⟩ : ∃ n, n = rk - cntTo zs k := ⟨_, rfl⟩
      rw [← elo] at hc1 hw hlh b4 b2 efv
      rw [← ehi] at hc2 hw hlh b4
      rw [← en] at efv ⊢
      have w1 := wx.out
      have w2 := hw.1
      have w3 := hw.2
      unfold Word at w1 w2 w3
      have d2 : IntKind.u64.wrap (hi - lo) = hi - lo := wrap_word ⟨by omega, by omega⟩
      by_cases hs : n ≤ hi - lo
      · have hkm : k = m := by
          by_cases e : k = m
          · exact e
          · have := bef (by omega); omega
        have d3 : IntKind.u64.wrap (lo + n) = lo + n := wrap_word ⟨by omega, by omega⟩
        have e0 := hide (efv hkm)
        have hml' := hide (show m < len by omega)
        clear efv bef att b4 b3 b2 b1 en elo ehi hw hkm w1 w2 w3
        go_wp2
        go_quiet (fail)
        go_wp2
        go_ret2
        exact ⟨ret_ib e0.out.symm (decide_eq_true hml'.out).symm, bl_drewN hb _⟩
      · have hkm : k + 1 ≤ m := by
          by_cases e : k = m
          · subst e; have := att hlt; omega
          · omega
        have d3 : IntKind.u64.wrap (n - (hi - lo)) = n - (hi - lo) := wrap_word ⟨by omega, by omega⟩
        have d4 : IntKind.u64.wrap (n - (hi - lo) - 1) = n - (hi - lo) - 1 := wrap_word ⟨by omega, by omega⟩
        have e0 := hide (show n - (hi - lo) - 1 = rk - cntTo zs (k + 1) by omega)
        clear efv bef att b4 b3 b2 b1 en elo ehi hw w1 w2 w3
        go_wp2
        go_quiet (fail)
        go_wp2
        go_quiet (fail)
        go_wp2
        go_roundw
        case rel => exact ⟨k + 1, by omega, by rw [e0.out], by go_num, bl_drewN hb _⟩
        case measure => simp [intOf]; omega
    · obtain rfl : k = len := by omega
      obtain rfl : k = m := by omega
      go_wp2
      go_ret2
      exact ⟨by unfold fVal; simp, hb⟩
end Go.Proofs.Ytccaeocnecfmaaa
