/- The walk of the law MeasureRises: for every list and number the law returns true and changes nothing that was there. -/
import Derived.Test.YtccaeocnecfmaaaMeasurePlain
import Derived.Test.YtccaeocnecfmaaaMeasureAlive
import Derived.Deep.RegionWith
namespace Go.Proofs.Ytccaeocnecfmaaa
open Go.RowKit

theorem outK_range {w : World} {a : Option Addr} {len : Nat} {zs : List Iv} {x : Int} (h : Prs w a len zs) (hx : Word x) {k : Nat} (hk : k ≤ len) : 0 ≤ outK zs x k ∧ outK zs x k < 170141183460469231731687303715884105728 := by
  cases k with
  | zero => exact (by decide : (0 : Int) ≤ 0 ∧ (0 : Int) < 170141183460469231731687303715884105728)
  | succ k =>
    obtain ⟨a1, a2⟩ := cntTo_range h k (by omega)
    obtain ⟨⟨b1, b2⟩, ⟨c1, c2⟩⟩ := h.word (i := k) (by omega)
    have := h.most
    rw [outK_succ]
    unfold wd
    unfold Word at hx
    split <;> split <;> omega

set_option maxHeartbeats 1600000 in
theorem measureRises_walk (a : Option Addr) (len cap : Nat) (zs : List Iv) (x : Int) (w : World) (h : Prs w a len zs) (hx : Word x) :
    Calls Try.prog 5 #[.slice a len cap, .int .u64 x] w fun e w' => e = .returned (.bool true) ∧ Below w.heap.size w w' := by
  have H := hide h
  by_cases hR : Cor zs ∧ len ≤ 60
  · have hz := h.length
    have hc : CorTo zs len := by have := hR.1; unfold Cor at this; rw [hz] at this; exact this
    have HR := hide hR
    by_cases hmax : x = 18446744073709551615
    · subst hmax
      clear h hc hR hz
      go_enter Try.func5, Try.ntmps5
      go_wp2_with fail
      refine (right_yes a len cap zs _ H.out HR.out.1 HR.out.2).mono ?_
      rintro e w1 ⟨rfl, b1⟩
      go_wp2_with fail
      refine (alive_any _).mono ?_
      rintro e w2 ⟨rfl, b2⟩
      go_wp2_with fail
      go_ret
      exact ⟨rfl, bl_trans b1 b2⟩
    · have hx1 : Word (x + 1) := by unfold Word at *; omega
      have d1 : IntKind.u64.wrap (x + 1) = x + 1 := wrap_word hx1
      obtain ⟨m, hm⟩ := stop_some zs x len
      obtain ⟨m', hm', hr⟩ := rank_rises hc hz hm
      have hA := fun W (hb : Below w.heap.size w W) => rank_any a len cap zs x m W (H.out.below hb) hx hm
      have hB := fun W (hb : Below w.heap.size w W) => rank_any a len cap zs (x + 1) m' W (H.out.below hb) hx1 hm'
      have hH := fun W (hb : Below w.heap.size w W) => hasL_any a len cap zs x W (H.out.below hb) hx
      have hra := outK_range h hx hm.le
      obtain ⟨n, en⟩ : ∃ n, n = outK zs x m := ⟨_, rfl⟩
      rw [← en] at hA hr hra
      rcases hr with ⟨hin, ho⟩ | ⟨hin, ho⟩
      · rw [hin] at hH
        rw [ho] at hB
        have hP : ∀ W : World, Calls Try.prog 17 #[.agg #[.int .u64 (hi64 n), .int .u64 (lo64 n)], .agg #[.int .u64 0, .int .u64 1]] W fun e w' => e = .returned (.agg #[.int .u64 (hi64 (n + 1)), .int .u64 (lo64 (n + 1))]) ∧ Below W.heap.size W w' := by
          have e : n + 1 = val (hi64 n) (lo64 n) + val 0 1 := by
            rw [val_hilo (show Long n by unfold Long; omega)]
            rfl
          rw [e]
          exact plus_any _ _ 0 1 (word_hi _) (word_lo _) ⟨by decide, by decide⟩ ⟨by decide, by decide⟩
        obtain ⟨ah, eah⟩ : ∃ y, y = hi64 n := ⟨_, rfl⟩
        obtain ⟨al, eal⟩ : ∃ y, y = lo64 n := ⟨_, rfl⟩
        obtain ⟨bh, ebh⟩ : ∃ y, y = hi64 (n + 1) := ⟨_, rfl⟩
        obtain ⟨bl, ebl⟩ : ∃ y, y = lo64 (n + 1) := ⟨_, rfl⟩
        rw [← eah, ← eal] at hA hP
        rw [← ebh, ← ebl] at hB hP
        have HA := hide hA; have HB := hide hB; have HH := hide hH; have HP := hide hP
        clear h hc hR hz hm hm' hA hB hH hP en eah eal ebh ebl ho hin hra hx hx1
        go_enter Try.func5, Try.ntmps5
        go_wp2_with fail
        refine (right_yes a len cap zs _ H.out HR.out.1 HR.out.2).mono ?_
        rintro e w1 ⟨rfl, b1⟩
        go_wp2_with fail
        refine (HA.out _ b1).mono ?_
        rintro e w2 ⟨rfl, b2⟩
        have c2 := bl_trans b1 b2
        go_wp2_with fail
        refine (HB.out _ c2).mono ?_
        rintro e w3 ⟨rfl, b3⟩
        have c3 := bl_alloc (bl_alloc (bl_trans c2 b3) (.cells #[.int .u64 ah, .int .u64 al] 30)) (.cells #[.int .u64 bh, .int .u64 bl] 30)
        have HHc := hide (HH.out _ c3)
        go_wp2_with fail
        refine HHc.out.mono ?_
        rintro e w4 ⟨rfl, b4⟩
        have k0 : w4.cell? ⟨w3.heap.size, 0, none⟩ = some (.int .u64 ah) := keep_cell b4 (by simp; omega) (by simp)
        have k1 : w4.cell? ⟨w3.heap.size, 1, none⟩ = some (.int .u64 al) := keep_cell b4 (by simp; omega) (by simp)
        have k2 : w4.cell? ⟨w3.heap.size + 1, 0, none⟩ = some (.int .u64 bh) := keep_cell b4 (by simp) (by simp)
        have k3 : w4.cell? ⟨w3.heap.size + 1, 1, none⟩ = some (.int .u64 bl) := keep_cell b4 (by simp) (by simp)
        have q0 : w3.heap.size < w4.heap.size := keep_lt b4 (by simp; omega)
        have q1 : w3.heap.size + 1 < w4.heap.size := keep_lt b4 (by simp)
        have c4 := bl_trans c3 b4
        have hmx : Try.prog.follows .mixedOrders = true := by kernel_rfl
        go_wp2_with fail
        go_region_with (first
          | (go_at_call 10; refine (alive_any _).mono ?_; rintro e w5 ⟨rfl, b5⟩; have l0 : w5.cell? ⟨w3.heap.size, 0, none⟩ = some (.int .u64 ah) := keep_cell b5 q0 k0; have l1 : w5.cell? ⟨w3.heap.size, 1, none⟩ = some (.int .u64 al) := keep_cell b5 q0 k1; have l2 : w5.cell? ⟨w3.heap.size + 1, 0, none⟩ = some (.int .u64 bh) := keep_cell b5 q1 k2; have l3 : w5.cell? ⟨w3.heap.size + 1, 1, none⟩ = some (.int .u64 bl) := keep_cell b5 q1 k3; have r1 : w3.heap.size + 1 < w5.heap.size := keep_lt b5 q1)
          | (go_at_call 17; refine (HP.out _).mono ?_; rintro e w6 ⟨rfl, b6⟩; have m2 : w6.cell? ⟨w3.heap.size + 1, 0, none⟩ = some (.int .u64 bh) := keep_cell b6 r1 l2; have m3 : w6.cell? ⟨w3.heap.size + 1, 1, none⟩ = some (.int .u64 bl) := keep_cell b6 r1 l3))
        all_goals
          go_wp2
          go_ret
          exact ⟨by simp [Act.put], bl_trans (bl_trans (bl_drew c4) b5) b6⟩
      · rw [hin] at hH
        rw [ho] at hB
        obtain ⟨ah, eah⟩ : ∃ y, y = hi64 n := ⟨_, rfl⟩
        obtain ⟨al, eal⟩ : ∃ y, y = lo64 n := ⟨_, rfl⟩
        rw [← eah, ← eal] at hA hB
        have HA := hide hA; have HB := hide hB; have HH := hide hH
        clear h hc hR hz hm hm' hA hB hH en eah eal ho hin hra hx hx1
        go_enter Try.func5, Try.ntmps5
        go_wp2_with fail
        refine (right_yes a len cap zs _ H.out HR.out.1 HR.out.2).mono ?_
        rintro e w1 ⟨rfl, b1⟩
        go_wp2_with fail
        refine (HA.out _ b1).mono ?_
        rintro e w2 ⟨rfl, b2⟩
        have c2 := bl_trans b1 b2
        go_wp2_with fail
        refine (HB.out _ c2).mono ?_
        rintro e w3 ⟨rfl, b3⟩
        have c3 := bl_alloc (bl_alloc (bl_trans c2 b3) (.cells #[.int .u64 ah, .int .u64 al] 30)) (.cells #[.int .u64 ah, .int .u64 al] 30)
        have HHc := hide (HH.out _ c3)
        go_wp2_with fail
        refine HHc.out.mono ?_
        rintro e w4 ⟨rfl, b4⟩
        have k0 : w4.cell? ⟨w3.heap.size, 0, none⟩ = some (.int .u64 ah) := keep_cell b4 (by simp; omega) (by simp)
        have k1 : w4.cell? ⟨w3.heap.size, 1, none⟩ = some (.int .u64 al) := keep_cell b4 (by simp; omega) (by simp)
        have k2 : w4.cell? ⟨w3.heap.size + 1, 0, none⟩ = some (.int .u64 ah) := keep_cell b4 (by simp) (by simp)
        have k3 : w4.cell? ⟨w3.heap.size + 1, 1, none⟩ = some (.int .u64 al) := keep_cell b4 (by simp) (by simp)
        have q0 : w3.heap.size < w4.heap.size := keep_lt b4 (by simp; omega)
        have q1 : w3.heap.size + 1 < w4.heap.size := keep_lt b4 (by simp)
        have c4 := bl_trans c3 b4
        go_wp2_with fail
        refine (alive_any _).mono ?_
        rintro e w5 ⟨rfl, b5⟩
        have l0 : w5.cell? ⟨w3.heap.size, 0, none⟩ = some (.int .u64 ah) := keep_cell b5 q0 k0
        have l1 : w5.cell? ⟨w3.heap.size, 1, none⟩ = some (.int .u64 al) := keep_cell b5 q0 k1
        have l2 : w5.cell? ⟨w3.heap.size + 1, 0, none⟩ = some (.int .u64 ah) := keep_cell b5 q1 k2
        have l3 : w5.cell? ⟨w3.heap.size + 1, 1, none⟩ = some (.int .u64 al) := keep_cell b5 q1 k3
        go_wp2_with fail
        go_ret
        exact ⟨by simp, bl_trans c4 b5⟩
  · have HR := hide hR
    clear h hx hR
    go_enter Try.func5, Try.ntmps5
    go_wp2_with fail
    refine (right_no a len cap zs _ H.out HR.out).mono ?_
    rintro e w1 ⟨rfl, b1⟩
    go_wp2_with fail
    refine (alive_any _).mono ?_
    rintro e w2 ⟨rfl, b2⟩
    go_wp2_with fail
    go_ret
    exact ⟨rfl, bl_trans b1 b2⟩
end Go.Proofs.Ytccaeocnecfmaaa
