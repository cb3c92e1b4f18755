/- The contract of the reference's Below over a correct list: it counts as measure.Count and measure.Rank do. -/
import Derived.Test.YtccaeocnecfmaaaMeasureRank
import Derived.Test.YtccaeocnecfmaaaMeasureFind
namespace Go.Proofs.Ytccaeocnecfmaaa
open Go.RowKit

theorem rsum_any (c lo hi : Int) (h1 : Word lo) (h2 : Word hi) (hc : Long c) : Word (hi64 c) ∧ Word (lo64 c) ∧ Word (hi64 (wd lo hi)) ∧ Word (lo64 (wd lo hi)) ∧ val (hi64 c) (lo64 c) + val (hi64 (wd lo hi)) (lo64 (wd lo hi)) = c + wd lo hi :=
  ⟨word_hi _, word_lo _, word_hi _, word_lo _, by rw [val_hilo hc, val_hilo (wd_long h1 h2)]⟩

set_option maxHeartbeats 800000 in
theorem below_all (a : Option Addr) (len cap : Nat) (zs : List Iv) (x : Int) (w : World) (h : Prs w a len zs) :
    Calls Try.prog 11 #[.slice a len cap, .int .u64 x, .bool true] w fun e w' => e = .returned (.tuple #[.int .u64 (hi64 (cntTo zs len)), .int .u64 (lo64 (cntTo zs len))]) ∧ Below w.heap.size w w' := by
  have hm := h.most
  have H := hide h
  clear h
  go_enter Try.func11, Try.ntmps11
  go_wp2
  go_loopw [8, 9, 10] (fun c0 c1 c wr => ∃ k : Nat, k ≤ len ∧ c0 = .int .u64 (hi64 (cntTo zs k)) ∧ c1 = .int .u64 (lo64 (cntTo zs k)) ∧ c = .int .i64 k ∧ Below w.heap.size w wr)
    (fun _ _ c _ => len - (intOf c).toNat)
  case atStart => exact ⟨0, Nat.zero_le _, rfl, rfl, rfl, Below.refl _ _⟩
  case round =>
    obtain ⟨k, hk, rfl, rfl, rfl, hb⟩ := hrel
    by_cases hlt : k < len
    · obtain ⟨b, off, rfl, hbl, hc1, hc2⟩ := (H.out.below hb).cells k hlt
      have hw := H.out.word hlt
      obtain ⟨lo, elo⟩ : ∃ lo, lo = Lo zs k := ⟨_, rfl⟩
      obtain ⟨hi, ehi⟩ : ∃ hi, hi = Hi zs k := ⟨_, rfl⟩
      rw [← elo] at hc1 hw
      rw [← ehi] at hc2 hw
      obtain ⟨x1, x2, x3, x4, x5⟩ := rsum_any (cntTo zs k) lo hi hw.1 hw.2 (cntTo_long H.out (by omega))
      have e : cntTo zs k + wd lo hi = cntTo zs (k + 1) := by rw [elo, ehi]; rfl
      rw [e] at x5
      have HW := hide (fun W => rwidth_any lo hi hw.1 hw.2 W)
      have HP := rplus_any _ _ _ _ x1 x2 x3 x4
      rw [x5] at HP
      have HPH := hide HP
      have i0 : (0 : Int) ≤ (k : Int) := by omega
      have i1 : (k : Int) < (len : Int) := by omega
      clear elo ehi HP x1 x2 x3 x4 x5 e hw
      go_wp2_with (first
        | (go_at_call 26; refine (HW.out _).mono ?_; rintro e w1 ⟨rfl, rfl⟩)
        | (go_at_call 27; refine (HPH.out _).mono ?_; rintro e w2 ⟨rfl, rfl⟩))
      go_roundw
      case rel => exact ⟨k + 1, by omega, rfl, rfl, by go_num, bl_alloc hb _⟩
      case measure => simp [intOf]; omega
    · obtain rfl : k = len := by omega
      go_wp2
      go_ret2
      exact ⟨rfl, hb⟩

theorem outK_cnt {w : World} {a : Option Addr} {len m : Nat} {zs : List Iv} {x : Int} (_h : Prs w a len zs) (hc : CorTo zs len) (hm : Stop zs x len m) {k : Nat} (hk : k < m) : outK zs x k = cntTo zs k := by
  cases k with
  | zero => rfl
  | succ k =>
    have h1 := hm.before (k + 1) hk
    have h2 := (hc (k + 1) (by have := hm.le; omega)).2 (by omega)
    simp only [Nat.add_sub_cancel] at h2
    show cntTo zs k + wd (Lo zs k) (if x - 1 < Hi zs k then x - 1 else Hi zs k) = _
    rw [if_neg (by omega)]
    rfl
theorem outK_long {w : World} {a : Option Addr} {len : Nat} {zs : List Iv} {x : Int} (h : Prs w a len zs) (hx : Word x) {k : Nat} (hk : k ≤ len) : Long (outK zs x k) := by
  cases k with
  | zero => exact (by decide : (0 : Int) ≤ 0 ∧ (0 : Int) < 340282366920938463463374607431768211456)
  | succ k =>
    obtain ⟨a1, a2⟩ := cntTo_range h k (by omega)
    obtain ⟨⟨b1, b2⟩, ⟨c1, c2⟩⟩ := h.word (i := k) (by omega)
    have := h.most
    show Long (cntTo zs k + wd (Lo zs k) (if x - 1 < Hi zs k then x - 1 else Hi zs k))
    unfold wd Long
    unfold Word at hx
    split <;> split <;> omega

set_option maxHeartbeats 1600000 in
theorem below_any (a : Option Addr) (len cap : Nat) (zs : List Iv) (x : Int) (m : Nat) (w : World) (h : Prs w a len zs) (hc : CorTo zs len) (hx : Word x) (hm : Stop zs x len m) :
    Calls Try.prog 11 #[.slice a len cap, .int .u64 x, .bool false] w fun e w' => e = .returned (.tuple #[.int .u64 (hi64 (outK zs x m)), .int .u64 (lo64 (outK zs x m))]) ∧ Below w.heap.size w w' := by
  have hmo := h.most
  have H := hide h
  have HM := hide hm
  have HC := hide hc
  have wx := hide hx
  clear h hm hc hx
  go_enter Try.func11, Try.ntmps11
  go_wp2
  go_loopw [8, 9, 10] (fun c0 c1 c wr => ∃ k : Nat, k ≤ m ∧ c0 = .int .u64 (hi64 (outK zs x k)) ∧ c1 = .int .u64 (lo64 (outK zs x k)) ∧ c = .int .i64 k ∧ Below w.heap.size w wr)
    (fun _ _ c _ => len - (intOf c).toNat)
  case atStart => exact ⟨0, Nat.zero_le _, rfl, rfl, rfl, Below.refl _ _⟩
  case round =>
    obtain ⟨k, hk, rfl, rfl, rfl, hb⟩ := hrel
    have hml := HM.out.le
    by_cases hlt : k < len
    · obtain ⟨b, off, rfl, hbl, hc1, hc2⟩ := (H.out.below hb).cells k hlt
      have hw := H.out.word hlt
      have i0 : (0 : Int) ≤ (k : Int) := by omega
      have i1 : (k : Int) < (len : Int) := by omega
      by_cases hkm : k < m
      · have hlx := HM.out.before k hkm
        have hmn : Word (if x - 1 < Hi zs k then x - 1 else Hi zs k) := by have h1 := wx.out; have h2 := hw.1.1; have h3 := hw.2; unfold Word at *; split <;> omega
        obtain ⟨x1, x2, x3, x4, x5⟩ := rsum_any (outK zs x k) (Lo zs k) (if x - 1 < Hi zs k then x - 1 else Hi zs k) hw.1 hmn (outK_long H.out wx.out (by omega))
        have e : outK zs x k + wd (Lo zs k) (if x - 1 < Hi zs k then x - 1 else Hi zs k) = outK zs x (k + 1) := by rw [outK_cnt H.out HC.out HM.out hkm]; rfl
        rw [e] at x5
        have HW0 := fun W => rwidth_any (Lo zs k) (if x - 1 < Hi zs k then x - 1 else Hi zs k) hw.1 hmn W
        have HP := rplus_any _ _ _ _ x1 x2 x3 x4
        rw [x5] at HP
        clear e x1 x2 x3 x4 x5
        obtain ⟨lo, elo⟩ : ∃ lo, lo = Lo zs k := ⟨_, rfl⟩
        obtain ⟨hi, ehi⟩ : ∃ hi, hi = Hi zs k := ⟨_, rfl⟩
        rw [← elo] at hc1 hw hlx HP HW0
        rw [← ehi] at hc2 hw HP HW0
        have HPH := hide HP
        have n1 : ¬ x ≤ lo := by omega
        have x0 := hw.1.1
        have d1 : IntKind.u64.wrap (x - 1) = x - 1 := wrap_word ⟨by omega, by have := wx.out.2; omega⟩
        clear elo ehi HP hw hlx
        by_cases hh : x ≤ hi
        · rw [if_pos (show x - 1 < hi by omega)] at HW0 HPH
          have HW := hide HW0
          clear HW0
          go_wp2_with (first
            | (go_at_call 26; refine (HW.out _).mono ?_; rintro e w1 ⟨rfl, rfl⟩)
            | (go_at_call 27; refine (HPH.out _).mono ?_; rintro e w2 ⟨rfl, rfl⟩))
          go_roundw
          case rel => exact ⟨k + 1, by omega, rfl, rfl, by go_num, bl_alloc hb _⟩
          case measure => simp [intOf]; omega
        · rw [if_neg (show ¬ x - 1 < hi by omega)] at HW0 HPH
          have HW := hide HW0
          clear HW0
          go_wp2_with (first
            | (go_at_call 26; refine (HW.out _).mono ?_; rintro e w1 ⟨rfl, rfl⟩)
            | (go_at_call 27; refine (HPH.out _).mono ?_; rintro e w2 ⟨rfl, rfl⟩))
          go_roundw
          case rel => exact ⟨k + 1, by omega, rfl, rfl, by go_num, bl_alloc hb _⟩
          case measure => simp [intOf]; omega
      · obtain rfl : k = m := by omega
        have hlx := HM.out.at' hlt
        obtain ⟨lo, elo⟩ : ∃ lo, lo = Lo zs k := ⟨_, rfl⟩
        rw [← elo] at hc1 hlx
        clear elo
        go_wp2
        go_ret2
        exact ⟨rfl, bl_alloc hb _⟩
    · obtain rfl : k = len := by omega
      obtain rfl : k = m := by omega
      go_wp2
      go_ret2
      exact ⟨rfl, hb⟩
end Go.Proofs.Ytccaeocnecfmaaa
