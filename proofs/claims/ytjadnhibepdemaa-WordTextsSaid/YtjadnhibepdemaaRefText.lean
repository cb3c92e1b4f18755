/- The contract of the reference's Text: the decimal text of a count. -/
import Derived.Test.YtjadnhibepdemaaRefDouble
import Derived.BigQuiet
import Derived.Deep.QuietTactic
namespace Go.Proofs.Ytjadnhibepdemaa
open Go.RowKit

theorem bit_and (x : Nat) : bits .and .i64 (wrap64 (x : Int)) 1 = ((x % 2 : Nat) : Int) := by
  have e : BitVec.ofInt 64 (wrap64 (x : Int)) = BitVec.ofNat 64 x := by
    apply BitVec.eq_of_toNat_eq
    rw [BitVec.toNat_ofInt, BitVec.toNat_ofNat]
    unfold wrap64
    omega
  show IntKind.i64.wrap ((BitVec.ofInt 64 (wrap64 (x : Int)) &&& BitVec.ofInt 64 1).toNat : Int) = _
  have e1 : (BitVec.ofInt 64 1).toNat = 1 := by decide
  rw [e, BitVec.toNat_and, e1, BitVec.toNat_ofNat, Nat.and_one_is_mod, IntKind.wrap_i64]
  omega
theorem bit_at (x k b : Nat) (hb : b = x / 2 ^ k % 2) : bits .and .i64 (wrap64 ((x : Int) / 2 ^ k)) 1 = (b : Int) := by
  have e : ((x : Int) / 2 ^ k) = ((x / 2 ^ k : Nat) : Int) := by simp
  rw [e, bit_and, hb]
theorem half (x j : Nat) (hj : 1 ≤ j) : 2 * (x / 2 ^ j) + x / 2 ^ (j - 1) % 2 = x / 2 ^ (j - 1) := by
  obtain ⟨i, rfl⟩ : ∃ i, j = i + 1 := ⟨j - 1, by omega⟩
  rw [Nat.add_sub_cancel, Nat.pow_succ, ← Nat.div_div_eq_div_mul]
  omega
theorem low_bit (h l j : Nat) (hj : 1 ≤ j) (hj' : j ≤ 64) : (h * 18446744073709551616 + l) / 2 ^ (j - 1) % 2 = l / 2 ^ (j - 1) % 2 := by
  have e : (18446744073709551616 : Nat) = 2 ^ (j - 1) * (2 * 2 ^ (64 - j)) := by
    rw [← Nat.pow_succ', ← Nat.pow_add, show j - 1 + (64 - j).succ = 64 by omega]
  have e2 : h * 18446744073709551616 + l = l + 2 ^ (j - 1) * (2 * (h * 2 ^ (64 - j))) := by
    rw [e]
    have : h * (2 ^ (j - 1) * (2 * 2 ^ (64 - j))) = 2 ^ (j - 1) * (2 * (h * 2 ^ (64 - j))) := by
      rw [Nat.mul_left_comm, Nat.mul_left_comm h 2]
    omega
  rw [e2, Nat.add_mul_div_left _ _ (Nat.pow_pos (by decide))]
  omega
theorem top_part (h l : Nat) (hl : l < 18446744073709551616) : (h * 18446744073709551616 + l) / 2 ^ 64 = h / 2 ^ 0 := by
  have : (2 : Nat) ^ 64 = 18446744073709551616 := by decide
  rw [this, Nat.pow_zero, Nat.div_one]
  omega
theorem small39 {n k : Nat} (h : n < 340282366920938463463374607431768211456) : n / 2 ^ k < 10 ^ 39 := by
  have a : (340282366920938463463374607431768211456 : Nat) < 10 ^ 39 := by decide
  have := Nat.div_le_self n (2 ^ k)
  omega

theorem digit_cat (d : Nat) (ds : List Nat) (hd : d < 10) : (⟨#[48, 49, 50, 51, 52, 53, 54, 55, 56, 57]⟩ : ByteArray).extract d (d + 1) ++ ⟨(List.map Dec.byte ds.reverse).toArray⟩ = ⟨(List.map Dec.byte (ds ++ [d]).reverse).toArray⟩ := by
  have e : (⟨#[48, 49, 50, 51, 52, 53, 54, 55, 56, 57]⟩ : ByteArray).extract d (d + 1) = ⟨[Dec.byte d].toArray⟩ := by
    have : ∀ d : Fin 10, (⟨#[48, 49, 50, 51, 52, 53, 54, 55, 56, 57]⟩ : ByteArray).extract d.val (d.val + 1) = ⟨[Dec.byte d.val].toArray⟩ := by decide +kernel
    exact this ⟨d, hd⟩
  rw [e, ByteArray.mk_append_mk]
  simp

set_option maxHeartbeats 800000 in
theorem rtext_any (h l : Nat) (h1 : h < 18446744073709551616) (h2 : l < 18446744073709551616) (w : World) :
    Calls Try.prog 13 #[.int .u64 h, .int .u64 l] w fun e w' => e = .returned (.string ⟨(Dec.txt (h * 18446744073709551616 + l)).toArray⟩) ∧ Below w.heap.size w w' := by
  have hN := hide (show h * 18446744073709551616 + l < 340282366920938463463374607431768211456 by omega)
  have hh := hide (show h < 340282366920938463463374607431768211456 by omega)
  have htop := hide (top_part h l h2)
  obtain ⟨N, eN⟩ : ∃ N, N = h * 18446744073709551616 + l := ⟨_, rfl⟩
  rw [← eN] at hN htop ⊢
  have EN := hide eN
  clear eN
  go_enter Try.func13, Try.ntmps13
  go_wp2
  go_loopw [5, 6] (fun v c wr => ∃ (j : Nat) (a : Option Addr) (cap : Nat), j ≤ 64 ∧ c = .int .i64 ((j : Int) - 1) ∧ v = .slice a (Dec.len (h / 2 ^ j)) cap ∧ Ints .i64 wr a (Dec.len (h / 2 ^ j)) (Dec.lowI (h / 2 ^ j) (Dec.len (h / 2 ^ j))) ∧ Below w.heap.size w wr)
    (fun _ c _ => (intOf c + 1).toNat)
  case atStart =>
    have e : h / 2 ^ 64 = 0 := Nat.div_eq_of_lt h1
    have e0 : Dec.len 0 = 0 := by decide
    exact ⟨64, none, 0, by omega, rfl, by rw [e, e0], by rw [e, e0]; exact ⟨rfl, by omega, by simp [Dec.lowI, Dec.low], fun i hi => absurd hi (by omega)⟩, Below.refl _ _⟩
  case round =>
    obtain ⟨j, a, cap, hj, rfl, rfl, hi, hb⟩ := hrel
    by_cases hz : 1 ≤ j
    · obtain ⟨b, eb⟩ : ∃ b, b = h / 2 ^ (j - 1) % 2 := ⟨_, rfl⟩
      have hbit := bit_at h (j - 1) b eb
      have hb1 : b ≤ 1 := by rw [eb]; omega
      have ehalf := half h j hz
      rw [← eb] at ehalf
      have EH := hide ehalf
      have HI := hide hi
      clear eb ehalf hi
      go_wp2_with (go_at_call 25; refine (double_any a cap (h / 2 ^ j) b _ (small39 hh.out) hb1 HI.out).mono ?_; rintro e w1 ⟨a', cap', rfl, hi', hb'⟩)
      go_roundw
      case rel => exact ⟨j - 1, a', cap', by omega, by first | go_num | exact congrArg (Value.int .i64) (by omega), by rw [EH.out], by rw [EH.out] at hi'; exact hi', bl_trans hb hb'⟩
      case measure => simp [intOf]; omega
    · obtain rfl : j = 0 := by omega
      have HI := hide hi
      clear hi hz
      rw [show (((0 : Nat) : Int) - 1) = -1 from rfl]
      go_wp2
      go_loopw [5, 7] (fun v c wr => ∃ (j : Nat) (a : Option Addr) (cap : Nat), j ≤ 64 ∧ c = .int .i64 ((j : Int) - 1) ∧ v = .slice a (Dec.len (N / 2 ^ j)) cap ∧ Ints .i64 wr a (Dec.len (N / 2 ^ j)) (Dec.lowI (N / 2 ^ j) (Dec.len (N / 2 ^ j))) ∧ Below w.heap.size w wr)
        (fun _ c _ => (intOf c + 1).toNat)
      case atStart => exact ⟨64, a, cap, by omega, rfl, by rw [htop.out], by rw [htop.out]; exact HI.out, hb⟩
      case round =>
        clear hb HI
        obtain ⟨j, a, cap, hj, rfl, rfl, hi, hb⟩ := hrel
        by_cases hz : 1 ≤ j
        · obtain ⟨b, eb⟩ : ∃ b, b = N / 2 ^ (j - 1) % 2 := ⟨_, rfl⟩
          have hbit := bit_at l (j - 1) b (by rw [eb, EN.out]; exact low_bit h l j hz hj)
          have hb1 : b ≤ 1 := by rw [eb]; omega
          have ehalf := half N j hz
          rw [← eb] at ehalf
          have EH := hide ehalf
          have HI := hide hi
          clear eb ehalf hi
          go_wp2_with (go_at_call 25; refine (double_any a cap (N / 2 ^ j) b _ (small39 hN.out) hb1 HI.out).mono ?_; rintro e w1 ⟨a', cap', rfl, hi', hb'⟩)
          go_roundw
          case rel => exact ⟨j - 1, a', cap', by omega, by first | go_num | exact congrArg (Value.int .i64) (by omega), by rw [EH.out], by rw [EH.out] at hi'; exact hi', bl_trans hb hb'⟩
          case measure => simp [intOf]; omega
        · obtain rfl : j = 0 := by omega
          have e0 : N / 2 ^ 0 = N := by simp
          rw [e0] at hi ⊢
          rw [show (((0 : Nat) : Int) - 1) = -1 from rfl]
          have hL := Dec.len_le N
          obtain ⟨L, eL⟩ : ∃ L, L = Dec.len N := ⟨_, rfl⟩
          rw [← eL] at hi hL ⊢
          have EL := hide eL
          have HI := hide hi
          clear hi hz e0 eL
          go_wp2
          go_loopw [8, 9] (fun s c wr => ∃ k : Nat, k ≤ L ∧ c = .int .i64 k ∧ s = .string ⟨((Dec.low N k).reverse.map Dec.byte).toArray⟩ ∧ Below w.heap.size w wr ∧ Ints .i64 wr a L (Dec.lowI N L))
            (fun _ c _ => L - (intOf c).toNat)
          case atStart => exact ⟨0, Nat.zero_le _, rfl, rfl, hb, HI.out⟩
          case round =>
            clear hb HI
            obtain ⟨k, hk, rfl, rfl, hb, hi⟩ := hrel
            have HI := hide hi
            clear hi
            by_cases hlt : k < L
            · obtain ⟨bb, off, rfl, hbl, hcell⟩ := HI.out.cells k hlt
              rw [Dec.lowI_getD N L k hlt] at hcell
              have hd := Nat.mod_lt (N / 10 ^ k) (show 10 > 0 by decide)
              have hls := hide (Dec.low_succ N k)
              have hll := hide (Dec.low_len N k)
              obtain ⟨d, ed⟩ : ∃ d, d = N / 10 ^ k % 10 := ⟨_, rfl⟩
              rw [← ed] at hcell hd hls
              clear ed
              obtain ⟨ds, eds⟩ : ∃ ds, ds = Dec.low N k := ⟨_, rfl⟩
              rw [← eds] at hls hll ⊢
              clear eds
              have i0 : (0 : Int) ≤ (k : Int) := by omega
              have i1 : (k : Int) < (L : Int) := by omega
              go_wp2
              have w1 : IntKind.i64.wrap ((d : Int) + 1) = (d : Int) + 1 := IntWalk.i64_in _ (by omega)
              have w2 : (0 : Int) ≤ (d : Int) + 1 := by omega
              have w3 : ((d : Int) + 1).toNat = d + 1 := by omega
              have w4 : (d : Int) + 1 ≤ 10 := by omega
              have w5 : (d : Int) ≤ (d : Int) + 1 := by omega
              obtain ⟨S0, eS⟩ : ∃ S0 : ByteArray, S0 = ⟨(List.map Dec.byte ds.reverse).toArray⟩ := ⟨_, rfl⟩
              have hS : S0.size ≤ 40 := by rw [eS]; simp [ByteArray.size]; have := hll.out; omega
              rw [← eS]
              have ES := hide eS
              clear eS
              have w6 : (9223372036854775807 < min (d + 1) 10 - d + S0.size) = False := by simp; omega
              go_quiet (fail)
              clear w1 w2 w3 w4 w5 w6
              go_wp2
              go_roundw
              case rel =>
                refine ⟨k + 1, by omega, by go_num, ?_, below_drewN hb _, HI.out.below (below_drewN (Below.refl _ _) _)⟩
                rw [ES.out, hls.out, digit_cat d ds hd]
              case measure => simp [intOf]; omega
            · have : k = L := by omega
              subst this
              have hlow := hide (Dec.low_len N k)
              have ht := hide (show Dec.txt N = if N = 0 then [48] else (Dec.low N k).reverse.map Dec.byte by unfold Dec.txt; rw [← EL.out])
              have hpos := hide (show N ≠ 0 → 0 < k by intro h0; rw [EL.out]; exact Dec.len_pos N (Nat.lt_of_lt_of_le hN.out (by decide)) h0)
              have hzero := hide (show N = 0 → k = 0 by intro h0; rw [EL.out, h0]; decide)
              by_cases h0 : N = 0
              · obtain rfl := hzero.out h0
                have e : Dec.low N 0 = [] := rfl
                rw [e]
                have H0 := hide h0
                clear h0 e
                go_wp2
                go_ret
                rw [ht.out, if_pos H0.out]
                exact ⟨rfl, hb⟩
              · have hk0 := hpos.out h0
                have H0 := hide h0
                obtain ⟨S0, eS⟩ : ∃ S0 : List UInt8, S0 = List.map Dec.byte (Dec.low N k).reverse := ⟨_, rfl⟩
                have hS : S0.isEmpty = false := by rw [eS]; cases hq : Dec.low N k with | nil => (have := hlow.out; rw [hq] at this; simp at this; omega) | cons x r => simp
                rw [← eS]
                have ES := hide eS
                clear eS h0
                go_wp2
                go_ret
                rw [ht.out, if_neg H0.out, ← ES.out]
                exact ⟨rfl, hb⟩
end Go.Proofs.Ytjadnhibepdemaa
