/- The reference's Scan and Read. -/
import Derived.Test.YtbphphmjhcehkaaDoorVarRead
namespace Go.Proofs.YtbphphmjhcehkaaDoor
open Go.RowKit

theorem andnot128 (c : Int) (h0 : 0 ≤ c) (h1 : c ≤ 255) : bits .andNot .u8 c 128 = c % 128 := by
  have all : ∀ n : Fin 256, bits .andNot .u8 (n.val : Int) 128 = (n.val : Int) % 128 := by decide +kernel
  have := all ⟨c.toNat, by omega⟩
  simpa only [Int.toNat_of_nonneg h0] using this
theorem putX_mod (x n c : Int) (h0 : 0 ≤ c) (h1 : c ≤ 255) : putX x n c = bits .or .u64 x (IntKind.u64.wrap (c % 128 * 2 ^ (7 * n).toNat)) := by
  unfold putX
  rw [andnot128 c h0 h1, IntWalk.u64_in (c % 128) (by omega)]
theorem putS_2 {n c : Int} (h : putS n c = 2) : c = 0 ∧ 0 < n ∨ 1 < c ∧ n = 9 := by
  unfold putS at h
  split at h
  · assumption
  · split at h <;> simp at h
theorem putS_1 {n c : Int} (h : putS n c = 1) : ¬ (c = 0 ∧ 0 < n ∨ 1 < c ∧ n = 9) ∧ c < 128 := by
  unfold putS at h
  split at h
  · simp at h
  · split at h
    · exact ⟨by assumption, by assumption⟩
    · simp at h
theorem putS_0 {n c : Int} (h : putS n c = 0) : ¬ (c = 0 ∧ 0 < n ∨ 1 < c ∧ n = 9) ∧ ¬ c < 128 := by
  unfold putS at h
  split at h
  · simp at h
  · split at h
    · simp at h
    · exact ⟨by assumption, by assumption⟩
/-- The number of what stopped at byte k. -/
def stopX (zs : List Int) (a k : Nat) : Int := if putS k (byteAt zs (a + k)) = 1 then acc zs a (k + 1) else 0

set_option maxHeartbeats 1600000 in
theorem scan_stop (a : Option Addr) (len cap : Nat) (zs : List Int) (a0 : Nat) (en : Int) (K : Nat) (w : World) (h : Ints .u8 w a len zs) (ha : a0 ≤ len) (hlm : len ≤ 1000000) (hen : en ≤ 1000000000) (hst : Stops zs a0 K) (hle : (a0 : Int) + K < en) :
    Calls Tryd.prog 77 #[.slice a len cap, .int .i64 a0, .int .i64 en] w fun e w' => e = .returned (.tuple #[.int .i64 (putS K (byteAt zs (a0 + K))), .int .u64 (stopX zs a0 K), .int .i64 (a0 + K + 1)]) ∧ w = w' := by
  have hl := h.length
  have hK9 := hst.opens.most
  have hKl := hst.lt
  obtain ⟨b, off, rfl, hbl, hcell⟩ := h.from0 (by omega)
  have CELL := hide hcell
  have WF := hide (fun i (hi : i < len) => byte_of_wf' (h.getD_wf hi))
  have ST := hide hst
  obtain ⟨R, eR⟩ : ∃ R, Value.tuple #[.int .i64 (putS K (byteAt zs (a0 + K))), .int .u64 (stopX zs a0 K), .int .i64 (a0 + K + 1)] = R := ⟨_, rfl⟩
  rw [eR]
  have ER := hide eR
  clear h hcell hst eR
  go_enter Tryd.func77, Tryd.ntmps77
  go_wp2
  go_loopw [9, 10] (fun xx c wr => ∃ k : Nat, c = .int .i64 k ∧ k ≤ K ∧ xx = .int .u64 (acc zs a0 k) ∧ wr = w)
    (fun _ c _ => K + 1 - (intOf c).toNat)
  case atStart => exact ⟨0, rfl, by omega, rfl, rfl⟩
  case round =>
    obtain ⟨k, rfl, hk, rfl, rfl⟩ := hrel
    rcases Nat.lt_or_ge k K with hlt | hge
    · skip
      have hcell := CELL.out (a0 + k) (by omega)
      have hc := WF.out (a0 + k) (by omega)
      have ln : (a0 : Int) + (k : Int) < len := by omega
      have l10 : (k : Int) < 10 := by omega
      have le : ¬ en ≤ (a0 : Int) + (k : Int) := by omega
      have ll : ¬ (len : Int) ≤ (a0 : Int) + (k : Int) := by omega
      have ix : ((a0 : Int) + (k : Int)).toNat = a0 + k := by omega
      have hs := ST.out.opens k hlt
      have HP := hide (putX_mod (acc zs a0 k) k (byteAt zs (a0 + k)) hc.1 hc.2)
      rw [show putX (acc zs a0 k) k (byteAt zs (a0 + k)) = acc zs a0 (k + 1) from rfl, show (7 * (k : Int)).toNat = 7 * k by omega] at HP
      obtain ⟨y, ey⟩ : ∃ y, byteAt zs (a0 + k) = y := ⟨_, rfl⟩
      rw [ey] at hs HP
      unfold byteAt at ey
      rw [ey] at hcell
      obtain ⟨hc0, hc1⟩ : 0 ≤ y ∧ y ≤ 255 := ey ▸ hc
      clear hc ey
      have HS := putS_0 hs
      rcases (show k = 0 ∨ 0 < k by omega) with hq | hq
      · skip
        have k9 : ((k : Int) == 9) = false := by simp; omega
        have c1 : 1 < y := by omega
        have k0 : ¬ 0 < (k : Int) := by omega
        have c0 : (y == 0) = false := by simp; omega
        have c128 : ¬ y < 128 := HS.2
        clear HS hs hq
        go_wp2
        go_roundw
        case rel => exact ⟨k + 1, by go_num, by omega, congrArg (Value.int IntKind.u64) HP.out.symm, trivial⟩
        case measure => simp [intOf]; omega
      · skip
        have k9 : ((k : Int) == 9) = false := by simp; omega
        have c1 : 1 < y := by omega
        have k0 : 0 < (k : Int) := by omega
        have c0 : (y == 0) = false := by simp; omega
        have c128 : ¬ y < 128 := HS.2
        clear HS hs hq
        go_wp2
        go_roundw
        case rel => exact ⟨k + 1, by go_num, by omega, congrArg (Value.int IntKind.u64) HP.out.symm, trivial⟩
        case measure => simp [intOf]; omega
    · obtain rfl : k = K := by omega
      rcases putS_cases k (byteAt zs (a0 + k)) with h0 | h1 | h2
      · exact absurd h0 ST.out.stop
      · have VV := hide (show R = (.tuple #[.int .i64 1, .int .u64 (acc zs a0 (k + 1)), .int .i64 (a0 + k + 1)]) by rw [← ER.out]; unfold stopX; rw [if_pos h1, h1])
        have hcell := CELL.out (a0 + k) (by omega)
        have hc := WF.out (a0 + k) (by omega)
        have ln : (a0 : Int) + (k : Int) < len := by omega
        have l10 : (k : Int) < 10 := by omega
        have le : ¬ en ≤ (a0 : Int) + (k : Int) := by omega
        have ll : ¬ (len : Int) ≤ (a0 : Int) + (k : Int) := by omega
        have ix : ((a0 : Int) + (k : Int)).toNat = a0 + k := by omega
        have hs := h1
        have HP := hide (putX_mod (acc zs a0 k) k (byteAt zs (a0 + k)) hc.1 hc.2)
        rw [show putX (acc zs a0 k) k (byteAt zs (a0 + k)) = acc zs a0 (k + 1) from rfl, show (7 * (k : Int)).toNat = 7 * k by omega] at HP
        obtain ⟨y, ey⟩ : ∃ y, byteAt zs (a0 + k) = y := ⟨_, rfl⟩
        rw [ey] at hs HP
        unfold byteAt at ey
        rw [ey] at hcell
        obtain ⟨hc0, hc1⟩ : 0 ≤ y ∧ y ≤ 255 := ey ▸ hc
        clear hc ey
        have HS := putS_1 hs
        rcases (show k = 0 ∨ (0 < k ∧ k < 9) ∨ k = 9 by omega) with hq | hq | hq
        · skip
          have k9 : ((k : Int) == 9) = false := by simp; omega
          have k0 : ¬ 0 < (k : Int) := by omega
          have c128 : y < 128 := HS.2
          clear HS hs hq
          go_wp2
          go_ret3
          rw [VV.out]
          exact ⟨by rw [HP.out]; rfl, rfl⟩
        · skip
          have k9 : ((k : Int) == 9) = false := by simp; omega
          have k0 : 0 < (k : Int) := by omega
          have c0 : (y == 0) = false := by simp; omega
          have c128 : y < 128 := HS.2
          clear HS hs hq
          go_wp2
          go_ret3
          rw [VV.out]
          exact ⟨by rw [HP.out]; rfl, rfl⟩
        · skip
          have k9 : ((k : Int) == 9) = true := by simp; omega
          have c1 : ¬ 1 < y := by omega
          have k0 : 0 < (k : Int) := by omega
          have c0 : (y == 0) = false := by simp; omega
          have c128 : y < 128 := HS.2
          clear HS hs hq
          go_wp2
          go_ret3
          rw [VV.out]
          exact ⟨by rw [HP.out]; rfl, rfl⟩
      · have VV := hide (show R = (.tuple #[.int .i64 2, .int .u64 0, .int .i64 (a0 + k + 1)]) by rw [← ER.out]; unfold stopX; rw [if_neg (by omega), h2])
        have hcell := CELL.out (a0 + k) (by omega)
        have hc := WF.out (a0 + k) (by omega)
        have ln : (a0 : Int) + (k : Int) < len := by omega
        have l10 : (k : Int) < 10 := by omega
        have le : ¬ en ≤ (a0 : Int) + (k : Int) := by omega
        have ll : ¬ (len : Int) ≤ (a0 : Int) + (k : Int) := by omega
        have ix : ((a0 : Int) + (k : Int)).toNat = a0 + k := by omega
        have hs := h2
        have HP := hide (putX_mod (acc zs a0 k) k (byteAt zs (a0 + k)) hc.1 hc.2)
        rw [show putX (acc zs a0 k) k (byteAt zs (a0 + k)) = acc zs a0 (k + 1) from rfl, show (7 * (k : Int)).toNat = 7 * k by omega] at HP
        obtain ⟨y, ey⟩ : ∃ y, byteAt zs (a0 + k) = y := ⟨_, rfl⟩
        rw [ey] at hs HP
        unfold byteAt at ey
        rw [ey] at hcell
        obtain ⟨hc0, hc1⟩ : 0 ≤ y ∧ y ≤ 255 := ey ▸ hc
        clear hc ey
        have HS := putS_2 hs
        rcases (show (y = 0 ∧ k < 9) ∨ (y = 0 ∧ k = 9) ∨ y ≠ 0 by omega) with hq | hq | hq
        · skip
          have k9 : ((k : Int) == 9) = false := by simp; omega
          have c1 : ¬ 1 < y := by omega
          have k0 : 0 < (k : Int) := by omega
          have c0 : (y == 0) = true := by simp; omega
          clear HS hs hq
          go_wp2
          go_ret3
          rw [VV.out]
          exact ⟨rfl, rfl⟩
        · skip
          have k9 : ((k : Int) == 9) = true := by simp; omega
          have c1 : ¬ 1 < y := by omega
          have k0 : 0 < (k : Int) := by omega
          have c0 : (y == 0) = true := by simp; omega
          clear HS hs hq
          go_wp2
          go_ret3
          rw [VV.out]
          exact ⟨rfl, rfl⟩
        · skip
          have k9 : ((k : Int) == 9) = true := by simp; omega
          have c1 : 1 < y := by omega
          have k0 : 0 < (k : Int) := by omega
          have c0 : (y == 0) = false := by simp; omega
          clear HS hs hq
          go_wp2
          go_ret3
          rw [VV.out]
          exact ⟨rfl, rfl⟩

set_option maxHeartbeats 1600000 in
theorem scan_open (a : Option Addr) (len cap : Nat) (zs : List Int) (a0 : Nat) (en : Int) (w : World) (h : Ints .u8 w a len zs) (ha : a0 ≤ len) (hlm : len ≤ 1000000) (hen : en ≤ 1000000000) (hop : Opens zs a0 (zs.length - a0)) (hle : (len : Int) ≤ en) :
    Calls Tryd.prog 77 #[.slice a len cap, .int .i64 a0, .int .i64 en] w fun e w' => e = .returned (.tuple #[.int .i64 (if en = len then 3 else 0), .int .u64 0, .int .i64 len]) ∧ w = w' := by
  have hl := h.length
  rw [hl] at hop
  have hL9 := hop.most
  have CELL := hide (fun (i : Nat) (hi : i < len) => h.cells i hi)
  have WF := hide (fun i (hi : i < len) => byte_of_wf' (h.getD_wf hi))
  have ST := hide hop
  obtain ⟨R, eR⟩ : ∃ R, Value.tuple #[.int .i64 (if en = (len : Int) then 3 else 0), .int .u64 0, .int .i64 len] = R := ⟨_, rfl⟩
  rw [eR]
  have ER := hide eR
  clear h hop eR
  go_enter Tryd.func77, Tryd.ntmps77
  go_wp2
  go_loopw [9, 10] (fun xx c wr => ∃ k : Nat, c = .int .i64 k ∧ a0 + k ≤ len ∧ xx = .int .u64 (acc zs a0 k) ∧ wr = w)
    (fun _ c _ => len + 1 - (intOf c).toNat)
  case atStart => exact ⟨0, rfl, by omega, rfl, rfl⟩
  case round =>
    obtain ⟨k, rfl, hk, rfl, rfl⟩ := hrel
    rcases Nat.lt_or_ge (a0 + k) len with hlt | hge
    · skip
      obtain ⟨b, off, rfl, hbl, hcell⟩ := CELL.out (a0 + k) (by omega)
      have hc := WF.out (a0 + k) (by omega)
      have ln : (a0 : Int) + (k : Int) < len := by omega
      have l10 : (k : Int) < 10 := by omega
      have le : ¬ en ≤ (a0 : Int) + (k : Int) := by omega
      have ll : ¬ (len : Int) ≤ (a0 : Int) + (k : Int) := by omega
      have ix : ((a0 : Int) + (k : Int)).toNat = a0 + k := by omega
      have hs := ST.out k (by omega)
      have HP := hide (putX_mod (acc zs a0 k) k (byteAt zs (a0 + k)) hc.1 hc.2)
      rw [show putX (acc zs a0 k) k (byteAt zs (a0 + k)) = acc zs a0 (k + 1) from rfl, show (7 * (k : Int)).toNat = 7 * k by omega] at HP
      obtain ⟨y, ey⟩ : ∃ y, byteAt zs (a0 + k) = y := ⟨_, rfl⟩
      rw [ey] at hs HP
      unfold byteAt at ey
      rw [ey] at hcell
      obtain ⟨hc0, hc1⟩ : 0 ≤ y ∧ y ≤ 255 := ey ▸ hc
      clear hc ey
      have HS := putS_0 hs
      rcases (show k = 0 ∨ 0 < k by omega) with hq | hq
      · skip
        have k9 : ((k : Int) == 9) = false := by simp; omega
        have c1 : 1 < y := by omega
        have k0 : ¬ 0 < (k : Int) := by omega
        have c0 : (y == 0) = false := by simp; omega
        have c128 : ¬ y < 128 := HS.2
        clear HS hs hq
        go_wp2
        go_roundw
        case rel => exact ⟨k + 1, by go_num, by omega, congrArg (Value.int IntKind.u64) HP.out.symm, trivial⟩
        case measure => simp [intOf]; omega
      · skip
        have k9 : ((k : Int) == 9) = false := by simp; omega
        have c1 : 1 < y := by omega
        have k0 : 0 < (k : Int) := by omega
        have c0 : (y == 0) = false := by simp; omega
        have c128 : ¬ y < 128 := HS.2
        clear HS hs hq
        go_wp2
        go_roundw
        case rel => exact ⟨k + 1, by go_num, by omega, congrArg (Value.int IntKind.u64) HP.out.symm, trivial⟩
        case measure => simp [intOf]; omega
    · have l10 : (k : Int) < 10 := by omega
      by_cases hq : en = len
      · subst hq
        have VV := hide (show R = .tuple #[.int .i64 3, .int .u64 0, .int .i64 len] by rw [← ER.out, if_pos rfl])
        have le : (len : Int) ≤ (a0 : Int) + (k : Int) := by omega
        have ix : (a0 : Int) + (k : Int) = len := by omega
        go_wp2
        go_ret3
        rw [VV.out]
        exact ⟨rfl, rfl⟩
      · have le : ¬ en ≤ (len : Int) := by omega
        have ll : (len : Int) ≤ (a0 : Int) + (k : Int) := by omega
        have VV := hide (show R = .tuple #[.int .i64 0, .int .u64 0, .int .i64 len] by rw [← ER.out, if_neg hq])
        have ix : (a0 : Int) + (k : Int) = len := by omega
        clear hq
        go_wp2
        go_ret3
        rw [VV.out]
        exact ⟨rfl, rfl⟩
end Go.Proofs.YtbphphmjhcehkaaDoor
