/- The contract of word.Text: the decimal text of a count. -/
import Derived.Test.YtjadnhibepdemaaBase
import Derived.Test.YtjadnhibepdemaaPlainDec
namespace Go.Proofs.Ytjadnhibepdemaa
open Go.RowKit

theorem and32 {x : Int} (h : Word x) : bits .and .u64 x 4294967295 = x % 4294967296 := by
  obtain ⟨h0, h1⟩ := h
  rw [u64_and x 4294967295 h0 h1 (by decide) (by decide)]
  obtain ⟨n, rfl⟩ := Int.eq_ofNat_of_zero_le h0
  show (((n : Int).toNat &&& (2 ^ 32 - 1) : Nat) : Int) = _
  rw [Nat.and_two_pow_sub_one_eq_mod]
  simp
theorem or32 {x y : Int} (hx : 0 ≤ x) (hx9 : x ≤ 9) (hy : 0 ≤ y) (hy' : y < 4294967296) : bits .or .u64 (x * 4294967296) y = x * 4294967296 + y := by
  rw [u64_or (x * 4294967296) y (by omega) (by omega) hy (by omega)]
  obtain ⟨m, rfl⟩ := Int.eq_ofNat_of_zero_le hx
  obtain ⟨n, rfl⟩ := Int.eq_ofNat_of_zero_le hy
  have e1 : ((m : Int) * 4294967296).toNat = 2 ^ 32 * m := by
    show ((m : Int) * 4294967296).toNat = 4294967296 * m
    omega
  rw [e1, Int.toNat_natCast, ← Nat.two_pow_add_eq_or_of_lt (show n < 2 ^ 32 by show n < 4294967296; omega)]
  show ((4294967296 * m + n : Nat) : Int) = _
  omega

/-- The state of the division by 10 behind i of the four parts: what is divided, what is left of it. -/
def InvT (p0 p1 p2 p3 v0 v1 v2 v3 r : Int) : Nat → Prop
  | 0 => v0 = p0 ∧ v1 = p1 ∧ v2 = p2 ∧ v3 = p3 ∧ r = 0
  | 1 => p0 = 10 * v0 + r ∧ v1 = p1 ∧ v2 = p2 ∧ v3 = p3
  | 2 => p0 * 4294967296 + p1 = 10 * (v0 * 4294967296 + v1) + r ∧ v2 = p2 ∧ v3 = p3
  | 3 => (p0 * 4294967296 + p1) * 4294967296 + p2 = 10 * ((v0 * 4294967296 + v1) * 4294967296 + v2) + r ∧ v3 = p3
  | _ => ((p0 * 4294967296 + p1) * 4294967296 + p2) * 4294967296 + p3 = 10 * (((v0 * 4294967296 + v1) * 4294967296 + v2) * 4294967296 + v3) + r
def In32 (x : Int) : Prop := 0 ≤ x ∧ x < 4294967296
theorem quo32 {r v : Int} (h0 : 0 ≤ r) (h9 : r ≤ 9) (hv : In32 v) : In32 ((r * 4294967296 + v) / 10) := by unfold In32 at *; omega

theorem inv_step0 {p0 p1 p2 p3 v0 v1 v2 v3 r : Int} (h : InvT p0 p1 p2 p3 v0 v1 v2 v3 r 0) : InvT p0 p1 p2 p3 ((r * 4294967296 + v0) / 10) v1 v2 v3 ((r * 4294967296 + v0) % 10) 1 := by
  obtain ⟨rfl, rfl, rfl, rfl, rfl⟩ := h
  exact ⟨by omega, rfl, rfl, rfl⟩
theorem inv_step1 {p0 p1 p2 p3 v0 v1 v2 v3 r : Int} (h : InvT p0 p1 p2 p3 v0 v1 v2 v3 r 1) : InvT p0 p1 p2 p3 v0 ((r * 4294967296 + v1) / 10) v2 v3 ((r * 4294967296 + v1) % 10) 2 := by
  obtain ⟨h, rfl, rfl, rfl⟩ := h
  exact ⟨by omega, rfl, rfl⟩
theorem inv_step2 {p0 p1 p2 p3 v0 v1 v2 v3 r : Int} (h : InvT p0 p1 p2 p3 v0 v1 v2 v3 r 2) : InvT p0 p1 p2 p3 v0 v1 ((r * 4294967296 + v2) / 10) v3 ((r * 4294967296 + v2) % 10) 3 := by
  obtain ⟨h, rfl, rfl⟩ := h
  exact ⟨by omega, rfl⟩
theorem inv_step3 {p0 p1 p2 p3 v0 v1 v2 v3 r : Int} (h : InvT p0 p1 p2 p3 v0 v1 v2 v3 r 3) : InvT p0 p1 p2 p3 v0 v1 v2 ((r * 4294967296 + v3) / 10) ((r * 4294967296 + v3) % 10) 4 := by
  obtain ⟨h, rfl⟩ := h
  show _ = _
  omega
/-- The number of four parts. -/
def Pv (p0 p1 p2 p3 : Int) : Int := ((p0 * 4294967296 + p1) * 4294967296 + p2) * 4294967296 + p3
theorem inv_end {p0 p1 p2 p3 v0 v1 v2 v3 r : Int} (h : InvT p0 p1 p2 p3 v0 v1 v2 v3 r 4) : Pv p0 p1 p2 p3 = 10 * Pv v0 v1 v2 v3 + r := h
/-- The state behind k digits: what is left of n, that it was not 0 before, and the digits. -/
def StT (n k : Nat) (x : Int) (D : Array Value) : Prop :=
  n < 10 ^ 39 ∧ x = ((n / 10 ^ k : Nat) : Int) ∧ (∀ j, 0 < j → j ≤ k → n / 10 ^ j ≠ 0) ∧ D.size = 39 ∧ ∀ i, i < k → D[38 - i]? = some (.int .u8 (48 + ((n / 10 ^ i % 10 : Nat) : Int)))
theorem StT.digit {n k : Nat} {x y r : Int} {D : Array Value} (h : StT n k x D) (e : x = 10 * y + r) (h0 : 0 ≤ r) (h9 : r ≤ 9) : r = ((n / 10 ^ k % 10 : Nat) : Int) ∧ y = ((n / 10 ^ (k + 1) : Nat) : Int) := by
  obtain ⟨_, hx, _⟩ := h
  rw [Dec.div_pow_succ]
  omega
theorem StT.cells {n k : Nat} {x y r : Int} {D : Array Value} (h : StT n k x D) (hk : k ≤ 38) (e : x = 10 * y + r) (h0 : 0 ≤ r) (h9 : r ≤ 9) :
    ∀ i, i < k + 1 → (D.setIfInBounds (39 - k - 1) (.int .u8 (48 + r)))[38 - i]? = some (.int .u8 (48 + ((n / 10 ^ i % 10 : Nat) : Int))) := by
  intro i hi
  obtain ⟨hr, _⟩ := h.digit e h0 h9
  obtain ⟨_, _, _, hs, hd⟩ := h
  rw [Array.getElem?_setIfInBounds]
  by_cases hik : i = k
  · subst hik
    rw [if_pos (by omega), if_pos (by omega), hr]
  · rw [if_neg (by omega)]
    exact hd i (by omega)
theorem StT.next {n k : Nat} {x y r : Int} {D : Array Value} (h : StT n k x D) (hk : k ≤ 38) (e : x = 10 * y + r) (h0 : 0 ≤ r) (h9 : r ≤ 9) (hy : y ≠ 0) :
    k + 1 ≤ 38 ∧ StT n (k + 1) y (D.setIfInBounds (39 - k - 1) (.int .u8 (48 + r))) := by
  obtain ⟨_, ey⟩ := h.digit e h0 h9
  have hc := h.cells hk e h0 h9
  obtain ⟨hn, _, hne, hs, _⟩ := h
  have hq : n / 10 ^ (k + 1) ≠ 0 := by omega
  refine ⟨?_, hn, ey, ?_, by simpa using hs, hc⟩
  · rcases Nat.lt_or_ge 38 (k + 1) with a | a
    · have : k + 1 = 39 := by omega
      rw [this] at hq
      exact absurd (Nat.div_eq_of_lt hn) hq
    · exact a
  · intro j hj hjk
    by_cases hjk' : j = k + 1
    · subst hjk'; exact hq
    · exact hne j hj (by omega)
theorem byte_nat (d : Nat) (h : d < 10) : (((Dec.byte d).toNat : Nat) : Int) = 48 + (d : Int) := by
  unfold Dec.byte
  rw [UInt8.toNat_ofNat']
  omega
/-- The end: the text of the digits. -/
theorem StT.text {n k : Nat} {x y r : Int} {D : Array Value} (h : StT n k x D) (hk : k ≤ 38) (e : x = 10 * y + r) (h0 : 0 ≤ r) (h9 : r ≤ 9) (hy : y = 0) :
    (Dec.txt n).length = k + 1 ∧ ∀ j (hj : j < (Dec.txt n).length), (D.setIfInBounds (39 - k - 1) (.int .u8 (48 + r)))[39 - k - 1 + j]? = some (.int .u8 (((Dec.txt n)[j]).toNat : Int)) := by
  obtain ⟨_, ey⟩ := h.digit e h0 h9
  have hc := h.cells hk e h0 h9
  obtain ⟨hn, _, hne, hs, _⟩ := h
  have h40 : n < 10 ^ 40 := Nat.lt_of_lt_of_le hn (Nat.pow_le_pow_right (by decide) (by decide))
  have hq : n / 10 ^ (k + 1) = 0 := by omega
  have et := Dec.txt_eq n (k + 1) h40 (by omega) hq (fun j a b => hne j a (by omega))
  have hl : (Dec.txt n).length = k + 1 := by rw [et]; simp [Dec.low_len]
  refine ⟨hl, fun j hj => ?_⟩
  have hj' : j < k + 1 := by omega
  have := hc (k - j) (by omega)
  rw [show 38 - (k - j) = 39 - k - 1 + j by omega] at this
  rw [this]
  have hg : (Dec.txt n)[j] = Dec.byte (n / 10 ^ (k - j) % 10) := by
    have h1 : (Dec.txt n)[j]? = some (Dec.byte (n / 10 ^ (k - j) % 10)) := by
      rw [et, List.getElem?_map, List.getElem?_reverse (by rw [Dec.low_len]; omega), Dec.low_len, show k + 1 - 1 - j = k - j by omega, Dec.low_get n (k + 1) (k - j) (by omega)]
      rfl
    rw [List.getElem?_eq_getElem hj] at h1
    exact Option.some.inj h1
  rw [hg, byte_nat _ (Nat.mod_lt _ (by decide))]

theorem eq_parts (W : World) (v0 v1 v2 v3 : Int) : (Op.equalIn 10000 48 (.agg #[.int .u64 v0, .int .u64 v1, .int .u64 v2, .int .u64 v3]) (.agg #[.int .u64 0, .int .u64 0, .int .u64 0, .int .u64 0])).run Try.prog W = .ok (decide (v0 = 0 ∧ v1 = 0 ∧ v2 = 0 ∧ v3 = 0)) W := by
  have hu : Try.prog.underlying 48 = some (.array 4 22) := Try.underlying48
  have hk : Try.prog.underlying 22 = some (.int .u64) := Try.underlying22
  have hc : Try.prog.cellsOf 22 = 1 := by kernel_rfl
  have hi : (Try.prog.info? 22).isSome = true := by kernel_rfl
  obtain ⟨i, hi⟩ := Option.isSome_iff_exists.1 hi
  rw [run_equalIn_array W 9999 _ _ hu hi, hc]
  have he : ∀ (a : Int) (W : World), (Op.equalIn 9999 22 (.int .u64 a) (.int .u64 0)).run Try.prog W = .ok (a == 0) W := fun a W => run_equalIn_int W 9998 22 .u64 .u64 a 0 hk
  by_cases h0 : v0 = 0 <;> by_cases h1 : v1 = 0 <;> by_cases h2 : v2 = 0 <;> by_cases h3 : v3 = 0 <;> simp [Op.eqItems, List.range_succ, part, he, h0, h1, h2, h3]
theorem slice_digits (W : World) (B k : Nat) (hk : k ≤ 38) : (Instr.sliceAt 49 (.pointer (some ⟨B, 0, none⟩)) (some (.int .i64 (39 - (k : Int) - 1))) none none).run Try.prog W = .ok (.slice (some ⟨B, 39 - k - 1, none⟩) (k + 1) (k + 1)) W := by
  have hal : Try.prog.arrayLen 49 = 39 := by kernel_rfl
  have hel : Try.prog.elem 49 = 5 := by kernel_rfl
  have hs : (sizeOf 5).run Try.prog W = .ok 1 W := by kernel_rfl
  have ht : Try.prog.underlying 49 = some (.array (Try.prog.arrayLen 49) (Try.prog.elem 49)) := by rw [hal, hel]; exact Try.underlying49
  rw [run_sliceAt_array_l W _ _ ht .i64 _ (by omega) (by rw [hal]; omega), hal, hel, hs]
  have e : (39 - (k : Int) - 1).toNat = 39 - k - 1 := by omega
  simp only [Result.andThen_ok, slicedAt, e]
  rw [if_neg (by omega)]
  have e2 : (⟨B, 0, none⟩ : Addr).add ((39 - k - 1) * 1) = ⟨B, 39 - k - 1, none⟩ := by
    unfold Addr.add; split <;> simp_all
  rw [e2, show 39 - (39 - k - 1) = k + 1 by omega]
theorem Pv_zero {v0 v1 v2 v3 : Int} (s : In32 v0 ∧ In32 v1 ∧ In32 v2 ∧ In32 v3) : (v0 = 0 ∧ v1 = 0 ∧ v2 = 0 ∧ v3 = 0) ↔ Pv v0 v1 v2 v3 = 0 := by
  unfold In32 at s; unfold Pv; omega

set_option maxHeartbeats 800000 in
/-- word.Text returns the decimal text of a count. -/
theorem text_any (h l : Int) (h1 : Word h) (h2 : Word l) (w : World) :
    Calls Try.prog 12 #[.agg #[.int .u64 h, .int .u64 l]] w fun e w' => e = .returned (.string ⟨(Dec.txt (val h l).toNat).toArray⟩) ∧ Below w.heap.size w w' := by
  have f1 := and32 h1
  have f2 := and32 h2
  have hval := val_long h1 h2
  have hPv : Hid (Pv (h / 4294967296) (h % 4294967296) (l / 4294967296) (l % 4294967296) = val h l) := by unfold Hid Pv val; omega
  have hn : Hid ((val h l).toNat < 10 ^ 39 ∧ (((val h l).toNat : Nat) : Int) = val h l) := by
    unfold Long at hval
    have : (340282366920938463463374607431768211456 : Nat) < 10 ^ 39 := by decide
    exact ⟨by omega, by omega⟩
  obtain ⟨n, en⟩ : ∃ n, n = (val h l).toNat := ⟨_, rfl⟩
  rw [← en] at hn ⊢
  have i0 : Hid (In32 (h / 4294967296) ∧ In32 (h % 4294967296) ∧ In32 (l / 4294967296) ∧ In32 (l % 4294967296)) := by unfold Hid In32; unfold Word at h1 h2; omega
  clear hval en
  obtain ⟨a1, a2⟩ := h1; obtain ⟨b1, b2⟩ := h2
  go_enter Try.func12, Try.ntmps12
  go_wp2
  go_loopw [5, 22] (fun at_ c wr => ∃ (k : Nat) (p0 p1 p2 p3 : Int) (D : Array Value), k ≤ 38 ∧ c = .int .i64 k ∧ at_ = .int .i64 (39 - k) ∧
      (In32 p0 ∧ In32 p1 ∧ In32 p2 ∧ In32 p3) ∧ StT n k (Pv p0 p1 p2 p3) D ∧
      wr.heap[w.heap.size + 1]? = some (.cells #[.int .u64 p0, .int .u64 p1, .int .u64 p2, .int .u64 p3] 48 (0, 0)) ∧
      wr.heap[w.heap.size + 2]? = some (.cells D 49 (0, 0)) ∧ Below w.heap.size w wr)
    (fun _ c _ => 39 - (intOf c).toNat)
  case atStart =>
    refine ⟨0, h / 4294967296, h % 4294967296, l / 4294967296, l % 4294967296, _, by omega, rfl, rfl, i0.out, ?_, heap_old_at _ _ (by simp) (heap_new_at _ _ (by simp)), heap_new_at _ _ (by simp), ?_⟩
    · rw [hPv.out]
      exact ⟨hn.out.1, by rw [Nat.pow_zero, Nat.div_one]; exact hn.out.2.symm, fun j a b => absurd a (by omega), rfl, fun i hi => absurd hi (by omega)⟩
    · exact ((((Below.refl _ _).alloc (Nat.le_refl _) _).alloc (by simp) _).alloc (by simp; omega) _)
  case round =>
    obtain ⟨k, p0, p1, p2, p3, D, hk, rfl, rfl, ⟨q0, q1, q2, q3⟩, hS, hP, hD, hb⟩ := hrel
    clear f1 f2
    have HS := hide hS
    clear hS
    obtain ⟨wo, rfl⟩ : ∃ wo : World, wo = wr := ⟨_, rfl⟩
    go_wp2
    go_loopw [6, 24] (fun rest c wr => ∃ (i : Nat) (r v0 v1 v2 v3 : Int), i ≤ 4 ∧ c = .int .i64 i ∧ rest = .int .u64 r ∧ 0 ≤ r ∧ r ≤ 9 ∧ (In32 v0 ∧ In32 v1 ∧ In32 v2 ∧ In32 v3) ∧ InvT p0 p1 p2 p3 v0 v1 v2 v3 r i ∧
        wr.heap[w.heap.size + 1]? = some (.cells #[.int .u64 v0, .int .u64 v1, .int .u64 v2, .int .u64 v3] 48 (0, 0)) ∧
        wr.heap[w.heap.size + 2]? = some (.cells D 49 (0, 0)) ∧ Below w.heap.size w wr)
      (fun _ c _ => 4 - (intOf c).toNat)
    case atStart => exact ⟨0, 0, p0, p1, p2, p3, by omega, rfl, rfl, by omega, by omega, ⟨q0, q1, q2, q3⟩, ⟨rfl, rfl, rfl, rfl, rfl⟩, hP, hD, hb⟩
    case round =>
      obtain ⟨i, r, v0, v1, v2, v3, hi, rfl, rfl, hr0, hr9, ⟨s0, s1, s2, s3⟩, hI, hP', hD', hb'⟩ := hrel
      clear hP hD hb
      have c0 : wr.cell? ⟨w.heap.size + 1, 0, none⟩ = some (.int .u64 v0) := by simp [World.cell?, hP']
      have c1 : wr.cell? ⟨w.heap.size + 1, 1, none⟩ = some (.int .u64 v1) := by simp [World.cell?, hP']
      have c2 : wr.cell? ⟨w.heap.size + 1, 2, none⟩ = some (.int .u64 v2) := by simp [World.cell?, hP']
      have c3 : wr.cell? ⟨w.heap.size + 1, 3, none⟩ = some (.int .u64 v3) := by simp [World.cell?, hP']
      have fz : ∀ j, wr.frozen? ⟨w.heap.size + 1, j, none⟩ = false := by intro j; simp [World.frozen?, hP']
      have HP := hide hP'; have HD := hide hD'; have HI := hide hI
      clear hP' hD' hI
      rcases (show i = 0 ∨ i = 1 ∨ i = 2 ∨ i = 3 ∨ i = 4 by omega) with rfl | rfl | rfl | rfl | rfl
      · have S0 := s0
        obtain ⟨t0, t1⟩ := s0
        have g := or32 hr0 hr9 t0 t1
        go_wp2
        go_roundw
        case rel => exact ⟨1, (r * 4294967296 + v0) % 10, ((r * 4294967296 + v0) / 10), v1, v2, v3, by omega, by go_num, rfl, by omega, by omega, ⟨quo32 hr0 hr9 S0, s1, s2, s3⟩, inv_step0 HI.out, by rw [heap_setCell_same _ _ _ _ _ _ HP.out]; rfl, (heap_setCell_other _ _ _ _ (by simp)).trans HD.out, hb'.setCell (by simp) _⟩
        case measure => simp [intOf]
      · have S1 := s1
        obtain ⟨t0, t1⟩ := s1
        have g := or32 hr0 hr9 t0 t1
        go_wp2
        go_roundw
        case rel => exact ⟨2, (r * 4294967296 + v1) % 10, v0, ((r * 4294967296 + v1) / 10), v2, v3, by omega, by go_num, rfl, by omega, by omega, ⟨s0, quo32 hr0 hr9 S1, s2, s3⟩, inv_step1 HI.out, by rw [heap_setCell_same _ _ _ _ _ _ HP.out]; rfl, (heap_setCell_other _ _ _ _ (by simp)).trans HD.out, hb'.setCell (by simp) _⟩
        case measure => simp [intOf]
      · have S2 := s2
        obtain ⟨t0, t1⟩ := s2
        have g := or32 hr0 hr9 t0 t1
        go_wp2
        go_roundw
        case rel => exact ⟨3, (r * 4294967296 + v2) % 10, v0, v1, ((r * 4294967296 + v2) / 10), v3, by omega, by go_num, rfl, by omega, by omega, ⟨s0, s1, quo32 hr0 hr9 S2, s3⟩, inv_step2 HI.out, by rw [heap_setCell_same _ _ _ _ _ _ HP.out]; rfl, (heap_setCell_other _ _ _ _ (by simp)).trans HD.out, hb'.setCell (by simp) _⟩
        case measure => simp [intOf]
      · have S3 := s3
        obtain ⟨t0, t1⟩ := s3
        have g := or32 hr0 hr9 t0 t1
        go_wp2
        go_roundw
        case rel => exact ⟨4, (r * 4294967296 + v3) % 10, v0, v1, v2, ((r * 4294967296 + v3) / 10), by omega, by go_num, rfl, by omega, by omega, ⟨s0, s1, s2, quo32 hr0 hr9 S3⟩, inv_step3 HI.out, by rw [heap_setCell_same _ _ _ _ _ _ HP.out]; rfl, (heap_setCell_other _ _ _ _ (by simp)).trans HD.out, hb'.setCell (by simp) _⟩
        case measure => simp [intOf]
      · have hsz : 39 - k - 1 < D.size := by have := HS.out.2.2.2.1; omega
        have cd : wr.cell? ⟨w.heap.size + 1 + 1, 39 - k - 1, none⟩ = some D[39 - k - 1] := by
          simp [World.cell?, HD.out, Array.getElem?_eq_getElem hsz]
        obtain ⟨dv, hdv⟩ : ∃ dv, dv = D[39 - k - 1] := ⟨_, rfl⟩
        rw [← hdv] at cd
        have fd : ∀ j, wr.frozen? ⟨w.heap.size + 1 + 1, j, none⟩ = false := by intro j; simp [World.frozen?, HD.out]
        have he := hide (inv_end HI.out)
        have hpz := Pv_zero ⟨s0, s1, s2, s3⟩
        clear hdv hsz
        by_cases hz : Pv v0 v1 v2 v3 = 0
        · have heq : ∀ W : World, (Op.equalIn 10000 48 (.agg #[.int .u64 v0, .int .u64 v1, .int .u64 v2, .int .u64 v3]) (.agg #[.int .u64 0, .int .u64 0, .int .u64 0, .int .u64 0])).run Try.prog W = .ok true W := by
            intro W
            rw [eq_parts, decide_eq_true (hpz.2 hz)]
          obtain ⟨hlen, hcell⟩ := HS.out.text hk he.out hr0 hr9 hz
          have hsl : ∀ W : World, (Instr.sliceAt 49 (.pointer (some ⟨w.heap.size + 1 + 1, 0, none⟩)) (some (.int .i64 (39 - (k : Int) - 1))) none none).run Try.prog W = .ok (.slice (some ⟨w.heap.size + 1 + 1, 39 - k - 1, none⟩) (k + 1) (k + 1)) W :=
            fun W => slice_digits W _ _ hk
          have hcv : (convert 50 9 (.slice (some ⟨w.heap.size + 1 + 1, 39 - k - 1, none⟩) (k + 1) (k + 1))).run Try.prog (wr.setCell ⟨w.heap.size + 1 + 1, 39 - k - 1, none⟩ (.int .u8 (48 + r))) = .ok (.string ⟨(Dec.txt n).toArray⟩) (wr.setCell ⟨w.heap.size + 1 + 1, 39 - k - 1, none⟩ (.int .u8 (48 + r))) := by
            have hcv0 := run_convert_bytes_back (P := Try.prog) (wr.setCell ⟨w.heap.size + 1 + 1, 39 - k - 1, none⟩ (.int .u8 (48 + r))) 50 9 5 ⟨w.heap.size + 1 + 1, 39 - k - 1, none⟩ (k + 1) (Dec.txt n) Try.underlying50 Try.underlying5 Try.underlying9 (fun j hj => by
              rw [← hcell j hj]
              have hh := heap_setCell_same wr (w.heap.size + 2) (39 - k - 1) D 49 (.int .u8 (48 + r)) HD.out
              have ea : (⟨w.heap.size + 1 + 1, 39 - k - 1, none⟩ : Addr).add j = ⟨w.heap.size + 2, 39 - k - 1 + j, none⟩ := by
                unfold Addr.add; split <;> simp_all
              rw [ea]
              exact cell_of_row _ _ _ _ _ _ hh)
            rw [hlen] at hcv0
            exact hcv0
          clear hlen hcell hz hpz
          go_wp2
          go_ret
          exact ⟨rfl, hb'.setCell (by simp; omega) _⟩
        · have heq : ∀ W : World, (Op.equalIn 10000 48 (.agg #[.int .u64 v0, .int .u64 v1, .int .u64 v2, .int .u64 v3]) (.agg #[.int .u64 0, .int .u64 0, .int .u64 0, .int .u64 0])).run Try.prog W = .ok false W := by
            intro W
            rw [eq_parts, decide_eq_false (fun h => hz (hpz.1 h))]
          have HN := hide (HS.out.next hk he.out hr0 hr9 hz)
          clear hz hpz
          go_wp2
          go_roundw
          case rel => exact ⟨k + 1, v0, v1, v2, v3, _, HN.out.1, by go_num, congrArg (Value.int .i64) (by omega), ⟨s0, s1, s2, s3⟩, HN.out.2, (heap_setCell_other _ _ _ _ (by simp)).trans HP.out, heap_setCell_same _ _ _ _ _ _ HD.out, hb'.setCell (by simp; omega) _⟩
          case measure => simp [intOf]; omega
end Go.Proofs.Ytjadnhibepdemaa
