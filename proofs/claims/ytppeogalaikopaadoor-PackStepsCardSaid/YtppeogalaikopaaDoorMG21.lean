/- The plain law of the numbers' bytes: what is written is read back, and what is read is what is written. -/
import Derived.Test.YtppeogalaikopaaDoorMG15
import Derived.Test.YtppeogalaikopaaDoorMG10
import Derived.Laws.BitsAllLaws
namespace Go.Proofs.YtppeogalaikopaaDoor
open Go.RowKit

/-- 128 to the k. -/
def pw : Nat → Int
  | 0 => 1
  | k + 1 => pw k * 128
theorem pw_two : ∀ k, pw k = 2 ^ (7 * k)
  | 0 => rfl
  | k + 1 => by rw [pw, pw_two k, show 7 * (k + 1) = 7 * k + 7 by omega, Int.pow_add]; rfl
theorem pw_pos : ∀ k, 0 < pw k
  | 0 => by decide
  | k + 1 => by have := pw_pos k; unfold pw; omega
theorem putX_add {x c : Int} {k : Nat} (hk : k ≤ 9) (hx0 : 0 ≤ x) (hx : x < pw k) (hc0 : 0 ≤ c) (hc1 : c ≤ 255) (hw : c % 128 * pw k < 18446744073709551616) : putX x k c = x + c % 128 * pw k := by
  rw [putX_mod x k c hc0 hc1, show (7 * (k : Int)).toNat = 7 * k by omega, ← pw_two]
  have hp := pw_pos k
  have hd0 : 0 ≤ c % 128 * pw k := Int.mul_nonneg (by omega) (by omega)
  rw [IntWalk.u64_in _ (by omega)]
  have hxw : x < 18446744073709551616 := by
    have : pw k ≤ 9223372036854775808 := by
      rcases (show k = 0 ∨ k = 1 ∨ k = 2 ∨ k = 3 ∨ k = 4 ∨ k = 5 ∨ k = 6 ∨ k = 7 ∨ k = 8 ∨ k = 9 by omega) with rfl | rfl | rfl | rfl | rfl | rfl | rfl | rfl | rfl | rfl <;> decide
    omega
  rw [u64_or x _ hx0 hxw hd0 hw]
  have e1 : (c % 128 * pw k).toNat = 2 ^ (7 * k) * (c % 128).toNat := by
    rw [pw_two, Int.mul_comm]
    obtain ⟨d, hd⟩ : ∃ d : Nat, c % 128 = d := ⟨(c % 128).toNat, by omega⟩
    rw [hd, Int.toNat_natCast, show ((2 : Int) ^ (7 * k)) = ((2 ^ (7 * k) : Nat) : Int) by push_cast; rfl, ← Int.natCast_mul, Int.toNat_natCast]
  have e2 : x.toNat < 2 ^ (7 * k) := by
    rw [pw_two] at hx
    have : ((2 ^ (7 * k) : Nat) : Int) = 2 ^ (7 * k) := by push_cast; rfl
    omega
  rw [e1, Nat.or_comm, ← Nat.two_pow_add_eq_or_of_lt e2, ← e1]
  omega

theorem pw_succ (k : Nat) : pw (k + 1) = pw k * 128 := rfl
theorem cases9 {k : Nat} (h : k ≤ 9) : k = 0 ∨ k = 1 ∨ k = 2 ∨ k = 3 ∨ k = 4 ∨ k = 5 ∨ k = 6 ∨ k = 7 ∨ k = 8 ∨ k = 9 := by omega
theorem pw0 : pw 0 = 1 := rfl
theorem pw1 : pw 1 = 128 := rfl
theorem pw2 : pw 2 = 16384 := rfl
theorem pw3 : pw 3 = 2097152 := rfl
theorem pw4 : pw 4 = 268435456 := rfl
theorem pw5 : pw 5 = 34359738368 := rfl
theorem pw6 : pw 6 = 4398046511104 := rfl
theorem pw7 : pw 7 = 562949953421312 := rfl
theorem pw8 : pw 8 = 72057594037927936 := rfl
theorem pw9 : pw 9 = 9223372036854775808 := rfl
theorem pw10 : pw 10 = 1180591620717411303424 := rfl
/-- The facts of a step: at the byte k, the number from there on is y. -/
theorem ar_last {k : Nat} {y : Int} (hk : k ≤ 9) (h0 : 0 ≤ y) (hy : y < 128) (hw : y * pw k < 18446744073709551616) : ¬ (1 < y ∧ (k : Int) = 9) := by
  rintro ⟨h1, h9⟩
  obtain rfl : k = 9 := by omega
  rw [pw9] at hw
  omega
theorem ar_more {k : Nat} {y : Int} (hk : k ≤ 9) (hy : 128 ≤ y) (hw : y * pw k < 18446744073709551616) : k ≤ 8 ∧ y % 128 * pw k < 18446744073709551616 ∧ y / 128 * pw (k + 1) < 18446744073709551616 ∧ y % 128 * pw k + y / 128 * pw (k + 1) = y * pw k := by
  rcases cases9 hk with rfl | rfl | rfl | rfl | rfl | rfl | rfl | rfl | rfl | rfl <;> simp only [pw0, pw1, pw2, pw3, pw4, pw5, pw6, pw7, pw8, pw9, pw10, Nat.reduceAdd, Nat.zero_add] at * <;> omega
theorem ar_acc {k : Nat} {x d : Int} (hk : k ≤ 9) (h0 : 0 ≤ x) (hx : x < pw k) (d0 : 0 ≤ d) (d1 : d < 128) : 0 ≤ x + d * pw k ∧ x + d * pw k < pw (k + 1) := by
  rcases cases9 hk with rfl | rfl | rfl | rfl | rfl | rfl | rfl | rfl | rfl | rfl <;> simp only [pw0, pw1, pw2, pw3, pw4, pw5, pw6, pw7, pw8, pw9, pw10, Nat.reduceAdd, Nat.zero_add] at * <;> omega

theorem acc_at (zs : List Int) (a k : Nat) : acc zs a (k + 1) = putX (acc zs a k) k (byteAt zs (a + k)) := rfl
/-- What is written is read back. -/
theorem reads_vb (L : List Int) (a : Nat) : ∀ (f : Nat) (y : Int) (k : Nat), 0 ≤ y → y < 128 ^ f → 0 < f → k ≤ 9 → y * pw k < 18446744073709551616 → (k = 0 ∨ 0 < y) →
    (∀ j, j < (vb f y).length → byteAt L (a + (k + j)) = (vb f y).getD j 0) → a + (k + (vb f y).length) ≤ L.length → Opens L a k → 0 ≤ acc L a k → acc L a k < pw k →
    ∃ K, K + 1 = k + (vb f y).length ∧ Stops L a K ∧ putS K (byteAt L (a + K)) = 1 ∧ acc L a (K + 1) = acc L a k + y * pw k
  | 0, _, _, _, _, h, _, _, _, _, _, _, _, _ => absurd h (by omega)
  | f + 1, y, k, h0, hf, _, hk, hw, hz, hb, hl, ho, ha0, ha1 => by
    by_cases hs : y < 128
    · rw [vb_small f hs] at hb hl ⊢
      have hbk : byteAt L (a + k) = y := hb 0 (by simp)
      have h1 : putS k y = 1 := by
        unfold putS
        have := ar_last hk h0 hs hw
        rw [if_neg (by omega), if_pos hs]
      have e1 : y % 128 = y := by omega
      refine ⟨k, by simp, ⟨by simp at hl; omega, ho, by rw [hbk, h1]; decide⟩, by rw [hbk, h1], ?_⟩
      rw [acc_at, hbk, putX_add hk ha0 ha1 h0 (by omega) (by rw [e1]; exact hw), e1]
    · obtain ⟨hk8, m1, m2, m3⟩ := ar_more hk (by omega) hw
      rw [vb_big f (by omega)] at hb hl ⊢
      have hbk : byteAt L (a + k) = y % 128 + 128 := hb 0 (by simp)
      have e1 : (y % 128 + 128) % 128 = y % 128 := by omega
      have h1 : putS k (y % 128 + 128) = 0 := by
        unfold putS
        rw [if_neg (by omega), if_neg (by omega)]
      have hacc : acc L a (k + 1) = acc L a k + y % 128 * pw k := by
        rw [acc_at, hbk, putX_add hk ha0 ha1 (by omega) (by omega) (by rw [e1]; exact m1), e1]
      have hg : 0 < f := by
        rcases Nat.eq_zero_or_pos f with e | e
        · subst e; simp at hf; omega
        · exact e
      have hp : (128 : Int) ^ (f + 1) = 128 ^ f * 128 := Int.pow_succ ..
      obtain ⟨b1, b2⟩ := ar_acc hk ha0 ha1 (d := y % 128) (by omega) (by omega)
      obtain ⟨K, hK, hS, h1K, hA⟩ := reads_vb L a f (y / 128) (k + 1) (by omega) (by omega) hg (by omega) m2 (.inr (by omega))
        (fun j hj => by
          have := hb (j + 1) (by simp; omega)
          rw [show a + (k + 1 + j) = a + (k + (j + 1)) by omega, this]
          simp) (by simp at hl; omega) (ho.succ (by rw [hbk, h1])) (by rw [hacc]; exact b1) (by rw [hacc]; exact b2)
      refine ⟨K, by simp; omega, hS, h1K, ?_⟩
      rw [hA, hacc]
      omega
theorem pw_mul (k : Nat) (hk : k ≤ 9) : pw k * 2 ^ (64 - 7 * k) = 18446744073709551616 := by
  rcases cases9 hk with rfl | rfl | rfl | rfl | rfl | rfl | rfl | rfl | rfl | rfl <;> decide
/-- How large the number from the byte k on may be. -/
def qw (k : Nat) : Int := 2 ^ (64 - 7 * k)
theorem qs {k : Nat} (hk : k ≤ 8) {c y : Int} (hc : 128 ≤ c ∧ c ≤ 255) (h0 : 0 < y) (hy : y < qw (k + 1)) : (c - 128) + 128 * y < qw k := by
  rcases cases9 (show k ≤ 9 by omega) with rfl | rfl | rfl | rfl | rfl | rfl | rfl | rfl | rfl | rfl <;> simp [qw] at * <;> omega
theorem qp {k : Nat} (hk : k ≤ 9) {y : Int} (h0 : 0 ≤ y) (hy : y < qw k) : y * pw k < 18446744073709551616 := by
  rcases cases9 hk with rfl | rfl | rfl | rfl | rfl | rfl | rfl | rfl | rfl | rfl <;> simp [qw, pw0, pw1, pw2, pw3, pw4, pw5, pw6, pw7, pw8, pw9] at * <;> omega
theorem q_last {k : Nat} (hk : k ≤ 9) {c : Int} (hc : 0 ≤ c ∧ c < 128) (h9 : ¬ (1 < c ∧ (k : Int) = 9)) : c < qw k := by
  rcases cases9 hk with rfl | rfl | rfl | rfl | rfl | rfl | rfl | rfl | rfl | rfl <;> simp [qw] at * <;> omega
theorem ar_join {k : Nat} (c y : Int) : (c - 128) * pw k + y * pw (k + 1) = ((c - 128) + 128 * y) * pw k := by
  rw [pw_succ, Int.add_mul, Int.mul_assoc 128 y, Int.mul_comm 128, Int.mul_assoc]
/-- What is read is what is written. -/
theorem vb_reads (L : List Int) (hL : ∀ i, 0 ≤ byteAt L i ∧ byteAt L i ≤ 255) (K : Nat) (hs : Stops L 0 K) (h1 : putS K (byteAt L (0 + K)) = 1) : ∀ (m k : Nat), k + m = K → 0 ≤ acc L 0 k → acc L 0 k < pw k →
    ∃ y, 0 ≤ y ∧ y < qw k ∧ y < 128 ^ (m + 1) ∧ (0 < k → 0 < y) ∧ vb (m + 1) y = (L.drop k).take (m + 1) ∧ acc L 0 (K + 1) = acc L 0 k + y * pw k
  | 0, k, hk, ha0, ha1 => by
    obtain rfl : k = K := by omega
    have h9 := hs.opens.most
    have hlt := hs.lt
    rw [Nat.zero_add] at h1 hlt
    obtain ⟨p1, p2⟩ := putS_1 h1
    obtain ⟨c0, c1⟩ := hL k
    have hq := q_last h9 (c := byteAt L k) ⟨c0, p2⟩ (fun e => p1 (.inr e))
    have e1 : byteAt L k % 128 = byteAt L k := by omega
    refine ⟨byteAt L k, c0, hq, (by rw [show (128 : Int) ^ (0 + 1) = 128 from rfl]; exact p2), fun hk0 => by
      rcases Int.lt_or_eq_of_le c0 with h | h
      · exact h
      · exact absurd (.inl ⟨h.symm, by omega⟩) p1, ?_, ?_⟩
    · have : byteAt L k = L[k]'(by omega) := by simp [byteAt, List.getD, List.getElem?_eq_getElem (show k < L.length by omega)]
      rw [vb_small 0 p2, List.drop_eq_getElem_cons (by omega), List.take_succ_cons, List.take_zero, this]
    · rw [acc_at, Nat.zero_add, putX_add h9 ha0 ha1 c0 c1 (by rw [e1]; exact qp h9 c0 hq), e1]
  | m + 1, k, hk, ha0, ha1 => by
    have h9 := hs.opens.most
    have hlt := hs.lt
    have hp := hs.opens k (by omega)
    rw [Nat.zero_add] at hp
    obtain ⟨p1, p2⟩ := putS_0 hp
    obtain ⟨c0, c1⟩ := hL k
    have hd : byteAt L k % 128 = byteAt L k - 128 := by omega
    have hw : byteAt L k % 128 * pw k < 18446744073709551616 := qp (k := k) (by omega) (by omega) (by
      have : byteAt L k % 128 < 128 := by omega
      have hk8 : k ≤ 8 := by omega
      rcases cases9 (show k ≤ 9 by omega) with rfl | rfl | rfl | rfl | rfl | rfl | rfl | rfl | rfl | rfl <;> simp [qw] at * <;> omega)
    have hacc : acc L 0 (k + 1) = acc L 0 k + byteAt L k % 128 * pw k := by
      rw [acc_at, Nat.zero_add, putX_add (by omega) ha0 ha1 c0 c1 hw]
    obtain ⟨b1, b2⟩ := ar_acc (k := k) (by omega) ha0 ha1 (d := byteAt L k % 128) (by omega) (by omega)
    obtain ⟨y, y0, yq, y8, yp, hv, hA⟩ := vb_reads L hL K hs h1 m (k + 1) (by omega) (by rw [hacc]; exact b1) (by rw [hacc]; exact b2)
    have yp' := yp (by omega)
    refine ⟨(byteAt L k - 128) + 128 * y, by omega, qs (by omega) ⟨by omega, c1⟩ yp' yq, (by
      have hp : (128 : Int) ^ (m + 1 + 1) = 128 ^ (m + 1) * 128 := Int.pow_succ ..
      omega), fun _ => by omega, ?_, ?_⟩
    · rw [vb_big (m + 1) (by omega), List.drop_eq_getElem_cons (by omega), List.take_succ_cons]
      have e1 : (byteAt L k - 128 + 128 * y) % 128 + 128 = L[k]'(by omega) := by
        have : byteAt L k = L[k]'(by omega) := by simp [byteAt, List.getD, List.getElem?_eq_getElem (show k < L.length by omega)]
        rw [← this]; omega
      have e2 : (byteAt L k - 128 + 128 * y) / 128 = y := by omega
      rw [e1, e2, hv]
    · rw [hA, hacc, hd, ← ar_join]
      omega
theorem vb_fuel : ∀ (f : Nat) (y : Int), 0 ≤ y → y < 128 ^ f → 0 < f → ∀ g, f ≤ g → vb g y = vb f y
  | 0, _, _, _, h, _, _ => absurd h (by omega)
  | f + 1, y, h0, hf, _, g, hg => by
    obtain ⟨g', rfl⟩ : ∃ g', g = g' + 1 := ⟨g - 1, by omega⟩
    by_cases hs : y < 128
    · rw [vb_small g' hs, vb_small f hs]
    · rw [vb_big g' (by omega), vb_big f (by omega)]
      have hp : (128 : Int) ^ (f + 1) = 128 ^ f * 128 := Int.pow_succ ..
      have hg0 : 0 < f := by
        rcases Nat.eq_zero_or_pos f with e | e
        · subst e; simp at hf; omega
        · exact e
      rw [vb_fuel f (y / 128) (by omega) (by omega) hg0 g' (by omega)]
/-- What is read from the list's front is what is written. -/
theorem once_plain (L : List Int) (hL : ∀ i, 0 ≤ byteAt L i ∧ byteAt L i ≤ 255) (K : Nat) (hs : Stops L 0 K) (h1 : putS K (byteAt L (0 + K)) = 1) : Word (acc L 0 (K + 1)) ∧ vb 10 (acc L 0 (K + 1)) = L.take (K + 1) := by
  obtain ⟨y, y0, yq, y8, _, hv, hA⟩ := vb_reads L hL K hs h1 K 0 (by omega) (Int.le_refl _) (show (0 : Int) < 1 by decide)
  have h9 := hs.opens.most
  have e : acc L 0 (K + 1) = y := by rw [hA, pw0]; show 0 + y * 1 = y; omega
  have hq : qw 0 = 18446744073709551616 := by decide
  rw [e, vb_fuel (K + 1) y y0 y8 (by omega) 10 (by omega), hv]
  exact ⟨⟨y0, by omega⟩, by simp⟩
/-- What is written behind a list is read back. -/
theorem writes_plain (zs : List Int) (x : Int) (hx : Word x) : ∃ K, K + 1 = (vb 10 x).length ∧ Stops (zs ++ vb 10 x) zs.length K ∧ putS K (byteAt (zs ++ vb 10 x) (zs.length + K)) = 1 ∧ acc (zs ++ vb 10 x) zs.length (K + 1) = x := by
  obtain ⟨K, h1, h2, h3, h4⟩ := reads_vb (zs ++ vb 10 x) zs.length 10 x 0 hx.1 (by have := hx.2; omega) (by omega) (by omega) (by rw [pw0]; have := hx.2; omega) (.inl rfl)
    (fun j hj => by
      have e : (zs ++ vb 10 x)[zs.length + (0 + j)]? = (vb 10 x)[j]? := by rw [List.getElem?_append_right (by omega)]; congr 1; omega
      simp only [byteAt, List.getD, e]) (by simp) (fun i hi => absurd hi (by omega)) (Int.le_refl _) (show (0 : Int) < 1 by decide)
  refine ⟨K, by omega, h2, h3, ?_⟩
  rw [h4, pw0]
  show 0 + x * 1 = x
  omega
end Go.Proofs.YtppeogalaikopaaDoor
