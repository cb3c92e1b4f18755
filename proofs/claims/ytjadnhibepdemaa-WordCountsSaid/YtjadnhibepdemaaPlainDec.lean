/- Plain facts on decimal digits: the list of the low digits of a number, its decimal text, and the step that doubles a number. No program in sight. -/
namespace Go.Proofs.Ytjadnhibepdemaa.Dec

/-- The k low decimal digits of n, the lowest one first. -/
def low (n k : Nat) : List Nat := (List.range k).map fun i => n / 10 ^ i % 10
/-- The number of decimal digits of n (0 for 0), as long as it is at most f. -/
def lenAux : Nat → Nat → Nat
  | 0, _ => 0
  | f + 1, n => if n = 0 then 0 else lenAux f (n / 10) + 1
def len (n : Nat) : Nat := lenAux 40 n
def byte (d : Nat) : UInt8 := UInt8.ofNat (48 + d)
/-- The decimal text of n. -/
def txt (n : Nat) : List UInt8 := if n = 0 then [48] else (low n (len n)).reverse.map byte

theorem low_zero (n : Nat) : low n 0 = [] := rfl
theorem low_len (n k : Nat) : (low n k).length = k := by simp [low]
theorem low_succ (n k : Nat) : low n (k + 1) = low n k ++ [n / 10 ^ k % 10] := by simp [low, List.range_succ]
theorem low_get (n k i : Nat) (h : i < k) : (low n k)[i]? = some (n / 10 ^ i % 10) := by
  simp [low, h]

theorem lenAux_zero (f : Nat) : lenAux f 0 = 0 := by cases f <;> simp [lenAux]
theorem lenAux_spec : ∀ (f n : Nat), n < 10 ^ f → n / 10 ^ lenAux f n = 0 ∧ ∀ j, j < lenAux f n → n / 10 ^ j ≠ 0 := by
  intro f
  induction f with
  | zero => intro n h; simp at h; subst h; simp [lenAux]
  | succ f ih =>
    intro n h
    by_cases h0 : n = 0
    · subst h0; simp [lenAux]
    · have h1 : n / 10 < 10 ^ f := by
        rw [Nat.div_lt_iff_lt_mul (by decide)]
        simpa [Nat.pow_succ] using h
      obtain ⟨a, b⟩ := ih (n / 10) h1
      simp only [lenAux, h0, if_false]
      refine ⟨?_, ?_⟩
      · rw [Nat.pow_succ, Nat.mul_comm, ← Nat.div_div_eq_div_mul]
        exact a
      · intro j hj
        match j, hj with
        | 0, _ => simpa using h0
        | j + 1, hj =>
          rw [Nat.pow_succ, Nat.mul_comm, ← Nat.div_div_eq_div_mul]
          exact b j (by omega)
theorem len_div (n : Nat) (h : n < 10 ^ 40) : n / 10 ^ len n = 0 := (lenAux_spec 40 n h).1
theorem len_low (n j : Nat) (h : n < 10 ^ 40) (hj : j < len n) : n / 10 ^ j ≠ 0 := (lenAux_spec 40 n h).2 j hj
/-- The length is the least power of ten above the number. -/
theorem len_eq (n k : Nat) (h : n < 10 ^ 40) (h0 : n / 10 ^ k = 0) (h1 : ∀ j, j < k → n / 10 ^ j ≠ 0) : len n = k := by
  rcases Nat.lt_trichotomy (len n) k with hl | hl | hl
  · exact absurd (len_div n h) (h1 _ hl)
  · exact hl
  · exact absurd h0 (len_low n k h hl)
theorem len_pos (n : Nat) (h : n < 10 ^ 40) (h0 : n ≠ 0) : 0 < len n := by
  rcases Nat.eq_zero_or_pos (len n) with hz | hz
  · have := len_div n h
    rw [hz] at this
    simp at this
    exact absurd this h0
  · exact hz
theorem div_pow_succ (n k : Nat) : n / 10 ^ (k + 1) = n / 10 ^ k / 10 := by rw [Nat.pow_succ, Nat.div_div_eq_div_mul]
theorem txt_eq (n k : Nat) (h : n < 10 ^ 40) (hk : 0 < k) (h0 : n / 10 ^ k = 0) (h1 : ∀ j, 0 < j → j < k → n / 10 ^ j ≠ 0) : txt n = (low n k).reverse.map byte := by
  unfold txt
  by_cases hn : n = 0
  · subst hn
    have : k = 1 := by
      rcases Nat.lt_trichotomy k 1 with a | a | a
      · omega
      · exact a
      · exact absurd (by simp) (h1 1 (by omega) a)
    subst this
    simp [low, byte]
  · rw [if_neg hn, len_eq n k h h0]
    intro j hj
    rcases Nat.eq_zero_or_pos j with a | a
    · subst a; simpa using hn
    · exact h1 j a hj

/-! ### Doubling -/
/-- The carry of 2n + b behind i digits. -/
def carry (n b i : Nat) : Nat := (2 * (n % 10 ^ i) + b) / 10 ^ i
theorem carry_zero (n b : Nat) : carry n b 0 = b := by simp [carry, Nat.mod_one]
theorem split_at (n i : Nat) : n % 10 ^ (i + 1) = n % 10 ^ i + 10 ^ i * (n / 10 ^ i % 10) := by
  rw [Nat.pow_succ, Nat.mod_mul]
theorem pow_pos' (i : Nat) : 0 < 10 ^ i := Nat.pow_pos (by decide)
theorem carry_sum (n b i : Nat) : (2 * (n % 10 ^ (i + 1)) + b) / 10 ^ i = 2 * (n / 10 ^ i % 10) + carry n b i := by
  rw [split_at]
  have e : 2 * (n % 10 ^ i + 10 ^ i * (n / 10 ^ i % 10)) + b = (2 * (n % 10 ^ i) + b) + 10 ^ i * (2 * (n / 10 ^ i % 10)) := by
    rw [Nat.mul_add, Nat.mul_left_comm]; omega
  rw [e, Nat.add_mul_div_left _ _ (pow_pos' i)]
  unfold carry
  omega
theorem carry_succ (n b i : Nat) : carry n b (i + 1) = (2 * (n / 10 ^ i % 10) + carry n b i) / 10 := by
  rw [← carry_sum]
  unfold carry
  rw [Nat.pow_succ, Nat.div_div_eq_div_mul]
theorem digit_double (n b i : Nat) : (2 * n + b) / 10 ^ i % 10 = (2 * (n / 10 ^ i % 10) + carry n b i) % 10 := by
  have e : 2 * n + b = (2 * (n % 10 ^ i) + b) + 10 ^ i * (2 * (n / 10 ^ i)) := by
    have h := Nat.mod_add_div n (10 ^ i)
    have h2 : 10 ^ i * (2 * (n / 10 ^ i)) = 2 * (10 ^ i * (n / 10 ^ i)) := Nat.mul_left_comm _ _ _
    rw [h2]
    omega
  rw [e, Nat.add_mul_div_left _ _ (pow_pos' i)]
  unfold carry
  omega
theorem carry_le (n b i : Nat) (hb : b ≤ 1) : carry n b i ≤ 1 := by
  unfold carry
  have h := Nat.mod_lt n (pow_pos' i)
  have : (2 * (n % 10 ^ i) + b) / 10 ^ i < 2 := by
    rw [Nat.div_lt_iff_lt_mul (pow_pos' i)]
    omega
  omega
theorem carry_end (n b k : Nat) (h : n / 10 ^ k = 0) : carry n b k = (2 * n + b) / 10 ^ k := by
  have hlt : n < 10 ^ k := by
    rcases Nat.lt_or_ge n (10 ^ k) with a | a
    · exact a
    · have := Nat.div_pos a (pow_pos' k)
      omega
  unfold carry
  rw [Nat.mod_eq_of_lt hlt]
/-- What doubling makes of the digits of n. -/
theorem double_digits (n b : Nat) (hb : b ≤ 1) (h : n < 10 ^ 39) :
    low (2 * n + b) (len (2 * n + b)) = low (2 * n + b) (len n) ++ (if 0 < carry n b (len n) then [carry n b (len n)] else []) := by
  have h40 : n < 10 ^ 40 := Nat.lt_of_lt_of_le h (Nat.pow_le_pow_right (by decide) (by decide))
  have h2 : 2 * n + b < 10 ^ 40 := by
    have : (10 : Nat) ^ 40 = 10 * 10 ^ 39 := by decide
    omega
  have hd := len_div n h40
  have ce := carry_end n b (len n) hd
  have cl := carry_le n b (len n) hb
  have hmin : ∀ j, j < len n → (2 * n + b) / 10 ^ j ≠ 0 := by
    intro j hj h0
    have h1 := len_low n j h40 hj
    have h3 : n / 10 ^ j ≤ (2 * n + b) / 10 ^ j := Nat.div_le_div_right (by omega)
    rw [h0] at h3
    exact h1 (Nat.le_zero.1 h3)
  by_cases hc : 0 < carry n b (len n)
  · rw [if_pos hc]
    have hq : (2 * n + b) / 10 ^ len n = 1 := by omega
    have : len (2 * n + b) = len n + 1 := by
      apply len_eq _ _ h2
      · rw [div_pow_succ, hq]
      · intro j hj
        rcases Nat.lt_or_ge j (len n) with a | a
        · exact hmin j a
        · have : j = len n := by omega
          subst this; omega
    rw [this, low_succ, hq]
    have : carry n b (len n) = 1 := by omega
    rw [this]
  · rw [if_neg hc, List.append_nil]
    have : len (2 * n + b) = len n := len_eq _ _ h2 (by omega) hmin
    rw [this]
theorem lenAux_le : ∀ (f n : Nat), lenAux f n ≤ f := by
  intro f
  induction f with
  | zero => intro n; exact Nat.le_refl _
  | succ f ih =>
    intro n
    unfold lenAux
    split
    · omega
    · have := ih (n / 10); omega
theorem len_le (n : Nat) : len n ≤ 40 := lenAux_le 40 n
/-- The digits of n, as integers. -/
def lowI (n k : Nat) : List Int := (low n k).map fun (d : Nat) => (d : Int)
theorem lowI_len (n k : Nat) : (lowI n k).length = k := by simp [lowI, low_len]
theorem lowI_getD (n k i : Nat) (h : i < k) : (lowI n k).getD i 0 = ((n / 10 ^ i % 10 : Nat) : Int) := by
  simp [lowI, List.getD, List.getElem?_map, low_get n k i h]
theorem lowI_succ (n k : Nat) : lowI n (k + 1) = lowI n k ++ [((n / 10 ^ k % 10 : Nat) : Int)] := by simp [lowI, low_succ]
theorem lowI_mem {n k : Nat} {z : Int} (h : z ∈ lowI n k) : 0 ≤ z ∧ z ≤ 9 := by
  unfold lowI low at h
  simp only [List.map_map, List.mem_map, List.mem_range] at h
  obtain ⟨i, _, rfl⟩ := h
  have := Nat.mod_lt (n / 10 ^ i) (show 10 > 0 by decide)
  simp only [Function.comp]
  omega
theorem lowI_double (n b : Nat) (hb : b ≤ 1) (h : n < 10 ^ 39) (hc : 0 < carry n b (len n)) :
    lowI (2 * n + b) (len (2 * n + b)) = lowI (2 * n + b) (len n) ++ [(carry n b (len n) : Int)] := by
  unfold lowI
  rw [double_digits n b hb h, if_pos hc]
  simp
theorem lowI_double0 (n b : Nat) (hb : b ≤ 1) (h : n < 10 ^ 39) (hc : carry n b (len n) = 0) :
    lowI (2 * n + b) (len (2 * n + b)) = lowI (2 * n + b) (len n) := by
  unfold lowI
  rw [double_digits n b hb h, if_neg (by omega)]
  simp
end Go.Proofs.Ytjadnhibepdemaa.Dec
