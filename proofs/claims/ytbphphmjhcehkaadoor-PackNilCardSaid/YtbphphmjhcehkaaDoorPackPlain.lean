/- Numbers one by one: what a list of numbers does to the Reader's state, and what their bytes are read as. No program in sight. -/
import Derived.Test.YtbphphmjhcehkaaDoorPackNums
import Derived.Test.YtbphphmjhcehkaaDoorPackRun
import Derived.Test.YtbphphmjhcehkaaDoorVarPlain
namespace Go.Proofs.YtbphphmjhcehkaaDoor

/-- The bytes of a number among others are read as that number. -/
theorem stops_vb (pre post : List Int) (x : Int) (hx : Word x) : ∃ K, K + 1 = (vb 10 x).length ∧ Stops (pre ++ vb 10 x ++ post) pre.length K ∧ putS K (byteAt (pre ++ vb 10 x ++ post) (pre.length + K)) = 1 ∧ acc (pre ++ vb 10 x ++ post) pre.length (K + 1) = x := by
  obtain ⟨K, h1, h2, h3, h4⟩ := reads_vb (pre ++ vb 10 x ++ post) pre.length 10 x 0 hx.1 (by have := hx.2; omega) (by omega) (by omega) (by rw [pw0]; have := hx.2; omega) (.inl rfl)
    (fun j hj => by
      have e : (pre ++ vb 10 x ++ post)[pre.length + (0 + j)]? = (vb 10 x)[j]? := by
        rw [List.append_assoc, List.getElem?_append_right (by omega), show pre.length + (0 + j) - pre.length = j by omega, List.getElem?_append_left hj]
      simp only [byteAt, List.getD, e]) (by simp) (fun i hi => absurd hi (by omega)) (Int.le_refl _) (show (0 : Int) < 1 by decide)
  refine ⟨K, by omega, h2, h3, ?_⟩
  rw [h4, pw0]
  show 0 + x * 1 = x
  omega
theorem rd_vb (pre post : List Int) (x : Int) (hx : Word x) : Rd (pre ++ vb 10 x ++ post) pre.length (.ok (x, pre.length + (vb 10 x).length)) := by
  obtain ⟨K, h1, h2, h3, h4⟩ := stops_vb pre post x hx
  have := Rd.ok (zs := pre ++ vb 10 x ++ post) (a := pre.length) K (by omega) (by have := h2.lt; omega) (by simpa using h2) (by simpa using h3)
  have e1 : acc (pre ++ vb 10 x ++ post) ((pre.length : Int).toNat) (K + 1) = x := by simpa using h4
  rw [e1] at this
  have e2 : ((pre.length : Int) + ((K : Int) + 1)) = pre.length + (vb 10 x).length := by omega
  rw [e2] at this
  exact this
/-- Bytes that end inside a number. -/
theorem rd_cut (pre post : List Int) (x : Int) (hx : Word x) (m : Nat) (h0 : pre.length ≤ m) (h1 : m < pre.length + (vb 10 x).length) : Rd ((pre ++ vb 10 x ++ post).take m) pre.length (.error 5) := by
  obtain ⟨K, g1, g2, _, _⟩ := stops_vb pre post x hx
  have hl : ((pre ++ vb 10 x ++ post).take m).length = m := by
    rw [List.length_take]; simp only [List.length_append]; omega
  by_cases e : m = pre.length
  · exact .out (.inr (by rw [hl]; omega))
  · refine .short (by omega) (by rw [hl]; omega) ?_
    rw [hl]
    intro i hi
    have h2 := g2.opens i (by simp at hi; omega)
    simp only [Int.toNat_natCast] at hi ⊢
    have e3 : byteAt ((pre ++ vb 10 x ++ post).take m) (pre.length + i) = byteAt (pre ++ vb 10 x ++ post) (pre.length + i) := by
      simp only [byteAt, List.getD]
      rw [List.getElem?_take_of_lt (by omega)]
    rw [e3]
    exact h2

/-- What numbers do, one by one, from an index on, in front of so many bytes. -/
def walkN (lm : Lim) (len : Int) : List Int → St → Int → Except (Int × Int) ((List Ent × Int) ⊕ (St × Int))
  | [], s, a => .ok (.inr (s, a))
  | x :: xs, s, a =>
    match stepS lm s x (len - (a + (vb 10 x).length)) with
    | .error c => .error (c, a)
    | .ok s' => if s'.ph.isFin then .ok (.inl (s'.es, a + (vb 10 x).length)) else walkN lm len xs s' (a + (vb 10 x).length)
theorem walkN_cons {lm : Lim} {len : Int} {x : Int} {xs : List Int} {s s' : St} {a : Int} (h : stepS lm s x (len - (a + (vb 10 x).length)) = .ok s') (hf : s'.ph.isFin = false) : walkN lm len (x :: xs) s a = walkN lm len xs s' (a + (vb 10 x).length) := by
  show (match stepS lm s x (len - (a + (vb 10 x).length)) with | .error c => _ | .ok s' => _) = _
  rw [h]
  simp only [hf]
  rfl
theorem walkN_fin {lm : Lim} {len : Int} {x : Int} {xs : List Int} {s s' : St} {a : Int} (h : stepS lm s x (len - (a + (vb 10 x).length)) = .ok s') (hf : s'.ph.isFin = true) : walkN lm len (x :: xs) s a = .ok (.inl (s'.es, a + (vb 10 x).length)) := by
  show (match stepS lm s x (len - (a + (vb 10 x).length)) with | .error c => _ | .ok s' => _) = _
  rw [h]
  simp only [hf]
  rfl
theorem walkN_err {lm : Lim} {len : Int} {x : Int} {xs : List Int} {s : St} {a c : Int} (h : stepS lm s x (len - (a + (vb 10 x).length)) = .error c) : walkN lm len (x :: xs) s a = .error (c, a) := by
  show (match stepS lm s x (len - (a + (vb 10 x).length)) with | .error c => _ | .ok s' => _) = _
  rw [h]
theorem walkN_append {lm : Lim} {len : Int} : ∀ (xs ys : List Int) (s : St) (a : Int), walkN lm len (xs ++ ys) s a = (match walkN lm len xs s a with | .ok (.inr (s', a')) => walkN lm len ys s' a' | .ok (.inl q) => .ok (.inl q) | .error p => .error p)
  | [], ys, s, a => rfl
  | x :: xs, ys, s, a => by
    rw [List.cons_append]
    cases h : stepS lm s x (len - (a + (vb 10 x).length)) with
    | error c => rw [walkN_err h, walkN_err h]
    | ok s' =>
      cases hf : s'.ph.isFin with
      | true => rw [walkN_fin h hf, walkN_fin h hf]
      | false => rw [walkN_cons h hf, walkN_cons h hf]; exact walkN_append xs ys s' _
theorem walkN_thru {lm : Lim} {len : Int} {xs ys : List Int} {s s' : St} {a a' : Int} (h : walkN lm len xs s a = .ok (.inr (s', a'))) : walkN lm len (xs ++ ys) s a = walkN lm len ys s' a' := by
  rw [walkN_append, h]
/-- What the bytes of numbers are read as. -/
theorem run_walk {lm : Lim} {o : Except (Int × Int) (List Ent × Int)} : ∀ (xs pre post : List Int) (s : St), (∀ x ∈ xs, Word x) → Run lm (pre ++ joinB xs ++ post) s pre.length o →
    (match walkN lm ((pre ++ joinB xs ++ post).length) xs s pre.length with
      | .error p => o = .error p
      | .ok (.inl q) => o = .ok q
      | .ok (.inr (s', a')) => a' = pre.length + (joinB xs).length ∧ Run lm (pre ++ joinB xs ++ post) s' a' o)
  | [], pre, post, s, _, h => ⟨by simp [joinB], h⟩
  | x :: xs, pre, post, s, hw, h => by
    have hx : Word x := hw x (by simp)
    have e0 : pre ++ joinB (x :: xs) ++ post = pre ++ vb 10 x ++ (joinB xs ++ post) := by rw [joinB_cons]; simp
    have hr := rd_vb pre (joinB xs ++ post) x hx
    rw [← e0] at hr
    cases hs : stepS lm s x ((pre ++ joinB (x :: xs) ++ post).length - (pre.length + (vb 10 x).length)) with
    | error c => rw [walkN_err hs]; exact run_stop h hr hs
    | ok s' =>
      cases hf : s'.ph.isFin with
      | true => rw [walkN_fin hs hf]; exact run_fin h hr hs hf
      | false =>
        rw [walkN_cons hs hf]
        have h2 := run_next h hr hs hf
        have e1 : pre ++ joinB (x :: xs) ++ post = (pre ++ vb 10 x) ++ joinB xs ++ post := by rw [joinB_cons]; simp
        have e2 : ((pre.length : Int) + (vb 10 x).length) = ((pre ++ vb 10 x).length : Nat) := by rw [List.length_append]; omega
        rw [e1, e2] at h2 ⊢
        have h3 := run_walk xs (pre ++ vb 10 x) post s' (fun y hy => hw y (by simp [hy])) h2
        cases h4 : walkN lm (((pre ++ vb 10 x) ++ joinB xs ++ post).length) xs s' ((pre ++ vb 10 x).length : Nat) with
        | error p => rw [h4] at h3; exact h3
        | ok q =>
          rw [h4] at h3
          cases q with
          | inl q => exact h3
          | inr q =>
            obtain ⟨s2, a2⟩ := q
            obtain ⟨h5, h6⟩ := h3
            refine ⟨?_, h6⟩
            rw [h5, joinB_cons]
            simp only [List.length_append]
            omega
end Go.Proofs.YtbphphmjhcehkaaDoor
