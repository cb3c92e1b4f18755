/- The numbers of a canonical vector, one by one, are that vector; cut off, they are too short. No program in sight. -/
import Derived.Test.YtbphphmjhcehkaaDoorPackPlain
import Derived.Test.YtbphphmjhcehkaaDoorPackAny
namespace Go.Proofs.YtbphphmjhcehkaaDoor

/-- Complete, or in front of another number. -/
def outN (s : St) (a : Int) : Except (Int × Int) ((List Ent × Int) ⊕ (St × Int)) := if s.ph.isFin then .ok (.inl (s.es, a)) else .ok (.inr (s, a))
theorem walkN_one {lm : Lim} {len x a : Int} {s s' : St} (h : stepS lm s x (len - (a + (vb 10 x).length)) = .ok s') : walkN lm len [x] s a = outN s' (a + (vb 10 x).length) := by
  unfold outN
  cases hf : s'.ph.isFin with
  | true => rw [walkN_fin h hf]; rfl
  | false => rw [walkN_cons h hf]; rfl
theorem outN_run {s : St} {a : Int} (h : s.ph.isFin = false) : outN s a = .ok (.inr (s, a)) := by unfold outN; rw [h]; rfl
theorem outN_fin {s : St} {a : Int} (h : s.ph.isFin = true) : outN s a = .ok (.inl (s.es, a)) := by unfold outN; rw [h]; rfl
/-- The end of an entry. -/
def endS (es : List Ent) (cur : Ent) (ents : Int) : St := if 0 < ents - 1 then ⟨.rep, es ++ [cur], cur, ents - 1, 0⟩ else ⟨.fin, es ++ [cur], cur, ents - 1, 0⟩
theorem holeS_end (p : Ph) (es : List Ent) (cur : Ent) (ents : Int) : holeS ⟨p, es, cur, ents, 0⟩ = endS es cur ents := by
  unfold holeS endS
  simp only
  rw [if_neg (by decide)]
theorem holeS_lo (p : Ph) (es : List Ent) (cur : Ent) (ents h : Int) (h0 : 0 < h) : holeS ⟨p, es, cur, ents, h⟩ = ⟨.lo, es, cur, ents, h - 1⟩ := by
  unfold holeS
  simp only
  rw [if_pos h0]
theorem lastHi_take {zs : List Iv} {j : Nat} (h0 : 0 < j) (h : j ≤ zs.length) : lastHi (zs.take j) = Hi zs (j - 1) := by
  unfold lastHi Hi
  rw [List.length_take, Nat.min_eq_left h]
  simp only [List.getD]
  rw [List.getElem?_take_of_lt (by omega)]
theorem take_snoc_iv {zs : List Iv} {j : Nat} (h : j < zs.length) : zs.take j ++ [(Lo zs j, Hi zs j)] = zs.take (j + 1) := by
  have e : (Lo zs j, Hi zs j) = zs[j] := by unfold Lo Hi; simp [List.getD, List.getElem?_eq_getElem h]
  rw [e, ← List.take_succ_eq_append_getElem h]
theorem lo_step {lm : Lim} {es : List Ent} {cur : Ent} {ents h rest : Int} {zs : List Iv} {j : Nat} (hj : j < zs.length) (hw : ∀ z ∈ zs, Word z.1 ∧ Word z.2) (hs : cur.hs = zs.take j) :
    stepS lm ⟨.lo, es, cur, ents, h⟩ (gapD zs 1 j) rest = .ok ⟨.hi (Lo zs j), es, cur, ents, h⟩ := by
  have h1 := (hs_at hw hj).1
  show (if cur.hs = [] then _ else _) = _
  by_cases h0 : j = 0
  · subst h0
    rw [if_pos (by rw [hs]; rfl)]
    rfl
  · have hne : ¬ cur.hs = [] := by
      rw [hs]; intro e
      have := congrArg List.length e
      rw [List.length_take, List.length_nil] at this
      omega
    rw [if_neg hne, hs, lastHi_take (by omega) (by omega)]
    have e : Hi zs (j - 1) + 1 + 1 + gapD zs 1 j = Lo zs j := by unfold gapD; rw [if_neg h0]; omega
    rw [e, if_pos h1.2]
theorem hi_step {lm : Lim} {es : List Ent} {cur : Ent} {ents h rest : Int} {zs : List Iv} {j : Nat} (hj : j < zs.length) (hw : ∀ z ∈ zs, Word z.1 ∧ Word z.2) (hs : cur.hs = zs.take j) (hm : Hi zs j < cur.mx) :
    stepS lm ⟨.hi (Lo zs j), es, cur, ents, h⟩ (Hi zs j - Lo zs j) rest = .ok (holeS ⟨.hi (Lo zs j), es, ⟨cur.rep, cur.mx, zs.take (j + 1)⟩, ents, h⟩) := by
  have h1 := (hs_at hw hj).2
  show (if _ ∧ _ then _ else _) = _
  have e : Lo zs j + (Hi zs j - Lo zs j) = Hi zs j := by omega
  rw [e, if_pos ⟨h1.2, hm⟩, hs, take_snoc_iv hj]
theorem dif_succ (zs : List Iv) (j : Nat) : dif zs 1 (j + 1) = dif zs 1 j ++ [gapD zs 1 j, Hi zs j - Lo zs j] := rfl
theorem pair_walk {lm : Lim} {len a : Int} {es : List Ent} {cur : Ent} {ents h : Int} {zs : List Iv} {j : Nat} (hj : j < zs.length) (hw : ∀ z ∈ zs, Word z.1 ∧ Word z.2) (hs : cur.hs = zs.take j) (hm : Hi zs j < cur.mx) :
    walkN lm len [gapD zs 1 j, Hi zs j - Lo zs j] ⟨.lo, es, cur, ents, h⟩ a = outN (holeS ⟨.hi (Lo zs j), es, ⟨cur.rep, cur.mx, zs.take (j + 1)⟩, ents, h⟩) (a + (joinB [gapD zs 1 j, Hi zs j - Lo zs j]).length) := by
  rw [walkN_cons (lo_step hj hw hs) rfl, walkN_one (hi_step hj hw hs hm)]
  congr 1
  rw [joinB_cons, joinB_cons, joinB_nil]
  simp only [List.length_append, List.length_nil]
  omega
theorem holes_walk {lm : Lim} {len a : Int} {es : List Ent} {r m : Int} {ents : Int} {zs : List Iv} (hw : ∀ z ∈ zs, Word z.1 ∧ Word z.2) (ht : ∀ i, i < zs.length → Hi zs i < m) : ∀ j, j < zs.length →
    walkN lm len (dif zs 1 j) ⟨.lo, es, ⟨r, m, []⟩, ents, zs.length - 1⟩ a = .ok (.inr (⟨.lo, es, ⟨r, m, zs.take j⟩, ents, zs.length - j - 1⟩, a + (joinB (dif zs 1 j)).length))
  | 0, h => by
    show Except.ok (Sum.inr _) = _
    simp [dif, joinB]
  | j + 1, h => by
    have ih := holes_walk (lm := lm) (len := len) (a := a) (es := es) (r := r) (ents := ents) hw ht j (by omega)
    rw [dif_succ, walkN_thru ih, pair_walk (by omega) hw rfl (ht j (by omega)), holeS_lo _ _ _ _ _ (by omega)]
    rw [outN_run rfl]
    congr 3
    · congr 1; omega
    · rw [joinB_append, List.length_append]; omega
theorem holes_all {lm : Lim} {len a : Int} {es : List Ent} {r m : Int} {ents : Int} {zs : List Iv} (h0 : 0 < zs.length) (hw : ∀ z ∈ zs, Word z.1 ∧ Word z.2) (ht : ∀ i, i < zs.length → Hi zs i < m) :
    walkN lm len (dif zs 1 zs.length) ⟨.lo, es, ⟨r, m, []⟩, ents, zs.length - 1⟩ a = outN (endS es ⟨r, m, zs⟩ ents) (a + (joinB (dif zs 1 zs.length)).length) := by
  have ih := holes_walk (lm := lm) (len := len) (a := a) (es := es) (r := r) (ents := ents) hw ht (zs.length - 1) (by omega)
  have e : dif zs 1 zs.length = dif zs 1 (zs.length - 1) ++ [gapD zs 1 (zs.length - 1), Hi zs (zs.length - 1) - Lo zs (zs.length - 1)] := by
    rw [← dif_succ]
    congr 1
    omega
  rw [e, walkN_thru ih, pair_walk (by omega) hw rfl (ht _ (by omega))]
  rw [show ((zs.length : Int) - ((zs.length - 1 : Nat) : Int) - 1) = 0 by omega, show zs.length - 1 + 1 = zs.length by omega, List.take_length, holeS_end]
  congr 1
  rw [joinB_append, List.length_append]; omega
theorem limitC_0 {x l n : Int} (h1 : x ≤ l) (h2 : x ≤ n) : limitC x l n = 0 := by
  unfold limitC
  rw [if_neg (by omega), if_neg (by omega)]
theorem rep_step {lm : Lim} {es : List Ent} {k : Nat} {cur : Ent} {ents h rest : Int} (hk : k < es.length) (hw : Word (es.getD k Ent.z).rep) :
    stepS lm ⟨.rep, es.take k, cur, ents, h⟩ (repN es k) rest = .ok ⟨.top, es.take k, ⟨(es.getD k Ent.z).rep, 0, []⟩, ents, h⟩ := by
  show (if es.take k = [] then _ else _) = _
  by_cases h0 : k = 0
  · subst h0
    rw [if_pos (show es.take 0 = [] from rfl)]
    rfl
  · have hne : ¬ es.take k = [] := by
      intro e
      have := congrArg List.length e
      rw [List.length_take, List.length_nil] at this
      omega
    have el : lastRep (es.take k) = (es.getD (k - 1) Ent.z).rep := by
      unfold lastRep
      rw [List.length_take, Nat.min_eq_left (by omega)]
      simp only [List.getD]
      rw [List.getElem?_take_of_lt (by omega)]
      rfl
    rw [if_neg hne, el]
    have e : (es.getD (k - 1) Ent.z).rep + 1 + repN es k = (es.getD k Ent.z).rep := by unfold repN; rw [if_neg h0]; omega
    rw [e, if_pos hw.2]
theorem ent_eta (e : Ent) : (⟨e.rep, e.mx, e.hs⟩ : Ent) = e := rfl
theorem entry_walk {lm : Lim} {len a : Int} {es : List Ent} {k : Nat} {cur : Ent} {ents h : Int} (hk : k < es.length) (hw : EntW (es.getD k Ent.z)) (hc : EntC (es.getD k Ent.z)) (hl : ((es.getD k Ent.z).hs.length : Int) ≤ lm.ho)
    (hr : a + (joinB (numE (repN es k) (es.getD k Ent.z))).length ≤ len) :
    walkN lm len (numE (repN es k) (es.getD k Ent.z)) ⟨.rep, es.take k, cur, ents, h⟩ a = outN (endS (es.take k) (es.getD k Ent.z) ents) (a + (joinB (numE (repN es k) (es.getD k Ent.z))).length) := by
  have s1 := fun rest => rep_step (lm := lm) (cur := cur) (ents := ents) (h := h) (rest := rest) hk hw.rep
  obtain ⟨e, ee⟩ : ∃ e, es.getD k Ent.z = e := ⟨_, rfl⟩
  rw [ee] at hw hc hl hr s1 ⊢
  obtain ⟨r, m, zs⟩ := e
  have hd := joinB_least (dif zs 1 zs.length)
  rw [dif_length] at hd
  have en : numE (repN es k) ⟨r, m, zs⟩ = repN es k :: m :: (zs.length : Int) :: dif zs 1 zs.length := rfl
  have hl : (zs.length : Int) ≤ lm.ho := hl
  rw [en] at hr ⊢
  simp only [joinB_cons, List.length_append] at hr ⊢
  rw [walkN_cons (s1 _) rfl, walkN_cons (s' := ⟨.op, es.take k, ⟨r, m, []⟩, ents, h⟩) rfl rfl]
  have s3 : ∀ rest, (zs.length : Int) ≤ rest → stepS lm ⟨.op, es.take k, ⟨r, m, []⟩, ents, h⟩ (zs.length : Int) rest = .ok (holeS ⟨.op, es.take k, ⟨r, m, []⟩, ents, zs.length⟩) := fun rest hrest => by
    show (if limitC _ _ _ ≠ 0 then _ else _) = _
    rw [limitC_0 hl hrest, if_neg (by simp)]
  by_cases h0 : zs.length = 0
  · have ez : zs = [] := List.length_eq_zero_iff.1 h0
    subst ez
    have s4 := s3 (len - (a + (vb 10 (repN es k)).length + (vb 10 m).length + (vb 10 (([] : List Iv).length : Int)).length)) (by simp only [List.length_nil] at hr ⊢; omega)
    rw [show (([] : List Iv).length : Int) = 0 from rfl] at s4 ⊢
    rw [holeS_end] at s4
    rw [show dif ([] : List Iv) 1 (List.length ([] : List Iv)) = [] from rfl, walkN_one s4]
    congr 1
    rw [joinB_nil]
    simp only [List.length_nil]
    omega
  · have s4 := s3 (len - (a + (vb 10 (repN es k)).length + (vb 10 m).length + (vb 10 (zs.length : Int)).length)) (by omega)
    rw [holeS_lo .op _ _ _ _ (show (0 : Int) < zs.length by omega)] at s4
    rw [walkN_cons s4 rfl, holes_all (zs := zs) (by omega) hw.hs hc.top]
    congr 1
    omega
/-- The numbers of a canonical vector. -/
theorem vec_walk {lm : Lim} {len a : Int} {es : List Ent} (hn : 0 < es.length) (hw : ∀ e ∈ es, EntW e) (hc : CanV es) (hl : (es.length : Int) ≤ lm.en) (hh : ∀ e ∈ es, (e.hs.length : Int) ≤ lm.ho) (hr : a + (joinB (numsV es)).length ≤ len) : ∀ k, k < es.length →
    ∃ cur h, walkN lm len (numsTo es k) St0 a = .ok (.inr (⟨.rep, es.take k, cur, (es.length : Int) - k, h⟩, a + (joinB (numsTo es k)).length)) ∧ (joinB (numsTo es (k + 1))).length ≤ (joinB (numsV es)).length
  | 0, h => by
    have pre : ∀ k, (joinB (numsTo es k)).length + (es.length - k) ≤ (joinB (numsV es)).length ∨ es.length < k := by
      intro k
      by_cases hk : k ≤ es.length
      · left
        have go : ∀ d, k + d ≤ es.length → (joinB (numsTo es k)).length + d ≤ (joinB (numsTo es (k + d))).length := by
          intro d
          induction d with
          | zero => intro _; simp
          | succ d ih =>
            intro hd
            have := ih (by omega)
            show _ ≤ (joinB (numsTo es (k + d + 1))).length
            rw [show numsTo es (k + d + 1) = numsTo es (k + d) ++ numE (repN es (k + d)) (es.getD (k + d) Ent.z) from rfl, joinB_append, List.length_append]
            have h3 := joinB_least (numE (repN es (k + d)) (es.getD (k + d) Ent.z))
            rw [numE_length] at h3
            omega
        have := go (es.length - k) (by omega)
        rw [show k + (es.length - k) = es.length by omega] at this
        exact this
      · right; omega
    have p0 := (pre 0).resolve_right (by omega)
    have p1 := (pre 1).resolve_right (by omega)
    refine ⟨St0.cur, St0.hls, ?_, (show (joinB (numsTo es 1)).length ≤ _ by omega)⟩
    rw [show numsTo es 0 = [(es.length : Int)] from rfl] at p0 ⊢
    have s1 : stepS lm St0 (es.length : Int) (len - (a + (vb 10 (es.length : Int)).length)) = .ok ⟨.rep, [], ⟨0, 0, []⟩, es.length, 0⟩ := by
      rw [joinB_cons, joinB_nil, List.append_nil] at p0
      show (if limitC _ _ _ ≠ 0 then _ else if _ then _ else _) = _
      rw [limitC_0 hl (by omega), if_neg (by simp), if_neg (by omega)]
      rfl
    rw [walkN_one s1]
    rw [outN_run rfl]
    rw [show ((es.length : Int) - ((0 : Nat) : Int)) = es.length by omega, joinB_cons, joinB_nil, List.append_nil]
    rfl
  | k + 1, h => by
    obtain ⟨cur, h1, h2, h3⟩ := vec_walk (lm := lm) hn hw hc hl hh hr k (by omega)
    have hkl : k < es.length := by omega
    have hm := hn
    have e1 : numsTo es (k + 1) = numsTo es k ++ numE (repN es k) (es.getD k Ent.z) := rfl
    have hle : (joinB (numsTo es (k + 1 + 1))).length ≤ (joinB (numsV es)).length := by
      have go : ∀ d, k + 2 + d ≤ es.length → (joinB (numsTo es (k + 2))).length ≤ (joinB (numsTo es (k + 2 + d))).length := by
        intro d
        induction d with
        | zero => intro _; exact Nat.le_refl _
        | succ d ih =>
          intro hd
          have := ih (by omega)
          show _ ≤ (joinB (numsTo es (k + 2 + d + 1))).length
          rw [show numsTo es (k + 2 + d + 1) = numsTo es (k + 2 + d) ++ numE (repN es (k + 2 + d)) (es.getD (k + 2 + d) Ent.z) from rfl, joinB_append, List.length_append]
          omega
      have := go (es.length - (k + 2)) (by omega)
      rw [show k + 2 + (es.length - (k + 2)) = es.length by omega] at this
      exact this
    rw [e1, joinB_append, List.length_append] at h3
    have ew := entry_walk (lm := lm) (len := len) (a := a + (joinB (numsTo es k)).length) (cur := cur) (ents := (es.length : Int) - k) (h := h1) hkl (hw _ (getDz_mem hkl)) (hc.ents k hkl) (hh _ (getDz_mem hkl)) (by omega)
    have e2 : endS (es.take k) (es.getD k Ent.z) ((es.length : Int) - k) = ⟨.rep, es.take (k + 1), es.getD k Ent.z, (es.length : Int) - ((k + 1 : Nat) : Int), 0⟩ := by
      unfold endS
      rw [if_pos (by omega), List.take_succ_eq_append_getElem hkl]
      congr 1
      · congr 1; simp [List.getD, List.getElem?_eq_getElem hkl]
      · omega
    refine ⟨es.getD k Ent.z, 0, ?_, hle⟩
    rw [e1, walkN_thru h2, ew, e2]
    rw [outN_run rfl, joinB_append, List.length_append]
    congr 3
    omega
theorem canon_walk {lm : Lim} {len a : Int} {es : List Ent} (hn : 0 < es.length) (hw : ∀ e ∈ es, EntW e) (hc : CanV es) (hl : (es.length : Int) ≤ lm.en) (hh : ∀ e ∈ es, (e.hs.length : Int) ≤ lm.ho) (hr : a + (joinB (numsV es)).length ≤ len) :
    walkN lm len (numsV es) St0 a = .ok (.inl (es, a + (joinB (numsV es)).length)) := by
  obtain ⟨cur, h1, h2, _⟩ := vec_walk (lm := lm) hn hw hc hl hh hr (es.length - 1) (by omega)
  have hkl : es.length - 1 < es.length := by omega
  have e1 : numsV es = numsTo es (es.length - 1) ++ numE (repN es (es.length - 1)) (es.getD (es.length - 1) Ent.z) := by
    show numsTo es es.length = _
    rw [show numsTo es (es.length - 1) ++ numE (repN es (es.length - 1)) (es.getD (es.length - 1) Ent.z) = numsTo es (es.length - 1 + 1) from rfl]
    congr 1
    omega
  rw [e1, joinB_append, List.length_append] at hr ⊢
  have ew := entry_walk (lm := lm) (len := len) (a := a + (joinB (numsTo es (es.length - 1))).length) (cur := cur) (ents := (es.length : Int) - ((es.length - 1 : Nat) : Int)) (h := h1) hkl (hw _ (getDz_mem hkl)) (hc.ents _ hkl) (hh _ (getDz_mem hkl)) (by omega)
  have e2 : endS (es.take (es.length - 1)) (es.getD (es.length - 1) Ent.z) ((es.length : Int) - ((es.length - 1 : Nat) : Int)) = ⟨.fin, es, es.getD (es.length - 1) Ent.z, 0, 0⟩ := by
    unfold endS
    rw [if_neg (by omega)]
    have e3 : es.take (es.length - 1) ++ [es.getD (es.length - 1) Ent.z] = es := by
      have := List.take_succ_eq_append_getElem hkl
      rw [show es.length - 1 + 1 = es.length by omega, List.take_length] at this
      rw [this]
      congr 1
      · rw [← this]
      · rw [← this]; simp [List.getD, List.getElem?_eq_getElem hkl]
    rw [e3]
    congr 1
    omega
  rw [walkN_thru h2, ew, e2]
  rw [outN_fin rfl]
  congr 3
  omega
end Go.Proofs.YtbphphmjhcehkaaDoor
