/- What is read as a vector has the bytes of that vector, which is canonical. No program in sight. Package entry over a canonical entry: no error, canonical. Package vector over a canonical vector: canonical. -/
import Derived.Test.YtbphphmjhcehkaaDoorMG13
import Derived.Test.YtbphphmjhcehkaaDoorMG32
import Derived.Test.YtbphphmjhcehkaaDoorMG28
namespace Go.Proofs.YtbphphmjhcehkaaDoor

/-- The numbers of the first k entries behind a count c. -/
def numsP (c : Int) (es : List Ent) : Nat → List Int
  | 0 => [c]
  | k + 1 => numsP c es k ++ numE (repN es k) (es.getD k Ent.z)
theorem numsP_to (es : List Ent) : ∀ k, numsP es.length es k = numsTo es k
  | 0 => rfl
  | k + 1 => by show numsP es.length es k ++ _ = numsTo es k ++ _; rw [numsP_to es k]
theorem getD_pre (es : List Ent) (e : Ent) {k : Nat} (h : k < es.length) : (es ++ [e]).getD k Ent.z = es.getD k Ent.z := by
  simp only [List.getD]
  rw [List.getElem?_append_left h]
theorem getD_end (es : List Ent) (e : Ent) : (es ++ [e]).getD es.length Ent.z = e := by
  simp [List.getD]
theorem repN_pre (es : List Ent) (e : Ent) {k : Nat} (h : k < es.length) : repN (es ++ [e]) k = repN es k := by
  unfold repN
  by_cases h0 : k = 0
  · subst h0; rw [if_pos rfl, if_pos rfl, getD_pre es e h]
  · rw [if_neg h0, if_neg h0, getD_pre es e h, getD_pre es e (by omega)]
/-- The difference of a replica behind entries. -/
def gapR (es : List Ent) (r : Int) : Int := if es = [] then r else r - lastRep es - 1
theorem lastRep_get {es : List Ent} : lastRep es = (es.getD (es.length - 1) Ent.z).rep := rfl
theorem repN_end (es : List Ent) (e : Ent) : repN (es ++ [e]) es.length = gapR es e.rep := by
  unfold repN gapR
  by_cases h : es = []
  · subst h; rfl
  · have hl : 0 < es.length := List.length_pos_iff.2 h
    rw [if_neg (by omega), if_neg h, getD_end, getD_pre es e (by omega), lastRep_get]
theorem numsP_pre (c : Int) (es : List Ent) (e : Ent) : ∀ k, k ≤ es.length → numsP c (es ++ [e]) k = numsP c es k
  | 0, _ => rfl
  | k + 1, h => by
    show numsP c (es ++ [e]) k ++ numE (repN (es ++ [e]) k) ((es ++ [e]).getD k Ent.z) = numsP c es k ++ _
    rw [numsP_pre c es e k (by omega), repN_pre es e (by omega), getD_pre es e (by omega)]
theorem numsP_snoc (c : Int) (es : List Ent) (e : Ent) : numsP c (es ++ [e]) (es ++ [e]).length = numsP c es es.length ++ numE (gapR es e.rep) e := by
  rw [show (es ++ [e]).length = es.length + 1 by simp]
  show numsP c (es ++ [e]) es.length ++ numE (repN (es ++ [e]) es.length) ((es ++ [e]).getD es.length Ent.z) = _
  rw [numsP_pre c es e _ (Nat.le_refl _), repN_end, getD_end]
/-- The difference of a Lo behind intervals. -/
def gapH (hs : List Iv) (l : Int) : Int := if hs = [] then l else l - lastHi hs - 2
theorem iv_pre (hs : List Iv) (z : Iv) {k : Nat} (h : k < hs.length) : Lo (hs ++ [z]) k = Lo hs k ∧ Hi (hs ++ [z]) k = Hi hs k := by
  unfold Lo Hi
  rw [getD_snoc, if_pos h]
  exact ⟨rfl, rfl⟩
theorem iv_end (hs : List Iv) (z : Iv) : Lo (hs ++ [z]) hs.length = z.1 ∧ Hi (hs ++ [z]) hs.length = z.2 := by
  unfold Lo Hi
  rw [getD_snoc, if_neg (by omega), if_pos rfl]
  exact ⟨rfl, rfl⟩
theorem gapD_pre (hs : List Iv) (z : Iv) {k : Nat} (h : k < hs.length) : gapD (hs ++ [z]) 1 k = gapD hs 1 k := by
  unfold gapD
  by_cases h0 : k = 0
  · subst h0; rw [if_pos rfl, if_pos rfl, (iv_pre hs z h).1]
  · rw [if_neg h0, if_neg h0, (iv_pre hs z h).1, (iv_pre hs z (by omega)).2]
theorem gapD_end (hs : List Iv) (z : Iv) : gapD (hs ++ [z]) 1 hs.length = gapH hs z.1 := by
  unfold gapD gapH
  by_cases h : hs = []
  · subst h; rfl
  · have hl : 0 < hs.length := List.length_pos_iff.2 h
    rw [if_neg (by omega), if_neg h, (iv_end hs z).1, (iv_pre hs z (by omega)).2]
    unfold lastHi
    omega
theorem dif_pre (hs : List Iv) (z : Iv) : ∀ k, k ≤ hs.length → dif (hs ++ [z]) 1 k = dif hs 1 k
  | 0, _ => rfl
  | k + 1, h => by
    show dif (hs ++ [z]) 1 k ++ [gapD (hs ++ [z]) 1 k, Hi (hs ++ [z]) k - Lo (hs ++ [z]) k] = dif hs 1 k ++ _
    rw [dif_pre hs z k (by omega), gapD_pre hs z (by omega), (iv_pre hs z (by omega)).1, (iv_pre hs z (by omega)).2]
theorem dif_snoc (hs : List Iv) (z : Iv) : dif (hs ++ [z]) 1 (hs ++ [z]).length = dif hs 1 hs.length ++ [gapH hs z.1, z.2 - z.1] := by
  rw [show (hs ++ [z]).length = hs.length + 1 by simp]
  show dif (hs ++ [z]) 1 hs.length ++ [gapD (hs ++ [z]) 1 hs.length, Hi (hs ++ [z]) hs.length - Lo (hs ++ [z]) hs.length] = _
  rw [dif_pre hs z _ (Nat.le_refl _), gapD_end, (iv_end hs z).1, (iv_end hs z).2]

/-- The numbers that a state has taken. -/
def stN (s : St) : List Int :=
  match s.ph with
  | .count => []
  | .rep => numsP (s.es.length + s.ents) s.es s.es.length
  | .fin => numsP (s.es.length + s.ents) s.es s.es.length
  | .top => numsP (s.es.length + s.ents) s.es s.es.length ++ [gapR s.es s.cur.rep]
  | .op => numsP (s.es.length + s.ents) s.es s.es.length ++ [gapR s.es s.cur.rep, s.cur.mx]
  | .lo => numsP (s.es.length + s.ents) s.es s.es.length ++ [gapR s.es s.cur.rep, s.cur.mx, s.cur.hs.length + s.hls + 1] ++ dif s.cur.hs 1 s.cur.hs.length
  | .hi l => numsP (s.es.length + s.ents) s.es s.es.length ++ [gapR s.es s.cur.rep, s.cur.mx, s.cur.hs.length + s.hls + 1] ++ dif s.cur.hs 1 s.cur.hs.length ++ [gapH s.cur.hs l]
/-- The entry that is being read fits behind the others. -/
def FitsE (es : List Ent) (e : Ent) : Prop := es = [] ∨ lastRep es < e.rep
structure SInv (s : St) : Prop where
  can : CanV s.es
  ents : s.ph = .count ∨ (s.ph = .fin ∧ s.ents = 0) ∨ (s.ph ≠ .fin ∧ 0 < s.ents)
  hls : 0 ≤ s.hls
  zero : s.ph = .count → s.es = []
  fits : s.ph = .top ∨ s.ph = .op ∨ s.ph = .lo ∨ (∃ l, s.ph = .hi l) → FitsE s.es s.cur
  fresh : s.ph = .top ∨ s.ph = .op → s.cur.hs = []
  cur : s.ph = .lo ∨ (∃ l, s.ph = .hi l) → EntC s.cur
  lo : ∀ l, s.ph = .hi l → s.cur.hs = [] ∨ lastHi s.cur.hs + 1 < l
theorem can_nil : CanV [] := ⟨fun i h => absurd h (by simp), fun i _ h => absurd h (by simp)⟩
theorem can_snoc {es : List Ent} {e : Ent} (h : CanV es) (he : EntC e) (hf : FitsE es e) : CanV (es ++ [e]) := by
  refine ⟨fun i hi => ?_, fun i h0 hi => ?_⟩
  · by_cases hl : i < es.length
    · rw [getD_pre es e hl]; exact h.ents i hl
    · obtain rfl : i = es.length := by simp at hi; omega
      rw [getD_end]; exact he
  · by_cases hl : i < es.length
    · rw [getD_pre es e hl, getD_pre es e (by omega)]; exact h.asc i h0 hl
    · obtain rfl : i = es.length := by simp at hi; omega
      rw [getD_end, getD_pre es e (by omega)]
      rcases hf with rfl | hf
      · simp at h0
      · rw [lastRep_get] at hf; exact hf
theorem entC_nil (r m : Int) : EntC ⟨r, m, []⟩ := ⟨fun i h => absurd h (by simp), fun i h => absurd h (by simp)⟩
theorem entC_snoc {e : Ent} {l h : Int} (he : EntC e) (hl : e.hs = [] ∨ lastHi e.hs + 1 < l) (h1 : l ≤ h) (h2 : h < e.mx) : EntC ⟨e.rep, e.mx, e.hs ++ [(l, h)]⟩ := by
  have hlen : (e.hs ++ [(l, h)]).length = e.hs.length + 1 := by simp
  refine ⟨fun i hi => ?_, fun i hi => ?_⟩
  · simp only at hi ⊢
    by_cases hk : i < e.hs.length
    · rw [(iv_pre _ _ hk).1, (iv_pre _ _ hk).2]
      refine ⟨(he.cor i hk).1, fun h0 => ?_⟩
      rw [(iv_pre _ _ (show i - 1 < e.hs.length by omega)).2]
      exact (he.cor i hk).2 h0
    · obtain rfl : i = e.hs.length := by omega
      rw [(iv_end _ _).1, (iv_end _ _).2]
      refine ⟨h1, fun h0 => ?_⟩
      rw [(iv_pre _ _ (show e.hs.length - 1 < e.hs.length by omega)).2]
      rcases hl with hl | hl
      · rw [hl] at h0; simp at h0
      · exact hl
  · simp only at hi ⊢
    by_cases hk : i < e.hs.length
    · rw [(iv_pre _ _ hk).2]; exact he.top i hk
    · obtain rfl : i = e.hs.length := by omega
      rw [(iv_end _ _).2]; exact h2
theorem numE_split (p : Int) (e : Ent) : numE p e = [p, e.mx, (e.hs.length : Int)] ++ dif e.hs 1 e.hs.length := rfl
/-- Behind the count of holes, or behind a hole. -/
theorem hole_inv {q : Ph} {es : List Ent} {cur : Ent} {ents h : Int} (hc : CanV es) (he : 0 < ents) (hh : 0 ≤ h) (hf : FitsE es cur) (hC : EntC cur) :
    SInv (holeS ⟨q, es, cur, ents, h⟩) ∧ stN (holeS ⟨q, es, cur, ents, h⟩) = numsP (es.length + ents) es es.length ++ [gapR es cur.rep, cur.mx, cur.hs.length + h] ++ dif cur.hs 1 cur.hs.length := by
  by_cases g : 0 < h
  · rw [holeS_lo q es cur ents h g]
    refine ⟨⟨hc, .inr (.inr ⟨fun e => (by cases e), he⟩), (show 0 ≤ h - 1 by omega), fun e => (by cases e), fun _ => hf, fun e => (by rcases e with e | e <;> cases e), fun _ => hC, fun l e => (by cases e)⟩, ?_⟩
    show _ ++ [_, _, (cur.hs.length : Int) + (h - 1) + 1] ++ _ = _
    rw [show (cur.hs.length : Int) + (h - 1) + 1 = cur.hs.length + h by omega]
  · obtain rfl : h = 0 := by omega
    rw [holeS_end q es cur ents]
    unfold endS
    have en : numsP (es.length + ents) es es.length ++ [gapR es cur.rep, cur.mx, cur.hs.length + 0] ++ dif cur.hs 1 cur.hs.length = numsP (es.length + ents) (es ++ [cur]) (es ++ [cur]).length := by
      rw [numsP_snoc, numE_split, Int.add_zero, List.append_assoc]
    rw [en]
    have ec : ((es ++ [cur]).length : Int) + (ents - 1) = es.length + ents := by simp; omega
    by_cases g2 : 0 < ents - 1
    · rw [if_pos g2]
      refine ⟨⟨can_snoc hc hC hf, .inr (.inr ⟨fun e => (by cases e), g2⟩), (show (0 : Int) ≤ 0 by decide), fun e => (by cases e), fun e => (by rcases e with e | e | e | ⟨l, e⟩ <;> cases e), fun e => (by rcases e with e | e <;> cases e), fun e => (by rcases e with e | ⟨l, e⟩ <;> cases e), fun l e => (by cases e)⟩, ?_⟩
      show numsP (((es ++ [cur]).length : Int) + (ents - 1)) (es ++ [cur]) (es ++ [cur]).length = _
      rw [ec]
    · rw [if_neg g2]
      refine ⟨⟨can_snoc hc hC hf, .inr (.inl ⟨rfl, show ents - 1 = 0 by omega⟩), (show (0 : Int) ≤ 0 by decide), fun e => (by cases e), fun e => (by rcases e with e | e | e | ⟨l, e⟩ <;> cases e), fun e => (by rcases e with e | e <;> cases e), fun e => (by rcases e with e | ⟨l, e⟩ <;> cases e), fun l e => (by cases e)⟩, ?_⟩
      show numsP (((es ++ [cur]).length : Int) + (ents - 1)) (es ++ [cur]) (es ++ [cur]).length = _
      rw [ec]
theorem step_nums {lm : Lim} {s s' : St} {x r : Int} (hI : SInv s) (hx : Word x) (hf : s.ph ≠ .fin) (h : stepS lm s x r = .ok s') : SInv s' ∧ stN s' = stN s ++ [x] := by
  obtain ⟨ph, es, cur, ents, hls⟩ := s
  obtain ⟨c1, c2, c3, c4, c5, c6, c7, c8⟩ := hI
  simp only at c1 c2 c3 c4 c5 c6 c7 c8 hf
  have hx0 := hx.1
  cases ph with
  | count =>
    obtain rfl := c4 rfl
    have e : stepS lm ⟨.count, [], cur, ents, hls⟩ x r = if limitC x lm.en r ≠ 0 then .error (limitC x lm.en r) else if x = 0 then .error 9 else .ok ⟨.rep, [], cur, x, hls⟩ := rfl
    rw [e] at h
    split at h
    · cases h
    · split at h
      · cases h
      · cases h
        refine ⟨⟨can_nil, .inr (.inr ⟨fun e => (by cases e), (show 0 < x by omega)⟩), c3, fun e => (by cases e), fun e => (by rcases e with e | e | e | ⟨l, e⟩ <;> cases e), fun e => (by rcases e with e | e <;> cases e), fun e => (by rcases e with e | ⟨l, e⟩ <;> cases e), fun l e => (by cases e)⟩, ?_⟩
        show [((([] : List Ent).length : Nat) : Int) + x] = [] ++ [x]
        simp
  | rep =>
    have he : 0 < ents := by rcases c2 with e | ⟨e, _⟩ | ⟨_, e⟩ <;> first | cases e | exact e
    have e : stepS lm ⟨.rep, es, cur, ents, hls⟩ x r = if es = [] then .ok ⟨.top, es, ⟨x, 0, []⟩, ents, hls⟩ else if lastRep es + 1 + x < 18446744073709551616 then .ok ⟨.top, es, ⟨lastRep es + 1 + x, 0, []⟩, ents, hls⟩ else .error 8 := rfl
    rw [e] at h
    split at h
    · rename_i h0
      cases h
      refine ⟨⟨c1, .inr (.inr ⟨fun e => (by cases e), he⟩), c3, fun e => (by cases e), fun _ => .inl h0, fun _ => rfl, fun e => (by rcases e with e | ⟨l, e⟩ <;> cases e), fun l e => (by cases e)⟩, ?_⟩
      show _ ++ [gapR es x] = _ ++ [x]
      unfold gapR
      rw [if_pos h0]
      rfl
    · rename_i h0
      split at h
      · cases h
        refine ⟨⟨c1, .inr (.inr ⟨fun e => (by cases e), he⟩), c3, fun e => (by cases e), fun _ => .inr (show lastRep es < lastRep es + 1 + x by omega), fun _ => rfl, fun e => (by rcases e with e | ⟨l, e⟩ <;> cases e), fun l e => (by cases e)⟩, ?_⟩
        show _ ++ [gapR es (lastRep es + 1 + x)] = _ ++ [x]
        unfold gapR
        rw [if_neg h0, show lastRep es + 1 + x - lastRep es - 1 = x by omega]
        rfl
      · cases h
  | top =>
    have he : 0 < ents := by rcases c2 with e | ⟨e, _⟩ | ⟨_, e⟩ <;> first | cases e | exact e
    have e : stepS lm ⟨.top, es, cur, ents, hls⟩ x r = .ok ⟨.op, es, ⟨cur.rep, x, cur.hs⟩, ents, hls⟩ := rfl
    rw [e] at h
    cases h
    refine ⟨⟨c1, .inr (.inr ⟨fun e => (by cases e), he⟩), c3, fun e => (by cases e), fun _ => c5 (.inl rfl), fun _ => c6 (.inl rfl), fun e => (by rcases e with e | ⟨l, e⟩ <;> cases e), fun l e => (by cases e)⟩, ?_⟩
    show numsP _ es _ ++ [gapR es cur.rep, x] = (numsP _ es _ ++ [gapR es cur.rep]) ++ [x]
    simp
  | op =>
    have he : 0 < ents := by rcases c2 with e | ⟨e, _⟩ | ⟨_, e⟩ <;> first | cases e | exact e
    have e : stepS lm ⟨.op, es, cur, ents, hls⟩ x r = if limitC x lm.ho r ≠ 0 then .error (limitC x lm.ho r) else .ok (holeS ⟨.op, es, cur, ents, x⟩) := rfl
    rw [e] at h
    split at h
    · cases h
    · cases h
      have h0 := c6 (.inr rfl)
      have hC : EntC cur := by
        obtain ⟨a, b, c⟩ := cur
        simp only at h0
        subst h0
        exact entC_nil a b
      obtain ⟨g1, g2⟩ := hole_inv (q := .op) (h := x) c1 he hx0 (c5 (.inr (.inl rfl))) hC
      refine ⟨g1, ?_⟩
      rw [g2, h0]
      show numsP _ es _ ++ [gapR es cur.rep, cur.mx, ((0 : Nat) : Int) + x] ++ [] = (numsP _ es _ ++ [gapR es cur.rep, cur.mx]) ++ [x]
      simp
  | lo =>
    have he : 0 < ents := by rcases c2 with e | ⟨e, _⟩ | ⟨_, e⟩ <;> first | cases e | exact e
    have e : stepS lm ⟨.lo, es, cur, ents, hls⟩ x r = if cur.hs = [] then .ok ⟨.hi x, es, cur, ents, hls⟩ else if lastHi cur.hs + 1 + 1 + x < 18446744073709551616 then .ok ⟨.hi (lastHi cur.hs + 1 + 1 + x), es, cur, ents, hls⟩ else .error 8 := rfl
    rw [e] at h
    split at h
    · rename_i h0
      cases h
      refine ⟨⟨c1, .inr (.inr ⟨fun e => (by cases e), he⟩), c3, fun e => (by cases e), fun _ => c5 (.inr (.inr (.inl rfl))), fun e => (by rcases e with e | e <;> cases e), fun _ => c7 (.inl rfl), fun l e => .inl h0⟩, ?_⟩
      show _ ++ [gapH cur.hs x] = _ ++ [x]
      unfold gapH
      rw [if_pos h0]
      rfl
    · rename_i h0
      split at h
      · cases h
        refine ⟨⟨c1, .inr (.inr ⟨fun e => (by cases e), he⟩), c3, fun e => (by cases e), fun _ => c5 (.inr (.inr (.inl rfl))), fun e => (by rcases e with e | e <;> cases e), fun _ => c7 (.inl rfl), fun l e => ?_⟩, ?_⟩
        · injection e with e
          right
          show lastHi cur.hs + 1 < l
          omega
        · show _ ++ [gapH cur.hs (lastHi cur.hs + 1 + 1 + x)] = _ ++ [x]
          unfold gapH
          rw [if_neg h0, show lastHi cur.hs + 1 + 1 + x - lastHi cur.hs - 2 = x by omega]
          rfl
      · cases h
  | hi l =>
    have he : 0 < ents := by rcases c2 with e | ⟨e, _⟩ | ⟨_, e⟩ <;> first | cases e | exact e
    have e : stepS lm ⟨.hi l, es, cur, ents, hls⟩ x r = if l + x < 18446744073709551616 ∧ l + x < cur.mx then .ok (holeS ⟨.hi l, es, ⟨cur.rep, cur.mx, cur.hs ++ [(l, l + x)]⟩, ents, hls⟩) else .error 8 := rfl
    rw [e] at h
    split at h
    · rename_i h0
      cases h
      have hC := entC_snoc (c7 (.inr ⟨l, rfl⟩)) (c8 l rfl) (show l ≤ l + x by omega) h0.2
      obtain ⟨g1, g2⟩ := hole_inv (q := .hi l) (h := hls) (cur := ⟨cur.rep, cur.mx, cur.hs ++ [(l, l + x)]⟩) c1 he c3 (c5 (.inr (.inr (.inr ⟨l, rfl⟩)))) hC
      refine ⟨g1, ?_⟩
      rw [g2]
      show numsP _ es _ ++ [gapR es cur.rep, cur.mx, (((cur.hs ++ [(l, l + x)]).length : Nat) : Int) + hls] ++ dif (cur.hs ++ [(l, l + x)]) 1 (cur.hs ++ [(l, l + x)]).length = (numsP _ es _ ++ [gapR es cur.rep, cur.mx, (cur.hs.length : Int) + hls + 1] ++ dif cur.hs 1 cur.hs.length ++ [gapH cur.hs l]) ++ [x]
      rw [dif_snoc, show (((cur.hs ++ [(l, l + x)]).length : Nat) : Int) + hls = (cur.hs.length : Int) + hls + 1 by simp; omega, show (l, l + x).2 - (l, l + x).1 = x by simp only; omega]
      simp
    · cases h
  | fin => exact absurd rfl hf
theorem stN_fin {s : St} (h : s.ph = .fin) (hI : SInv s) : stN s = numsV s.es := by
  obtain ⟨ph, es, cur, ents, hls⟩ := s
  simp only at h
  subst h
  obtain rfl : ents = 0 := by
    rcases hI.ents with e | ⟨_, e⟩ | ⟨e, _⟩
    · cases e
    · exact e
    · exact absurd rfl e
  show numsP ((es.length : Int) + 0) es es.length = numsTo es es.length
  rw [Int.add_zero, numsP_to]
theorem fin_ne {s : St} {x r : Int} {lm : Lim} {s' : St} (hf : s.ph ≠ .fin) (h : stepS lm s x r = .ok s') (hs : s'.ph = .fin) : s'.es ≠ [] := by
  obtain ⟨ph, es, cur, ents, hls⟩ := s
  have hole : ∀ q es cur ents h, (holeS ⟨q, es, cur, ents, h⟩).ph = .fin → (holeS ⟨q, es, cur, ents, h⟩).es ≠ [] := by
    intro q es cur ents h hh
    unfold holeS at hh ⊢
    simp only at hh ⊢
    split at hh
    · cases hh
    · rename_i g
      rw [if_neg g]
      split at hh
      · cases hh
      · rename_i g2
        rw [if_neg g2]
        simp
  unfold stepS at h
  cases ph <;> simp only at h
  all_goals (repeat' split at h) <;> cases h
  all_goals first
    | (cases hs; done)
    | exact hole _ _ _ _ _ hs
    | exact absurd rfl hf
/-- What is read is canonical, is not empty, and has the bytes that were read. -/
theorem run_once {lm : Lim} {zs : List Int} (hb : ∀ i, 0 ≤ byteAt zs i ∧ byteAt zs i ≤ 255) {s : St} {a : Int} {o : Except (Int × Int) (List Ent × Int)} (h : Run lm zs s a o) : ∀ {es : List Ent} {n : Int}, o = .ok (es, n) → SInv s → s.ph ≠ .fin → 0 ≤ a → a ≤ zs.length → joinB (stN s) = zs.take a.toNat →
    CanV es ∧ es ≠ [] ∧ joinB (numsV es) = zs.take n.toNat ∧ 0 ≤ n ∧ n ≤ zs.length := by
  have add : ∀ {a n x : Int} {s s' : St}, Rd zs a (.ok (x, n)) → joinB (stN s) = zs.take a.toNat → stN s' = stN s ++ [x] → joinB (stN s') = zs.take n.toNat := by
    intro a n x s s' hr hj hs
    obtain ⟨g0, g1, g2, _⟩ := rd_ok hr
    obtain ⟨v1, _⟩ := rd_once hb hr
    rw [hs, joinB_snoc, hj, v1]
    have e : (zs.take n.toNat) = zs.take (a.toNat + (n - a).toNat) := by congr 1; omega
    rw [e, List.take_add]
  induction h with
  | rd g => intro es n ho; cases ho
  | stop g g2 => intro es n ho; cases ho
  | fin g g2 g3 =>
    intro es n ho hI hf ha hal hj
    cases ho
    obtain ⟨g0, g1, g4, hx⟩ := rd_ok g
    obtain ⟨i1, i2⟩ := step_nums hI hx hf g2
    have hp := fin_is g3
    have hj2 := add g hj i2
    rw [stN_fin hp i1] at hj2
    exact ⟨i1.can, fin_ne hf g2 hp, hj2, by omega, g4⟩
  | next g g2 g3 _ ih =>
    intro es n ho hI hf ha hal hj
    obtain ⟨g0, g1, g4, hx⟩ := rd_ok g
    obtain ⟨i1, i2⟩ := step_nums hI hx hf g2
    exact ih ho i1 (fin_iff.1 g3) (by omega) g4 (add g hj i2)
theorem sinv_0 : SInv St0 := ⟨can_nil, .inl rfl, by decide, fun _ => rfl, fun e => (by rcases e with e | e | e | ⟨l, e⟩ <;> cases e), fun e => (by rcases e with e | e <;> cases e), fun e => (by rcases e with e | ⟨l, e⟩ <;> cases e), fun l e => (by cases e)⟩
theorem once_run {lm : Lim} {zs : List Int} (hb : ∀ i, 0 ≤ byteAt zs i ∧ byteAt zs i ≤ 255) {es : List Ent} {n : Int} (h : Run lm zs St0 (0 : Nat) (.ok (es, n))) : CanV es ∧ es ≠ [] ∧ joinB (numsV es) = zs.take n.toNat ∧ 0 ≤ n ∧ n ≤ zs.length :=
  run_once hb h rfl sinv_0 (by simp [St0]) (by decide) (by omega) rfl
end Go.Proofs.YtbphphmjhcehkaaDoor
namespace Go.Proofs.YtbphphmjhcehkaaDoor
open Go Go.RowKit
set_option linter.unusedSimpArgs false

theorem ck2_ok (q : Nat) (a : Option Addr) (n cap : Nat) (zs : List Iv) (w : World) (c2 : w.cell? ⟨q, 2, none⟩ = some (.slice a n cap)) (h : Prs w a n zs) (hC : Cor zs) :
    Calls Tryd.prog 83 #[.pointer (some ⟨q, 0, none⟩)] w fun e w' => e = .returned .nilIface ∧ Below w.heap.size w w' := by
  have K := hide (rgcheck_ok a n cap zs w h hC)
  clear h hC
  go_enter Tryd.func83, Tryd.ntmps83
  go_wp2_with fail
  refine K.out.mono ?_
  rintro e w1 ⟨rfl, hb⟩
  go_wp2
  go_ret
  exact ⟨rfl, hb⟩
set_option maxHeartbeats 800000 in
theorem ck1_ok (q : Nat) (a : Option Addr) (n cap : Nat) (zs : List Iv) (y : Int) (w : World) (hq : q < w.heap.size) (c1 : w.cell? ⟨q, 1, none⟩ = some (.int .u64 y)) (c2 : w.cell? ⟨q, 2, none⟩ = some (.slice a n cap)) (h : Prs w a n zs) (hT : ∀ i, i < n → Hi zs i ≤ y) :
    Calls Tryd.prog 82 #[.pointer (some ⟨q, 0, none⟩)] w fun e w' => e = .returned .nilIface ∧ Below w.heap.size w w' := by
  have hm := h.most
  have H := hide h
  have HT := hide hT
  have C1 := hide c1
  clear h hT c1
  go_enter Tryd.func82, Tryd.ntmps82
  go_wp2
  go_loopw [7] (fun c wr => ∃ k : Nat, k ≤ n ∧ c = .int .i64 k ∧ Below w.heap.size w wr) (fun c _ => n - (intOf c).toNat)
  case atStart => exact ⟨0, Nat.zero_le _, rfl, Below.refl _ _⟩
  case round =>
    obtain ⟨k, hk, rfl, hb⟩ := hrel
    have HB := hide hb
    have i0 : (0 : Int) ≤ (k : Int) := by omega
    by_cases hlt : k < n
    · obtain ⟨b, off, rfl, hbl, hc1, hc2⟩ := (H.out.below hb).cells k hlt
      have ht := HT.out k hlt
      have i1 : (k : Int) < (n : Int) := by omega
      obtain ⟨hi, ehi⟩ : ∃ hi, Hi zs k = hi := ⟨_, rfl⟩
      obtain ⟨lo, elo⟩ : ∃ lo, Lo zs k = lo := ⟨_, rfl⟩
      rw [ehi] at hc2 ht
      rw [elo] at hc1
      have ht' : ¬ y < hi := by omega
      have d1 : wr.cell? ⟨q, 1, none⟩ = some (.int .u64 y) := keep_cell hb hq C1.out
      have hsz := hb.size
      have hq1 : q ≠ wr.heap.size := by omega
      have d1' : (wr.alloc (.cells #[.int .u64 lo, .int .u64 hi] 68)).cell? ⟨q, 1, none⟩ = some (.int .u64 y) := keep_cell (bl_alloc (Below.refl _ _) _) (by omega) d1
      clear ehi elo ht hb
      go_wp2
      go_roundw
      case rel => exact ⟨k + 1, by omega, by go_num, bl_alloc HB.out _⟩
      case measure => simp [intOf]; omega
    · obtain rfl : k = n := by omega
      go_wp2
      go_ret
      exact ⟨rfl, HB.out⟩
set_option maxRecDepth 100000 in
set_option maxHeartbeats 1600000 in
theorem encheck_ok (p : EV) (w : World) (h : HolesAt w p) (hR : RightE p.1) :
    Calls Tryd.prog 67 #[aggE p] w fun e w' => e = .returned .nilIface ∧ Below w.heap.size w w' := by
  obtain ⟨⟨x, y, z⟩, hv⟩ := p
  obtain ⟨a, cap, e1, h1, h2⟩ := h.at'
  simp only at e1 h1 h2
  subst e1
  unfold aggE
  simp only
  have H := hide h1
  have RC := hide hR
  obtain ⟨n, en⟩ : ∃ n, z.length = n := ⟨_, rfl⟩
  rw [en] at H ⊢
  have EN := hide en
  clear h h1 h2 hR en
  go_enter Tryd.func67, Tryd.ntmps67
  go_wp2_with fail
  obtain ⟨W2, eW⟩ : ∃ W, (w.alloc (.cells #[.int .u64 x, .int .u64 y, .slice a n cap] 65)).alloc (.cells #[.func (.func 83) #[] #[.pointer (some ⟨w.heap.size, 0, none⟩)], .func (.func 82) #[] #[.pointer (some ⟨w.heap.size, 0, none⟩)]] 146) = W := ⟨_, rfl⟩
  have Q0 : W2.heap[w.heap.size]? = some (.cells #[.int .u64 x, .int .u64 y, .slice a n cap] 65 (0, 0)) := by rw [← eW]; exact heap_old_at _ _ (by simp) (heap_new_at _ _ rfl)
  have F0 : W2.heap[w.heap.size + 1]? = some (.cells #[.func (.func 83) #[] #[.pointer (some ⟨w.heap.size, 0, none⟩)], .func (.func 82) #[] #[.pointer (some ⟨w.heap.size, 0, none⟩)]] 146 (0, 0)) := by rw [← eW]; exact heap_new_at _ _ (by simp)
  have B0 : Hid (Below w.heap.size w W2) := hide (by rw [← eW]; exact bl_alloc (bl_alloc (Below.refl _ _) _) _)
  have QQ := hide Q0
  have FF := hide F0
  rw [eW]
  clear eW Q0 F0
  go_loopw [12] (fun c wr => ∃ k : Nat, k ≤ 2 ∧ c = .int .i64 k ∧ Below W2.heap.size W2 wr) (fun c _ => 2 - (intOf c).toNat)
  case atStart => exact ⟨0, by omega, rfl, Below.refl _ _⟩
  case round =>
    obtain ⟨k, hk, rfl, hb⟩ := hrel
    have HB := hide hb
    have Q1 := (hb.block _ (Blk_lt QQ.out)).trans QQ.out
    have F1 := (hb.block _ (Blk_lt FF.out)).trans FF.out
    have c1 : wr.cell? ⟨w.heap.size, 1, none⟩ = some (.int .u64 y) := by simp [World.cell?, Q1]
    have c2 : wr.cell? ⟨w.heap.size, 2, none⟩ = some (.slice a n cap) := by simp [World.cell?, Q1]
    have f0 : wr.cell? ⟨w.heap.size + 1, 0, none⟩ = some (.func (.func 83) #[] #[.pointer (some ⟨w.heap.size, 0, none⟩)]) := by simp [World.cell?, F1]
    have f1 : wr.cell? ⟨w.heap.size + 1, 1, none⟩ = some (.func (.func 82) #[] #[.pointer (some ⟨w.heap.size, 0, none⟩)]) := by simp [World.cell?, F1]
    have hql := hide (Blk_lt Q1)
    have hE2 : ∀ args W, (callFunc 83 args).run Tryd.prog W = .ok (.enter 83 args) W := fun _ _ => by kernel_rfl
    have hE1 : ∀ args W, (callFunc 82 args).run Tryd.prog W = .ok (.enter 82 args) W := fun _ _ => by kernel_rfl
    have HW := hide (H.out.below (bl_trans B0.out hb))
    clear Q1 F1 hb
    rcases (show k = 0 ∨ k = 1 ∨ k = 2 by omega) with rfl | rfl | rfl
    · have K := hide (ck2_ok w.heap.size a n cap z wr c2 HW.out RC.out.1)
      go_wp2_with fail
      refine K.out.mono ?_
      rintro e w1 ⟨rfl, hb1⟩
      have B1 := hide (bl_trans HB.out hb1)
      clear hb1
      go_wp2
      go_roundw
      case rel => exact ⟨1, by omega, by go_num, B1.out⟩
      case measure => simp [intOf]
    · have K := hide (ck1_ok w.heap.size a n cap z y wr hql.out c1 c2 HW.out (fun i hi => RC.out.2 i (by rw [EN.out]; exact hi)))
      go_wp2_with fail
      refine K.out.mono ?_
      rintro e w1 ⟨rfl, hb1⟩
      have B1 := hide (bl_trans HB.out hb1)
      clear hb1
      go_wp2
      go_roundw
      case rel => exact ⟨2, by omega, by go_num, B1.out⟩
      case measure => simp [intOf]
    · go_wp2
      go_ret
      exact ⟨rfl, bl_trans B0.out HB.out⟩
/-! ### A number behind all intervals is in none -/
theorem find1_lt (lo hi x : Int) (h : hi < x) (w : World) :
    Calls Tryd.prog 100 #[.agg #[.int .u64 lo, .int .u64 hi], .int .u64 x] w fun e w' => e = .returned (.int .i64 (-1)) ∧ Below w.heap.size w w' := by
  go_enter Tryd.func100, Tryd.ntmps100
  go_wp2
  go_ret
  exact ⟨rfl, bl_alloc (Below.refl _ _) _⟩
set_option maxRecDepth 100000 in
set_option maxHeartbeats 1600000 in
theorem bsearch_ok (a : Option Addr) (n cap : Nat) (zs : List Iv) (x : Int) (w : World) (h : Prs w a n zs) (hT : ∀ i, i < n → Hi zs i < x) (hn : n ≤ 1000000) :
    Calls Tryd.prog 99 #[.slice a n cap, .int .u64 x, .func (.func 100) #[] #[]] w fun e w' => e = .returned (.tuple #[.int .i64 n, .bool false]) ∧ Below w.heap.size w w' := by
  have H := hide h
  have HT := hide hT
  have hE : ∀ args W, (callFunc 100 args).run Tryd.prog W = .ok (.enter 100 args) W := fun _ _ => by kernel_rfl
  clear h hT
  go_enter Tryd.func99, Tryd.ntmps99
  go_wp2
  go_loopw [9, 10] (fun i j wr => ∃ k : Nat, k ≤ n ∧ i = .int .i64 k ∧ j = .int .i64 n ∧ Below w.heap.size w wr) (fun i _ _ => n - (intOf i).toNat)
  case atStart => exact ⟨0, Nat.zero_le _, rfl, rfl, Below.refl _ _⟩
  case round =>
    obtain ⟨k, hk, rfl, rfl, hb⟩ := hrel
    have HB := hide hb
    have i0 : (0 : Int) ≤ (k : Int) := by omega
    by_cases hlt : k < n
    · obtain ⟨m, em⟩ : ∃ m, (k + n) / 2 = m := ⟨_, rfl⟩
      have hm : m < n := by omega
      have hkm : k ≤ m := by omega
      obtain ⟨b, off, rfl, hbl, hc1, hc2⟩ := (H.out.below hb).cells m hm
      have ht := HT.out m hm
      obtain ⟨hi, ehi⟩ : ∃ hi, Hi zs m = hi := ⟨_, rfl⟩
      obtain ⟨lo, elo⟩ : ∃ lo, Lo zs m = lo := ⟨_, rfl⟩
      rw [ehi] at hc2 ht
      rw [elo] at hc1
      have K := hide (fun W => find1_lt lo hi x ht W)
      have i1 : (k : Int) < (n : Int) := by omega
      have q0 : IntKind.i64.wrap ((k : Int) + n) = (k : Int) + n := IntWalk.i64_in _ (by omega)
      have q1 : IntKind.u64.wrap ((k : Int) + n) = (k : Int) + n := by rw [IntKind.wrap_u64]; omega
      have q2 : ((k : Int) + n) / 2 = m := by omega
      have q3 : IntKind.u64.wrap (m : Int) = m := by rw [IntKind.wrap_u64]; omega
      have q4 : IntKind.i64.wrap (m : Int) = m := IntWalk.i64_in _ (by omega)
      have q5 : (0 : Int) ≤ (m : Int) := by omega
      have q6 : (m : Int) < (n : Int) := by omega
      clear ehi elo ht hb em
      have q7 : IntKind.i64.wrap ((m : Int) + 1) = (m : Int) + 1 := IntWalk.i64_in _ (by omega)
      go_wp2_with fail
      refine (K.out _).mono ?_
      rintro e w1 ⟨rfl, hb1⟩
      have B1 := hide (bl_trans HB.out hb1)
      clear hb1
      go_wp2
      go_roundw
      case rel => exact ⟨m + 1, by omega, by go_num, rfl, B1.out⟩
      case measure => simp [intOf]; omega
    · obtain rfl : k = n := by omega
      go_wp2
      go_ret2
      exact ⟨rfl, HB.out⟩
theorem find_ok (a : Option Addr) (n cap : Nat) (zs : List Iv) (x : Int) (w : World) (h : Prs w a n zs) (hT : ∀ i, i < n → Hi zs i < x) (hn : n ≤ 1000000) :
    Calls Tryd.prog 94 #[.slice a n cap, .int .u64 x] w fun e w' => e = .returned (.int .i64 (-1)) ∧ Below w.heap.size w w' := by
  have K := hide (bsearch_ok a n cap zs x w h hT hn)
  clear h hT
  go_enter Tryd.func94, Tryd.ntmps94
  go_wp2_with fail
  refine K.out.mono ?_
  rintro e w1 ⟨rfl, hb⟩
  go_wp2
  go_ret
  exact ⟨rfl, hb⟩
theorem rghas_ok (a : Option Addr) (n cap : Nat) (zs : List Iv) (x : Int) (w : World) (h : Prs w a n zs) (hT : ∀ i, i < n → Hi zs i < x) (hn : n ≤ 1000000) :
    Calls Tryd.prog 86 #[.slice a n cap, .int .u64 x] w fun e w' => e = .returned (.bool false) ∧ Below w.heap.size w w' := by
  have K := hide (find_ok a n cap zs x w h hT hn)
  clear h hT
  go_enter Tryd.func86, Tryd.ntmps86
  go_wp2_with fail
  refine K.out.mono ?_
  rintro e w1 ⟨rfl, hb⟩
  go_wp2
  go_ret
  exact ⟨rfl, hb⟩
theorem enhas_ok (p : EV) (w : World) (h : HolesAt w p) (hC : EntC p.1) (hn : p.1.hs.length ≤ 1000000) :
    Calls Tryd.prog 70 #[aggE p, .int .u64 p.1.mx] w fun e w' => e = .returned (.bool true) ∧ Below w.heap.size w w' := by
  obtain ⟨⟨x, y, z⟩, hv⟩ := p
  obtain ⟨a, cap, e1, h1, h2⟩ := h.at'
  simp only at e1 h1 h2 hn
  subst e1
  have K := hide (fun W (hb : Below w.heap.size w W) => rghas_ok a z.length cap z y W (h1.below hb) (fun i hi => hC.top i hi) hn)
  unfold aggE
  simp only
  obtain ⟨n, en⟩ : ∃ n, z.length = n := ⟨_, rfl⟩
  rw [en] at K ⊢
  clear h h1 h2 hC en hn
  go_enter Tryd.func70, Tryd.ntmps70
  go_wp2_with fail
  refine (K.out _ (bl_alloc (Below.refl _ _) _)).mono ?_
  rintro e w1 ⟨rfl, hb⟩
  have B := hide (bl_trans (bl_alloc (Below.refl w.heap.size w) _) hb)
  clear hb
  go_wp2
  go_ret
  exact ⟨rfl, B.out⟩
theorem encanon_ok (p : EV) (w : World) (h : HolesAt w p) (hC : EntC p.1) (hn : p.1.hs.length ≤ 1000000) :
    Calls Tryd.prog 48 #[aggE p] w fun e w' => e = .returned (.bool true) ∧ Below w.heap.size w w' := by
  have K1 := hide (fun W (hb : Below w.heap.size w W) => encheck_ok p W (h.below hb) ⟨hC.cor, fun i hi => by have := hC.top i hi; omega⟩)
  have K2 := hide (fun W (hb : Below w.heap.size w W) => enhas_ok p W (h.below hb) hC hn)
  obtain ⟨⟨x, y, z⟩, hv⟩ := p
  obtain ⟨a, cap, e1, h1, h2⟩ := h.at'
  simp only at e1
  subst e1
  unfold aggE at K1 K2 ⊢
  simp only at K1 K2 ⊢
  obtain ⟨n, en⟩ : ∃ n, z.length = n := ⟨_, rfl⟩
  rw [en] at K1 K2 ⊢
  clear h h1 h2 hC en hn
  go_enter Tryd.func48, Tryd.ntmps48
  go_wp2_with fail
  refine (K1.out _ (bl_alloc (Below.refl _ _) _)).mono ?_
  rintro e w1 ⟨rfl, hb⟩
  have B1 := hide (bl_trans (bl_alloc (Below.refl w.heap.size w) _) hb)
  have R1 : w1.heap[w.heap.size]? = some (.cells #[.int .u64 x, .int .u64 y, .slice a n cap] 65 (0, 0)) := (hb.block _ (by simp)).trans (heap_new_at _ _ rfl)
  have r0 : w1.cell? ⟨w.heap.size, 0, none⟩ = some (.int .u64 x) := by simp [World.cell?, R1]
  have r1 : w1.cell? ⟨w.heap.size, 1, none⟩ = some (.int .u64 y) := by simp [World.cell?, R1]
  have r2 : w1.cell? ⟨w.heap.size, 2, none⟩ = some (.slice a n cap) := by simp [World.cell?, R1]
  clear hb R1
  go_wp2_with fail
  refine (K2.out _ B1.out).mono ?_
  rintro e w2 ⟨rfl, hb⟩
  have B2 := hide (bl_trans B1.out hb)
  clear hb
  go_wp2
  go_ret
  exact ⟨rfl, B2.out⟩
end Go.Proofs.YtbphphmjhcehkaaDoor
namespace Go.Proofs.YtbphphmjhcehkaaDoor
open Go Go.RowKit
set_option linter.unusedSimpArgs false

theorem isnan_ok (x : Int) (w : World) : Calls Tryd.prog 93 #[.int .u64 x] w fun e w' => e = .returned (.bool false) ∧ w = w' := by
  have q : (x != x) = false := by simp
  go_enter Tryd.func93, Tryd.ntmps93
  go_wp2
  go_ret
  exact ⟨rfl, rfl⟩
theorem cmp_gt (x y : Int) (h : y < x) (w : World) : Calls Tryd.prog 85 #[.int .u64 x, .int .u64 y] w fun e w' => e = .returned (.int .i64 1) ∧ w = w' := by
  have h2 : ¬ x < y := by omega
  go_enter Tryd.func85, Tryd.ntmps85
  go_wp2_with fail
  refine (isnan_ok x _).mono ?_
  rintro e w1 ⟨rfl, rfl⟩
  go_wp2_with fail
  refine (isnan_ok y _).mono ?_
  rintro e w1 ⟨rfl, rfl⟩
  go_wp2
  go_ret
  exact ⟨rfl, rfl⟩
theorem key_gt (q x y : Int) (a : Option Addr) (n cap : Nat) (h : q < x) (w : World) : Calls Tryd.prog 68 #[.int .u64 q, .agg #[.int .u64 x, .int .u64 y, .slice a n cap]] w fun e w' => e = .returned (.int .i64 1) ∧ Below w.heap.size w w' := by
  have K := hide (fun W => cmp_gt x q h W)
  clear h
  go_enter Tryd.func68, Tryd.ntmps68
  go_wp2_with fail
  refine (K.out _).mono ?_
  rintro e w1 ⟨rfl, rfl⟩
  go_wp2
  go_ret
  exact ⟨rfl, bl_alloc (Below.refl _ _) _⟩
/-- The replica in front, and an entry, in memory. -/
structure TwoK (W0 : World) (b o c : Nat) (q x y : Int) (hv : Value) (W : World) : Prop where
  a0 : W.cell? ⟨b, o, none⟩ = some (.int .u64 q)
  b0 : W.cell? ⟨c, 0, none⟩ = some (.int .u64 x)
  b1 : W.cell? ⟨c, 1, none⟩ = some (.int .u64 y)
  b2 : W.cell? ⟨c, 2, none⟩ = some hv
  bl : Below W0.heap.size W0 W
theorem TwoK.below {W0 W W' : World} {b o c : Nat} {q x y : Int} {hv : Value} (h : TwoK W0 b o c q x y hv W) (hb : Below W.heap.size W W') : TwoK W0 b o c q x y hv W' :=
  ⟨keep_c hb h.a0, keep_c hb h.b0, keep_c hb h.b1, keep_c hb h.b2, bl_trans h.bl hb⟩
theorem TwoK.drew {W0 W : World} {b o c : Nat} {q x y : Int} {hv : Value} (h : TwoK W0 b o c q x y hv W) : TwoK W0 b o c q x y hv W.drew := h.below (bl_drew (Below.refl _ _))
set_option maxRecDepth 100000 in
set_option maxHeartbeats 3200000 in
theorem vcheck_ok (a : Option Addr) (len cap : Nat) (l : List EV) (w : World) (h : EntsAt w a len l) (hC : CanV (l.map (·.1))) :
    Calls Tryd.prog 45 #[.slice a len cap] w fun e w' => e = .returned .nilIface ∧ Below w.heap.size w w' := by
  have hmx : Tryd.prog.follows .mixedOrders = true := by kernel_rfl
  have hm := h.most
  have hl := hide h.length
  have H := hide h
  have CE := hide (fun k (hk : k < len) => show EntC (l.getD k EV.z).1 from by rw [← getD_map]; exact hC.ents k (by rw [List.length_map, hl.out]; exact hk))
  have CA := hide (fun k (h0 : 0 < k) (hk : k < len) => show (l.getD (k - 1) EV.z).1.rep < (l.getD k EV.z).1.rep from by rw [← getD_map, ← getD_map]; exact hC.asc k h0 (by rw [List.length_map, hl.out]; exact hk))
  clear h hC
  go_enter Tryd.func45, Tryd.ntmps45
  go_wp2
  go_loopw [8] (fun c wr => ∃ k : Nat, k ≤ len ∧ c = .int .i64 k ∧ Below w.heap.size w wr) (fun c _ => len - (intOf c).toNat)
  case atStart => exact ⟨0, Nat.zero_le _, rfl, Below.refl _ _⟩
  case round =>
    obtain ⟨k, hk, rfl, hb⟩ := hrel
    have HB := hide hb
    have i0 : (0 : Int) ≤ (k : Int) := by omega
    by_cases hlt : k < len
    · obtain ⟨b, off, rfl, hbl, hc1, hc2, hc3⟩ := (H.out.below hb).cells k hlt
      have hCe := CE.out k hlt
      have i1 : (k : Int) < (len : Int) := by omega
      have KE := hide (fun W (hW : Below wr.heap.size wr W) => encheck_ok (l.getD k EV.z) W (((H.out.below hb).below hW).holes _ (H.out.mem hlt)) ⟨hCe.cor, fun i hi => by have := hCe.top i hi; omega⟩)
      obtain ⟨ha, hcap, ev, _, _⟩ := ((H.out.holes _ (H.out.mem hlt))).at'
      obtain ⟨n, en⟩ : ∃ n, (l.getD k EV.z).1.hs.length = n := ⟨_, rfl⟩
      rw [en] at ev
      unfold aggE at KE
      have CA' := hide (fun h0 => CA.out k h0 hlt)
      obtain ⟨x, ex⟩ : ∃ x, (l.getD k EV.z).1.rep = x := ⟨_, rfl⟩
      obtain ⟨y, ey⟩ : ∃ x, (l.getD k EV.z).1.mx = x := ⟨_, rfl⟩
      rw [ex, ey, ev] at KE
      rw [ex] at hc1 CA'
      rw [ey] at hc2
      rw [ev] at hc3
      by_cases hk0 : k = 0
      · have n0 : ¬ (0 : Int) < (k : Int) := by omega
        have n1 : decide ((0 : Int) < (k : Int)) = false := decide_eq_false n0
        have n2 : decide (0 < k) = false := decide_eq_false (by omega)
        clear ex ey ev en hk0 hb hCe
        go_wp2_with fail
        refine (KE.out _ (bl_alloc (Below.refl _ _) _)).mono ?_
        rintro e w1 ⟨rfl, hb1⟩
        have B1 := hide (bl_trans (bl_alloc HB.out _) hb1)
        clear hb1
        go_wp2_with fail
        go_quiet (fail)
        go_wp2
        go_roundw
        case rel => exact ⟨k + 1, by omega, by go_num, bl_drewN B1.out _⟩
        case measure => simp [intOf]; omega
      · obtain ⟨b2, off2, eb, _, d0, _, _⟩ := (H.out.below hb).cells (k - 1) (by omega)
        obtain ⟨rfl, rfl⟩ : b = b2 ∧ off = off2 := by simpa using eb
        have hasc := CA'.out (by omega)
        obtain ⟨q, eq⟩ : ∃ x, (l.getD (k - 1) EV.z).1.rep = x := ⟨_, rfl⟩
        rw [eq] at d0 hasc
        have HR := hide (fun W => key_gt q x y ha n hcap hasc W)
        have n0 : (0 : Int) < (k : Int) := by omega
        have n1 : (0 : Int) ≤ (k : Int) - 1 := by omega
        have n2 : (k : Int) - 1 < (len : Int) := by omega
        have n3 : IntKind.i64.wrap ((k : Int) - 1) = (k : Int) - 1 := IntWalk.i64_in _ (by omega)
        have n4 : ((k : Int) - 1).toNat = k - 1 := by omega
        have n5 : 0 < k := by omega
        have n6 : 1 ≤ k := by omega
        have n7 : (1 : Int) ≤ (k : Int) := by omega
        obtain ⟨hv, ehv⟩ : ∃ hv : Value, hv = .slice ha n hcap := ⟨_, rfl⟩
        clear eb ex ey ev en eq hk0 hb hCe hasc
        go_wp2_with fail
        refine (KE.out _ (bl_alloc (Below.refl _ _) _)).mono ?_
        rintro e w1 ⟨rfl, hb1⟩
        have hb01 := bl_trans (bl_alloc (Below.refl wr.heap.size wr) (.cells #[.int .u64 x, .int .u64 y, .slice ha n hcap] 65)) hb1
        have R1 : w1.heap[wr.heap.size]? = some (.cells #[.int .u64 x, .int .u64 y, .slice ha n hcap] 65 (0, 0)) := (hb1.block _ (by simp)).trans (heap_new_at _ _ rfl)
        have TT := hide (TwoK.mk (W0 := wr) (b := b) (o := off + (k - 1) * 3) (c := wr.heap.size) (q := q) (x := x) (y := y) (hv := .slice ha n hcap) (W := w1) (keep_c hb01 d0) (by simp [World.cell?, R1]) (by simp [World.cell?, R1]) (by simp [World.cell?, R1]) hb01)
        clear hb1 hb01 d0 hc1 hc2 hc3 R1 ehv hv
        go_wp2_with fail
        refine wp_region_held_drew (S := TwoK wr b (off + (k - 1) * 3) wr.heap.size q x y (.slice ha n hcap)) hmx TT.out.drew (fun hS => ?_)
        refine wpAnyH_takeD (i := 0) (d := some 21) (v := (.int .i64 k)) rfl rfl (by kernel_rfl) (by kernel_rfl) (by kernel_rfl) (fun _ _ _ h => h) (Or.inl ⟨by rfl, ?_⟩) (by assumption) ?_
        · intro X hX; go_simp
        simp only [Act.put, List.setIfInBounds_toArray, List.set_cons_zero, List.set_cons_succ]
        refine wpAnyH_takeD (i := 1) (d := some 22) (v := (.bool true)) rfl rfl (by kernel_rfl) (by kernel_rfl) (by kernel_rfl) (fun _ _ _ h => h) (Or.inl ⟨by rfl, ?_⟩) (by assumption) ?_
        · intro X hX; go_simp
        simp only [Act.put, List.setIfInBounds_toArray, List.set_cons_zero, List.set_cons_succ]
        refine wpAnyH_takeD (i := 2) (d := some 23) (v := (.bool true)) rfl rfl (by kernel_rfl) (by kernel_rfl) (by kernel_rfl) (fun _ _ _ h => h) (Or.inl ⟨by rfl, ?_⟩) (by assumption) ?_
        · intro X hX; go_simp
        simp only [Act.put, List.setIfInBounds_toArray, List.set_cons_zero, List.set_cons_succ]
        refine wpAnyH_takeD (i := 3) (d := some 24) (v := (.slice (some ⟨b, off, none⟩) len cap)) rfl rfl (by kernel_rfl) (by kernel_rfl) (by kernel_rfl) (fun _ _ _ h => h) (Or.inl ⟨by rfl, ?_⟩) (by assumption) ?_
        · intro X hX; go_simp
        simp only [Act.put, List.setIfInBounds_toArray, List.set_cons_zero, List.set_cons_succ]
        refine wpAnyH_takeD (i := 4) (d := some 25) (v := (.int .i64 k)) rfl rfl (by kernel_rfl) (by kernel_rfl) (by kernel_rfl) (fun _ _ _ h => h) (Or.inl ⟨by rfl, ?_⟩) (by assumption) ?_
        · intro X hX; go_simp
        simp only [Act.put, List.setIfInBounds_toArray, List.set_cons_zero, List.set_cons_succ]
        refine wpAnyH_takeD (i := 5) (d := some 26) (v := (.int .i64 ((k : Int) - 1))) rfl rfl (by kernel_rfl) (by kernel_rfl) (by kernel_rfl) (fun _ _ _ h => h) (Or.inl ⟨by rfl, ?_⟩) (by assumption) ?_
        · intro X hX; go_simp
        simp only [Act.put, List.setIfInBounds_toArray, List.set_cons_zero, List.set_cons_succ]
        refine wpAnyH_takeD (i := 6) (d := some 27) (v := (.pointer (some ⟨b, off + (k - 1) * 3, none⟩))) rfl rfl (by kernel_rfl) (by kernel_rfl) (by kernel_rfl) (fun _ _ _ h => h) (Or.inl ⟨by rfl, ?_⟩) (by assumption) ?_
        · intro X hX; go_simp
        simp only [Act.put, List.setIfInBounds_toArray, List.set_cons_zero, List.set_cons_succ]
        refine wpAnyH_takeD (i := 7) (d := some 28) (v := (.pointer (some ⟨b, off + (k - 1) * 3, none⟩))) rfl rfl (by kernel_rfl) (by kernel_rfl) (by kernel_rfl) (fun _ _ _ h => h) (Or.inl ⟨by rfl, ?_⟩) (by assumption) ?_
        · intro X hX; go_simp
        simp only [Act.put, List.setIfInBounds_toArray, List.set_cons_zero, List.set_cons_succ]
        refine wpAnyH_takeD (i := 8) (d := some 29) (v := (.int .u64 q)) rfl rfl (by kernel_rfl) (by kernel_rfl) (by kernel_rfl) (fun _ _ _ h => h) (Or.inl ⟨by rfl, ?_⟩) (by assumption) ?_
        · intro X hX; obtain ⟨x0, x1, x2, x3, x4⟩ := hX; go_simp
        simp only [Act.put, List.setIfInBounds_toArray, List.set_cons_zero, List.set_cons_succ]
        refine wpAnyH_takeD (i := 9) (d := some 30) (v := (.agg #[.int .u64 x, .int .u64 y, .slice ha n hcap])) rfl rfl (by kernel_rfl) (by kernel_rfl) (by kernel_rfl) (fun _ _ _ h => h) (Or.inl ⟨by rfl, ?_⟩) (by assumption) ?_
        · intro X hX; obtain ⟨x0, x1, x2, x3, x4⟩ := hX; go_simp
        simp only [Act.put, List.setIfInBounds_toArray, List.set_cons_zero, List.set_cons_succ]
        refine wpAnyH_ready (rs := [10]) (by kernel_rfl) (by simp) ?_
        refine AllReadyH.cons (o := _) rfl (fun K hK => ?_) AllReadyH.nil
        go_simp
        refine (HR.out _).mono ?_
        rintro e wq ⟨rfl, hb⟩
        have hS := hS.below hb
        clear hb
        go_simp
        refine hK.out _ _ hS (fun _ => ?_)
        clear hK K
        refine wpAnyH_takeD (i := 11) (d := some 32) (v := (.bool false)) rfl rfl (by kernel_rfl) (by kernel_rfl) (by kernel_rfl) (fun _ _ _ h => h) (Or.inl ⟨by rfl, ?_⟩) (by assumption) ?_
        · intro X hX; go_simp
        simp only [Act.put, List.setIfInBounds_toArray, List.set_cons_zero, List.set_cons_succ]
        refine wpAnyH_takeD (i := 12) (d := some 33) (v := (.bool false)) rfl rfl (by kernel_rfl) (by kernel_rfl) (by kernel_rfl) (fun _ _ _ h => h) (Or.inl ⟨by rfl, ?_⟩) (by assumption) ?_
        · intro X hX; go_simp
        simp only [Act.put, List.setIfInBounds_toArray, List.set_cons_zero, List.set_cons_succ]
        refine wpAnyH_done (by kernel_rfl) ?_ _
        have BB := hide (bl_trans HB.out hS.bl)
        clear hS
        go_wp2
        go_roundw
        case rel => exact ⟨k + 1, by omega, by go_num, BB.out⟩
        case measure => simp [intOf]; omega
    · obtain rfl : k = len := by omega
      go_wp2
      go_ret
      exact ⟨rfl, HB.out⟩
theorem vcan1_ok (p : EV) (w : World) (h : HolesAt w p) (hC : EntC p.1) (hn : p.1.hs.length ≤ 1000000) :
    Calls Tryd.prog 47 #[aggE p] w fun e w' => e = .returned (.bool false) ∧ Below w.heap.size w w' := by
  have K1 := hide (fun W (hb : Below w.heap.size w W) => encanon_ok p W (h.below hb) hC hn)
  obtain ⟨⟨x, y, z⟩, hv⟩ := p
  obtain ⟨a, cap, e1, h1, h2⟩ := h.at'
  simp only at e1
  subst e1
  unfold aggE at K1 ⊢
  simp only at K1 ⊢
  obtain ⟨n, en⟩ : ∃ n, z.length = n := ⟨_, rfl⟩
  rw [en] at K1 ⊢
  clear h h1 h2 hC en hn
  go_enter Tryd.func47, Tryd.ntmps47
  go_wp2_with fail
  refine (K1.out _ (bl_alloc (Below.refl _ _) _)).mono ?_
  rintro e w1 ⟨rfl, hb⟩
  have B1 := hide (bl_trans (bl_alloc (Below.refl w.heap.size w) _) hb)
  clear hb
  go_wp2
  go_ret
  exact ⟨rfl, B1.out⟩
set_option maxRecDepth 100000 in
set_option maxHeartbeats 1600000 in
theorem vindex_ok (a : Option Addr) (len cap : Nat) (l : List EV) (w : World) (h : EntsAt w a len l) (hC : CanV (l.map (·.1))) (hn : ∀ i, i < len → (l.getD i EV.z).1.hs.length ≤ 1000000) :
    Calls Tryd.prog 69 #[.slice a len cap, .func (.func 47) #[] #[]] w fun e w' => e = .returned (.int .i64 (-1)) ∧ Below w.heap.size w w' := by
  have hm := h.most
  have hl := hide h.length
  have H := hide h
  have HN := hide hn
  have CE := hide (fun k (hk : k < len) => show EntC (l.getD k EV.z).1 from by rw [← getD_map]; exact hC.ents k (by rw [List.length_map, hl.out]; exact hk))
  have hE : ∀ args W, (callFunc 47 args).run Tryd.prog W = .ok (.enter 47 args) W := fun _ _ => by kernel_rfl
  clear h hC hn
  go_enter Tryd.func69, Tryd.ntmps69
  go_wp2
  go_loopw [8] (fun c wr => ∃ k : Nat, k ≤ len ∧ c = .int .i64 k ∧ Below w.heap.size w wr) (fun c _ => len - (intOf c).toNat)
  case atStart => exact ⟨0, Nat.zero_le _, rfl, Below.refl _ _⟩
  case round =>
    obtain ⟨k, hk, rfl, hb⟩ := hrel
    have HB := hide hb
    have i0 : (0 : Int) ≤ (k : Int) := by omega
    by_cases hlt : k < len
    · obtain ⟨b, off, rfl, hbl, hc1, hc2, hc3⟩ := (H.out.below hb).cells k hlt
      have i1 : (k : Int) < (len : Int) := by omega
      have KE := hide (fun W (hW : Below wr.heap.size wr W) => vcan1_ok (l.getD k EV.z) W (((H.out.below hb).below hW).holes _ (H.out.mem hlt)) (CE.out k hlt) (HN.out k hlt))
      unfold aggE at KE
      obtain ⟨x, ex⟩ : ∃ x, (l.getD k EV.z).1.rep = x := ⟨_, rfl⟩
      obtain ⟨y, ey⟩ : ∃ x, (l.getD k EV.z).1.mx = x := ⟨_, rfl⟩
      obtain ⟨hv, ev⟩ : ∃ x, (l.getD k EV.z).2 = x := ⟨_, rfl⟩
      rw [ex, ey, ev] at KE
      rw [ex] at hc1
      rw [ey] at hc2
      rw [ev] at hc3
      clear ex ey ev hb
      go_wp2_with fail
      refine (KE.out _ (Below.refl _ _)).mono ?_
      rintro e w1 ⟨rfl, hb1⟩
      have B1 := hide (bl_trans HB.out hb1)
      clear hb1
      go_wp2
      go_roundw
      case rel => exact ⟨k + 1, by omega, by go_num, B1.out⟩
      case measure => simp [intOf]; omega
    · obtain rfl : k = len := by omega
      go_wp2
      go_ret
      exact ⟨rfl, HB.out⟩
theorem vcontains_ok (a : Option Addr) (len cap : Nat) (l : List EV) (w : World) (h : EntsAt w a len l) (hC : CanV (l.map (·.1))) (hn : ∀ i, i < len → (l.getD i EV.z).1.hs.length ≤ 1000000) :
    Calls Tryd.prog 46 #[.slice a len cap, .func (.func 47) #[] #[]] w fun e w' => e = .returned (.bool false) ∧ Below w.heap.size w w' := by
  have K := hide (vindex_ok a len cap l w h hC hn)
  clear h hC hn
  go_enter Tryd.func46, Tryd.ntmps46
  go_wp2_with fail
  refine K.out.mono ?_
  rintro e w1 ⟨rfl, hb⟩
  go_wp2
  go_ret
  exact ⟨rfl, hb⟩
theorem vcanon_ok (a : Option Addr) (len cap : Nat) (l : List EV) (w : World) (h : EntsAt w a len l) (hC : CanV (l.map (·.1))) (hn : ∀ i, i < len → (l.getD i EV.z).1.hs.length ≤ 1000000) :
    Calls Tryd.prog 27 #[.slice a len cap] w fun e w' => e = .returned (.bool true) ∧ Below w.heap.size w w' := by
  have K1 := hide (vcheck_ok a len cap l w h hC)
  have K2 := hide (fun W (hb : Below w.heap.size w W) => vcontains_ok a len cap l W (h.below hb) hC hn)
  clear h hC hn
  go_enter Tryd.func27, Tryd.ntmps27
  go_wp2_with fail
  refine K1.out.mono ?_
  rintro e w1 ⟨rfl, hb⟩
  have B1 := hide hb
  clear hb
  go_wp2_with fail
  refine (K2.out _ B1.out).mono ?_
  rintro e w2 ⟨rfl, hb⟩
  have B2 := hide (bl_trans B1.out hb)
  clear hb
  go_wp2
  go_ret
  exact ⟨rfl, B2.out⟩
end Go.Proofs.YtbphphmjhcehkaaDoor
