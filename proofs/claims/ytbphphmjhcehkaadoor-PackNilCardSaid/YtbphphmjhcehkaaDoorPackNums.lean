/- The numbers and the bytes of a vector; canonical vectors. No program in sight. -/
import Derived.Test.YtbphphmjhcehkaaDoorPackVec
import Derived.Test.YtbphphmjhcehkaaDoorDeltaPlain
import Derived.Test.YtbphphmjhcehkaaDoorVarLen
namespace Go.Proofs.YtbphphmjhcehkaaDoor

def Ent.z : Ent := ⟨0, 0, []⟩
/-- The difference of a replica. -/
def repN (es : List Ent) (k : Nat) : Int := if k = 0 then (es.getD 0 Ent.z).rep else (es.getD k Ent.z).rep - (es.getD (k - 1) Ent.z).rep - 1
/-- The numbers of an entry behind the difference p of its replica. -/
def numE (p : Int) (e : Ent) : List Int := p :: e.mx :: (e.hs.length : Int) :: dif e.hs 1 e.hs.length
/-- The numbers of the first k entries. -/
def numsTo (es : List Ent) : Nat → List Int
  | 0 => [(es.length : Int)]
  | k + 1 => numsTo es k ++ numE (repN es k) (es.getD k Ent.z)
def numsV (es : List Ent) : List Int := numsTo es es.length
/-- The bytes of numbers. -/
def joinB (xs : List Int) : List Int := xs.flatMap (vb 10)
theorem joinB_nil : joinB [] = [] := rfl
theorem joinB_append (xs ys : List Int) : joinB (xs ++ ys) = joinB xs ++ joinB ys := by unfold joinB; rw [List.flatMap_append]
theorem joinB_cons (x : Int) (xs : List Int) : joinB (x :: xs) = vb 10 x ++ joinB xs := rfl
theorem joinB_snoc (xs : List Int) (x : Int) : joinB (xs ++ [x]) = joinB xs ++ vb 10 x := by rw [joinB_append, joinB_cons, joinB_nil, List.append_nil]
theorem joinB_most (xs : List Int) : (joinB xs).length ≤ 10 * xs.length := by
  induction xs with
  | nil => simp [joinB]
  | cons x xs ih => rw [joinB_cons, List.length_append]; have := vb_most 10 x; simp only [List.length_cons]; omega
theorem joinB_least (xs : List Int) : xs.length ≤ (joinB xs).length := by
  induction xs with
  | nil => simp [joinB]
  | cons x xs ih => rw [joinB_cons, List.length_append]; have := vb_len 10 x (by omega); simp only [List.length_cons]; omega
theorem joinB_bytes {xs : List Int} (h : ∀ x ∈ xs, Word x) : ∀ c ∈ joinB xs, 0 ≤ c ∧ c ≤ 255 := by
  intro c hc
  unfold joinB at hc
  obtain ⟨x, hx, hc⟩ := List.mem_flatMap.1 hc
  exact vb_bytes 10 x (h x hx).1 c hc
theorem numE_length (p : Int) (e : Ent) : (numE p e).length = 3 + 2 * e.hs.length := by unfold numE; simp only [List.length_cons, dif_length]; omega
theorem numsTo_mono (es : List Ent) : ∀ k j, (numsTo es k).length ≤ (numsTo es (k + j)).length
  | k, 0 => Nat.le_refl _
  | k, j + 1 => by
    have := numsTo_mono es k j
    rw [← Nat.add_assoc, show numsTo es (k + j + 1) = numsTo es (k + j) ++ numE (repN es (k + j)) (es.getD (k + j) Ent.z) from rfl, List.length_append]
    omega
theorem numsTo_le (es : List Ent) {k : Nat} (h : k ≤ es.length) : (numsTo es k).length ≤ (numsV es).length := by
  have := numsTo_mono es k (es.length - k)
  rwa [show k + (es.length - k) = es.length by omega] at this
theorem getD_map (l : List EV) (i : Nat) : (l.map (·.1)).getD i Ent.z = (l.getD i EV.z).1 := by
  simp only [List.getD, List.getElem?_map]
  cases l[i]? <;> rfl

/-- A canonical entry. -/
structure EntC (e : Ent) : Prop where
  cor : Cor e.hs
  top : ∀ i, i < e.hs.length → Hi e.hs i < e.mx
/-- A canonical vector. -/
structure CanV (es : List Ent) : Prop where
  ents : ∀ i, i < es.length → EntC (es.getD i Ent.z)
  asc : ∀ i, 0 < i → i < es.length → (es.getD (i - 1) Ent.z).rep < (es.getD i Ent.z).rep
theorem cor_apart {zs : List Iv} (h : Cor zs) : ApTo zs 1 zs.length := fun i hi => ⟨(h i hi).1, fun h0 => by have := (h i hi).2 h0; omega⟩
theorem apart_cor {zs : List Iv} (h : ApTo zs 1 zs.length) : Cor zs := fun i hi => ⟨(h i hi).1, fun h0 => by have := (h i hi).2 h0; omega⟩
theorem getDz_mem {es : List Ent} {i : Nat} (h : i < es.length) : es.getD i Ent.z ∈ es := by
  have e : es.getD i Ent.z = es[i] := by simp [List.getD, List.getElem?_eq_getElem h]
  rw [e]
  exact List.getElem_mem _
theorem repN_word {es : List Ent} (hc : CanV es) (hw : ∀ e ∈ es, EntW e) {k : Nat} (hk : k < es.length) : Word (repN es k) := by
  unfold repN
  by_cases h : k = 0
  · rw [if_pos h]; subst h; exact (hw _ (getDz_mem hk)).rep
  · rw [if_neg h]
    have h1 := hc.asc k (by omega) hk
    have h2 := (hw _ (getDz_mem hk)).rep
    have h3 := (hw _ (getDz_mem (show k - 1 < es.length by omega))).rep
    exact ⟨by omega, by have := h2.2; have := h3.1; omega⟩
theorem hs_at {zs : List Iv} (h : ∀ z ∈ zs, Word z.1 ∧ Word z.2) {i : Nat} (hi : i < zs.length) : Word (Lo zs i) ∧ Word (Hi zs i) := by
  have e : zs.getD i (0, 0) = zs[i] := by simp [List.getD, List.getElem?_eq_getElem hi]
  unfold Lo Hi
  rw [e]
  exact h _ (List.getElem_mem _)
theorem dif_words {zs : List Iv} (hw : ∀ z ∈ zs, Word z.1 ∧ Word z.2) (hA : ApTo zs 1 zs.length) : ∀ k, k ≤ zs.length → ∀ x ∈ dif zs 1 k, Word x
  | 0, _ => by intro x hx; simp [dif] at hx
  | k + 1, hk => by
    intro x hx
    unfold dif at hx
    rcases List.mem_append.1 hx with hx | hx
    · exact dif_words hw hA k (by omega) x hx
    · have h1 := hs_at hw (show k < zs.length by omega)
      have h2 := hA k (by omega)
      simp at hx
      rcases hx with rfl | rfl
      · unfold gapD
        by_cases e : k = 0
        · rw [if_pos e]; subst e; exact h1.1
        · rw [if_neg e]
          have h3 := hs_at hw (show k - 1 < zs.length by omega)
          have h4 := h2.2 (by omega)
          unfold Word at *; omega
      · unfold Word at *; omega
theorem numE_words {p : Int} {e : Ent} (hp : Word p) (hw : EntW e) (hc : EntC e) (hn : e.hs.length ≤ 1000000) : ∀ x ∈ numE p e, Word x := by
  intro x hx
  unfold numE at hx
  simp only [List.mem_cons] at hx
  rcases hx with rfl | rfl | rfl | hx
  · exact hp
  · exact hw.mx
  · exact ⟨by omega, by omega⟩
  · exact dif_words hw.hs (cor_apart hc.cor) _ (Nat.le_refl _) x hx
theorem numsTo_words {es : List Ent} (hc : CanV es) (hw : ∀ e ∈ es, EntW e) (hn : ∀ e ∈ es, e.hs.length ≤ 1000000) (hl : es.length ≤ 1000000) : ∀ k, k ≤ es.length → ∀ x ∈ numsTo es k, Word x
  | 0, _ => by
    intro x hx
    unfold numsTo at hx
    simp at hx
    subst hx
    exact ⟨by omega, by omega⟩
  | k + 1, hk => by
    intro x hx
    unfold numsTo at hx
    rcases List.mem_append.1 hx with hx | hx
    · exact numsTo_words hc hw hn hl k (by omega) x hx
    · exact numE_words (repN_word hc hw (by omega)) (hw _ (getDz_mem (by omega))) (hc.ents k (by omega)) (hn _ (getDz_mem (by omega))) x hx
end Go.Proofs.YtbphphmjhcehkaaDoor
