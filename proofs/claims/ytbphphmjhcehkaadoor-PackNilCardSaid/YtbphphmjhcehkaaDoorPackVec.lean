/- A vector that can be read; the reference's Same of entries and of vectors. -/
import Derived.Test.YtbphphmjhcehkaaDoorPackRead
import Derived.Test.YtbphphmjhcehkaaDoorRef04
import Derived.Test.YtbphphmjhcehkaaDoorTake
namespace Go.Proofs.YtbphphmjhcehkaaDoor
open Go Go.RowKit
set_option linter.unusedSimpArgs false

/-- The holes of an entry, as its value has them. -/
structure HolesAt (w : World) (p : EV) : Prop where
  at' : ∃ a cap, p.2 = .slice a p.1.hs.length cap ∧ Prs w a p.1.hs.length p.1.hs ∧ p.1.hs.length ≤ cap
theorem HolesAt.below {w w' : World} {p : EV} (h : HolesAt w p) (hb : Below w.heap.size w w') : HolesAt w' p := by
  obtain ⟨a, cap, h1, h2, h3⟩ := h.at'
  exact ⟨a, cap, h1, h2.below hb, h3⟩
/-- A row of entries that can be read. -/
structure EntsAt (w : World) (a : Option Addr) (len : Nat) (l : List EV) : Prop where
  length : l.length = len
  most : len ≤ 9223372036854775807
  words : ∀ p ∈ l, EntW p.1
  holes : ∀ p ∈ l, HolesAt w p
  cells : ∀ i, i < len → ∃ b off, a = some ⟨b, off, none⟩ ∧ b < w.heap.size ∧ w.cell? ⟨b, off + i * 3, none⟩ = some (.int .u64 (l.getD i EV.z).1.rep) ∧ w.cell? ⟨b, off + i * 3 + 1, none⟩ = some (.int .u64 (l.getD i EV.z).1.mx) ∧ w.cell? ⟨b, off + i * 3 + 2, none⟩ = some (l.getD i EV.z).2
theorem EntsAt.below {w w' : World} {a : Option Addr} {len : Nat} {l : List EV} (h : EntsAt w a len l) (hb : Below w.heap.size w w') : EntsAt w' a len l :=
  ⟨h.length, h.most, h.words, fun p hp => (h.holes p hp).below hb, fun i hi => by
    obtain ⟨b, off, e, hlt, h1, h2, h3⟩ := h.cells i hi
    exact ⟨b, off, e, Nat.lt_of_lt_of_le hlt hb.size, keep_cell hb hlt h1, keep_cell hb hlt h2, keep_cell hb hlt h3⟩⟩
theorem EntsAt.mem {w : World} {a : Option Addr} {len : Nat} {l : List EV} (h : EntsAt w a len l) {i : Nat} (hi : i < len) : l.getD i EV.z ∈ l := getD_mem (by have := h.length; omega)
theorem RowF.ents {w : World} {base : Nat} {v : Value} {l : List EV} (h : RowF w base v l) : ∃ a cap, v = .slice a l.length cap ∧ EntsAt w a l.length l ∧ l.length ≤ cap := by
  have hh : ∀ p ∈ l, HolesAt w p := fun p hp => by
    obtain ⟨a, cap, h1, h2, h3, _⟩ := h.fins p hp
    exact ⟨a, cap, h1, h2, h3⟩
  rcases h.row.2 with ⟨rfl, hn⟩ | ⟨g, cap, cur, rfl, hbg, hg, hle, hm, hs, ht⟩
  · exact ⟨none, 0, by rw [hn], ⟨rfl, by omega, h.words, hh, fun i hi => by omega⟩, by omega⟩
  · refine ⟨some ⟨g, 0, none⟩, cap, rfl, ⟨rfl, by unfold maxLen at hm; omega, h.words, hh, fun i hi => ?_⟩, hle⟩
    obtain ⟨c0, c1, c2⟩ := cellsE_at l i hi
    have hsz : l.length * 3 ≤ (cellsE l).length := by rw [cellsE_length]; exact Nat.le_refl _
    refine ⟨g, 0, rfl, (Array.getElem?_eq_some_iff.1 hg).1, ?_, ?_, ?_⟩
    · rw [Nat.zero_add, h.row.cellAt _ (by omega)]; exact c0
    · rw [Nat.zero_add, h.row.cellAt _ (by omega)]; exact c1
    · rw [Nat.zero_add, h.row.cellAt _ (by omega)]; exact c2

/-! ### Same of entries -/
instance : DecidableEq Ent := fun a b => by
  obtain ⟨x, y, z⟩ := a
  obtain ⟨x', y', z'⟩ := b
  by_cases h : x = x' ∧ y = y' ∧ z = z'
  · exact isTrue (by obtain ⟨rfl, rfl, rfl⟩ := h; rfl)
  · exact isFalse (by intro e; cases e; exact h ⟨rfl, rfl, rfl⟩)
abbrev aggE (p : EV) : Value := .agg #[.int .u64 p.1.rep, .int .u64 p.1.mx, p.2]
set_option maxHeartbeats 1600000 in
theorem esame_any (p q : EV) (w : World) (h : HolesAt w p) (h' : HolesAt w q) :
    Calls Tryd.prog 36 #[aggE p, aggE q] w fun e w' => e = .returned (.bool (decide (p.1 = q.1))) ∧ Below w.heap.size w w' := by
  obtain ⟨⟨x, y, z⟩, hv⟩ := p
  obtain ⟨⟨x', y', z'⟩, hv'⟩ := q
  obtain ⟨a, cap, e1, h1, h2⟩ := h.at'
  obtain ⟨a', cap', e1', h1', h2'⟩ := h'.at'
  simp only at e1 e1' h1 h1' h2 h2'
  subst e1; subst e1'
  unfold aggE
  simp only
  by_cases g1 : x = x'
  · by_cases g2 : y = y'
    · subst g1; subst g2
      have KS := hide (fun W (hb : Below w.heap.size w W) => same_any a a' z.length cap z'.length cap' z z' W (h1.below hb) (h1'.below hb))
      have ER := hide (show sameL z z' = decide ((⟨x, y, z⟩ : Ent) = ⟨x, y, z'⟩) by unfold sameL; simp)
      clear h h' h1 h1' h2 h2'
      go_enter Tryd.func36, Tryd.ntmps36
      go_wp2_with fail
      refine (KS.out _ (bl_alloc (bl_alloc (Below.refl _ _) _) _)).mono ?_
      rintro e w1 ⟨rfl, hb⟩
      have B1 := hide (bl_trans (bl_alloc (bl_alloc (Below.refl _ _) _) _) hb)
      clear hb
      go_wp2
      go_ret
      refine ⟨?_, B1.out⟩
      rw [← ER.out]
      cases sameL z z' <;> rfl
    · have f2 : (y == y') = false := by simpa using g2
      have ER := hide (show decide ((⟨x, y, z⟩ : Ent) = ⟨x', y', z'⟩) = false by simp [g2])
      subst g1
      clear h h' h1 h1' h2 h2' g2
      go_enter Tryd.func36, Tryd.ntmps36
      go_wp2
      go_ret
      exact ⟨by rw [ER.out] <;> rfl, bl_alloc (bl_alloc (Below.refl _ _) _) _⟩
  · have f1 : (x == x') = false := by simpa using g1
    have ER := hide (show decide ((⟨x, y, z⟩ : Ent) = ⟨x', y', z'⟩) = false by simp [g1])
    clear h h' h1 h1' h2 h2' g1
    go_enter Tryd.func36, Tryd.ntmps36
    go_wp2
    go_ret
    exact ⟨by rw [ER.out] <;> rfl, bl_alloc (bl_alloc (Below.refl _ _) _) _⟩

/-! ### Same of vectors -/
def sameV (l l' : List EV) : Bool := decide (l.map (·.1) = l'.map (·.1))
theorem ents_ext {l l' : List EV} (hl : l.length = l'.length) (h : ∀ i, i < l.length → (l.getD i EV.z).1 = (l'.getD i EV.z).1) : l.map (·.1) = l'.map (·.1) := by
  refine List.ext_getElem (by simpa using hl) fun i h1 h2 => ?_
  simp only [List.length_map] at h1 h2
  have := h i h1
  simpa [List.getD, List.getElem?_eq_getElem h1, List.getElem?_eq_getElem h2] using this
theorem ents_at {l l' : List EV} (h : l.map (·.1) = l'.map (·.1)) (i : Nat) : (l.getD i EV.z).1 = (l'.getD i EV.z).1 := by
  have e : (l.map (·.1))[i]? = (l'.map (·.1))[i]? := by rw [h]
  simp only [List.getElem?_map] at e
  simp only [List.getD]
  cases h1 : l[i]? <;> cases h2 : l'[i]? <;> simp_all
/-- Two entries in memory. -/
structure Two (W0 : World) (b o b' o' : Nat) (x y : Int) (v : Value) (x' y' : Int) (v' : Value) (W : World) : Prop where
  a0 : W.cell? ⟨b, o, none⟩ = some (.int .u64 x)
  a1 : W.cell? ⟨b, o + 1, none⟩ = some (.int .u64 y)
  a2 : W.cell? ⟨b, o + 2, none⟩ = some v
  b0 : W.cell? ⟨b', o', none⟩ = some (.int .u64 x')
  b1 : W.cell? ⟨b', o' + 1, none⟩ = some (.int .u64 y')
  b2 : W.cell? ⟨b', o' + 2, none⟩ = some v'
  bl : Below W0.heap.size W0 W
theorem Two.below {W0 W W' : World} {b o b' o' : Nat} {x y x' y' : Int} {v v' : Value} (h : Two W0 b o b' o' x y v x' y' v' W) (hb : Below W.heap.size W W') : Two W0 b o b' o' x y v x' y' v' W' :=
  ⟨keep_c hb h.a0, keep_c hb h.a1, keep_c hb h.a2, keep_c hb h.b0, keep_c hb h.b1, keep_c hb h.b2, bl_trans h.bl hb⟩
theorem Two.drew {W0 W : World} {b o b' o' : Nat} {x y x' y' : Int} {v v' : Value} (h : Two W0 b o b' o' x y v x' y' v' W) : Two W0 b o b' o' x y v x' y' v' W.drew := h.below (bl_drew (Below.refl _ _))

set_option maxRecDepth 100000 in
set_option maxHeartbeats 1600000 in
theorem vsame_any (a a' : Option Addr) (len cap len' cap' : Nat) (l l' : List EV) (w : World) (h : EntsAt w a len l) (h' : EntsAt w a' len' l') :
    Calls Tryd.prog 18 #[.slice a len cap, .slice a' len' cap'] w fun e w' => e = .returned (.bool (sameV l l')) ∧ Below w.heap.size w w' := by
  have hmx : Tryd.prog.follows .mixedOrders = true := by kernel_rfl
  have hm := h.most
  have hm' := h'.most
  have hl := hide h.length
  have hl' := hide h'.length
  have H := hide h
  have H' := hide h'
  clear h h'
  by_cases hn : len = len'
  · subst hn
    go_enter Tryd.func18, Tryd.ntmps18
    go_wp2
    go_loopw [5] (fun c wr => ∃ k : Nat, k ≤ len ∧ c = .int .i64 k ∧ (∀ i, i < k → (l.getD i EV.z).1 = (l'.getD i EV.z).1) ∧ Below w.heap.size w wr)
      (fun c _ => len - (intOf c).toNat)
    case atStart => exact ⟨0, Nat.zero_le _, rfl, fun i hi => absurd hi (by omega), Below.refl _ _⟩
    case round =>
      obtain ⟨k, hk, rfl, hno, hb⟩ := hrel
      have HN := hide hno
      have HB := hide hb
      clear hno
      by_cases hlt : k < len
      · obtain ⟨b, off, rfl, hbl, hc1, hc2, hc3⟩ := (H.out.below hb).cells k hlt
        obtain ⟨b', off', rfl, hbl', hd1, hd2, hd3⟩ := (H'.out.below hb).cells k hlt
        have i0 : (0 : Int) ≤ (k : Int) := by omega
        have i1 : (k : Int) < (len : Int) := by omega
        have KE := hide (fun W (hW : Below wr.heap.size wr W) => esame_any (l.getD k EV.z) (l'.getD k EV.z) W (((H.out.below hb).below hW).holes _ (H.out.mem hlt)) (((H'.out.below hb).below hW).holes _ (H'.out.mem hlt)))
        unfold aggE at KE
        have TW := hide (Two.mk (W0 := wr) hc1 hc2 hc3 hd1 hd2 hd3 (Below.refl _ _))
        have NE := hide (fun (hne : (l.getD k EV.z).1 ≠ (l'.getD k EV.z).1) => show sameV l l' = false by
          unfold sameV
          exact decide_eq_false fun e => hne (ents_at e k))
        by_cases g : (l.getD k EV.z).1 = (l'.getD k EV.z).1
        · rw [show decide ((l.getD k EV.z).1 = (l'.getD k EV.z).1) = true from decide_eq_true g] at KE
          have G := hide g
          obtain ⟨x, ex⟩ : ∃ x, (l.getD k EV.z).1.rep = x := ⟨_, rfl⟩
          obtain ⟨y, ey⟩ : ∃ x, (l.getD k EV.z).1.mx = x := ⟨_, rfl⟩
          obtain ⟨hv, ev⟩ : ∃ x, (l.getD k EV.z).2 = x := ⟨_, rfl⟩
          obtain ⟨x', ex'⟩ : ∃ x, (l'.getD k EV.z).1.rep = x := ⟨_, rfl⟩
          obtain ⟨y', ey'⟩ : ∃ x, (l'.getD k EV.z).1.mx = x := ⟨_, rfl⟩
          obtain ⟨hv', ev'⟩ : ∃ x, (l'.getD k EV.z).2 = x := ⟨_, rfl⟩
          rw [ex, ey, ev, ex', ey', ev'] at KE TW
          clear ex ey ev ex' ey' ev' hc1 hc2 hc3 hd1 hd2 hd3 g NE hb
          go_wp2_with fail
          refine wp_region_held_drew (S := Two wr b (off + k * 3) b' (off' + k * 3) x y hv x' y' hv') hmx TW.out.drew (fun hS => ?_)
          refine wpAnyH_takeD (i := 0) (d := some 17) (v := (.slice (some ⟨b, off, none⟩) len cap)) rfl rfl (by kernel_rfl) (by kernel_rfl) (by kernel_rfl) (fun _ _ _ h => h) (Or.inl ⟨by rfl, ?_⟩) (by assumption) ?_
          · intro X hX; go_simp
          simp only [Act.put, List.setIfInBounds_toArray, List.set_cons_zero, List.set_cons_succ]
          refine wpAnyH_takeD (i := 1) (d := some 18) (v := (.int .i64 k)) rfl rfl (by kernel_rfl) (by kernel_rfl) (by kernel_rfl) (fun _ _ _ h => h) (Or.inl ⟨by rfl, ?_⟩) (by assumption) ?_
          · intro X hX; go_simp
          simp only [Act.put, List.setIfInBounds_toArray, List.set_cons_zero, List.set_cons_succ]
          refine wpAnyH_takeD (i := 2) (d := some 19) (v := (.pointer (some ⟨b, off + k * 3, none⟩))) rfl rfl (by kernel_rfl) (by kernel_rfl) (by kernel_rfl) (fun _ _ _ h => h) (Or.inl ⟨by rfl, ?_⟩) (by assumption) ?_
          · intro X hX; go_simp
          simp only [Act.put, List.setIfInBounds_toArray, List.set_cons_zero, List.set_cons_succ]
          refine wpAnyH_takeD (i := 3) (d := some 20) (v := (.agg #[.int .u64 x, .int .u64 y, hv])) rfl rfl (by kernel_rfl) (by kernel_rfl) (by kernel_rfl) (fun _ _ _ h => h) (Or.inl ⟨by rfl, ?_⟩) (by assumption) ?_
          · intro X hX; obtain ⟨d0, d1, d2, d3, d4, d5, d6⟩ := hX; go_simp
          simp only [Act.put, List.setIfInBounds_toArray, List.set_cons_zero, List.set_cons_succ]
          refine wpAnyH_takeD (i := 4) (d := some 21) (v := (.slice (some ⟨b', off', none⟩) len cap')) rfl rfl (by kernel_rfl) (by kernel_rfl) (by kernel_rfl) (fun _ _ _ h => h) (Or.inl ⟨by rfl, ?_⟩) (by assumption) ?_
          · intro X hX; go_simp
          simp only [Act.put, List.setIfInBounds_toArray, List.set_cons_zero, List.set_cons_succ]
          refine wpAnyH_takeD (i := 5) (d := some 22) (v := (.int .i64 k)) rfl rfl (by kernel_rfl) (by kernel_rfl) (by kernel_rfl) (fun _ _ _ h => h) (Or.inl ⟨by rfl, ?_⟩) (by assumption) ?_
          · intro X hX; go_simp
          simp only [Act.put, List.setIfInBounds_toArray, List.set_cons_zero, List.set_cons_succ]
          refine wpAnyH_takeD (i := 6) (d := some 23) (v := (.pointer (some ⟨b', off' + k * 3, none⟩))) rfl rfl (by kernel_rfl) (by kernel_rfl) (by kernel_rfl) (fun _ _ _ h => h) (Or.inl ⟨by rfl, ?_⟩) (by assumption) ?_
          · intro X hX; go_simp
          simp only [Act.put, List.setIfInBounds_toArray, List.set_cons_zero, List.set_cons_succ]
          refine wpAnyH_takeD (i := 7) (d := some 24) (v := (.agg #[.int .u64 x', .int .u64 y', hv'])) rfl rfl (by kernel_rfl) (by kernel_rfl) (by kernel_rfl) (fun _ _ _ h => h) (Or.inl ⟨by rfl, ?_⟩) (by assumption) ?_
          · intro X hX; obtain ⟨d0, d1, d2, d3, d4, d5, d6⟩ := hX; go_simp
          simp only [Act.put, List.setIfInBounds_toArray, List.set_cons_zero, List.set_cons_succ]
          refine wpAnyH_ready (rs := [8]) (by kernel_rfl) (by simp) ?_
          refine AllReadyH.cons (o := _) rfl (fun K hK => ?_) AllReadyH.nil
          go_simp
          refine (KE.out _ hS.bl).mono ?_
          rintro e wq ⟨rfl, hb1⟩
          have hS := hS.below hb1
          clear hb1
          go_simp
          refine hK.out _ _ hS (fun _ => ?_)
          clear hK K
          refine wpAnyH_takeD (i := 9) (d := some 26) (v := (.bool false)) rfl rfl (by kernel_rfl) (by kernel_rfl) (by kernel_rfl) (fun _ _ _ h => h) (Or.inl ⟨by rfl, ?_⟩) (by assumption) ?_
          · intro X hX; go_simp
          simp only [Act.put, List.setIfInBounds_toArray, List.set_cons_zero, List.set_cons_succ]
          refine wpAnyH_done (by kernel_rfl) ?_ _
          have BB := hide (bl_trans HB.out hS.bl)
          clear hS
          go_wp2
          go_roundw
          case rel =>
            refine ⟨k + 1, by omega, by go_num, fun i hi => ?_, BB.out⟩
            by_cases e : i = k
            · subst e; exact G.out
            · exact HN.out i (by omega)
          case measure => simp [intOf]; omega
        · rw [show decide ((l.getD k EV.z).1 = (l'.getD k EV.z).1) = false from decide_eq_false g] at KE
          have BAD := hide (NE.out g)
          obtain ⟨x, ex⟩ : ∃ x, (l.getD k EV.z).1.rep = x := ⟨_, rfl⟩
          obtain ⟨y, ey⟩ : ∃ x, (l.getD k EV.z).1.mx = x := ⟨_, rfl⟩
          obtain ⟨hv, ev⟩ : ∃ x, (l.getD k EV.z).2 = x := ⟨_, rfl⟩
          obtain ⟨x', ex'⟩ : ∃ x, (l'.getD k EV.z).1.rep = x := ⟨_, rfl⟩
          obtain ⟨y', ey'⟩ : ∃ x, (l'.getD k EV.z).1.mx = x := ⟨_, rfl⟩
          obtain ⟨hv', ev'⟩ : ∃ x, (l'.getD k EV.z).2 = x := ⟨_, rfl⟩
          rw [ex, ey, ev, ex', ey', ev'] at KE TW
          clear ex ey ev ex' ey' ev' hc1 hc2 hc3 hd1 hd2 hd3 g NE hb
          go_wp2_with fail
          refine wp_region_held_drew (S := Two wr b (off + k * 3) b' (off' + k * 3) x y hv x' y' hv') hmx TW.out.drew (fun hS => ?_)
          refine wpAnyH_takeD (i := 0) (d := some 17) (v := (.slice (some ⟨b, off, none⟩) len cap)) rfl rfl (by kernel_rfl) (by kernel_rfl) (by kernel_rfl) (fun _ _ _ h => h) (Or.inl ⟨by rfl, ?_⟩) (by assumption) ?_
          · intro X hX; go_simp
          simp only [Act.put, List.setIfInBounds_toArray, List.set_cons_zero, List.set_cons_succ]
          refine wpAnyH_takeD (i := 1) (d := some 18) (v := (.int .i64 k)) rfl rfl (by kernel_rfl) (by kernel_rfl) (by kernel_rfl) (fun _ _ _ h => h) (Or.inl ⟨by rfl, ?_⟩) (by assumption) ?_
          · intro X hX; go_simp
          simp only [Act.put, List.setIfInBounds_toArray, List.set_cons_zero, List.set_cons_succ]
          refine wpAnyH_takeD (i := 2) (d := some 19) (v := (.pointer (some ⟨b, off + k * 3, none⟩))) rfl rfl (by kernel_rfl) (by kernel_rfl) (by kernel_rfl) (fun _ _ _ h => h) (Or.inl ⟨by rfl, ?_⟩) (by assumption) ?_
          · intro X hX; go_simp
          simp only [Act.put, List.setIfInBounds_toArray, List.set_cons_zero, List.set_cons_succ]
          refine wpAnyH_takeD (i := 3) (d := some 20) (v := (.agg #[.int .u64 x, .int .u64 y, hv])) rfl rfl (by kernel_rfl) (by kernel_rfl) (by kernel_rfl) (fun _ _ _ h => h) (Or.inl ⟨by rfl, ?_⟩) (by assumption) ?_
          · intro X hX; obtain ⟨d0, d1, d2, d3, d4, d5, d6⟩ := hX; go_simp
          simp only [Act.put, List.setIfInBounds_toArray, List.set_cons_zero, List.set_cons_succ]
          refine wpAnyH_takeD (i := 4) (d := some 21) (v := (.slice (some ⟨b', off', none⟩) len cap')) rfl rfl (by kernel_rfl) (by kernel_rfl) (by kernel_rfl) (fun _ _ _ h => h) (Or.inl ⟨by rfl, ?_⟩) (by assumption) ?_
          · intro X hX; go_simp
          simp only [Act.put, List.setIfInBounds_toArray, List.set_cons_zero, List.set_cons_succ]
          refine wpAnyH_takeD (i := 5) (d := some 22) (v := (.int .i64 k)) rfl rfl (by kernel_rfl) (by kernel_rfl) (by kernel_rfl) (fun _ _ _ h => h) (Or.inl ⟨by rfl, ?_⟩) (by assumption) ?_
          · intro X hX; go_simp
          simp only [Act.put, List.setIfInBounds_toArray, List.set_cons_zero, List.set_cons_succ]
          refine wpAnyH_takeD (i := 6) (d := some 23) (v := (.pointer (some ⟨b', off' + k * 3, none⟩))) rfl rfl (by kernel_rfl) (by kernel_rfl) (by kernel_rfl) (fun _ _ _ h => h) (Or.inl ⟨by rfl, ?_⟩) (by assumption) ?_
          · intro X hX; go_simp
          simp only [Act.put, List.setIfInBounds_toArray, List.set_cons_zero, List.set_cons_succ]
          refine wpAnyH_takeD (i := 7) (d := some 24) (v := (.agg #[.int .u64 x', .int .u64 y', hv'])) rfl rfl (by kernel_rfl) (by kernel_rfl) (by kernel_rfl) (fun _ _ _ h => h) (Or.inl ⟨by rfl, ?_⟩) (by assumption) ?_
          · intro X hX; obtain ⟨d0, d1, d2, d3, d4, d5, d6⟩ := hX; go_simp
          simp only [Act.put, List.setIfInBounds_toArray, List.set_cons_zero, List.set_cons_succ]
          refine wpAnyH_ready (rs := [8]) (by kernel_rfl) (by simp) ?_
          refine AllReadyH.cons (o := _) rfl (fun K hK => ?_) AllReadyH.nil
          go_simp
          refine (KE.out _ hS.bl).mono ?_
          rintro e wq ⟨rfl, hb1⟩
          have hS := hS.below hb1
          clear hb1
          go_simp
          refine hK.out _ _ hS (fun _ => ?_)
          clear hK K
          refine wpAnyH_takeD (i := 9) (d := some 26) (v := (.bool true)) rfl rfl (by kernel_rfl) (by kernel_rfl) (by kernel_rfl) (fun _ _ _ h => h) (Or.inl ⟨by rfl, ?_⟩) (by assumption) ?_
          · intro X hX; go_simp
          simp only [Act.put, List.setIfInBounds_toArray, List.set_cons_zero, List.set_cons_succ]
          refine wpAnyH_done (by kernel_rfl) ?_ _
          have BB := hide (bl_trans HB.out hS.bl)
          clear hS
          go_wp2
          go_ret
          exact ⟨by rw [BAD.out] <;> rfl, BB.out⟩
      · have hk' : k = len := by omega
        have GOOD := hide (show sameV l l' = true from decide_eq_true (ents_ext (by rw [hl.out, hl'.out]) (fun i hi => HN.out i (by rw [hl.out] at hi; omega))))
        subst hk'
        go_wp2
        go_ret
        exact ⟨by rw [GOOD.out] <;> rfl, HB.out⟩
  · have hn' : ¬ (len : Int) = (len' : Int) := by omega
    have BAD := hide (show sameV l l' = false from decide_eq_false fun e => hn (by have := congrArg List.length e; simp only [List.length_map] at this; rw [← hl.out, ← hl'.out]; exact this))
    go_enter Tryd.func18, Tryd.ntmps18
    go_wp2
    go_ret
    exact ⟨by rw [BAD.out] <;> rfl, Below.refl _ _⟩
end Go.Proofs.YtbphphmjhcehkaaDoor
