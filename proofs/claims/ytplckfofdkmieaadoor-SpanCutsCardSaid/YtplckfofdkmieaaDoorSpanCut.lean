/- Contracts of span.Cut, of the reference's, of slices.Equal over one list twice. -/
import Derived.Test.YtplckfofdkmieaaDoorSpanParts
import Derived.Test.YtplckfofdkmieaaDoorOwnList
import Derived.Maps.OwnIn
import Derived.Shelf.Abstract
import Derived.Stop.RegionWithIn
import Derived.RegionIn
namespace Go.Proofs.YtplckfofdkmieaaDoor
open Go.RowKit
attribute [local go_sem] Oper.semAt_some

theorem info_iv : (Tryd.prog.info? 24).map (fun i => (i.zero, i.size, i.bytes)) = some (some (.agg #[.int .u64 0, .int .u64 0]), 2, 16) := by kernel_rfl
theorem word_pc {al ah bl bh : Int} (h1 : Word al) (h2 : Word ah) (h3 : Word bl) (h4 : Word bh) : ∀ z ∈ pcL al ah bl bh, Word z.1 ∧ Word z.2 := by
  intro z hz
  unfold pcL pcLo pcHi at hz
  rw [List.mem_append] at hz
  rcases hz with hz | hz
  · split at hz
    · next h =>
      simp at hz
      subst hz
      exact ⟨h1, word_mn h2 (by unfold Word at *; omega)⟩
    · simp at hz
  · split at hz
    · next h =>
      simp at hz
      subst hz
      exact ⟨word_mx h1 (by unfold Word at *; omega), h2⟩
    · simp at hz
theorem pc_len (al ah bl bh : Int) : (pcL al ah bl bh).length ≤ 2 := by
  unfold pcL pcLo pcHi
  split <;> split <;> simp

/-- The variable that collects the parts: its row is one of the loop's own, behind the first two blocks. -/
structure Outs (w : World) (B D : Nat) (zs : List Iv) (W : World) : Prop where
  out : ∃ v, W.heap[B]? = some (.cells #[v] 44 (0, 0)) ∧ OwnL W D 24 v zs
  bl : Below w.heap.size w W
theorem row_only {w w' : World} {base n s : Nat} {t : TypeId} {v : Value} {xs : List Value} {may : Nat → Prop} (h : w.ownsRow base t s v n xs) (hb : Only may w w') (hm : ∀ k, may k → k < base) : w'.ownsRow base t s v n xs := by
  refine ⟨h.1, ?_⟩
  rcases h.2 with hn | ⟨g, cap, cur, hv, hg, hc, rest⟩
  · exact .inl hn
  · exact .inr ⟨g, cap, cur, hv, hg, hb.obj (fun k => by have := hm _ k; omega) hc, rest⟩
theorem OwnL.only {w w' : World} {base : Nat} {t : TypeId} {v : Value} {zs : List Iv} {may : Nat → Prop} (h : OwnL w base t v zs) (hb : Only may w w') (hm : ∀ k, may k → k < base) : OwnL w' base t v zs := ⟨row_only h.row hb hm, h.words⟩
theorem Outs.only {w : World} {B D : Nat} {zs : List Iv} {A A' : World} {may : Nat → Prop} (h : Outs w B D zs A) (ho : Only may A A') (hB : ¬ may B) (hw : ∀ k, may k → w.heap.size ≤ k) (hD : ∀ k, may k → k < D) : Outs w B D zs A' := by
  obtain ⟨⟨v, h1, h2⟩, h3⟩ := h
  exact ⟨⟨v, ho.obj hB h1, h2.only ho hD⟩, h3.trans (ho.below h3.size hw)⟩

/-- slices.Clip over a list that is read. -/
theorem clip_any (a : Option Addr) (len cap : Nat) (w : World) (hle : len ≤ cap) :
    Calls Tryd.prog 33 #[.slice a len cap] w fun e w' => e = .returned (.slice a len len) ∧ w = w' := by
  go_enter Tryd.func33, Tryd.ntmps33
  go_wp2
  go_ret
  exact ⟨rfl, rfl⟩
/-- A list of the call's own, as the functions read it. -/
theorem OwnL.prs2 {w : World} {base : Nat} {t : TypeId} {v : Value} {zs : List Iv} (h : OwnL w base t v zs) : ∃ a cap, v = .slice a zs.length cap ∧ Prs w a zs.length zs ∧ zs.length ≤ cap ∧ cap ≤ 9223372036854775807 ∧ (a = none → cap = 0) := by
  obtain ⟨a, cap, hv, hP, hle, hn⟩ := h.prs
  refine ⟨a, cap, hv, hP, hle, ?_, hn⟩
  rcases h.row.2 with ⟨hv', _⟩ | ⟨g, cap', cur, hv', _, _, _, hm, _⟩
  · rw [hv] at hv'
    simp at hv'
    omega
  · rw [hv] at hv'
    simp at hv'
    unfold maxLen at hm
    omega
theorem take_snoc_mem (zs : List Iv) (k : Nat) (h : k < zs.length) : zs[k] = (Lo zs k, Hi zs k) := by
  unfold Lo Hi
  simp [List.getD_eq_getElem?_getD, List.getElem?_eq_getElem h]
theorem take_snoc (zs : List Iv) (k : Nat) (h : k < zs.length) : zs.take k ++ [(Lo zs k, Hi zs k)] = zs.take (k + 1) := by
  rw [List.take_succ_eq_append_getElem h]
  congr 2
  unfold Lo Hi
  simp [List.getD_eq_getElem?_getD, List.getElem?_eq_getElem h]

/-- A list that is read lies as it lay where its block does. -/
theorem Prs.only {w w1 : World} {a : Option Addr} {len : Nat} {zs : List Iv} {may : Nat → Prop} (h : Prs w a len zs) (ho : Only may w w1) (hm : ∀ b off, a = some ⟨b, off, none⟩ → ¬ may b) : Prs w1 a len zs :=
  ⟨h.length, h.most, h.words, fun i hi => by
    obtain ⟨b, off, e, hb, h1, h2⟩ := h.cells i hi
    exact ⟨b, off, e, Nat.lt_of_lt_of_le hb ho.size, ho.cell (hm b off e) h1, ho.cell (hm b off e) h2⟩⟩
theorem grown_kept {A A' : World} {row : Option Nat} {b : Nat} {o : Obj} (hg : A.grownBy A' row) (hlt : b < A.heap.size) (hne : some b ≠ row) (h : A.heap[b]? = some o) : A'.heap[b]? = some o := (hg.block b hlt hne).trans h
theorem Only.grown {may : Nat → Prop} {A B C : World} {row : Option Nat} (h : Only may A B) (hg : B.grownBy C row) (hr : ∀ k, row = some k → may k) : Only may A C :=
  h.trans ⟨hg.os, hg.tape, hg.output, hg.size, fun k hk hl => hg.block k hk (fun e => hl (hr k e.symm))⟩

set_option maxRecDepth 100000 in
set_option maxHeartbeats 2000000 in
theorem cut_any (al ah bl bh : Int) (h1 : Word al) (h2 : Word ah) (h3 : Word bl) (h4 : Word bh) (w : World) :
    Calls Tryd.prog 24 #[.agg #[.int .u64 al, .int .u64 ah], .agg #[.int .u64 bl, .int .u64 bh]] w fun e w' => ∃ a, e = .returned (.slice a (pcL al ah bl bh).length (pcL al ah bl bh).length) ∧ Prs w' a (pcL al ah bl bh).length (pcL al ah bl bh) ∧ Below w.heap.size w w' := by
  obtain ⟨i0, hi, hz0, hz1, hz2⟩ := info_parts info_iv
  have hlen := pc_len al ah bl bh
  have hwd := hide (word_pc h1 h2 h3 h4)
  have HP := hide (fun n hn Ba Bb w0 M ha hb hMa hMb => parts1_free n hn Ba Bb al ah bl bh h1 h2 h3 h4 w0 M ha hb hMa hMb)
  have HC := hide (parts_any al ah bl bh)
  clear h1 h2 h3 h4
  obtain ⟨zs, ez⟩ : ∃ zs, zs = pcL al ah bl bh := ⟨_, rfl⟩
  rw [← ez] at hlen hwd HP ⊢
  clear ez
  refine (callsIn_wide (n := 6)).1 ?_
  refine callsIn_of_wp_marks Tryd.func24 rfl trivial ?_ rfl
  simp only [Tryd.ntmps24, List.size_toArray, List.length_cons, List.length_nil, Nat.reduceAdd, Nat.reduceSub, Array.replicate_succ, Array.replicate_zero, List.push_toArray, List.append_toArray, List.nil_append, List.cons_append]
  gi_wp2_with (refine ⟨trivial, ?_⟩; gi_at_call 32; refine (callsIn_wide.2 (HC.out _)).mono ?_; rintro e w' ⟨rfl, rfl⟩)
  obtain ⟨U, hU⟩ : ∃ U, ((w.alloc (.cells #[.int .u64 al, .int .u64 ah] 24)).alloc (.cells #[.int .u64 bl, .int .u64 bh] 24)).alloc (.cells #[.slice none 0 0] 44) = U := ⟨_, rfl⟩
  have uB : U.heap.size = w.heap.size + 3 := by rw [← hU]; simp
  have uE : Below w.heap.size w U := by rw [← hU]; exact bl_alloc (bl_alloc (bl_alloc (Below.refl _ _) _) _) _
  have u2 : U.heap[w.heap.size + 2]? = some (.cells #[.slice none 0 0] 44 (0, 0)) := by rw [← hU]; exact heap_new_at _ _ (by simp)
  rw [hU]
  obtain ⟨V, hV⟩ : ∃ V, (U.alloc (.cells #[.int .u64 al, .int .u64 ah] 24)).alloc (.cells #[.int .u64 bl, .int .u64 bh] 24) = V := ⟨_, rfl⟩
  have hB : V.heap.size = w.heap.size + 5 := by rw [← hV]; simp [uB]
  have bel : Below w.heap.size w V := by rw [← hV]; exact bl_alloc (bl_alloc uE _) _
  have p2 : V.heap[w.heap.size + 2]? = some (.cells #[.slice none 0 0] 44 (0, 0)) := by rw [← hV]; exact heap_old_at _ _ (by simp; omega) (heap_old_at _ _ (by omega) u2)
  have p3 : V.heap[w.heap.size + 3]? = some (.cells #[.int .u64 al, .int .u64 ah] 24 (0, 0)) := by rw [← hV]; exact heap_old_at _ _ (by simp; omega) (heap_new_at _ _ uB.symm)
  have p4 : V.heap[w.heap.size + 4]? = some (.cells #[.int .u64 bl, .int .u64 bh] 24 (0, 0)) := by rw [← hV]; exact heap_new_at _ _ (by simp; omega)
  rw [hV]
  clear hV hU u2 uE uB

  refine wpIn_rangeFunc_free (gf := 40) (lb := #[.pointer (some ⟨w.heap.size + 4, 0, none⟩), .pointer (some ⟨w.heap.size + 3, 0, none⟩)]) rfl (by omega) rfl trivial (enters_of Tryd.func40 (by kernel_rfl) rfl)
    (HP.out _ (by omega) (w.heap.size + 3) (w.heap.size + 4) V (fun b => b = w.heap.size + 2 ∨ V.heap.size + 2 ≤ b) p3 p4 (by omega) (by omega)) (Below.refl _ _) (fun _ => rfl) (fun k hk => by omega)
    (fun k W => Outs w (w.heap.size + 2) (V.heap.size + 2) (zs.take k) W)
    (fun _ _ _ => False) ?hI (fun _ _ _ _ h _ => h) ⟨⟨_, p2, World.ownsRow_nil _ _ _ _, by simp⟩, bel⟩
    (fun k a₁ W => ∃ Bs, V.heap.size + 2 ≤ Bs ∧ W.heap[Bs]? = some (.cells #[.int .u64 (Lo zs k), .int .u64 (Hi zs k)] 24 (0, 0)) ∧ Outs w (w.heap.size + 2) (V.heap.size + 2) (zs.take k) W ∧
      a₁ = { tmps := #[.agg #[.int .u64 al, .int .u64 ah], .agg #[.int .u64 bl, .int .u64 bh], .pointer (some ⟨w.heap.size, 0, none⟩), .pointer (some ⟨w.heap.size + 1, 0, none⟩), .slice none 0 0, .pointer (some ⟨w.heap.size + 2, 0, none⟩), .pointer (some ⟨Bs, 0, none⟩),
        .agg #[.int .u64 al, .int .u64 ah], .agg #[.int .u64 bl, .int .u64 bh], .func (.func 40) #[] #[.pointer (some ⟨w.heap.size + 4, 0, none⟩), .pointer (some ⟨w.heap.size + 3, 0, none⟩)],
        .agg #[.int .u64 (Lo zs k), .int .u64 (Hi zs k)], undef, undef, undef, undef, undef, undef], defers := [] })
    ?hAx ?assign ?body ?done (fun _ _ _ _ _ _ h _ => h.elim)
  case hI =>
    intro k A B h ho
    exact h.only ho (by omega) (fun k hk => by omega) (fun k hk => by omega)
  case hAx =>
    rintro k a₁ A B ⟨Bs, g1, c1, h, e⟩ ho
    exact ⟨Bs, g1, ho.obj (fun h => by omega) c1, h.only ho (by omega) (fun k hk => by omega) (fun k hk => by omega), e⟩
  case assign =>
    rintro l k W hlt h hk
    simp only [encP]
    gi_wp2
    exact ⟨(Only.refl _ _).alloc _, W.heap.size, hlt, heap_new_at _ _ rfl, h.only ((Only.refl (fun _ => False) _).alloc _) (fun h => h) (fun k hk => hk.elim) (fun k hk => hk.elim), rfl⟩
  case body =>
    rintro l k a₁ W hlt ⟨Bs, g1, c1, ⟨⟨v, hv, hO⟩, hbl⟩, rfl⟩ hk
    obtain ⟨lo, elo⟩ : ∃ x, x = Lo zs k := ⟨_, rfl⟩
    obtain ⟨hiv, ehi⟩ : ∃ x, x = Hi zs k := ⟨_, rfl⟩
    have hw2 := hide (hwd.out (lo, hiv) (by rw [elo, ehi]; rw [← take_snoc_mem zs k hk]; exact List.getElem_mem _))
    have hsn := hide (take_snoc zs k hk)
    rw [← elo, ← ehi] at c1 hsn ⊢
    clear elo ehi
    have t0 : W.cell? ⟨Bs, 0, none⟩ = some (.int .u64 lo) := by simp [World.cell?, c1]
    have t1 : W.cell? ⟨Bs, 1, none⟩ = some (.int .u64 hiv) := by simp [World.cell?, c1]
    have v0 : W.cell? ⟨w.heap.size + 2, 0, none⟩ = some v := by simp [World.cell?, hv]
    have hsz := hbl.size
    have hkl : (zs.take k).length = k := by rw [List.length_take]; omega
    have hvB : ∀ g, v.ownBlock = some g → V.heap.size + 2 ≤ g := fun g hg => (hO.row.lt g hg).1
    gi_wp2_with (gi_at_builtin; refine wpListIn_append_own_at _ rfl _ _ 44 rfl (V.heap.size + 2) 24 i0 (.agg #[.int .u64 0, .int .u64 0]) 2 16 Tryd.underlying44 hi hz0 hz1 hz2 rfl (by decide) _ _ _ rfl (row_only hO.row ((Only.refl (fun _ => False) W).alloc _) (fun k h => h.elim)) ⟨W.heap.size, 0, none⟩ 1 1 [.int .u64 lo, .int .u64 hiv] rfl rfl (cell_two_new _ _ _ _) (two_one _ _) (by unfold maxLen; omega) (by omega) (by simp; omega) ?_; intro v' w1 hown' hgrow _ _; obtain ⟨g', cap', rfl⟩ := ownsRow_succ hown'; have hv1 := grown_kept hgrow (by simp; omega) (fun e => by have := hvB _ e.symm; omega) (heap_old_at W (.cells #[.int .u64 lo, .int .u64 hiv] 24) (Blk_lt hv) hv); have y0 : w1.cell? ⟨w.heap.size + 2, 0, none⟩ = some v := (by simp [World.cell?, hv1]); have y1 : w1.frozen? ⟨w.heap.size + 2, 0, none⟩ = false := frozen_of_row w1 _ 0 _ _ hv1)
    have o1 : Only (fun b => b = w.heap.size + 2 ∨ V.heap.size + 2 ≤ b) W w1 := ((Only.refl _ W).alloc (.cells #[.int .u64 lo, .int .u64 hiv] 24)).grown hgrow (fun g hg => .inr (hvB g hg))
    have o2 := o1.setCell (p := ⟨w.heap.size + 2, 0, none⟩) (.inl (.inl rfl)) (.slice (some ⟨g', 0, none⟩) ((zs.take k).length + 1) cap')
    have hrow : OwnL w1 (V.heap.size + 2) 24 (.slice (some ⟨g', 0, none⟩) ((zs.take k).length + 1) cap') (zs.take (k + 1)) := by
      have e1 : (zs.take k).length + 1 = (zs.take (k + 1)).length := by rw [← hsn.out]; simp
      have e2 : cellsL (zs.take k) ++ [.int .u64 lo, .int .u64 hiv] = cellsL (zs.take (k + 1)) := by rw [cellsL_snoc, hsn.out]
      refine ⟨?_, fun z hz => hwd.out z (List.mem_of_mem_take hz)⟩
      rw [← e1, ← e2]
      exact hown'
    rw [hkl] at o2 hrow
    simp only [hB] at o2 hrow
    refine ⟨o2, ⟨_, heap_setCell_same _ _ 0 _ _ _ hv1, hrow.only ((Only.refl (fun b => b = w.heap.size + 2) w1).setCell (p := ⟨w.heap.size + 2, 0, none⟩) (.inl rfl) _) (fun k hk => by omega)⟩, hbl.trans (o2.below hbl.size (fun k hk => by omega))⟩
  case done =>
    rintro D W hD ⟨⟨v, hv, hO⟩, hbl⟩ hK
    rw [List.take_length] at hO
    obtain ⟨a, cap, rfl, hP, hle, _, _⟩ := hO.prs2
    have hD' : ∀ b off, a = some ⟨b, off, none⟩ → ¬ b = D := fun b off e h => by
      subst h; subst e
      rcases hO.row.2 with ⟨hv', _⟩ | ⟨g, cap', cur, hv', _, hc, _⟩
      · cases hv'
      · simp at hv'
        obtain ⟨⟨rfl, _⟩, _⟩ := hv'
        rw [hc] at hK
        cases hK
    have HC := hide (fun X => clip_any a zs.length cap X hle)
    have v0 : W.cell? ⟨w.heap.size + 2, 0, none⟩ = some (.slice a zs.length cap) := by simp [World.cell?, hv]
    gi_wp2_with (refine ⟨trivial, ?_⟩; gi_at_call 33; refine (callsIn_wide.2 (HC.out _)).mono ?_; rintro e w' ⟨rfl, rfl⟩)
    refine ⟨by simp, .inl ⟨_, _, rfl, run_takeDeferred hK, ?_⟩⟩
    have oD := Only.putObj (may := fun x => x = D) W D (.deferred none) rfl
    exact ⟨_, results_tmp rfl _ _ _, a, rfl, hP.only oD (fun b off h => hD' b off h), hbl.trans (oD.below (n := w.heap.size) hbl.size (fun k (hk : k = D) => by omega))⟩
end Go.Proofs.YtplckfofdkmieaaDoor
