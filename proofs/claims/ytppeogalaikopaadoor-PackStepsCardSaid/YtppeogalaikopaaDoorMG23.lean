/- The walks of the reference's entry, over what its calls do. The reference's entry, beside what is read number by number. The reference's Vector, beside what is read number by number. The reference's Vector reads what the Reader reads. -/
import Derived.Test.YtppeogalaikopaaDoorMG13
import Derived.Test.YtppeogalaikopaaDoorMG10
import Derived.Test.YtppeogalaikopaaDoorMG12
namespace Go.Proofs.YtppeogalaikopaaDoor
open Go Go.RowKit
set_option linter.unusedSimpArgs false
set_option linter.unusedVariables false

def EJ (lm : Lim) (zs : List Int) (o : Except (Int × Int) (List Ent × Int)) (p : Nat) (bv : Value) (len : Nat) (es : List Ent) (x mx ents : Int) (n k : Nat) (hs : List Iv) (W : World) : Prop :=
  (∃ a, CGo W p bv len a ∧ AfterN lm zs o (holeS ⟨.op, es, ⟨x, mx, hs⟩, ents, (n : Int) - k⟩) a) ∨ (∃ c at', o = .error (c, at') ∧ CErr W p bv len c at')
theorem ej_loc {lm : Lim} {zs : List Int} {o : Except (Int × Int) (List Ent × Int)} {p : Nat} {bv : Value} {len : Nat} {es : List Ent} {x mx ents : Int} {n k : Nat} {hs : List Iv} : LocP p (EJ lm zs o p bv len es x mx ents n k hs) :=
  ⟨fun W W' e h => h.elim (fun ⟨a, h1, h2⟩ => .inl ⟨a, (cgo_loc p bv len a).st W W' e h1, h2⟩) (fun ⟨c, at', h1, h2⟩ => .inr ⟨c, at', h1, (cerr_loc p bv len c at').st W W' e h2⟩)⟩
theorem ej_typed {lm : Lim} {zs : List Int} {o : Except (Int × Int) (List Ent × Int)} {p : Nat} {bv : Value} {len : Nat} {es : List Ent} {x mx ents : Int} {n k : Nat} {hs : List Iv} {W : World} (h : EJ lm zs o p bv len es x mx ents n k hs W) : Typed W 42 p := by
  rcases h with ⟨a, h, _⟩ | ⟨c, at', _, _, nx, h⟩
  · exact CurC.typed h
  · exact CurC.typed h
/-- The memory of entry's loop. -/
structure EntM (w : World) (p q r8 : Nat) (x mx : Int) (hs : List Iv) (hv : Value) (W : World) : Prop where
  q : W.heap[q]? = some (.cells #[.int .u64 x, .int .u64 mx, hv] 65 (0, 0))
  r : W.heap[r8]? = some (.cells #[.int .u64 0, .int .u64 0, .slice none 0 0] 65 (0, 0))
  own : OwnL W w.heap.size 68 hv hs
  only : Only (fun b => b = p) w W
theorem EntM.call {w W W' : World} {p q r8 : Nat} {x mx : Int} {hs : List Iv} {hv : Value} (h : EntM w p q r8 x mx hs hv W) (ho : Only (fun b => b = p) W W') (ht : Typed W 42 p) (hq : q ≠ p) (hr : r8 ≠ p) : EntM w p q r8 x mx hs hv W' :=
  ⟨ho.obj hq h.q, ho.obj hr h.r, ⟨own_only h.own.row ho (fun k hk hy => by subst hy; exact ht.ne (own_typed h.own.row hk) (by decide) rfl), h.own.words⟩, h.only.trans ho⟩
theorem EntM.below {w W W' : World} {p q r8 : Nat} {x mx : Int} {hs : List Iv} {hv : Value} (h : EntM w p q r8 x mx hs hv W) (hb : Below W.heap.size W W') : EntM w p q r8 x mx hs hv W' :=
  ⟨(hb.block _ (Blk_lt h.q)).trans h.q, (hb.block _ (Blk_lt h.r)).trans h.r, h.own.keep hb, h.only.call hb⟩
theorem EntM.cells {w W : World} {p q r8 : Nat} {x mx : Int} {hs : List Iv} {hv : Value} (h : EntM w p q r8 x mx hs hv W) : W.cell? ⟨q, 0, none⟩ = some (.int .u64 x) ∧ W.cell? ⟨q, 1, none⟩ = some (.int .u64 mx) ∧ W.cell? ⟨q, 2, none⟩ = some hv ∧ (∀ j, W.frozen? ⟨q, j, none⟩ = false) := by
  refine ⟨?_, ?_, ?_, fun j => ?_⟩ <;> simp [World.cell?, World.frozen?, h.q]
theorem EntM.rcells {w W : World} {p q r8 : Nat} {x mx : Int} {hs : List Iv} {hv : Value} (h : EntM w p q r8 x mx hs hv W) : W.cell? ⟨r8, 0, none⟩ = some (.int .u64 0) ∧ W.cell? ⟨r8, 1, none⟩ = some (.int .u64 0) ∧ W.cell? ⟨r8, 2, none⟩ = some (.slice none 0 0) ∧ (∀ j, W.frozen? ⟨r8, j, none⟩ = false) := by
  refine ⟨?_, ?_, ?_, fun j => ?_⟩ <;> simp [World.cell?, World.frozen?, h.r]
theorem EntM.push {w W w3 : World} {p q r8 : Nat} {x mx lo hi : Int} {hs : List Iv} {hv hv' : Value} {ob : Obj} (h : EntM w p q r8 x mx hs hv W) (ht : Typed W 42 p) (hp : p < w.heap.size) (hq : w.heap.size ≤ q) (hqr : r8 ≠ q) (wl : Word lo) (wh : Word hi)
    (hown : w3.ownsRow w.heap.size 68 2 hv' (hs.length + 1) (cellsL hs ++ [.int .u64 lo, .int .u64 hi])) (hg : (W.alloc ob).grownBy w3 hv.ownBlock) :
    (w3.cell? ⟨q, 2, none⟩ = some hv ∧ ∀ j, w3.frozen? ⟨q, j, none⟩ = false) ∧ EntM w p q r8 x mx (hs ++ [(lo, hi)]) hv' (w3.setCell ⟨q, 2, none⟩ hv') ∧ (w3.setCell ⟨q, 2, none⟩ hv').heap[p]? = W.heap[p]? := by
  have o1 : Only (fun b => hv.ownBlock = some b) W w3 := ((Only.refl _ W).alloc ob).trans (only_of_grown hg)
  have tq : Typed W 65 q := ⟨_, h.q⟩
  have th : ∀ k, hv.ownBlock = some k → Typed W 68 k := fun k hk => own_typed h.own.row hk
  have nq : ¬ hv.ownBlock = some q := fun hk => tq.ne (th _ hk) (by decide) rfl
  have nr : ¬ hv.ownBlock = some r8 := fun hk => Typed.ne ⟨_, h.r⟩ (th _ hk) (by decide) rfl
  have np : ¬ hv.ownBlock = some p := fun hk => ht.ne (th _ hk) (by decide) rfl
  have q3 := o1.obj nq h.q
  have r3 := o1.obj nr h.r
  have o2 : Only (fun b => b = q) w3 (w3.setCell ⟨q, 2, none⟩ hv') := (Only.refl (fun b => b = q) w3).setCell (p := ⟨q, 2, none⟩) (.inl rfl) _
  have hpW : p < W.heap.size := Nat.lt_of_lt_of_le hp h.only.size
  refine ⟨⟨by simp [World.cell?, q3], fun j => by simp [World.frozen?, q3]⟩, ⟨heap_setCell_same _ _ 2 _ _ _ q3, o2.obj hqr r3, ⟨?_, ?_⟩, ?_⟩, ?_⟩
  · rw [cellsL_snoc] at hown
    have := own_only hown o2 (fun k hk hy => by subst hy; exact Typed.ne ⟨_, q3⟩ (own_typed hown hk) (by decide) rfl)
    simpa using this
  · intro z hz
    rcases List.mem_append.1 hz with hz | hz
    · exact h.own.words z hz
    · simp at hz; subst hz; exact ⟨wl, wh⟩
  · exact (only_newer h.only (o1.wide (fun _ hk => hk)) (fun b hb => .inr (h.own.row.lt b hb).1)).setCell (p := ⟨q, 2, none⟩) (.inr hq) _
  · rw [o2.block p (Nat.lt_of_lt_of_le hpW o1.size) (show ¬ p = q by omega)]
    exact o1.block p hpW np
/-- What entry comes to. -/
def EntPost (lm : Lim) (zs : List Int) (o : Except (Int × Int) (List Ent × Int)) (p : Nat) (bv : Value) (len : Nat) (es : List Ent) (x mx ents : Int) (n : Nat) (w : World) (e : Ending) (w' : World) : Prop :=
  Only (fun b => b = p) w w' ∧ ∃ hs hv, e = .returned (.agg #[.int .u64 x, .int .u64 mx, hv]) ∧ OwnL w' w.heap.size 68 hv hs ∧ EJ lm zs o p bv len es x mx ents n n hs w'
theorem ent_end {lm : Lim} {zs : List Int} {o : Except (Int × Int) (List Ent × Int)} {p q : Nat} {bv : Value} {len : Nat} {es : List Ent} {x mx ents : Int} {n : Nat} {hs : List Iv} {hv : Value} {w W : World} (h : EntM w p q (w.heap.size + 1) x mx hs hv W) (hJ : EJ lm zs o p bv len es x mx ents n n hs W) (hp : w.heap.size + 1 ≠ p) (hq : w.heap.size + 1 ≠ q) :
    EntPost lm zs o p bv len es x mx ents n w (.returned (.agg #[.int .u64 x, .int .u64 mx, hv])) (((W.setCell ⟨w.heap.size + 1, 0, none⟩ (.int .u64 x)).setCell ⟨w.heap.size + 1, 1, none⟩ (.int .u64 mx)).setCell ⟨w.heap.size + 1, 2, none⟩ hv) := by
  have o2 : Only (fun b => b = w.heap.size + 1) W (((W.setCell ⟨w.heap.size + 1, 0, none⟩ (.int .u64 x)).setCell ⟨w.heap.size + 1, 1, none⟩ (.int .u64 mx)).setCell ⟨w.heap.size + 1, 2, none⟩ hv) :=
    (((Only.refl (fun b => b = w.heap.size + 1) W).setCell (p := ⟨w.heap.size + 1, 0, none⟩) (.inl rfl) _).setCell (p := ⟨w.heap.size + 1, 1, none⟩) (.inl rfl) _).setCell (p := ⟨w.heap.size + 1, 2, none⟩) (.inl rfl) _
  have hpl : p < W.heap.size := by
    rcases hJ with ⟨a, h1, _⟩ | ⟨c, a, _, _, nx, h1⟩
    · exact CurC.lt h1
    · exact CurC.lt h1
  refine ⟨only_newer h.only o2 (fun b hb => .inr (by omega)), hs, hv, rfl, ⟨own_only h.own.row o2 (fun k hk hy => by subst hy; exact Typed.ne ⟨_, h.r⟩ (own_typed h.own.row hk) (by decide) rfl), h.own.words⟩, ej_loc.st _ _ (o2.block p hpl (fun e => hp e.symm)) hJ⟩
theorem holeS_ph (q r : Ph) (es : List Ent) (cur : Ent) (ents h : Int) : holeS ⟨q, es, cur, ents, h⟩ = holeS ⟨r, es, cur, ents, h⟩ := rfl
/-- The memory in front of the check of a top. -/
structure TopT (p : Nat) (n2 : Int) (b : Nat) (lo hi : Int) (W0 W : World) : Prop where
  nx : W.cell? ⟨p, 1, none⟩ = some (.int .i64 n2)
  lo : W.cell? ⟨b, 0, none⟩ = some (.int .u64 lo)
  hi : W.cell? ⟨b, 1, none⟩ = some (.int .u64 hi)
theorem TopT.below {p b : Nat} {n2 lo hi : Int} {W0 W W' : World} (h : TopT p n2 b lo hi W0 W) (hb : Below W.heap.size W W') : TopT p n2 b lo hi W0 W' := ⟨keep_c hb h.nx, keep_c hb h.lo, keep_c hb h.hi⟩
theorem TopT.drew {p b : Nat} {n2 lo hi : Int} {W0 W : World} (h : TopT p n2 b lo hi W0 W) : TopT p n2 b lo hi W0 W.drew := h.below (bl_drew (Below.refl _ _))

set_option maxRecDepth 100000 in
set_option maxHeartbeats 6400000 in
theorem rent_f {lm : Lim} {zs : List Int} {o : Except (Int × Int) (List Ent × Int)} {ad : Option Addr} {len cap p : Nat} {wb : World} (hI : Ints .u8 wb ad len zs) (hlm : len ≤ 1000000) (hp : wb.heap.size ≤ p) (l : Lim) (es : List Ent) (ents before x a1 mx a2 : Int) (n : Nat) (hn : n ≤ 1000000) (w : World) (C0 C1 C3 : World → Prop)
    (hB : Below wb.heap.size wb w) (hlt : p < w.heap.size) (h0 : C0 w) (L0 : LocP p C0) (L1 : LocP p C1) (L3 : LocP p C3)
    (K1 : Eff p 62 #[.pointer (some ⟨p, 0, none⟩)] (.tuple #[.int .u64 x, .int .i64 a1]) wb C0 C1)
    (K2 : Eff p 62 #[.pointer (some ⟨p, 0, none⟩)] (.tuple #[.int .u64 mx, .int .i64 a2]) wb C1 C3)
    (K3 : Eff p 37 #[.pointer (some ⟨p, 0, none⟩), .int .i64 l.ho] (.int .i64 n) wb C3 (EJ lm zs o p (.slice ad len cap) len es x mx ents n 0 [])) :
    Calls Tryd.prog 40 #[.pointer (some ⟨p, 0, none⟩), .bool true, .int .u64 before, .agg #[.int .i64 l.f, .int .i64 l.ve, .int .i64 l.en, .int .i64 l.ho, .int .i64 l.se]] w (EntPost lm zs o p (.slice ad len cap) len es x mx ents n w) := by
  obtain ⟨i0', hi0, hz0, hz1, hz2⟩ := info_parts info_iv
  have hmx : Tryd.prog.follows .mixedOrders = true := by kernel_rfl
  have INTS := hide hI; have HP := hide hp; have HB := hide hB; have H0 := hide h0; have LL0 := hide L0; have LL1 := hide L1; have LL3 := hide L3; have KK1 := hide K1; have KK2 := hide K2; have KK3 := hide K3
  clear hI hp hB h0 L0 L1 L3 K1 K2 K3 
  go_enter Tryd.func40, Tryd.ntmps40
  go_wp2_with fail
  have hb0 : Below w.heap.size w ((w.alloc (.cells #[.int .i64 l.f, .int .i64 l.ve, .int .i64 l.en, .int .i64 l.ho, .int .i64 l.se] 36)).alloc (.cells #[.int .u64 0, .int .u64 0, .slice none 0 0] 65)) := bl_alloc (bl_alloc (Below.refl _ _) _) _
  refine (KK1.out _ (LL0.out.below hlt hb0 H0.out) (HB.out.trans (hb0.mono HB.out.size)) (keep_lt hb0 hlt)).mono ?_
  rintro e w1 ⟨rfl, hC1, hO1⟩
  have B1 : w1.heap[w.heap.size]? = some (.cells #[.int .i64 l.f, .int .i64 l.ve, .int .i64 l.en, .int .i64 l.ho, .int .i64 l.se] 36 (0, 0)) := hO1.obj (by omega) (heap_old_at _ _ (by simp) (heap_new_at _ _ rfl))
  have R1 : w1.heap[w.heap.size + 1]? = some (.cells #[.int .u64 0, .int .u64 0, .slice none 0 0] 65 (0, 0)) := hO1.obj (by omega) (heap_new_at _ _ (by simp))
  have O1 := hide ((Only.of_below hb0).trans hO1)
  have C1' := hide hC1
  clear hC1 hO1 hb0
  go_wp2_with fail
  have hb4 : Below w1.heap.size w1 (w1.alloc (.cells #[.int .u64 x, .int .u64 0, .slice none 0 0] 65)) := bl_alloc (Below.refl _ _) _
  have hl4 : p < w1.heap.size := Nat.lt_of_lt_of_le hlt O1.out.size
  have hsz := O1.out.size
  have hqr : w.heap.size + 1 ≠ w1.heap.size := by have := Blk_lt R1; omega
  refine (KK2.out _ (LL1.out.below hl4 hb4 C1'.out) (only_bel HP.out HB.out (O1.out.call hb4)) (keep_lt hb4 hl4)).mono ?_
  rintro e w5 ⟨rfl, hC5, hO5⟩
  have B5 := hO5.obj (show ¬ w.heap.size = p by omega) ((hb4.block _ (Blk_lt B1)).trans B1)
  have R5 := hO5.obj (show ¬ w.heap.size + 1 = p by omega) ((hb4.block _ (Blk_lt R1)).trans R1)
  have Q5 : w5.heap[w1.heap.size]? = some (.cells #[.int .u64 x, .int .u64 0, .slice none 0 0] 65 (0, 0)) := hO5.obj (by omega) (heap_new_at _ _ rfl)
  have O5 := hide ((O1.out.call hb4).trans hO5)
  have C5' := hide hC5
  obtain ⟨q, eq⟩ : ∃ q, w1.heap.size = q := ⟨_, rfl⟩
  rw [eq] at Q5 hqr hsz
  have hpq : p ≠ q := by rw [← eq]; omega
  have hq6 := heap_setCell_same _ _ 1 _ _ (.int .u64 mx) Q5
  have o6 : Only (fun b => b = q) w5 (w5.setCell ⟨q, 1, none⟩ (.int .u64 mx)) := (Only.refl (fun b => b = q) w5).setCell (p := ⟨q, 1, none⟩) (.inl rfl) _
  have B6 := o6.obj (show ¬ w.heap.size = q by have := Blk_lt R1; rw [← eq]; omega) B5
  have R6 := o6.obj (show ¬ w.heap.size + 1 = q by omega) R5
  have C6 := hide (LL3.out.st _ _ (o6.block p (Nat.lt_of_lt_of_le hlt O5.out.size) hpq) C5'.out)
  have O6 := hide (O5.out.setCell (p := ⟨q, 1, none⟩) (.inr hsz) (.int .u64 mx))
  have qc : w5.cell? ⟨q, 1, none⟩ = some (.int .u64 0) := by simp [World.cell?, Q5]
  have qf : ∀ j, w5.frozen? ⟨q, j, none⟩ = false := by intro j; simp [World.frozen?, Q5]
  have cb : (w5.setCell ⟨q, 1, none⟩ (.int .u64 mx)).cell? ⟨w.heap.size, 3, none⟩ = some (.int .i64 l.ho) := by simp [World.cell?, B6]
  have HQ6 := hide hq6
  have HR6 := hide R6
  rw [eq]
  clear hC5 hO5 hb4 hl4 eq B1 R1 B5 R5 Q5 hq6 o6 B6 R6
  go_wp2_with fail
  refine (KK3.out _ C6.out (only_bel HP.out HB.out O6.out) (Nat.lt_of_lt_of_le hlt O6.out.size)).mono ?_
  rintro e w7 ⟨rfl, hJ7, hO7⟩
  have M7 := hide (EntM.mk (hs := []) (hO7.obj (fun e => hpq e.symm) HQ6.out) (hO7.obj (show ¬ w.heap.size + 1 = p by omega) HR6.out) (OwnL.nil _ w.heap.size _) (O6.out.trans hO7))
  have J7 := hide hJ7
  clear hJ7 hO7 qc qf cb HQ6 HR6 C6 O6 O5 C5'
  go_wp2_with fail
  go_loopw [15] (fun c wr => ∃ (k : Nat) (hs : List Iv) (hv : Value), k ≤ n ∧ c = .int .i64 k ∧ hs.length = k ∧ EntM w p q (w.heap.size + 1) x mx hs hv wr ∧ EJ lm zs o p (.slice ad len cap) len es x mx ents n k hs wr)
    (fun c _ => n - (intOf c).toNat)
  case atStart => exact ⟨0, [], _, Nat.zero_le _, rfl, rfl, M7.out, J7.out⟩
  case round =>
    clear M7 J7
    obtain ⟨k, hs, hv, hk, rfl, hlk, hM, hJ⟩ := hrel
    have HLK := hide hlk
    clear hlk
    obtain ⟨hva, hvc, ehv, _⟩ := hM.own.prs
    obtain ⟨hvl, ehl⟩ : ∃ hvl, hs.length = hvl := ⟨_, rfl⟩
    rw [ehl] at ehv
    subst ehv
    have EHL := hide ehl
    clear ehl
    have HM := hide hM
    have HJ := hide hJ
    have i0 : (0 : Int) ≤ (k : Int) := by omega
    have ht := ej_typed hJ
    have HT := hide ht
    have hne1 : w.heap.size + 1 ≠ p := by omega
    by_cases hkn : k < n
    · have i1 : (k : Int) < (n : Int) := by omega
      obtain ⟨d0, d1, d2, df⟩ := hM.cells
      rcases hJ with ⟨a, hG, hA⟩ | ⟨c, at', ho, hX⟩
      · have hsl : holeS ⟨.op, es, ⟨x, mx, hs⟩, ents, (n : Int) - k⟩ = ⟨.lo, es, ⟨x, mx, hs⟩, ents, (n : Int) - k - 1⟩ := holeS_lo _ _ _ _ _ (by omega)
        rw [hsl] at hA
        have GO := hide (hA.go rfl)
        have HG := hide hG
        clear hA hsl hM ht hG
        go_wp2_with fail
        refine (stopped_go p _ len a _ HG.out).mono ?_
        rintro e w8 ⟨rfl, rfl⟩
        go_wp2_with fail
        refine (interval_go INTS.out hlm HP.out _ (only_bel HP.out HB.out HM.out.only) HG.out GO.out HM.out.own).mono ?_
        rintro e w1' ⟨hO1, hor⟩
        have hM1 := HM.out.call hO1 HT.out hpq.symm hne1
        have M1 := hide hM1
        rcases hor with ⟨c, at', ho, hX, rfl⟩ | ⟨lo, y, n1, n2, rfl, wl, wh, wy, hg2, hr2, hG2, hn12, hn2⟩
        · have T1 := hide (CurC.typed hX.2.choose_spec)
          have HO := hide ho
          have HX := hide hX
          clear hO1 hM1 d0 d1 d2 df ho hX
          have M2 := hide (M1.out.below (bl_alloc (Below.refl w1'.heap.size w1') (.cells #[.int .u64 0, .int .u64 0] 68)))
          have hpl := Nat.lt_of_lt_of_le hlt M1.out.only.size
          have HX2 := hide ((cerr_loc p (.slice ad len cap) len c at').below hpl (bl_alloc (Below.refl w1'.heap.size w1') (.cells #[.int .u64 0, .int .u64 0] 68)) HX.out)
          have T2 := hide (CurC.typed HX2.out.2.choose_spec)
          obtain ⟨d0, d1, d2, df⟩ := M2.out.cells
          clear M1 HX T1 hpl
          go_wp2_with fail
          refine (stopped_err p _ len c at' _ HX2.out).mono ?_
          rintro e w3' ⟨rfl, rfl⟩
          go_wp2_with (at_builtin; refine wpList_append_own_at _ rfl _ _ 63 rfl w.heap.size 68 i0' (.agg #[.int .u64 0, .int .u64 0]) 2 16 Tryd.underlying63 hi0 hz0 hz1 hz2 rfl (by decide) _ _ _ rfl (M2.out.own.row.alloc _) ⟨w1'.heap.size + 1, 0, none⟩ 1 1 [.int .u64 0, .int .u64 0] rfl rfl ?z1 ?z2 ?z3 ?z4 ?z5 ?_)
          case z1 => exact hnew2 (heap_new_at _ _ (by simp))
          case z2 => intro u hu; simp at hu; subst hu; rfl
          case z3 => have := HLK.out; unfold maxLen; omega
          case z4 => have := HLK.out; omega
          case z5 => have := M2.out.only.size; simp at this ⊢; omega
          intro hv' w3 hown hgrow _ _
          obtain ⟨ha', hc', rfl, _⟩ := own_len hown
          obtain ⟨⟨f2, ff⟩, hM3, hpp⟩ := M2.out.push T2.out hlt hsz hqr zw zw hown hgrow
          have M3 := hide hM3
          have J3 : Hid (EJ lm zs o p (.slice ad len cap) len es x mx ents n (k + 1) (hs ++ [(0, 0)]) (w3.setCell ⟨q, 2, none⟩ (.slice ha' (hs.length + 1) hc'))) := hide (.inr ⟨c, at', HO.out, (cerr_loc p (.slice ad len cap) len c at').st _ _ hpp HX2.out⟩)
          clear hown hgrow hM3 hpp
          go_wp2
          go_roundw
          case rel => first | exact ⟨k + 1, _, _, by omega, by go_num, by simp [HLK.out], M3.out, J3.out⟩ | ((repeat apply Exists.intro); exact ⟨⟨k + 1, _, _, by omega, by go_num, by simp [HLK.out], M3.out, J3.out⟩, rfl⟩)
          case measure => simp [intOf]; omega
        · have HG2 := hide hG2
          have WL := hide wl; have WH := hide wh; have GO2 := hide hg2; have RD2 := hide hr2
          have hb2 := bl_alloc (Below.refl w1'.heap.size w1') (.cells #[.int .u64 lo, .int .u64 (lo + y)] 68)
          have hpl := Nat.lt_of_lt_of_le hlt M1.out.only.size
          have M2 := hide (M1.out.below hb2)
          have HG3 := hide ((cgo_loc p (.slice ad len cap) len n2).below hpl hb2 hG2)
          have T2 := hide (CurC.typed HG3.out)
          obtain ⟨hc0, hc1, _⟩ := CurC.cells HG3.out
          have NX := hide hc1
          clear hO1 hM1 d0 d1 d2 df hG2 wl wh hg2 hr2 hb2 hc0 hc1
          obtain ⟨d0, d1, d2, df⟩ := M2.out.cells
          by_cases hge : mx ≤ lo + y
          · -- the top is not greater
            have ho : o = .error (8, (n1 : Int)) := goN_stop GO2.out RD2.out (by
              show (if _ ∧ _ then _ else _) = _
              rw [if_neg (fun hh => by have := hh.2; simp only at this; omega)])
            have HO := hide ho
            have hvl := (rd_once (fun i => by
              have := INTS.out.wf
              by_cases hi : i < zs.length
              · have e1 : byteAt zs i = zs[i] := by simp [byteAt, List.getD, List.getElem?_eq_getElem hi]
                rw [e1]; exact byte_of_wf (this _ (List.getElem_mem _))
              · have e1 : byteAt zs i = 0 := by simp [byteAt, List.getD, List.getElem?_eq_none (Nat.le_of_not_lt hi)]
                rw [e1]; decide) RD2.out).2
            have KB := hide (fun W => rbytes_any 10 y W wy (by have := wy.2; omega) (by decide) (by decide))
            have qy : IntKind.u64.wrap (lo + y - lo) = y := by rw [show lo + y - lo = y by omega]; exact wrap_word wy
            obtain ⟨L, eL⟩ : ∃ L, (vb 10 y).length = L := ⟨_, rfl⟩
            have EL := hide eL
            rw [eL] at hvl
            have qn : IntKind.i64.wrap ((n2 : Int) - (L : Int)) = (n1 : Int) := by rw [IntKind.wrap_i64]; omega
            have hL9 : L ≤ 10 := by rw [← eL]; exact vb_most 10 y
            clear ho hvl eL
            obtain ⟨b16, eb16⟩ : ∃ b16, w1'.heap.size = b16 := ⟨_, rfl⟩
            have HB16 := hide (show ¬ b16 = p by have := M1.out.only.size; rw [← eb16]; omega)
            have TT := hide (TopT.mk (W0 := w1') NX.out (show (w1'.alloc (.cells #[.int .u64 lo, .int .u64 (lo + y)] 68)).cell? ⟨w1'.heap.size, 0, none⟩ = some (.int .u64 lo) by simp) (show (w1'.alloc (.cells #[.int .u64 lo, .int .u64 (lo + y)] 68)).cell? ⟨w1'.heap.size, 1, none⟩ = some (.int .u64 (lo + y)) by simp))
            go_wp2_with fail
            refine (stopped_go p _ len n2 _ HG3.out).mono ?_
            rintro e w3' ⟨rfl, rfl⟩
            obtain ⟨W2, eW2⟩ : ∃ W2, w1'.alloc (.cells #[.int .u64 lo, .int .u64 (lo + y)] 68) = W2 := ⟨_, rfl⟩
            have t0 : W2.cell? ⟨b16, 0, none⟩ = some (.int .u64 lo) := by rw [← eW2, ← eb16]; simp
            have t1 : W2.cell? ⟨b16, 1, none⟩ = some (.int .u64 (lo + y)) := by rw [← eW2, ← eb16]; simp
            rw [eW2] at TT HG3 M2 T2 d0 d1 d2 df NX ⊢
            rw [eb16] at TT
            clear eW2 eb16 M1 HG2 hpl
            go_wp2_with fail
            refine wp_region_held_drew (S := TopT p n2 b16 lo (lo + y) w1') hmx TT.out.drew (fun hS => ?_)
            refine wpAnyH_takeD (i := 0) (d := some 73) (v := (.pointer (some ⟨p, 0, none⟩))) rfl rfl (by kernel_rfl) (by kernel_rfl) (by kernel_rfl) (fun _ _ _ h => h) (Or.inl ⟨by rfl, ?_⟩) (by assumption) ?_
            · intro X hX; go_simp
            simp only [Act.put, List.setIfInBounds_toArray, List.set_cons_zero, List.set_cons_succ]
            refine wpAnyH_takeD (i := 1) (d := some 74) (v := (.pointer (some ⟨p, 0, none⟩))) rfl rfl (by kernel_rfl) (by kernel_rfl) (by kernel_rfl) (fun _ _ _ h => h) (Or.inl ⟨by rfl, ?_⟩) (by assumption) ?_
            · intro X hX; go_simp
            simp only [Act.put, List.setIfInBounds_toArray, List.set_cons_zero, List.set_cons_succ]
            refine wpAnyH_takeD (i := 2) (d := some 75) (v := (.pointer (some ⟨p, 0, none⟩))) rfl rfl (by kernel_rfl) (by kernel_rfl) (by kernel_rfl) (fun _ _ _ h => h) (Or.inl ⟨by rfl, ?_⟩) (by assumption) ?_
            · intro X hX; go_simp
            simp only [Act.put, List.setIfInBounds_toArray, List.set_cons_zero, List.set_cons_succ]
            refine wpAnyH_takeD (i := 3) (d := some 76) (v := (.pointer (some ⟨p, 1, none⟩))) rfl rfl (by kernel_rfl) (by kernel_rfl) (by kernel_rfl) (fun _ _ _ h => h) (Or.inl ⟨by rfl, ?_⟩) (by assumption) ?_
            · intro X hX; go_simp
            simp only [Act.put, List.setIfInBounds_toArray, List.set_cons_zero, List.set_cons_succ]
            refine wpAnyH_takeD (i := 4) (d := some 77) (v := (.int .i64 n2)) rfl rfl (by kernel_rfl) (by kernel_rfl) (by kernel_rfl) (fun _ _ _ h => h) (Or.inl ⟨by rfl, ?_⟩) (by assumption) ?_
            · intro X hX; obtain ⟨x0, x1, x2⟩ := hX; go_simp
            simp only [Act.put, List.setIfInBounds_toArray, List.set_cons_zero, List.set_cons_succ]
            refine wpAnyH_takeD (i := 5) (d := some 78) (v := (.pointer (some ⟨b16, 1, none⟩))) rfl rfl (by kernel_rfl) (by kernel_rfl) (by kernel_rfl) (fun _ _ _ h => h) (Or.inl ⟨by rfl, ?_⟩) (by assumption) ?_
            · intro X hX; go_simp
            simp only [Act.put, List.setIfInBounds_toArray, List.set_cons_zero, List.set_cons_succ]
            refine wpAnyH_takeD (i := 6) (d := some 79) (v := (.int .u64 (lo + y))) rfl rfl (by kernel_rfl) (by kernel_rfl) (by kernel_rfl) (fun _ _ _ h => h) (Or.inl ⟨by rfl, ?_⟩) (by assumption) ?_
            · intro X hX; obtain ⟨x0, x1, x2⟩ := hX; go_simp
            simp only [Act.put, List.setIfInBounds_toArray, List.set_cons_zero, List.set_cons_succ]
            refine wpAnyH_takeD (i := 7) (d := some 80) (v := (.pointer (some ⟨b16, 0, none⟩))) rfl rfl (by kernel_rfl) (by kernel_rfl) (by kernel_rfl) (fun _ _ _ h => h) (Or.inl ⟨by rfl, ?_⟩) (by assumption) ?_
            · intro X hX; go_simp
            simp only [Act.put, List.setIfInBounds_toArray, List.set_cons_zero, List.set_cons_succ]
            refine wpAnyH_takeD (i := 8) (d := some 81) (v := (.int .u64 lo)) rfl rfl (by kernel_rfl) (by kernel_rfl) (by kernel_rfl) (fun _ _ _ h => h) (Or.inl ⟨by rfl, ?_⟩) (by assumption) ?_
            · intro X hX; obtain ⟨x0, x1, x2⟩ := hX; go_simp
            simp only [Act.put, List.setIfInBounds_toArray, List.set_cons_zero, List.set_cons_succ]
            refine wpAnyH_takeD (i := 9) (d := some 82) (v := (.int .u64 y)) rfl rfl (by kernel_rfl) (by kernel_rfl) (by kernel_rfl) (fun _ _ _ h => h) (Or.inl ⟨by rfl, ?_⟩) (by assumption) ?_
            · intro X hX; go_simp
            simp only [Act.put, List.setIfInBounds_toArray, List.set_cons_zero, List.set_cons_succ]
            refine wpAnyH_ready (rs := [10]) (by kernel_rfl) (by simp) ?_
            refine AllReadyH.cons (o := _) rfl (fun K hK => ?_) AllReadyH.nil
            go_simp
            refine (KB.out _).mono ?_
            rintro e wq ⟨vq, rfl, hOq, hbq⟩
            obtain ⟨aq, cq, rfl, _, _⟩ := hOq.ints (by rw [EL.out]; omega)
            rw [EL.out]
            have hS := hS.below hbq
            have hbq' := bl_trans (bl_drew (Below.refl W2.heap.size W2)) hbq
            have hpl := Nat.lt_of_lt_of_le hlt M2.out.only.size
            have HG4 := hide ((cgo_loc p (.slice ad len cap) len n2).below hpl hbq' HG3.out)
            have M4 := hide (M2.out.below hbq')
            clear hbq hbq' hOq
            go_simp
            refine hK.out _ _ hS (fun _ => ?_)
            clear hK K
            refine wpAnyH_takeD (i := 11) (d := some 84) (v := (.int .i64 L)) rfl rfl (by kernel_rfl) (by kernel_rfl) (by kernel_rfl) (fun _ _ _ h => h) (Or.inl ⟨by rfl, ?_⟩) (by assumption) ?_
            · intro X hX; go_simp
            simp only [Act.put, List.setIfInBounds_toArray, List.set_cons_zero, List.set_cons_succ]
            refine wpAnyH_takeD (i := 12) (d := some 85) (v := (.int .i64 n1)) rfl rfl (by kernel_rfl) (by kernel_rfl) (by kernel_rfl) (fun _ _ _ h => h) (Or.inl ⟨by rfl, ?_⟩) (by assumption) ?_
            · intro X hX; go_simp
            simp only [Act.put, List.setIfInBounds_toArray, List.set_cons_zero, List.set_cons_succ]
            refine wpAnyH_ready (rs := [13]) (by kernel_rfl) (by simp) ?_
            refine AllReadyH.cons (o := _) rfl (fun K hK => ?_) AllReadyH.nil
            go_simp
            refine (fail_at p _ len n2 8 n1 _ HG4.out).mono ?_
            rintro e w5' ⟨rfl, hC5, hO5⟩
            have M5 := hide (M4.out.call hO5 (CurC.typed HG4.out) hpq.symm hne1)
            have T5 := hide (CurC.typed hC5)
            have C5 := hide hC5
            have hb16p : ¬ b16 = p := HB16.out
            have hS : TopT p n2 b16 lo (lo + y) w1' w5' := ⟨(CurC.cells hC5).2.1, hO5.cell hb16p hS.lo, hO5.cell hb16p hS.hi⟩
            clear hC5 hO5 hb16p
            go_simp
            refine hK.out _ _ hS (fun _ => ?_)
            clear hK K
            refine wpAnyH_done (by kernel_rfl) ?_ _
            have s0 := hS.lo
            have s1 := hS.hi
            clear hS d0 d1 d2 df t0 t1
            obtain ⟨d0, d1, d2, df⟩ := M5.out.cells
            go_wp2_with (at_builtin; refine wpList_append_own_at _ rfl _ _ 63 rfl w.heap.size 68 i0' (.agg #[.int .u64 0, .int .u64 0]) 2 16 Tryd.underlying63 hi0 hz0 hz1 hz2 rfl (by decide) _ _ _ rfl (M5.out.own.row.alloc _) ⟨w5'.heap.size, 0, none⟩ 1 1 [.int .u64 lo, .int .u64 (lo + y)] rfl rfl ?z1 ?z2 ?z3 ?z4 ?z5 ?_)
            case z1 => exact hnew2 (heap_new_at _ _ rfl)
            case z2 => intro u hu; simp at hu; rcases hu with rfl | rfl <;> rfl
            case z3 => have := HLK.out; unfold maxLen; omega
            case z4 => have := HLK.out; omega
            case z5 => have := M5.out.only.size; simp at this ⊢; omega
            intro hv' w3 hown hgrow _ _
            obtain ⟨ha', hc', rfl, _⟩ := own_len hown
            obtain ⟨⟨f2, ff⟩, hM3, hpp⟩ := M5.out.push T5.out hlt hsz hqr WL.out WH.out hown hgrow
            have M3 := hide hM3
            have J3 : Hid (EJ lm zs o p (.slice ad len cap) len es x mx ents n (k + 1) (hs ++ [(lo, lo + y)]) (w3.setCell ⟨q, 2, none⟩ (.slice ha' (hs.length + 1) hc'))) := hide (.inr ⟨8, n1, HO.out, (by decide), n2, hpp.trans C5.out⟩)
            clear hown hgrow hM3 hpp
            go_wp2
            go_roundw
            case rel => first | exact ⟨k + 1, _, _, by omega, by go_num, by simp [HLK.out], M3.out, J3.out⟩ | ((repeat apply Exists.intro); exact ⟨⟨k + 1, _, _, by omega, by go_num, by simp [HLK.out], M3.out, J3.out⟩, rfl⟩)
            case measure => simp [intOf]; omega
          · -- a good hole
            have hs3 : holeS ⟨.hi lo, es, ⟨x, mx, hs ++ [(lo, lo + y)]⟩, ents, (n : Int) - k - 1⟩ = holeS ⟨.op, es, ⟨x, mx, hs ++ [(lo, lo + y)]⟩, ents, (n : Int) - ((k + 1 : Nat) : Int)⟩ := by rw [show (n : Int) - ((k + 1 : Nat) : Int) = (n : Int) - k - 1 by omega]; rfl
            have hA3 := goN_step GO2.out RD2.out (s' := holeS ⟨.hi lo, es, ⟨x, mx, hs ++ [(lo, lo + y)]⟩, ents, (n : Int) - k - 1⟩) (by
              show (if _ ∧ _ then _ else _) = _
              rw [if_pos ⟨WH.out.2, by simp only; omega⟩])
            rw [hs3] at hA3
            have A3 := hide hA3
            clear hs3 hA3 HG2
            go_wp2_with fail
            refine (stopped_go p _ len n2 _ HG3.out).mono ?_
            rintro e w3' ⟨rfl, rfl⟩
            go_wp2_with (at_builtin; refine wpList_append_own_at _ rfl _ _ 63 rfl w.heap.size 68 i0' (.agg #[.int .u64 0, .int .u64 0]) 2 16 Tryd.underlying63 hi0 hz0 hz1 hz2 rfl (by decide) _ _ _ rfl (M2.out.own.row.alloc _) ⟨w1'.heap.size + 1, 0, none⟩ 1 1 [.int .u64 lo, .int .u64 (lo + y)] rfl rfl ?z1 ?z2 ?z3 ?z4 ?z5 ?_)
            case z1 => exact hnew2 (heap_new_at _ _ (by simp))
            case z2 => intro u hu; simp at hu; rcases hu with rfl | rfl <;> rfl
            case z3 => have := HLK.out; unfold maxLen; omega
            case z4 => have := HLK.out; omega
            case z5 => have := M2.out.only.size; simp at this ⊢; omega
            intro hv' w3 hown hgrow _ _
            obtain ⟨ha', hc', rfl, _⟩ := own_len hown
            obtain ⟨⟨f2, ff⟩, hM3, hpp⟩ := M2.out.push T2.out hlt hsz hqr WL.out WH.out hown hgrow
            have M3 := hide hM3
            have J3 : Hid (EJ lm zs o p (.slice ad len cap) len es x mx ents n (k + 1) (hs ++ [(lo, lo + y)]) (w3.setCell ⟨q, 2, none⟩ (.slice ha' (hs.length + 1) hc'))) := hide (.inl ⟨n2, (cgo_loc p (.slice ad len cap) len n2).st _ _ hpp HG3.out, A3.out⟩)
            clear hown hgrow hM3 hpp
            go_wp2
            go_roundw
            case rel => first | exact ⟨k + 1, _, _, by omega, by go_num, by simp [HLK.out], M3.out, J3.out⟩ | ((repeat apply Exists.intro); exact ⟨⟨k + 1, _, _, by omega, by go_num, by simp [HLK.out], M3.out, J3.out⟩, rfl⟩)
            case measure => simp [intOf]; omega
      · -- stopped: the loop ends
        have HO := hide ho
        have HX := hide hX
        have JE : Hid (EJ lm zs o p (.slice ad len cap) len es x mx ents n n hs wr) := hide (.inr ⟨c, at', ho, hX⟩)
        clear ho hX hM ht
        go_wp2_with fail
        refine (stopped_err p _ len c at' _ HX.out).mono ?_
        rintro e w8 ⟨rfl, rfl⟩
        obtain ⟨r0, r1, r2, rf⟩ := HM.out.rcells
        have e0 := heap_setCell_same _ _ 2 _ _ (.slice hva hvl hvc) (heap_setCell_same _ _ 1 _ _ (.int .u64 mx) (heap_setCell_same _ _ 0 _ _ (.int .u64 x) HM.out.r))
        go_wp2
        refine bodyPost_ret (v := .agg #[.int .u64 x, .int .u64 mx, .slice hva hvl hvc]) ?_ rfl (ent_end HM.out JE.out hne1 hqr)
        simp [results, Tryd.results40, go_sem, World.cell?, e0]
    · obtain rfl : k = n := by omega
      have JE := hide hJ
      obtain ⟨d0, d1, d2, df⟩ := hM.cells
      obtain ⟨r0, r1, r2, rf⟩ := hM.rcells
      have e0 := heap_setCell_same _ _ 2 _ _ (.slice hva hvl hvc) (heap_setCell_same _ _ 1 _ _ (.int .u64 mx) (heap_setCell_same _ _ 0 _ _ (.int .u64 x) hM.r))
      clear hJ hM ht
      go_wp2
      refine bodyPost_ret (v := .agg #[.int .u64 x, .int .u64 mx, .slice hva hvl hvc]) ?_ rfl (ent_end HM.out JE.out hne1 hqr)
      simp [results, Tryd.results40, go_sem, World.cell?, e0]
set_option maxRecDepth 100000 in
set_option maxHeartbeats 6400000 in
theorem rent_l {lm : Lim} {zs : List Int} {o : Except (Int × Int) (List Ent × Int)} {ad : Option Addr} {len cap p : Nat} {wb : World} (hI : Ints .u8 wb ad len zs) (hlm : len ≤ 1000000) (hp : wb.heap.size ≤ p) (l : Lim) (es : List Ent) (ents before x a1 s mx a2 : Int) (n : Nat) (hn : n ≤ 1000000) (w : World) (C0 C1 C3 : World → Prop)
    (hB : Below wb.heap.size wb w) (hlt : p < w.heap.size) (h0 : C0 w) (L0 : LocP p C0) (L1 : LocP p C1) (L3 : LocP p C3)
    (K1 : Eff p 62 #[.pointer (some ⟨p, 0, none⟩)] (.tuple #[.int .u64 x, .int .i64 a1]) wb C0 C1)
    (wb4 : Word before) (wx : Word x)
    (hs : before + 1 + x < 18446744073709551616) (es1 : before + 1 + x = s)
    (K2 : Eff p 62 #[.pointer (some ⟨p, 0, none⟩)] (.tuple #[.int .u64 mx, .int .i64 a2]) wb C1 C3)
    (K3 : Eff p 37 #[.pointer (some ⟨p, 0, none⟩), .int .i64 l.ho] (.int .i64 n) wb C3 (EJ lm zs o p (.slice ad len cap) len es s mx ents n 0 [])) :
    Calls Tryd.prog 40 #[.pointer (some ⟨p, 0, none⟩), .bool false, .int .u64 before, .agg #[.int .i64 l.f, .int .i64 l.ve, .int .i64 l.en, .int .i64 l.ho, .int .i64 l.se]] w (EntPost lm zs o p (.slice ad len cap) len es s mx ents n w) := by
  obtain ⟨i0', hi0, hz0, hz1, hz2⟩ := info_parts info_iv
  have hmx : Tryd.prog.follows .mixedOrders = true := by kernel_rfl
  have INTS := hide hI; have HP := hide hp; have HB := hide hB; have H0 := hide h0; have LL0 := hide L0; have LL1 := hide L1; have LL3 := hide L3; have KK1 := hide K1; have KK2 := hide K2; have KK3 := hide K3
  have HS := hide (fun (W : World) (b : Nat) (hW : W.heap[b]? = some (.cells #[.int .u64 before, .int .u64 1, .int .u64 x] 51 (0, 0))) => rsum_yes (some ⟨b, 0, none⟩) 3 3 [before, 1, x] s W (ints3 wb4 one_word wx hW) (by simp; omega) (by omega))
  clear hI hp hB h0 L0 L1 L3 K1 K2 K3 wb4 wx hs es1
  go_enter Tryd.func40, Tryd.ntmps40
  go_wp2_with fail
  have hb0 : Below w.heap.size w ((w.alloc (.cells #[.int .i64 l.f, .int .i64 l.ve, .int .i64 l.en, .int .i64 l.ho, .int .i64 l.se] 36)).alloc (.cells #[.int .u64 0, .int .u64 0, .slice none 0 0] 65)) := bl_alloc (bl_alloc (Below.refl _ _) _) _
  refine (KK1.out _ (LL0.out.below hlt hb0 H0.out) (HB.out.trans (hb0.mono HB.out.size)) (keep_lt hb0 hlt)).mono ?_
  rintro e w1 ⟨rfl, hC1, hO1⟩
  have B1 : w1.heap[w.heap.size]? = some (.cells #[.int .i64 l.f, .int .i64 l.ve, .int .i64 l.en, .int .i64 l.ho, .int .i64 l.se] 36 (0, 0)) := hO1.obj (by omega) (heap_old_at _ _ (by simp) (heap_new_at _ _ rfl))
  have R1 : w1.heap[w.heap.size + 1]? = some (.cells #[.int .u64 0, .int .u64 0, .slice none 0 0] 65 (0, 0)) := hO1.obj (by omega) (heap_new_at _ _ (by simp))
  have O1 := hide ((Only.of_below hb0).trans hO1)
  have C1' := hide hC1
  clear hC1 hO1 hb0
  go_wp2_with fail
  refine (HS.out _ _ (heap_new_at _ _ rfl)).mono ?_
  rintro e w2 ⟨rfl, b2⟩
  have hb2 := bl_trans (bl_alloc (Below.refl w1.heap.size w1) _) b2
  have hl1 : p < w1.heap.size := Nat.lt_of_lt_of_le hlt O1.out.size
  have B2 := (hb2.block _ (Blk_lt B1)).trans B1
  have R2 := (hb2.block _ (Blk_lt R1)).trans R1
  have O2 := hide (O1.out.call hb2)
  have C2' := hide (LL1.out.below hl1 hb2 C1'.out)
  clear b2 hb2 B1 R1 hl1
  go_wp2_with fail
  have hb4 : Below w2.heap.size w2 (w2.alloc (.cells #[.int .u64 s, .int .u64 0, .slice none 0 0] 65)) := bl_alloc (Below.refl _ _) _
  have hl4 : p < w2.heap.size := Nat.lt_of_lt_of_le hlt O2.out.size
  have hsz := O2.out.size
  have hqr : w.heap.size + 1 ≠ w2.heap.size := by have := Blk_lt R2; omega
  refine (KK2.out _ (LL1.out.below hl4 hb4 C2'.out) (only_bel HP.out HB.out (O2.out.call hb4)) (keep_lt hb4 hl4)).mono ?_
  rintro e w5 ⟨rfl, hC5, hO5⟩
  have B5 := hO5.obj (show ¬ w.heap.size = p by omega) ((hb4.block _ (Blk_lt B2)).trans B2)
  have R5 := hO5.obj (show ¬ w.heap.size + 1 = p by omega) ((hb4.block _ (Blk_lt R2)).trans R2)
  have Q5 : w5.heap[w2.heap.size]? = some (.cells #[.int .u64 s, .int .u64 0, .slice none 0 0] 65 (0, 0)) := hO5.obj (by omega) (heap_new_at _ _ rfl)
  have O5 := hide ((O2.out.call hb4).trans hO5)
  have C5' := hide hC5
  obtain ⟨q, eq⟩ : ∃ q, w2.heap.size = q := ⟨_, rfl⟩
  rw [eq] at Q5 hqr hsz
  have hpq : p ≠ q := by rw [← eq]; omega
  have hq6 := heap_setCell_same _ _ 1 _ _ (.int .u64 mx) Q5
  have o6 : Only (fun b => b = q) w5 (w5.setCell ⟨q, 1, none⟩ (.int .u64 mx)) := (Only.refl (fun b => b = q) w5).setCell (p := ⟨q, 1, none⟩) (.inl rfl) _
  have B6 := o6.obj (show ¬ w.heap.size = q by have := Blk_lt R2; rw [← eq]; omega) B5
  have R6 := o6.obj (show ¬ w.heap.size + 1 = q by omega) R5
  have C6 := hide (LL3.out.st _ _ (o6.block p (Nat.lt_of_lt_of_le hlt O5.out.size) hpq) C5'.out)
  have O6 := hide (O5.out.setCell (p := ⟨q, 1, none⟩) (.inr hsz) (.int .u64 mx))
  have qc : w5.cell? ⟨q, 1, none⟩ = some (.int .u64 0) := by simp [World.cell?, Q5]
  have qf : ∀ j, w5.frozen? ⟨q, j, none⟩ = false := by intro j; simp [World.frozen?, Q5]
  have cb : (w5.setCell ⟨q, 1, none⟩ (.int .u64 mx)).cell? ⟨w.heap.size, 3, none⟩ = some (.int .i64 l.ho) := by simp [World.cell?, B6]
  have HQ6 := hide hq6
  have HR6 := hide R6
  rw [eq]
  clear hC5 hO5 hb4 hl4 eq B2 R2 B5 R5 Q5 hq6 o6 B6 R6
  go_wp2_with fail
  refine (KK3.out _ C6.out (only_bel HP.out HB.out O6.out) (Nat.lt_of_lt_of_le hlt O6.out.size)).mono ?_
  rintro e w7 ⟨rfl, hJ7, hO7⟩
  have M7 := hide (EntM.mk (hs := []) (hO7.obj (fun e => hpq e.symm) HQ6.out) (hO7.obj (show ¬ w.heap.size + 1 = p by omega) HR6.out) (OwnL.nil _ w.heap.size _) (O6.out.trans hO7))
  have J7 := hide hJ7
  clear hJ7 hO7 qc qf cb HQ6 HR6 C6 O6 O5 C5'
  go_wp2_with fail
  go_loopw [15] (fun c wr => ∃ (k : Nat) (hs : List Iv) (hv : Value), k ≤ n ∧ c = .int .i64 k ∧ hs.length = k ∧ EntM w p q (w.heap.size + 1) s mx hs hv wr ∧ EJ lm zs o p (.slice ad len cap) len es s mx ents n k hs wr)
    (fun c _ => n - (intOf c).toNat)
  case atStart => exact ⟨0, [], _, Nat.zero_le _, rfl, rfl, M7.out, J7.out⟩
  case round =>
    clear M7 J7
    obtain ⟨k, hs, hv, hk, rfl, hlk, hM, hJ⟩ := hrel
    have HLK := hide hlk
    clear hlk
    obtain ⟨hva, hvc, ehv, _⟩ := hM.own.prs
    obtain ⟨hvl, ehl⟩ : ∃ hvl, hs.length = hvl := ⟨_, rfl⟩
    rw [ehl] at ehv
    subst ehv
    have EHL := hide ehl
    clear ehl
    have HM := hide hM
    have HJ := hide hJ
    have i0 : (0 : Int) ≤ (k : Int) := by omega
    have ht := ej_typed hJ
    have HT := hide ht
    have hne1 : w.heap.size + 1 ≠ p := by omega
    by_cases hkn : k < n
    · have i1 : (k : Int) < (n : Int) := by omega
      obtain ⟨d0, d1, d2, df⟩ := hM.cells
      rcases hJ with ⟨a, hG, hA⟩ | ⟨c, at', ho, hX⟩
      · have hsl : holeS ⟨.op, es, ⟨s, mx, hs⟩, ents, (n : Int) - k⟩ = ⟨.lo, es, ⟨s, mx, hs⟩, ents, (n : Int) - k - 1⟩ := holeS_lo _ _ _ _ _ (by omega)
        rw [hsl] at hA
        have GO := hide (hA.go rfl)
        have HG := hide hG
        clear hA hsl hM ht hG
        go_wp2_with fail
        refine (stopped_go p _ len a _ HG.out).mono ?_
        rintro e w8 ⟨rfl, rfl⟩
        go_wp2_with fail
        refine (interval_go INTS.out hlm HP.out _ (only_bel HP.out HB.out HM.out.only) HG.out GO.out HM.out.own).mono ?_
        rintro e w1' ⟨hO1, hor⟩
        have hM1 := HM.out.call hO1 HT.out hpq.symm hne1
        have M1 := hide hM1
        rcases hor with ⟨c, at', ho, hX, rfl⟩ | ⟨lo, y, n1, n2, rfl, wl, wh, wy, hg2, hr2, hG2, hn12, hn2⟩
        · have T1 := hide (CurC.typed hX.2.choose_spec)
          have HO := hide ho
          have HX := hide hX
          clear hO1 hM1 d0 d1 d2 df ho hX
          have M2 := hide (M1.out.below (bl_alloc (Below.refl w1'.heap.size w1') (.cells #[.int .u64 0, .int .u64 0] 68)))
          have hpl := Nat.lt_of_lt_of_le hlt M1.out.only.size
          have HX2 := hide ((cerr_loc p (.slice ad len cap) len c at').below hpl (bl_alloc (Below.refl w1'.heap.size w1') (.cells #[.int .u64 0, .int .u64 0] 68)) HX.out)
          have T2 := hide (CurC.typed HX2.out.2.choose_spec)
          obtain ⟨d0, d1, d2, df⟩ := M2.out.cells
          clear M1 HX T1 hpl
          go_wp2_with fail
          refine (stopped_err p _ len c at' _ HX2.out).mono ?_
          rintro e w3' ⟨rfl, rfl⟩
          go_wp2_with (at_builtin; refine wpList_append_own_at _ rfl _ _ 63 rfl w.heap.size 68 i0' (.agg #[.int .u64 0, .int .u64 0]) 2 16 Tryd.underlying63 hi0 hz0 hz1 hz2 rfl (by decide) _ _ _ rfl (M2.out.own.row.alloc _) ⟨w1'.heap.size + 1, 0, none⟩ 1 1 [.int .u64 0, .int .u64 0] rfl rfl ?z1 ?z2 ?z3 ?z4 ?z5 ?_)
          case z1 => exact hnew2 (heap_new_at _ _ (by simp))
          case z2 => intro u hu; simp at hu; subst hu; rfl
          case z3 => have := HLK.out; unfold maxLen; omega
          case z4 => have := HLK.out; omega
          case z5 => have := M2.out.only.size; simp at this ⊢; omega
          intro hv' w3 hown hgrow _ _
          obtain ⟨ha', hc', rfl, _⟩ := own_len hown
          obtain ⟨⟨f2, ff⟩, hM3, hpp⟩ := M2.out.push T2.out hlt hsz hqr zw zw hown hgrow
          have M3 := hide hM3
          have J3 : Hid (EJ lm zs o p (.slice ad len cap) len es s mx ents n (k + 1) (hs ++ [(0, 0)]) (w3.setCell ⟨q, 2, none⟩ (.slice ha' (hs.length + 1) hc'))) := hide (.inr ⟨c, at', HO.out, (cerr_loc p (.slice ad len cap) len c at').st _ _ hpp HX2.out⟩)
          clear hown hgrow hM3 hpp
          go_wp2
          go_roundw
          case rel => first | exact ⟨k + 1, _, _, by omega, by go_num, by simp [HLK.out], M3.out, J3.out⟩ | ((repeat apply Exists.intro); exact ⟨⟨k + 1, _, _, by omega, by go_num, by simp [HLK.out], M3.out, J3.out⟩, rfl⟩)
          case measure => simp [intOf]; omega
        · have HG2 := hide hG2
          have WL := hide wl; have WH := hide wh; have GO2 := hide hg2; have RD2 := hide hr2
          have hb2 := bl_alloc (Below.refl w1'.heap.size w1') (.cells #[.int .u64 lo, .int .u64 (lo + y)] 68)
          have hpl := Nat.lt_of_lt_of_le hlt M1.out.only.size
          have M2 := hide (M1.out.below hb2)
          have HG3 := hide ((cgo_loc p (.slice ad len cap) len n2).below hpl hb2 hG2)
          have T2 := hide (CurC.typed HG3.out)
          obtain ⟨hc0, hc1, _⟩ := CurC.cells HG3.out
          have NX := hide hc1
          clear hO1 hM1 d0 d1 d2 df hG2 wl wh hg2 hr2 hb2 hc0 hc1
          obtain ⟨d0, d1, d2, df⟩ := M2.out.cells
          by_cases hge : mx ≤ lo + y
          · -- the top is not greater
            have ho : o = .error (8, (n1 : Int)) := goN_stop GO2.out RD2.out (by
              show (if _ ∧ _ then _ else _) = _
              rw [if_neg (fun hh => by have := hh.2; simp only at this; omega)])
            have HO := hide ho
            have hvl := (rd_once (fun i => by
              have := INTS.out.wf
              by_cases hi : i < zs.length
              · have e1 : byteAt zs i = zs[i] := by simp [byteAt, List.getD, List.getElem?_eq_getElem hi]
                rw [e1]; exact byte_of_wf (this _ (List.getElem_mem _))
              · have e1 : byteAt zs i = 0 := by simp [byteAt, List.getD, List.getElem?_eq_none (Nat.le_of_not_lt hi)]
                rw [e1]; decide) RD2.out).2
            have KB := hide (fun W => rbytes_any 10 y W wy (by have := wy.2; omega) (by decide) (by decide))
            have qy : IntKind.u64.wrap (lo + y - lo) = y := by rw [show lo + y - lo = y by omega]; exact wrap_word wy
            obtain ⟨L, eL⟩ : ∃ L, (vb 10 y).length = L := ⟨_, rfl⟩
            have EL := hide eL
            rw [eL] at hvl
            have qn : IntKind.i64.wrap ((n2 : Int) - (L : Int)) = (n1 : Int) := by rw [IntKind.wrap_i64]; omega
            have hL9 : L ≤ 10 := by rw [← eL]; exact vb_most 10 y
            clear ho hvl eL
            obtain ⟨b16, eb16⟩ : ∃ b16, w1'.heap.size = b16 := ⟨_, rfl⟩
            have HB16 := hide (show ¬ b16 = p by have := M1.out.only.size; rw [← eb16]; omega)
            have TT := hide (TopT.mk (W0 := w1') NX.out (show (w1'.alloc (.cells #[.int .u64 lo, .int .u64 (lo + y)] 68)).cell? ⟨w1'.heap.size, 0, none⟩ = some (.int .u64 lo) by simp) (show (w1'.alloc (.cells #[.int .u64 lo, .int .u64 (lo + y)] 68)).cell? ⟨w1'.heap.size, 1, none⟩ = some (.int .u64 (lo + y)) by simp))
            go_wp2_with fail
            refine (stopped_go p _ len n2 _ HG3.out).mono ?_
            rintro e w3' ⟨rfl, rfl⟩
            obtain ⟨W2, eW2⟩ : ∃ W2, w1'.alloc (.cells #[.int .u64 lo, .int .u64 (lo + y)] 68) = W2 := ⟨_, rfl⟩
            have t0 : W2.cell? ⟨b16, 0, none⟩ = some (.int .u64 lo) := by rw [← eW2, ← eb16]; simp
            have t1 : W2.cell? ⟨b16, 1, none⟩ = some (.int .u64 (lo + y)) := by rw [← eW2, ← eb16]; simp
            rw [eW2] at TT HG3 M2 T2 d0 d1 d2 df NX ⊢
            rw [eb16] at TT
            clear eW2 eb16 M1 HG2 hpl
            go_wp2_with fail
            refine wp_region_held_drew (S := TopT p n2 b16 lo (lo + y) w1') hmx TT.out.drew (fun hS => ?_)
            refine wpAnyH_takeD (i := 0) (d := some 73) (v := (.pointer (some ⟨p, 0, none⟩))) rfl rfl (by kernel_rfl) (by kernel_rfl) (by kernel_rfl) (fun _ _ _ h => h) (Or.inl ⟨by rfl, ?_⟩) (by assumption) ?_
            · intro X hX; go_simp
            simp only [Act.put, List.setIfInBounds_toArray, List.set_cons_zero, List.set_cons_succ]
            refine wpAnyH_takeD (i := 1) (d := some 74) (v := (.pointer (some ⟨p, 0, none⟩))) rfl rfl (by kernel_rfl) (by kernel_rfl) (by kernel_rfl) (fun _ _ _ h => h) (Or.inl ⟨by rfl, ?_⟩) (by assumption) ?_
            · intro X hX; go_simp
            simp only [Act.put, List.setIfInBounds_toArray, List.set_cons_zero, List.set_cons_succ]
            refine wpAnyH_takeD (i := 2) (d := some 75) (v := (.pointer (some ⟨p, 0, none⟩))) rfl rfl (by kernel_rfl) (by kernel_rfl) (by kernel_rfl) (fun _ _ _ h => h) (Or.inl ⟨by rfl, ?_⟩) (by assumption) ?_
            · intro X hX; go_simp
            simp only [Act.put, List.setIfInBounds_toArray, List.set_cons_zero, List.set_cons_succ]
            refine wpAnyH_takeD (i := 3) (d := some 76) (v := (.pointer (some ⟨p, 1, none⟩))) rfl rfl (by kernel_rfl) (by kernel_rfl) (by kernel_rfl) (fun _ _ _ h => h) (Or.inl ⟨by rfl, ?_⟩) (by assumption) ?_
            · intro X hX; go_simp
            simp only [Act.put, List.setIfInBounds_toArray, List.set_cons_zero, List.set_cons_succ]
            refine wpAnyH_takeD (i := 4) (d := some 77) (v := (.int .i64 n2)) rfl rfl (by kernel_rfl) (by kernel_rfl) (by kernel_rfl) (fun _ _ _ h => h) (Or.inl ⟨by rfl, ?_⟩) (by assumption) ?_
            · intro X hX; obtain ⟨x0, x1, x2⟩ := hX; go_simp
            simp only [Act.put, List.setIfInBounds_toArray, List.set_cons_zero, List.set_cons_succ]
            refine wpAnyH_takeD (i := 5) (d := some 78) (v := (.pointer (some ⟨b16, 1, none⟩))) rfl rfl (by kernel_rfl) (by kernel_rfl) (by kernel_rfl) (fun _ _ _ h => h) (Or.inl ⟨by rfl, ?_⟩) (by assumption) ?_
            · intro X hX; go_simp
            simp only [Act.put, List.setIfInBounds_toArray, List.set_cons_zero, List.set_cons_succ]
            refine wpAnyH_takeD (i := 6) (d := some 79) (v := (.int .u64 (lo + y))) rfl rfl (by kernel_rfl) (by kernel_rfl) (by kernel_rfl) (fun _ _ _ h => h) (Or.inl ⟨by rfl, ?_⟩) (by assumption) ?_
            · intro X hX; obtain ⟨x0, x1, x2⟩ := hX; go_simp
            simp only [Act.put, List.setIfInBounds_toArray, List.set_cons_zero, List.set_cons_succ]
            refine wpAnyH_takeD (i := 7) (d := some 80) (v := (.pointer (some ⟨b16, 0, none⟩))) rfl rfl (by kernel_rfl) (by kernel_rfl) (by kernel_rfl) (fun _ _ _ h => h) (Or.inl ⟨by rfl, ?_⟩) (by assumption) ?_
            · intro X hX; go_simp
            simp only [Act.put, List.setIfInBounds_toArray, List.set_cons_zero, List.set_cons_succ]
            refine wpAnyH_takeD (i := 8) (d := some 81) (v := (.int .u64 lo)) rfl rfl (by kernel_rfl) (by kernel_rfl) (by kernel_rfl) (fun _ _ _ h => h) (Or.inl ⟨by rfl, ?_⟩) (by assumption) ?_
            · intro X hX; obtain ⟨x0, x1, x2⟩ := hX; go_simp
            simp only [Act.put, List.setIfInBounds_toArray, List.set_cons_zero, List.set_cons_succ]
            refine wpAnyH_takeD (i := 9) (d := some 82) (v := (.int .u64 y)) rfl rfl (by kernel_rfl) (by kernel_rfl) (by kernel_rfl) (fun _ _ _ h => h) (Or.inl ⟨by rfl, ?_⟩) (by assumption) ?_
            · intro X hX; go_simp
            simp only [Act.put, List.setIfInBounds_toArray, List.set_cons_zero, List.set_cons_succ]
            refine wpAnyH_ready (rs := [10]) (by kernel_rfl) (by simp) ?_
            refine AllReadyH.cons (o := _) rfl (fun K hK => ?_) AllReadyH.nil
            go_simp
            refine (KB.out _).mono ?_
            rintro e wq ⟨vq, rfl, hOq, hbq⟩
            obtain ⟨aq, cq, rfl, _, _⟩ := hOq.ints (by rw [EL.out]; omega)
            rw [EL.out]
            have hS := hS.below hbq
            have hbq' := bl_trans (bl_drew (Below.refl W2.heap.size W2)) hbq
            have hpl := Nat.lt_of_lt_of_le hlt M2.out.only.size
            have HG4 := hide ((cgo_loc p (.slice ad len cap) len n2).below hpl hbq' HG3.out)
            have M4 := hide (M2.out.below hbq')
            clear hbq hbq' hOq
            go_simp
            refine hK.out _ _ hS (fun _ => ?_)
            clear hK K
            refine wpAnyH_takeD (i := 11) (d := some 84) (v := (.int .i64 L)) rfl rfl (by kernel_rfl) (by kernel_rfl) (by kernel_rfl) (fun _ _ _ h => h) (Or.inl ⟨by rfl, ?_⟩) (by assumption) ?_
            · intro X hX; go_simp
            simp only [Act.put, List.setIfInBounds_toArray, List.set_cons_zero, List.set_cons_succ]
            refine wpAnyH_takeD (i := 12) (d := some 85) (v := (.int .i64 n1)) rfl rfl (by kernel_rfl) (by kernel_rfl) (by kernel_rfl) (fun _ _ _ h => h) (Or.inl ⟨by rfl, ?_⟩) (by assumption) ?_
            · intro X hX; go_simp
            simp only [Act.put, List.setIfInBounds_toArray, List.set_cons_zero, List.set_cons_succ]
            refine wpAnyH_ready (rs := [13]) (by kernel_rfl) (by simp) ?_
            refine AllReadyH.cons (o := _) rfl (fun K hK => ?_) AllReadyH.nil
            go_simp
            refine (fail_at p _ len n2 8 n1 _ HG4.out).mono ?_
            rintro e w5' ⟨rfl, hC5, hO5⟩
            have M5 := hide (M4.out.call hO5 (CurC.typed HG4.out) hpq.symm hne1)
            have T5 := hide (CurC.typed hC5)
            have C5 := hide hC5
            have hb16p : ¬ b16 = p := HB16.out
            have hS : TopT p n2 b16 lo (lo + y) w1' w5' := ⟨(CurC.cells hC5).2.1, hO5.cell hb16p hS.lo, hO5.cell hb16p hS.hi⟩
            clear hC5 hO5 hb16p
            go_simp
            refine hK.out _ _ hS (fun _ => ?_)
            clear hK K
            refine wpAnyH_done (by kernel_rfl) ?_ _
            have s0 := hS.lo
            have s1 := hS.hi
            clear hS d0 d1 d2 df t0 t1
            obtain ⟨d0, d1, d2, df⟩ := M5.out.cells
            go_wp2_with (at_builtin; refine wpList_append_own_at _ rfl _ _ 63 rfl w.heap.size 68 i0' (.agg #[.int .u64 0, .int .u64 0]) 2 16 Tryd.underlying63 hi0 hz0 hz1 hz2 rfl (by decide) _ _ _ rfl (M5.out.own.row.alloc _) ⟨w5'.heap.size, 0, none⟩ 1 1 [.int .u64 lo, .int .u64 (lo + y)] rfl rfl ?z1 ?z2 ?z3 ?z4 ?z5 ?_)
            case z1 => exact hnew2 (heap_new_at _ _ rfl)
            case z2 => intro u hu; simp at hu; rcases hu with rfl | rfl <;> rfl
            case z3 => have := HLK.out; unfold maxLen; omega
            case z4 => have := HLK.out; omega
            case z5 => have := M5.out.only.size; simp at this ⊢; omega
            intro hv' w3 hown hgrow _ _
            obtain ⟨ha', hc', rfl, _⟩ := own_len hown
            obtain ⟨⟨f2, ff⟩, hM3, hpp⟩ := M5.out.push T5.out hlt hsz hqr WL.out WH.out hown hgrow
            have M3 := hide hM3
            have J3 : Hid (EJ lm zs o p (.slice ad len cap) len es s mx ents n (k + 1) (hs ++ [(lo, lo + y)]) (w3.setCell ⟨q, 2, none⟩ (.slice ha' (hs.length + 1) hc'))) := hide (.inr ⟨8, n1, HO.out, (by decide), n2, hpp.trans C5.out⟩)
            clear hown hgrow hM3 hpp
            go_wp2
            go_roundw
            case rel => first | exact ⟨k + 1, _, _, by omega, by go_num, by simp [HLK.out], M3.out, J3.out⟩ | ((repeat apply Exists.intro); exact ⟨⟨k + 1, _, _, by omega, by go_num, by simp [HLK.out], M3.out, J3.out⟩, rfl⟩)
            case measure => simp [intOf]; omega
          · -- a good hole
            have hs3 : holeS ⟨.hi lo, es, ⟨s, mx, hs ++ [(lo, lo + y)]⟩, ents, (n : Int) - k - 1⟩ = holeS ⟨.op, es, ⟨s, mx, hs ++ [(lo, lo + y)]⟩, ents, (n : Int) - ((k + 1 : Nat) : Int)⟩ := by rw [show (n : Int) - ((k + 1 : Nat) : Int) = (n : Int) - k - 1 by omega]; rfl
            have hA3 := goN_step GO2.out RD2.out (s' := holeS ⟨.hi lo, es, ⟨s, mx, hs ++ [(lo, lo + y)]⟩, ents, (n : Int) - k - 1⟩) (by
              show (if _ ∧ _ then _ else _) = _
              rw [if_pos ⟨WH.out.2, by simp only; omega⟩])
            rw [hs3] at hA3
            have A3 := hide hA3
            clear hs3 hA3 HG2
            go_wp2_with fail
            refine (stopped_go p _ len n2 _ HG3.out).mono ?_
            rintro e w3' ⟨rfl, rfl⟩
            go_wp2_with (at_builtin; refine wpList_append_own_at _ rfl _ _ 63 rfl w.heap.size 68 i0' (.agg #[.int .u64 0, .int .u64 0]) 2 16 Tryd.underlying63 hi0 hz0 hz1 hz2 rfl (by decide) _ _ _ rfl (M2.out.own.row.alloc _) ⟨w1'.heap.size + 1, 0, none⟩ 1 1 [.int .u64 lo, .int .u64 (lo + y)] rfl rfl ?z1 ?z2 ?z3 ?z4 ?z5 ?_)
            case z1 => exact hnew2 (heap_new_at _ _ (by simp))
            case z2 => intro u hu; simp at hu; rcases hu with rfl | rfl <;> rfl
            case z3 => have := HLK.out; unfold maxLen; omega
            case z4 => have := HLK.out; omega
            case z5 => have := M2.out.only.size; simp at this ⊢; omega
            intro hv' w3 hown hgrow _ _
            obtain ⟨ha', hc', rfl, _⟩ := own_len hown
            obtain ⟨⟨f2, ff⟩, hM3, hpp⟩ := M2.out.push T2.out hlt hsz hqr WL.out WH.out hown hgrow
            have M3 := hide hM3
            have J3 : Hid (EJ lm zs o p (.slice ad len cap) len es s mx ents n (k + 1) (hs ++ [(lo, lo + y)]) (w3.setCell ⟨q, 2, none⟩ (.slice ha' (hs.length + 1) hc'))) := hide (.inl ⟨n2, (cgo_loc p (.slice ad len cap) len n2).st _ _ hpp HG3.out, A3.out⟩)
            clear hown hgrow hM3 hpp
            go_wp2
            go_roundw
            case rel => first | exact ⟨k + 1, _, _, by omega, by go_num, by simp [HLK.out], M3.out, J3.out⟩ | ((repeat apply Exists.intro); exact ⟨⟨k + 1, _, _, by omega, by go_num, by simp [HLK.out], M3.out, J3.out⟩, rfl⟩)
            case measure => simp [intOf]; omega
      · -- stopped: the loop ends
        have HO := hide ho
        have HX := hide hX
        have JE : Hid (EJ lm zs o p (.slice ad len cap) len es s mx ents n n hs wr) := hide (.inr ⟨c, at', ho, hX⟩)
        clear ho hX hM ht
        go_wp2_with fail
        refine (stopped_err p _ len c at' _ HX.out).mono ?_
        rintro e w8 ⟨rfl, rfl⟩
        obtain ⟨r0, r1, r2, rf⟩ := HM.out.rcells
        have e0 := heap_setCell_same _ _ 2 _ _ (.slice hva hvl hvc) (heap_setCell_same _ _ 1 _ _ (.int .u64 mx) (heap_setCell_same _ _ 0 _ _ (.int .u64 s) HM.out.r))
        go_wp2
        refine bodyPost_ret (v := .agg #[.int .u64 s, .int .u64 mx, .slice hva hvl hvc]) ?_ rfl (ent_end HM.out JE.out hne1 hqr)
        simp [results, Tryd.results40, go_sem, World.cell?, e0]
    · obtain rfl : k = n := by omega
      have JE := hide hJ
      obtain ⟨d0, d1, d2, df⟩ := hM.cells
      obtain ⟨r0, r1, r2, rf⟩ := hM.rcells
      have e0 := heap_setCell_same _ _ 2 _ _ (.slice hva hvl hvc) (heap_setCell_same _ _ 1 _ _ (.int .u64 mx) (heap_setCell_same _ _ 0 _ _ (.int .u64 s) hM.r))
      clear hJ hM ht
      go_wp2
      refine bodyPost_ret (v := .agg #[.int .u64 s, .int .u64 mx, .slice hva hvl hvc]) ?_ rfl (ent_end HM.out JE.out hne1 hqr)
      simp [results, Tryd.results40, go_sem, World.cell?, e0]
set_option maxRecDepth 100000 in
set_option maxHeartbeats 6400000 in
theorem rent_o {lm : Lim} {zs : List Int} {o : Except (Int × Int) (List Ent × Int)} {ad : Option Addr} {len cap p : Nat} {wb : World} (hI : Ints .u8 wb ad len zs) (hlm : len ≤ 1000000) (hp : wb.heap.size ≤ p) (l : Lim) (es : List Ent) (ents before x a1 mx a2 : Int) (n : Nat) (hn : n ≤ 1000000) (w : World) (C0 C1 C2 C3 : World → Prop)
    (hB : Below wb.heap.size wb w) (hlt : p < w.heap.size) (h0 : C0 w) (L0 : LocP p C0) (L1 : LocP p C1) (L2 : LocP p C2) (L3 : LocP p C3)
    (K1 : Eff p 62 #[.pointer (some ⟨p, 0, none⟩)] (.tuple #[.int .u64 x, .int .i64 a1]) wb C0 C1)
    (wb4 : Word before) (wx : Word x)
    (hs : ¬ before + 1 + x < 18446744073709551616)
    (KF : Eff p 38 #[.pointer (some ⟨p, 0, none⟩), .int .i64 8, .int .i64 a1] (.tuple #[]) wb C1 C2)
    (K2 : Eff p 62 #[.pointer (some ⟨p, 0, none⟩)] (.tuple #[.int .u64 mx, .int .i64 a2]) wb C2 C3)
    (K3 : Eff p 37 #[.pointer (some ⟨p, 0, none⟩), .int .i64 l.ho] (.int .i64 n) wb C3 (EJ lm zs o p (.slice ad len cap) len es 0 mx ents n 0 [])) :
    Calls Tryd.prog 40 #[.pointer (some ⟨p, 0, none⟩), .bool false, .int .u64 before, .agg #[.int .i64 l.f, .int .i64 l.ve, .int .i64 l.en, .int .i64 l.ho, .int .i64 l.se]] w (EntPost lm zs o p (.slice ad len cap) len es 0 mx ents n w) := by
  obtain ⟨i0', hi0, hz0, hz1, hz2⟩ := info_parts info_iv
  have hmx : Tryd.prog.follows .mixedOrders = true := by kernel_rfl
  have INTS := hide hI; have HP := hide hp; have HB := hide hB; have H0 := hide h0; have LL0 := hide L0; have LL1 := hide L1; have LL3 := hide L3; have KK1 := hide K1; have KK2 := hide K2; have KK3 := hide K3; have LL2 := hide L2; have KKF := hide KF
  have HS := hide (fun (W : World) (b : Nat) (hW : W.heap[b]? = some (.cells #[.int .u64 before, .int .u64 1, .int .u64 x] 51 (0, 0))) => rsum_no (some ⟨b, 0, none⟩) 3 3 [before, 1, x] W (ints3 wb4 one_word wx hW) (by simp; omega))
  clear hI hp hB h0 L0 L1 L3 K1 K2 K3 L2 KF wb4 wx hs 
  go_enter Tryd.func40, Tryd.ntmps40
  go_wp2_with fail
  have hb0 : Below w.heap.size w ((w.alloc (.cells #[.int .i64 l.f, .int .i64 l.ve, .int .i64 l.en, .int .i64 l.ho, .int .i64 l.se] 36)).alloc (.cells #[.int .u64 0, .int .u64 0, .slice none 0 0] 65)) := bl_alloc (bl_alloc (Below.refl _ _) _) _
  refine (KK1.out _ (LL0.out.below hlt hb0 H0.out) (HB.out.trans (hb0.mono HB.out.size)) (keep_lt hb0 hlt)).mono ?_
  rintro e w1 ⟨rfl, hC1, hO1⟩
  have B1 : w1.heap[w.heap.size]? = some (.cells #[.int .i64 l.f, .int .i64 l.ve, .int .i64 l.en, .int .i64 l.ho, .int .i64 l.se] 36 (0, 0)) := hO1.obj (by omega) (heap_old_at _ _ (by simp) (heap_new_at _ _ rfl))
  have R1 : w1.heap[w.heap.size + 1]? = some (.cells #[.int .u64 0, .int .u64 0, .slice none 0 0] 65 (0, 0)) := hO1.obj (by omega) (heap_new_at _ _ (by simp))
  have O1 := hide ((Only.of_below hb0).trans hO1)
  have C1' := hide hC1
  clear hC1 hO1 hb0
  go_wp2_with fail
  refine (HS.out _ _ (heap_new_at _ _ rfl)).mono ?_
  rintro e w2 ⟨rfl, b2⟩
  have hb2 := bl_trans (bl_alloc (Below.refl w1.heap.size w1) _) b2
  have hl1 : p < w1.heap.size := Nat.lt_of_lt_of_le hlt O1.out.size
  have B2 := (hb2.block _ (Blk_lt B1)).trans B1
  have R2 := (hb2.block _ (Blk_lt R1)).trans R1
  have O2 := hide (O1.out.call hb2)
  have C2' := hide (LL1.out.below hl1 hb2 C1'.out)
  clear b2 hb2 B1 R1 hl1
  go_wp2_with fail
  refine (KKF.out w2 C2'.out (only_bel HP.out HB.out O2.out) (Nat.lt_of_lt_of_le hlt O2.out.size)).mono ?_
  rintro e w3 ⟨rfl, hC3, hO3⟩
  have B3 := hO3.obj (show ¬ w.heap.size = p by omega) B2
  have R3 := hO3.obj (show ¬ w.heap.size + 1 = p by omega) R2
  have O3 := hide (O2.out.trans hO3)
  have C3' := hide hC3
  clear hC3 hO3 B2 R2
  go_wp2_with fail
  have hb4 : Below w3.heap.size w3 (w3.alloc (.cells #[.int .u64 0, .int .u64 0, .slice none 0 0] 65)) := bl_alloc (Below.refl _ _) _
  have hl4 : p < w3.heap.size := Nat.lt_of_lt_of_le hlt O3.out.size
  have hsz := O3.out.size
  have hqr : w.heap.size + 1 ≠ w3.heap.size := by have := Blk_lt R3; omega
  refine (KK2.out _ (LL2.out.below hl4 hb4 C3'.out) (only_bel HP.out HB.out (O3.out.call hb4)) (keep_lt hb4 hl4)).mono ?_
  rintro e w5 ⟨rfl, hC5, hO5⟩
  have B5 := hO5.obj (show ¬ w.heap.size = p by omega) ((hb4.block _ (Blk_lt B3)).trans B3)
  have R5 := hO5.obj (show ¬ w.heap.size + 1 = p by omega) ((hb4.block _ (Blk_lt R3)).trans R3)
  have Q5 : w5.heap[w3.heap.size]? = some (.cells #[.int .u64 0, .int .u64 0, .slice none 0 0] 65 (0, 0)) := hO5.obj (by omega) (heap_new_at _ _ rfl)
  have O5 := hide ((O3.out.call hb4).trans hO5)
  have C5' := hide hC5
  obtain ⟨q, eq⟩ : ∃ q, w3.heap.size = q := ⟨_, rfl⟩
  rw [eq] at Q5 hqr hsz
  have hpq : p ≠ q := by rw [← eq]; omega
  have hq6 := heap_setCell_same _ _ 1 _ _ (.int .u64 mx) Q5
  have o6 : Only (fun b => b = q) w5 (w5.setCell ⟨q, 1, none⟩ (.int .u64 mx)) := (Only.refl (fun b => b = q) w5).setCell (p := ⟨q, 1, none⟩) (.inl rfl) _
  have B6 := o6.obj (show ¬ w.heap.size = q by have := Blk_lt R3; rw [← eq]; omega) B5
  have R6 := o6.obj (show ¬ w.heap.size + 1 = q by omega) R5
  have C6 := hide (LL3.out.st _ _ (o6.block p (Nat.lt_of_lt_of_le hlt O5.out.size) hpq) C5'.out)
  have O6 := hide (O5.out.setCell (p := ⟨q, 1, none⟩) (.inr hsz) (.int .u64 mx))
  have qc : w5.cell? ⟨q, 1, none⟩ = some (.int .u64 0) := by simp [World.cell?, Q5]
  have qf : ∀ j, w5.frozen? ⟨q, j, none⟩ = false := by intro j; simp [World.frozen?, Q5]
  have cb : (w5.setCell ⟨q, 1, none⟩ (.int .u64 mx)).cell? ⟨w.heap.size, 3, none⟩ = some (.int .i64 l.ho) := by simp [World.cell?, B6]
  have HQ6 := hide hq6
  have HR6 := hide R6
  rw [eq]
  clear hC5 hO5 hb4 hl4 eq B3 R3 B5 R5 Q5 hq6 o6 B6 R6
  go_wp2_with fail
  refine (KK3.out _ C6.out (only_bel HP.out HB.out O6.out) (Nat.lt_of_lt_of_le hlt O6.out.size)).mono ?_
  rintro e w7 ⟨rfl, hJ7, hO7⟩
  have M7 := hide (EntM.mk (hs := []) (hO7.obj (fun e => hpq e.symm) HQ6.out) (hO7.obj (show ¬ w.heap.size + 1 = p by omega) HR6.out) (OwnL.nil _ w.heap.size _) (O6.out.trans hO7))
  have J7 := hide hJ7
  clear hJ7 hO7 qc qf cb HQ6 HR6 C6 O6 O5 C5'
  go_wp2_with fail
  go_loopw [15] (fun c wr => ∃ (k : Nat) (hs : List Iv) (hv : Value), k ≤ n ∧ c = .int .i64 k ∧ hs.length = k ∧ EntM w p q (w.heap.size + 1) 0 mx hs hv wr ∧ EJ lm zs o p (.slice ad len cap) len es 0 mx ents n k hs wr)
    (fun c _ => n - (intOf c).toNat)
  case atStart => exact ⟨0, [], _, Nat.zero_le _, rfl, rfl, M7.out, J7.out⟩
  case round =>
    clear M7 J7
    obtain ⟨k, hs, hv, hk, rfl, hlk, hM, hJ⟩ := hrel
    have HLK := hide hlk
    clear hlk
    obtain ⟨hva, hvc, ehv, _⟩ := hM.own.prs
    obtain ⟨hvl, ehl⟩ : ∃ hvl, hs.length = hvl := ⟨_, rfl⟩
    rw [ehl] at ehv
    subst ehv
    have EHL := hide ehl
    clear ehl
    have HM := hide hM
    have HJ := hide hJ
    have i0 : (0 : Int) ≤ (k : Int) := by omega
    have ht := ej_typed hJ
    have HT := hide ht
    have hne1 : w.heap.size + 1 ≠ p := by omega
    by_cases hkn : k < n
    · have i1 : (k : Int) < (n : Int) := by omega
      obtain ⟨d0, d1, d2, df⟩ := hM.cells
      rcases hJ with ⟨a, hG, hA⟩ | ⟨c, at', ho, hX⟩
      · have hsl : holeS ⟨.op, es, ⟨0, mx, hs⟩, ents, (n : Int) - k⟩ = ⟨.lo, es, ⟨0, mx, hs⟩, ents, (n : Int) - k - 1⟩ := holeS_lo _ _ _ _ _ (by omega)
        rw [hsl] at hA
        have GO := hide (hA.go rfl)
        have HG := hide hG
        clear hA hsl hM ht hG
        go_wp2_with fail
        refine (stopped_go p _ len a _ HG.out).mono ?_
        rintro e w8 ⟨rfl, rfl⟩
        go_wp2_with fail
        refine (interval_go INTS.out hlm HP.out _ (only_bel HP.out HB.out HM.out.only) HG.out GO.out HM.out.own).mono ?_
        rintro e w1' ⟨hO1, hor⟩
        have hM1 := HM.out.call hO1 HT.out hpq.symm hne1
        have M1 := hide hM1
        rcases hor with ⟨c, at', ho, hX, rfl⟩ | ⟨lo, y, n1, n2, rfl, wl, wh, wy, hg2, hr2, hG2, hn12, hn2⟩
        · have T1 := hide (CurC.typed hX.2.choose_spec)
          have HO := hide ho
          have HX := hide hX
          clear hO1 hM1 d0 d1 d2 df ho hX
          have M2 := hide (M1.out.below (bl_alloc (Below.refl w1'.heap.size w1') (.cells #[.int .u64 0, .int .u64 0] 68)))
          have hpl := Nat.lt_of_lt_of_le hlt M1.out.only.size
          have HX2 := hide ((cerr_loc p (.slice ad len cap) len c at').below hpl (bl_alloc (Below.refl w1'.heap.size w1') (.cells #[.int .u64 0, .int .u64 0] 68)) HX.out)
          have T2 := hide (CurC.typed HX2.out.2.choose_spec)
          obtain ⟨d0, d1, d2, df⟩ := M2.out.cells
          clear M1 HX T1 hpl
          go_wp2_with fail
          refine (stopped_err p _ len c at' _ HX2.out).mono ?_
          rintro e w3' ⟨rfl, rfl⟩
          go_wp2_with (at_builtin; refine wpList_append_own_at _ rfl _ _ 63 rfl w.heap.size 68 i0' (.agg #[.int .u64 0, .int .u64 0]) 2 16 Tryd.underlying63 hi0 hz0 hz1 hz2 rfl (by decide) _ _ _ rfl (M2.out.own.row.alloc _) ⟨w1'.heap.size + 1, 0, none⟩ 1 1 [.int .u64 0, .int .u64 0] rfl rfl ?z1 ?z2 ?z3 ?z4 ?z5 ?_)
          case z1 => exact hnew2 (heap_new_at _ _ (by simp))
          case z2 => intro u hu; simp at hu; subst hu; rfl
          case z3 => have := HLK.out; unfold maxLen; omega
          case z4 => have := HLK.out; omega
          case z5 => have := M2.out.only.size; simp at this ⊢; omega
          intro hv' w3 hown hgrow _ _
          obtain ⟨ha', hc', rfl, _⟩ := own_len hown
          obtain ⟨⟨f2, ff⟩, hM3, hpp⟩ := M2.out.push T2.out hlt hsz hqr zw zw hown hgrow
          have M3 := hide hM3
          have J3 : Hid (EJ lm zs o p (.slice ad len cap) len es 0 mx ents n (k + 1) (hs ++ [(0, 0)]) (w3.setCell ⟨q, 2, none⟩ (.slice ha' (hs.length + 1) hc'))) := hide (.inr ⟨c, at', HO.out, (cerr_loc p (.slice ad len cap) len c at').st _ _ hpp HX2.out⟩)
          clear hown hgrow hM3 hpp
          go_wp2
          go_roundw
          case rel => first | exact ⟨k + 1, _, _, by omega, by go_num, by simp [HLK.out], M3.out, J3.out⟩ | ((repeat apply Exists.intro); exact ⟨⟨k + 1, _, _, by omega, by go_num, by simp [HLK.out], M3.out, J3.out⟩, rfl⟩)
          case measure => simp [intOf]; omega
        · have HG2 := hide hG2
          have WL := hide wl; have WH := hide wh; have GO2 := hide hg2; have RD2 := hide hr2
          have hb2 := bl_alloc (Below.refl w1'.heap.size w1') (.cells #[.int .u64 lo, .int .u64 (lo + y)] 68)
          have hpl := Nat.lt_of_lt_of_le hlt M1.out.only.size
          have M2 := hide (M1.out.below hb2)
          have HG3 := hide ((cgo_loc p (.slice ad len cap) len n2).below hpl hb2 hG2)
          have T2 := hide (CurC.typed HG3.out)
          obtain ⟨hc0, hc1, _⟩ := CurC.cells HG3.out
          have NX := hide hc1
          clear hO1 hM1 d0 d1 d2 df hG2 wl wh hg2 hr2 hb2 hc0 hc1
          obtain ⟨d0, d1, d2, df⟩ := M2.out.cells
          by_cases hge : mx ≤ lo + y
          · -- the top is not greater
            have ho : o = .error (8, (n1 : Int)) := goN_stop GO2.out RD2.out (by
              show (if _ ∧ _ then _ else _) = _
              rw [if_neg (fun hh => by have := hh.2; simp only at this; omega)])
            have HO := hide ho
            have hvl := (rd_once (fun i => by
              have := INTS.out.wf
              by_cases hi : i < zs.length
              · have e1 : byteAt zs i = zs[i] := by simp [byteAt, List.getD, List.getElem?_eq_getElem hi]
                rw [e1]; exact byte_of_wf (this _ (List.getElem_mem _))
              · have e1 : byteAt zs i = 0 := by simp [byteAt, List.getD, List.getElem?_eq_none (Nat.le_of_not_lt hi)]
                rw [e1]; decide) RD2.out).2
            have KB := hide (fun W => rbytes_any 10 y W wy (by have := wy.2; omega) (by decide) (by decide))
            have qy : IntKind.u64.wrap (lo + y - lo) = y := by rw [show lo + y - lo = y by omega]; exact wrap_word wy
            obtain ⟨L, eL⟩ : ∃ L, (vb 10 y).length = L := ⟨_, rfl⟩
            have EL := hide eL
            rw [eL] at hvl
            have qn : IntKind.i64.wrap ((n2 : Int) - (L : Int)) = (n1 : Int) := by rw [IntKind.wrap_i64]; omega
            have hL9 : L ≤ 10 := by rw [← eL]; exact vb_most 10 y
            clear ho hvl eL
            obtain ⟨b16, eb16⟩ : ∃ b16, w1'.heap.size = b16 := ⟨_, rfl⟩
            have HB16 := hide (show ¬ b16 = p by have := M1.out.only.size; rw [← eb16]; omega)
            have TT := hide (TopT.mk (W0 := w1') NX.out (show (w1'.alloc (.cells #[.int .u64 lo, .int .u64 (lo + y)] 68)).cell? ⟨w1'.heap.size, 0, none⟩ = some (.int .u64 lo) by simp) (show (w1'.alloc (.cells #[.int .u64 lo, .int .u64 (lo + y)] 68)).cell? ⟨w1'.heap.size, 1, none⟩ = some (.int .u64 (lo + y)) by simp))
            go_wp2_with fail
            refine (stopped_go p _ len n2 _ HG3.out).mono ?_
            rintro e w3' ⟨rfl, rfl⟩
            obtain ⟨W2, eW2⟩ : ∃ W2, w1'.alloc (.cells #[.int .u64 lo, .int .u64 (lo + y)] 68) = W2 := ⟨_, rfl⟩
            have t0 : W2.cell? ⟨b16, 0, none⟩ = some (.int .u64 lo) := by rw [← eW2, ← eb16]; simp
            have t1 : W2.cell? ⟨b16, 1, none⟩ = some (.int .u64 (lo + y)) := by rw [← eW2, ← eb16]; simp
            rw [eW2] at TT HG3 M2 T2 d0 d1 d2 df NX ⊢
            rw [eb16] at TT
            clear eW2 eb16 M1 HG2 hpl
            go_wp2_with fail
            refine wp_region_held_drew (S := TopT p n2 b16 lo (lo + y) w1') hmx TT.out.drew (fun hS => ?_)
            refine wpAnyH_takeD (i := 0) (d := some 73) (v := (.pointer (some ⟨p, 0, none⟩))) rfl rfl (by kernel_rfl) (by kernel_rfl) (by kernel_rfl) (fun _ _ _ h => h) (Or.inl ⟨by rfl, ?_⟩) (by assumption) ?_
            · intro X hX; go_simp
            simp only [Act.put, List.setIfInBounds_toArray, List.set_cons_zero, List.set_cons_succ]
            refine wpAnyH_takeD (i := 1) (d := some 74) (v := (.pointer (some ⟨p, 0, none⟩))) rfl rfl (by kernel_rfl) (by kernel_rfl) (by kernel_rfl) (fun _ _ _ h => h) (Or.inl ⟨by rfl, ?_⟩) (by assumption) ?_
            · intro X hX; go_simp
            simp only [Act.put, List.setIfInBounds_toArray, List.set_cons_zero, List.set_cons_succ]
            refine wpAnyH_takeD (i := 2) (d := some 75) (v := (.pointer (some ⟨p, 0, none⟩))) rfl rfl (by kernel_rfl) (by kernel_rfl) (by kernel_rfl) (fun _ _ _ h => h) (Or.inl ⟨by rfl, ?_⟩) (by assumption) ?_
            · intro X hX; go_simp
            simp only [Act.put, List.setIfInBounds_toArray, List.set_cons_zero, List.set_cons_succ]
            refine wpAnyH_takeD (i := 3) (d := some 76) (v := (.pointer (some ⟨p, 1, none⟩))) rfl rfl (by kernel_rfl) (by kernel_rfl) (by kernel_rfl) (fun _ _ _ h => h) (Or.inl ⟨by rfl, ?_⟩) (by assumption) ?_
            · intro X hX; go_simp
            simp only [Act.put, List.setIfInBounds_toArray, List.set_cons_zero, List.set_cons_succ]
            refine wpAnyH_takeD (i := 4) (d := some 77) (v := (.int .i64 n2)) rfl rfl (by kernel_rfl) (by kernel_rfl) (by kernel_rfl) (fun _ _ _ h => h) (Or.inl ⟨by rfl, ?_⟩) (by assumption) ?_
            · intro X hX; obtain ⟨x0, x1, x2⟩ := hX; go_simp
            simp only [Act.put, List.setIfInBounds_toArray, List.set_cons_zero, List.set_cons_succ]
            refine wpAnyH_takeD (i := 5) (d := some 78) (v := (.pointer (some ⟨b16, 1, none⟩))) rfl rfl (by kernel_rfl) (by kernel_rfl) (by kernel_rfl) (fun _ _ _ h => h) (Or.inl ⟨by rfl, ?_⟩) (by assumption) ?_
            · intro X hX; go_simp
            simp only [Act.put, List.setIfInBounds_toArray, List.set_cons_zero, List.set_cons_succ]
            refine wpAnyH_takeD (i := 6) (d := some 79) (v := (.int .u64 (lo + y))) rfl rfl (by kernel_rfl) (by kernel_rfl) (by kernel_rfl) (fun _ _ _ h => h) (Or.inl ⟨by rfl, ?_⟩) (by assumption) ?_
            · intro X hX; obtain ⟨x0, x1, x2⟩ := hX; go_simp
            simp only [Act.put, List.setIfInBounds_toArray, List.set_cons_zero, List.set_cons_succ]
            refine wpAnyH_takeD (i := 7) (d := some 80) (v := (.pointer (some ⟨b16, 0, none⟩))) rfl rfl (by kernel_rfl) (by kernel_rfl) (by kernel_rfl) (fun _ _ _ h => h) (Or.inl ⟨by rfl, ?_⟩) (by assumption) ?_
            · intro X hX; go_simp
            simp only [Act.put, List.setIfInBounds_toArray, List.set_cons_zero, List.set_cons_succ]
            refine wpAnyH_takeD (i := 8) (d := some 81) (v := (.int .u64 lo)) rfl rfl (by kernel_rfl) (by kernel_rfl) (by kernel_rfl) (fun _ _ _ h => h) (Or.inl ⟨by rfl, ?_⟩) (by assumption) ?_
            · intro X hX; obtain ⟨x0, x1, x2⟩ := hX; go_simp
            simp only [Act.put, List.setIfInBounds_toArray, List.set_cons_zero, List.set_cons_succ]
            refine wpAnyH_takeD (i := 9) (d := some 82) (v := (.int .u64 y)) rfl rfl (by kernel_rfl) (by kernel_rfl) (by kernel_rfl) (fun _ _ _ h => h) (Or.inl ⟨by rfl, ?_⟩) (by assumption) ?_
            · intro X hX; go_simp
            simp only [Act.put, List.setIfInBounds_toArray, List.set_cons_zero, List.set_cons_succ]
            refine wpAnyH_ready (rs := [10]) (by kernel_rfl) (by simp) ?_
            refine AllReadyH.cons (o := _) rfl (fun K hK => ?_) AllReadyH.nil
            go_simp
            refine (KB.out _).mono ?_
            rintro e wq ⟨vq, rfl, hOq, hbq⟩
            obtain ⟨aq, cq, rfl, _, _⟩ := hOq.ints (by rw [EL.out]; omega)
            rw [EL.out]
            have hS := hS.below hbq
            have hbq' := bl_trans (bl_drew (Below.refl W2.heap.size W2)) hbq
            have hpl := Nat.lt_of_lt_of_le hlt M2.out.only.size
            have HG4 := hide ((cgo_loc p (.slice ad len cap) len n2).below hpl hbq' HG3.out)
            have M4 := hide (M2.out.below hbq')
            clear hbq hbq' hOq
            go_simp
            refine hK.out _ _ hS (fun _ => ?_)
            clear hK K
            refine wpAnyH_takeD (i := 11) (d := some 84) (v := (.int .i64 L)) rfl rfl (by kernel_rfl) (by kernel_rfl) (by kernel_rfl) (fun _ _ _ h => h) (Or.inl ⟨by rfl, ?_⟩) (by assumption) ?_
            · intro X hX; go_simp
            simp only [Act.put, List.setIfInBounds_toArray, List.set_cons_zero, List.set_cons_succ]
            refine wpAnyH_takeD (i := 12) (d := some 85) (v := (.int .i64 n1)) rfl rfl (by kernel_rfl) (by kernel_rfl) (by kernel_rfl) (fun _ _ _ h => h) (Or.inl ⟨by rfl, ?_⟩) (by assumption) ?_
            · intro X hX; go_simp
            simp only [Act.put, List.setIfInBounds_toArray, List.set_cons_zero, List.set_cons_succ]
            refine wpAnyH_ready (rs := [13]) (by kernel_rfl) (by simp) ?_
            refine AllReadyH.cons (o := _) rfl (fun K hK => ?_) AllReadyH.nil
            go_simp
            refine (fail_at p _ len n2 8 n1 _ HG4.out).mono ?_
            rintro e w5' ⟨rfl, hC5, hO5⟩
            have M5 := hide (M4.out.call hO5 (CurC.typed HG4.out) hpq.symm hne1)
            have T5 := hide (CurC.typed hC5)
            have C5 := hide hC5
            have hb16p : ¬ b16 = p := HB16.out
            have hS : TopT p n2 b16 lo (lo + y) w1' w5' := ⟨(CurC.cells hC5).2.1, hO5.cell hb16p hS.lo, hO5.cell hb16p hS.hi⟩
            clear hC5 hO5 hb16p
            go_simp
            refine hK.out _ _ hS (fun _ => ?_)
            clear hK K
            refine wpAnyH_done (by kernel_rfl) ?_ _
            have s0 := hS.lo
            have s1 := hS.hi
            clear hS d0 d1 d2 df t0 t1
            obtain ⟨d0, d1, d2, df⟩ := M5.out.cells
            go_wp2_with (at_builtin; refine wpList_append_own_at _ rfl _ _ 63 rfl w.heap.size 68 i0' (.agg #[.int .u64 0, .int .u64 0]) 2 16 Tryd.underlying63 hi0 hz0 hz1 hz2 rfl (by decide) _ _ _ rfl (M5.out.own.row.alloc _) ⟨w5'.heap.size, 0, none⟩ 1 1 [.int .u64 lo, .int .u64 (lo + y)] rfl rfl ?z1 ?z2 ?z3 ?z4 ?z5 ?_)
            case z1 => exact hnew2 (heap_new_at _ _ rfl)
            case z2 => intro u hu; simp at hu; rcases hu with rfl | rfl <;> rfl
            case z3 => have := HLK.out; unfold maxLen; omega
            case z4 => have := HLK.out; omega
            case z5 => have := M5.out.only.size; simp at this ⊢; omega
            intro hv' w3 hown hgrow _ _
            obtain ⟨ha', hc', rfl, _⟩ := own_len hown
            obtain ⟨⟨f2, ff⟩, hM3, hpp⟩ := M5.out.push T5.out hlt hsz hqr WL.out WH.out hown hgrow
            have M3 := hide hM3
            have J3 : Hid (EJ lm zs o p (.slice ad len cap) len es 0 mx ents n (k + 1) (hs ++ [(lo, lo + y)]) (w3.setCell ⟨q, 2, none⟩ (.slice ha' (hs.length + 1) hc'))) := hide (.inr ⟨8, n1, HO.out, (by decide), n2, hpp.trans C5.out⟩)
            clear hown hgrow hM3 hpp
            go_wp2
            go_roundw
            case rel => first | exact ⟨k + 1, _, _, by omega, by go_num, by simp [HLK.out], M3.out, J3.out⟩ | ((repeat apply Exists.intro); exact ⟨⟨k + 1, _, _, by omega, by go_num, by simp [HLK.out], M3.out, J3.out⟩, rfl⟩)
            case measure => simp [intOf]; omega
          · -- a good hole
            have hs3 : holeS ⟨.hi lo, es, ⟨0, mx, hs ++ [(lo, lo + y)]⟩, ents, (n : Int) - k - 1⟩ = holeS ⟨.op, es, ⟨0, mx, hs ++ [(lo, lo + y)]⟩, ents, (n : Int) - ((k + 1 : Nat) : Int)⟩ := by rw [show (n : Int) - ((k + 1 : Nat) : Int) = (n : Int) - k - 1 by omega]; rfl
            have hA3 := goN_step GO2.out RD2.out (s' := holeS ⟨.hi lo, es, ⟨0, mx, hs ++ [(lo, lo + y)]⟩, ents, (n : Int) - k - 1⟩) (by
              show (if _ ∧ _ then _ else _) = _
              rw [if_pos ⟨WH.out.2, by simp only; omega⟩])
            rw [hs3] at hA3
            have A3 := hide hA3
            clear hs3 hA3 HG2
            go_wp2_with fail
            refine (stopped_go p _ len n2 _ HG3.out).mono ?_
            rintro e w3' ⟨rfl, rfl⟩
            go_wp2_with (at_builtin; refine wpList_append_own_at _ rfl _ _ 63 rfl w.heap.size 68 i0' (.agg #[.int .u64 0, .int .u64 0]) 2 16 Tryd.underlying63 hi0 hz0 hz1 hz2 rfl (by decide) _ _ _ rfl (M2.out.own.row.alloc _) ⟨w1'.heap.size + 1, 0, none⟩ 1 1 [.int .u64 lo, .int .u64 (lo + y)] rfl rfl ?z1 ?z2 ?z3 ?z4 ?z5 ?_)
            case z1 => exact hnew2 (heap_new_at _ _ (by simp))
            case z2 => intro u hu; simp at hu; rcases hu with rfl | rfl <;> rfl
            case z3 => have := HLK.out; unfold maxLen; omega
            case z4 => have := HLK.out; omega
            case z5 => have := M2.out.only.size; simp at this ⊢; omega
            intro hv' w3 hown hgrow _ _
            obtain ⟨ha', hc', rfl, _⟩ := own_len hown
            obtain ⟨⟨f2, ff⟩, hM3, hpp⟩ := M2.out.push T2.out hlt hsz hqr WL.out WH.out hown hgrow
            have M3 := hide hM3
            have J3 : Hid (EJ lm zs o p (.slice ad len cap) len es 0 mx ents n (k + 1) (hs ++ [(lo, lo + y)]) (w3.setCell ⟨q, 2, none⟩ (.slice ha' (hs.length + 1) hc'))) := hide (.inl ⟨n2, (cgo_loc p (.slice ad len cap) len n2).st _ _ hpp HG3.out, A3.out⟩)
            clear hown hgrow hM3 hpp
            go_wp2
            go_roundw
            case rel => first | exact ⟨k + 1, _, _, by omega, by go_num, by simp [HLK.out], M3.out, J3.out⟩ | ((repeat apply Exists.intro); exact ⟨⟨k + 1, _, _, by omega, by go_num, by simp [HLK.out], M3.out, J3.out⟩, rfl⟩)
            case measure => simp [intOf]; omega
      · -- stopped: the loop ends
        have HO := hide ho
        have HX := hide hX
        have JE : Hid (EJ lm zs o p (.slice ad len cap) len es 0 mx ents n n hs wr) := hide (.inr ⟨c, at', ho, hX⟩)
        clear ho hX hM ht
        go_wp2_with fail
        refine (stopped_err p _ len c at' _ HX.out).mono ?_
        rintro e w8 ⟨rfl, rfl⟩
        obtain ⟨r0, r1, r2, rf⟩ := HM.out.rcells
        have e0 := heap_setCell_same _ _ 2 _ _ (.slice hva hvl hvc) (heap_setCell_same _ _ 1 _ _ (.int .u64 mx) (heap_setCell_same _ _ 0 _ _ (.int .u64 0) HM.out.r))
        go_wp2
        refine bodyPost_ret (v := .agg #[.int .u64 0, .int .u64 mx, .slice hva hvl hvc]) ?_ rfl (ent_end HM.out JE.out hne1 hqr)
        simp [results, Tryd.results40, go_sem, World.cell?, e0]
    · obtain rfl : k = n := by omega
      have JE := hide hJ
      obtain ⟨d0, d1, d2, df⟩ := hM.cells
      obtain ⟨r0, r1, r2, rf⟩ := hM.rcells
      have e0 := heap_setCell_same _ _ 2 _ _ (.slice hva hvl hvc) (heap_setCell_same _ _ 1 _ _ (.int .u64 mx) (heap_setCell_same _ _ 0 _ _ (.int .u64 0) hM.r))
      clear hJ hM ht
      go_wp2
      refine bodyPost_ret (v := .agg #[.int .u64 0, .int .u64 mx, .slice hva hvl hvc]) ?_ rfl (ent_end HM.out JE.out hne1 hqr)
      simp [results, Tryd.results40, go_sem, World.cell?, e0]
end Go.Proofs.YtppeogalaikopaaDoor
namespace Go.Proofs.YtppeogalaikopaaDoor
open Go Go.RowKit
set_option linter.unusedSimpArgs false

section
variable {lm : Lim} {zs : List Int} {o : Except (Int × Int) (List Ent × Int)} {ad : Option Addr} {len cap p : Nat} {wb : World}
theorem eff_count_err {bv : Value} {es : List Ent} {x mx ents : Int} {c a limit : Int} (ho : o = .error (c, a)) :
    Eff p 37 #[.pointer (some ⟨p, 0, none⟩), .int .i64 limit] (.int .i64 ((0 : Nat) : Int)) wb (fun W => CErr W p bv len c a) (EJ lm zs o p bv len es x mx ents 0 0 []) :=
  fun W hc _ _ => (count_err p bv len c a limit W hc).mono fun _ _ ⟨he, hw⟩ => ⟨he, hw ▸ .inr ⟨c, a, ho, hc⟩, hw ▸ Only.refl _ _⟩
theorem op_step {es : List Ent} {cur : Ent} {ents h x rest : Int} (hl : limitC x lm.ho rest = 0) : stepS lm ⟨.op, es, cur, ents, h⟩ x rest = .ok (holeS ⟨.op, es, cur, ents, x⟩) := by
  show (if limitC _ _ _ ≠ 0 then _ else _) = _
  rw [hl, if_neg (by simp)]
theorem op_over {es : List Ent} {cur : Ent} {ents h x rest : Int} (hl : limitC x lm.ho rest ≠ 0) : stepS lm ⟨.op, es, cur, ents, h⟩ x rest = .error (limitC x lm.ho rest) := by
  show (if limitC _ _ _ ≠ 0 then _ else _) = _
  rw [if_pos hl]
theorem eff_count_go (hI : Ints .u8 wb ad len zs) (hlm : len ≤ 1000000) (hL : LimW lm) {es : List Ent} {x mx ents h : Int} {a : Nat} (hg : GoN lm zs o ⟨.op, es, ⟨x, mx, []⟩, ents, h⟩ a) :
    ∃ n : Nat, n ≤ 1000000 ∧ Eff p 37 #[.pointer (some ⟨p, 0, none⟩), .int .i64 lm.ho] (.int .i64 n) wb (fun W => CGo W p (.slice ad len cap) len a) (EJ lm zs o p (.slice ad len cap) len es x mx ents n 0 []) := by
  have hl := hI.length
  have hal : a ≤ len := by have := hg.le; omega
  obtain ⟨q, hq⟩ := rd_some zs a
  rcases rd_nat hq with ⟨c, rfl, _⟩ | ⟨y, n, rfl, h1, h2, hy⟩
  · refine ⟨0, by omega, fun W hC hb _ => (count_go p ad len cap zs a lm.ho W (hI.below hb) hal hlm hC hL.ho).mono ?_⟩
    rintro e w' ⟨hO, ⟨c', hc', rfl, hE⟩ | ⟨y, n, hr, _⟩⟩
    · refine ⟨rfl, .inr ⟨c', a, ?_, hE⟩, hO⟩
      rcases hc' with hr | ⟨y, n, hr, _⟩
      · exact goN_err hg hr
      · have := rd_unique hq hr; cases this
    · have := rd_unique hq hr; cases this
  · by_cases h0 : limitC y lm.ho (zs.length - n) = 0
    · have hyl : (y.toNat : Int) = y := Int.toNat_of_nonneg hy.1
      have hym : y.toNat ≤ 1000000 := by
        unfold limitC at h0
        split at h0
        · omega
        · split at h0
          · omega
          · have := hL.ho; omega
      refine ⟨y.toNat, hym, fun W hC hb _ => (count_go p ad len cap zs a lm.ho W (hI.below hb) hal hlm hC hL.ho).mono ?_⟩
      rintro e w' ⟨hO, ⟨c', hc', rfl, hE⟩ | ⟨y', n', hr, _, rfl, hG, _, _⟩⟩
      · exfalso
        rcases hc' with hr | ⟨y', n', hr, h3, h4⟩
        · have := rd_unique hq hr; cases this
        · have := rd_unique hq hr
          injection this with e1
          injection e1 with e2 e3
          subst e2
          rw [← e3] at h3
          exact h4 (by rw [← h3]; exact h0)
      · have := rd_unique hq hr
        injection this with e1
        injection e1 with e2 e3
        have e4 : n = n' := by omega
        subst e4
        subst e2
        refine ⟨by rw [hyl], .inl ⟨n, hG, ?_⟩, hO⟩
        have h5 := goN_step hg hq (op_step h0)
        rw [show (((y' : Int).toNat : Nat) : Int) - ((0 : Nat) : Int) = y' by omega]
        exact h5
    · refine ⟨0, by omega, fun W hC hb _ => (count_go p ad len cap zs a lm.ho W (hI.below hb) hal hlm hC hL.ho).mono ?_⟩
      rintro e w' ⟨hO, ⟨c', hc', rfl, hE⟩ | ⟨y', n', hr, h3, _⟩⟩
      · refine ⟨rfl, .inr ⟨c', a, ?_, hE⟩, hO⟩
        rcases hc' with hr | ⟨y', n', hr, h3, h4⟩
        · have := rd_unique hq hr; cases this
        · have := rd_unique hq hr
          injection this with e1
          injection e1 with e2 e3
          subst e2
          rw [← e3] at h3
          rw [← h3]
          exact goN_stop hg hq (op_over h0)
      · exfalso
        have := rd_unique hq hr
        injection this with e1
        injection e1 with e2 e3
        rw [← e2, ← e3] at h3
        exact h0 h3
/-- What entry comes to, in all. -/
def EntryPost (lm : Lim) (zs : List Int) (o : Except (Int × Int) (List Ent × Int)) (p : Nat) (bv : Value) (len : Nat) (es : List Ent) (ents : Int) (w : World) (e : Ending) (w' : World) : Prop :=
  Only (fun b => b = p) w w' ∧ ∃ x mx hs hv, e = .returned (.agg #[.int .u64 x, .int .u64 mx, hv]) ∧ OwnL w' w.heap.size 68 hv hs ∧
    ((∃ a, CGo w' p bv len a ∧ AfterN lm zs o (endS es ⟨x, mx, hs⟩ ents) a ∧ EntW ⟨x, mx, hs⟩) ∨ (∃ c at', o = .error (c, at') ∧ CErr w' p bv len c at'))
theorem ent_done {bv : Value} {es : List Ent} {x mx ents : Int} {n : Nat} {w : World} {e : Ending} {w' : World} (h : EntPost lm zs o p bv len es x mx ents n w e w') (hx : Word x) (hm : Word mx) : EntryPost lm zs o p bv len es ents w e w' := by
  obtain ⟨hO, hs, hv, he, hown, hJ⟩ := h
  refine ⟨hO, x, mx, hs, hv, he, hown, ?_⟩
  rcases hJ with ⟨a, hG, hA⟩ | hE
  · rw [show (n : Int) - n = 0 by omega, holeS_end] at hA
    exact .inl ⟨a, hG, hA, ⟨hx, hm, hown.words⟩⟩
  · exact .inr hE
theorem rep0_step {es : List Ent} {cur : Ent} {ents h x rest : Int} (h0 : es = []) : stepS lm ⟨.rep, es, cur, ents, h⟩ x rest = .ok ⟨.top, es, ⟨x, 0, []⟩, ents, h⟩ := by
  show (if es = [] then _ else _) = _
  rw [if_pos h0]
theorem repL_step {es : List Ent} {cur : Ent} {ents h x rest : Int} (h0 : ¬ es = []) (hs : lastRep es + 1 + x < 18446744073709551616) : stepS lm ⟨.rep, es, cur, ents, h⟩ x rest = .ok ⟨.top, es, ⟨lastRep es + 1 + x, 0, []⟩, ents, h⟩ := by
  show (if es = [] then _ else _) = _
  rw [if_neg h0, if_pos hs]
theorem repO_step {es : List Ent} {cur : Ent} {ents h x rest : Int} (h0 : ¬ es = []) (hs : ¬ lastRep es + 1 + x < 18446744073709551616) : stepS lm ⟨.rep, es, cur, ents, h⟩ x rest = .error 8 := by
  show (if es = [] then _ else _) = _
  rw [if_neg h0, if_neg hs]
/-- What follows the replica: the top and the count of the holes. -/
theorem tail_eff (hI : Ints .u8 wb ad len zs) (hlm : len ≤ 1000000) (hL : LimW lm) {es : List Ent} {x ents h : Int} {a : Nat} (hg : GoN lm zs o ⟨.top, es, ⟨x, 0, []⟩, ents, h⟩ a) :
    ∃ (mx a2 : Int) (n : Nat) (C3 : World → Prop), Word mx ∧ n ≤ 1000000 ∧ LocP p C3 ∧ Eff p 62 #[.pointer (some ⟨p, 0, none⟩)] (.tuple #[.int .u64 mx, .int .i64 a2]) wb (fun W => CGo W p (.slice ad len cap) len a) C3 ∧
      Eff p 37 #[.pointer (some ⟨p, 0, none⟩), .int .i64 lm.ho] (.int .i64 n) wb C3 (EJ lm zs o p (.slice ad len cap) len es x mx ents n 0 []) := by
  have hl := hI.length
  have hal : a ≤ len := by have := hg.le; omega
  obtain ⟨q, hq⟩ := rd_some zs a
  rcases rd_nat hq with ⟨c, rfl, _⟩ | ⟨y, n, rfl, h1, h2, hy⟩
  · exact ⟨0, a, 0, _, zw, by omega, cerr_loc p (.slice ad len cap) len c a, eff_num_bad hI hlm hal hq, eff_count_err (goN_err hg hq)⟩
  · have hg2 : GoN lm zs o ⟨.op, es, ⟨x, y, []⟩, ents, h⟩ n := (goN_step hg hq (s' := ⟨.op, es, ⟨x, y, []⟩, ents, h⟩) rfl).go rfl
    obtain ⟨m, hm, hE⟩ := eff_count_go (cap := cap) (p := p) hI hlm hL hg2
    exact ⟨y, a, m, _, hy, hm, cgo_loc p (.slice ad len cap) len n, eff_num_ok hI hlm hal hq, hE⟩
theorem entry_go (hI : Ints .u8 wb ad len zs) (hlm : len ≤ 1000000) (hL : LimW lm) (hp : wb.heap.size ≤ p) {es : List Ent} {cur : Ent} {ents h : Int} {a : Nat} (w : World) (hB : Below wb.heap.size wb w) (hG : CGo w p (.slice ad len cap) len a) (hg : GoN lm zs o ⟨.rep, es, cur, ents, h⟩ a) (hr : Word (lastRep es)) (b : Bool) (hb : b = decide (es = [])) (bf : Int) (hbf : ¬ es = [] → bf = lastRep es) :
    Calls Tryd.prog 40 #[.pointer (some ⟨p, 0, none⟩), .bool b, .int .u64 bf, .agg #[.int .i64 lm.f, .int .i64 lm.ve, .int .i64 lm.en, .int .i64 lm.ho, .int .i64 lm.se]] w (EntryPost lm zs o p (.slice ad len cap) len es ents w) := by
  have hl := hI.length
  have hal : a ≤ len := by have := hg.le; omega
  have hlt := CurC.lt hG
  obtain ⟨q, hq⟩ := rd_some zs a
  by_cases h0 : es = []
  · rw [decide_eq_true h0] at hb
    subst hb
    rcases rd_nat hq with ⟨c, rfl, _⟩ | ⟨x, n, rfl, h1, h2, hx⟩
    · exact (rent_f hI hlm hp lm es ents bf 0 a 0 0 0 (by omega) w _ _ _ hB hlt hG (cgo_loc p (.slice ad len cap) len a) (cerr_loc p (.slice ad len cap) len c a) (cerr_loc p (.slice ad len cap) len c a) (eff_num_bad hI hlm hal hq) eff_num_err (eff_count_err (goN_err hg hq))).mono fun _ _ hh => ent_done hh zw zw
    · have hg2 : GoN lm zs o ⟨.top, es, ⟨x, 0, []⟩, ents, h⟩ n := (goN_step hg hq (rep0_step h0)).go rfl
      obtain ⟨mx, a2, m, C3, hm, hm2, L3, E2, E3⟩ := tail_eff (cap := cap) (p := p) hI hlm hL hg2
      exact (rent_f hI hlm hp lm es ents bf x a mx a2 m hm2 w _ _ _ hB hlt hG (cgo_loc p (.slice ad len cap) len a) (cgo_loc p (.slice ad len cap) len n) L3 (eff_num_ok hI hlm hal hq) E2 E3).mono fun _ _ hh => ent_done hh hx hm
  · rw [decide_eq_false h0] at hb
    subst hb
    obtain rfl := hbf h0
    rcases rd_nat hq with ⟨c, rfl, _⟩ | ⟨x, n, rfl, h1, h2, hx⟩
    · by_cases hs : lastRep es + 1 + 0 < 18446744073709551616
      · exact (rent_l hI hlm hp lm es ents (lastRep es) 0 a (lastRep es + 1 + 0) 0 0 0 (by omega) w _ _ _ hB hlt hG (cgo_loc p (.slice ad len cap) len a) (cerr_loc p (.slice ad len cap) len c a) (cerr_loc p (.slice ad len cap) len c a) (eff_num_bad hI hlm hal hq) hr zw hs rfl eff_num_err (eff_count_err (goN_err hg hq))).mono fun _ _ hh => ent_done hh ⟨by have := hr.1; omega, hs⟩ zw
      · exact (rent_o hI hlm hp lm es ents (lastRep es) 0 a 0 0 0 (by omega) w _ _ _ _ hB hlt hG (cgo_loc p (.slice ad len cap) len a) (cerr_loc p (.slice ad len cap) len c a) (cerr_loc p (.slice ad len cap) len c a) (cerr_loc p (.slice ad len cap) len c a) (eff_num_bad hI hlm hal hq) hr zw hs eff_fail_err eff_num_err (eff_count_err (goN_err hg hq))).mono fun _ _ hh => ent_done hh zw zw
    · by_cases hs : lastRep es + 1 + x < 18446744073709551616
      · have hg2 : GoN lm zs o ⟨.top, es, ⟨lastRep es + 1 + x, 0, []⟩, ents, h⟩ n := (goN_step hg hq (repL_step h0 hs)).go rfl
        obtain ⟨mx, a2, m, C3, hm, hm2, L3, E2, E3⟩ := tail_eff (cap := cap) (p := p) hI hlm hL hg2
        exact (rent_l hI hlm hp lm es ents (lastRep es) x a (lastRep es + 1 + x) mx a2 m hm2 w _ _ _ hB hlt hG (cgo_loc p (.slice ad len cap) len a) (cgo_loc p (.slice ad len cap) len n) L3 (eff_num_ok hI hlm hal hq) hr hx hs rfl E2 E3).mono fun _ _ hh => ent_done hh ⟨by have := hr.1; have := hx.1; omega, hs⟩ hm
      · have ho := goN_stop hg hq (repO_step h0 hs)
        exact (rent_o hI hlm hp lm es ents (lastRep es) x a 0 0 0 (by omega) w _ _ _ _ hB hlt hG (cgo_loc p (.slice ad len cap) len a) (cgo_loc p (.slice ad len cap) len n) (cerr_loc p (.slice ad len cap) len 8 a) (cerr_loc p (.slice ad len cap) len 8 a) (eff_num_ok hI hlm hal hq) hr hx hs (eff_fail_go (by decide)) eff_num_err (eff_count_err ho)).mono fun _ _ hh => ent_done hh zw zw
end
end Go.Proofs.YtppeogalaikopaaDoor
namespace Go.Proofs.YtppeogalaikopaaDoor
open Go Go.RowKit
set_option linter.unusedSimpArgs false
set_option linter.unusedVariables false

theorem rowF_nil {w : World} {base : Nat} : RowF w base (.slice none 0 0) [] := ⟨World.ownsRow_nil _ _ _ _, by simp, by simp⟩
theorem rowF_push {W w3 : World} {base B : Nat} {v v' hv : Value} {l : List EV} {x mx : Int} {hs : List Iv} {ob : Obj} (hF : RowF W base v l) (hO : OwnL W B 68 hv hs) (hw : EntW ⟨x, mx, hs⟩)
    (hown : w3.ownsRow base 65 3 v' (l.length + 1) (cellsE l ++ [.int .u64 x, .int .u64 mx, hv])) (hg : (W.alloc ob).grownBy w3 v.ownBlock) : RowF w3 base v' (l ++ [(⟨x, mx, hs⟩, hv)]) := by
  have o1 : Only (fun b => v.ownBlock = some b) W w3 := ((Only.refl _ W).alloc ob).trans (only_of_grown hg)
  have tv : ∀ k, v.ownBlock = some k → Typed W 65 k := fun k hk => own_typed hF.row hk
  have hO3 : OwnL w3 B 68 hv hs := ⟨own_only hO.row o1 (fun k hk hy => (tv k hy).ne (own_typed hO.row hk) (by decide) rfl), hO.words⟩
  refine ⟨?_, fun p hp => ?_, fun p hp => ?_⟩
  · have e : cellsE l ++ [.int .u64 x, .int .u64 mx, hv] = cellsE (l ++ [(⟨x, mx, hs⟩, hv)]) := by rw [cellsE_append]; rfl
    rw [e] at hown
    simpa using hown
  · rcases List.mem_append.1 hp with hp | hp
    · exact ((hF.fins p hp).only o1 fun k hk => .inr ((tv k hk).not (by decide))).wide o1.size
    · obtain rfl : p = (⟨x, mx, hs⟩, hv) := by simpa using hp
      exact HoleF.of_own hO3
  · rcases List.mem_append.1 hp with hp | hp
    · exact hF.words p hp
    · obtain rfl : p = (⟨x, mx, hs⟩, hv) := by simpa using hp
      exact hw
theorem only_p_rowF {W W' : World} {base p : Nat} {v : Value} {l : List EV} (h : RowF W base v l) (ho : Only (fun b => b = p) W W') (ht : Typed W 42 p) : RowF W' base v l :=
  h.only ho fun k hk => by subst hk; exact ⟨ht.not (by decide), ht.not (by decide)⟩

/-- What Vector comes to. -/
def VecPost (o : Except (Int × Int) (List Ent × Int)) (p : Nat) (bv : Value) (len : Nat) (w : World) (e : Ending) (w' : World) : Prop :=
  Only (fun b => b = p) w w' ∧
    ((∃ (l : List EV) (n : Nat) (v : Value), o = .ok (l.map (·.1), (n : Int)) ∧ CGo w' p bv len n ∧ e = .returned v ∧ RowF w' w.heap.size v l) ∨
     (∃ c at', o = .error (c, at') ∧ CErr w' p bv len c at' ∧ e = .returned (.slice none 0 0)))
/-- Vector's loop. -/
def VJ (lm : Lim) (zs : List Int) (o : Except (Int × Int) (List Ent × Int)) (p : Nat) (bv : Value) (len n k : Nat) (v : Value) (base : Nat) (W : World) : Prop :=
  (∃ (l : List EV) (a : Nat), l.length = k ∧ RowF W base v l ∧ CGo W p bv len a ∧ (k < n → ∃ cur h, GoN lm zs o ⟨.rep, l.map (·.1), cur, (n : Int) - k, h⟩ a) ∧ (k = n → o = .ok (l.map (·.1), (a : Int)))) ∨
  (∃ c at', o = .error (c, at') ∧ CErr W p bv len c at')
theorem vj_push {lm : Lim} {zs : List Int} {o : Except (Int × Int) (List Ent × Int)} {p : Nat} {bv : Value} {len n k : Nat} {w w3 w4 : World} {v v' hv : Value} {l : List EV} {x mx : Int} {hs : List Iv} {B : Nat} {ob : Obj} {cx : Array Value}
    (hF : RowF w3 w.heap.size v l) (ht : Typed w3 42 p) (hX : w3.heap[w.heap.size]? = some (.cells cx 36 (0, 0))) (hO : OwnL w3 B 68 hv hs) (ho : Only (fun b => b = p) w w3) (hp : p < w.heap.size) (hk : k ≤ n) (hl : l.length = k) (hkn : k < n)
    (hor : (∃ a, CGo w3 p bv len a ∧ AfterN lm zs o (endS (l.map (·.1)) ⟨x, mx, hs⟩ ((n : Int) - k)) a ∧ EntW ⟨x, mx, hs⟩) ∨ (∃ c at', o = .error (c, at') ∧ CErr w3 p bv len c at'))
    (hown : w4.ownsRow w.heap.size 65 3 v' (l.length + 1) (cellsE l ++ [.int .u64 x, .int .u64 mx, hv])) (hg : (w3.alloc ob).grownBy w4 v.ownBlock) :
    VJ lm zs o p bv len n (k + 1) v' w.heap.size w4 ∧ Only (fun b => b = p) w w4 ∧ w4.heap[w.heap.size]? = some (.cells cx 36 (0, 0)) := by
  have o1 : Only (fun b => v.ownBlock = some b) w3 w4 := ((Only.refl _ w3).alloc ob).trans (only_of_grown hg)
  have tv : ∀ k, v.ownBlock = some k → Typed w3 65 k := fun k hk => own_typed hF.row hk
  have hpp : w4.heap[p]? = w3.heap[p]? := o1.block p (Nat.lt_of_lt_of_le hp ho.size) (fun hk => ht.ne (tv _ hk) (by decide) rfl)
  refine ⟨?_, only_newer ho o1 (fun b hb => .inr (hF.row.lt b hb).1), o1.obj (fun hk => Typed.ne ⟨_, hX⟩ (tv _ hk) (by decide) rfl) hX⟩
  rcases hor with ⟨a, hC, hA, hw⟩ | ⟨c, at', he, hE⟩
  · left
    refine ⟨l ++ [(⟨x, mx, hs⟩, hv)], a, by simp [hl], rowF_push hF hO hw hown hg, (cgo_loc p bv len a).st _ _ hpp hC, fun h2 => ?_, fun h2 => ?_⟩
    · have e : endS (l.map (·.1)) ⟨x, mx, hs⟩ ((n : Int) - k) = (⟨.rep, (l ++ [((⟨x, mx, hs⟩ : Ent), hv)]).map (·.1), ⟨x, mx, hs⟩, (n : Int) - ((k + 1 : Nat) : Int), 0⟩ : St) := by
        unfold endS
        rw [if_pos (by omega), List.map_append, show (n : Int) - ((k + 1 : Nat) : Int) = (n : Int) - k - 1 by omega]
        rfl
      rw [e] at hA
      exact ⟨_, _, hA.go rfl⟩
    · have e : endS (l.map (·.1)) ⟨x, mx, hs⟩ ((n : Int) - k) = (⟨.fin, (l ++ [((⟨x, mx, hs⟩ : Ent), hv)]).map (·.1), ⟨x, mx, hs⟩, (n : Int) - k - 1, 0⟩ : St) := by
        unfold endS
        rw [if_neg (by omega), List.map_append]
        rfl
      rw [e] at hA
      exact (hA.fin rfl).1
  · exact .inr ⟨c, at', he, (cerr_loc p bv len c at').st _ _ hpp hE⟩
theorem count_step {cur : Ent} {ents h x rest : Int} {lm : Lim} {es : List Ent} (hl : limitC x lm.en rest = 0) (hx : x ≠ 0) : stepS lm ⟨.count, es, cur, ents, h⟩ x rest = .ok ⟨.rep, es, cur, x, h⟩ := by
  show (if limitC _ _ _ ≠ 0 then _ else if _ then _ else _) = _
  rw [hl, if_neg (by simp), if_neg hx]
theorem count_over {cur : Ent} {ents h x rest : Int} {lm : Lim} {es : List Ent} (hl : limitC x lm.en rest ≠ 0) : stepS lm ⟨.count, es, cur, ents, h⟩ x rest = .error (limitC x lm.en rest) := by
  show (if limitC _ _ _ ≠ 0 then _ else if _ then _ else _) = _
  rw [if_pos hl]
theorem count_zero {cur : Ent} {ents h rest : Int} {lm : Lim} {es : List Ent} (hl : limitC 0 lm.en rest = 0) : stepS lm ⟨.count, es, cur, ents, h⟩ 0 rest = .error 9 := by
  show (if limitC _ _ _ ≠ 0 then _ else if _ then _ else _) = _
  rw [hl, if_neg (by simp), if_pos rfl]

set_option maxRecDepth 100000 in
set_option maxHeartbeats 6400000 in
/-- No entry: the cursor is stopped. -/
theorem rvec_0 {lm : Lim} {p : Nat} {bv : Value} {len : Nat} {wb : World} (hp : wb.heap.size ≤ p) (a : Nat) (c at' : Int) (w : World) (C1 : World → Prop) (hB : Below wb.heap.size wb w) (h0 : CGo w p bv len a) (L1 : LocP p C1)
    (K1 : Eff p 37 #[.pointer (some ⟨p, 0, none⟩), .int .i64 lm.en] (.int .i64 0) wb (fun W => CGo W p bv len a) C1)
    (KF : Eff p 38 #[.pointer (some ⟨p, 0, none⟩), .int .i64 9, .int .i64 a] (.tuple #[]) wb C1 (fun W => CErr W p bv len c at')) :
    Calls Tryd.prog 19 #[.pointer (some ⟨p, 0, none⟩), .agg #[.int .i64 lm.f, .int .i64 lm.ve, .int .i64 lm.en, .int .i64 lm.ho, .int .i64 lm.se]] w fun e w' => e = .returned (.slice none 0 0) ∧ CErr w' p bv len c at' ∧ Only (fun b => b = p) w w' := by
  have hlt := CurC.lt h0
  obtain ⟨_, c1, _, _, _, _, _⟩ := CurC.cells h0
  have HP := hide hp; have HB := hide hB; have H0 := hide h0; have LL1 := hide L1; have KK1 := hide K1; have KKF := hide KF
  have hpn : p ≠ w.heap.size := by omega
  clear hp hB h0 L1 K1 KF
  go_enter Tryd.func19, Tryd.ntmps19
  go_wp2_with fail
  have hb0 : Below w.heap.size w (w.alloc (.cells #[.int .i64 lm.f, .int .i64 lm.ve, .int .i64 lm.en, .int .i64 lm.ho, .int .i64 lm.se] 36)) := bl_alloc (Below.refl _ _) _
  refine (KK1.out _ ((cgo_loc p bv len a).below hlt hb0 H0.out) (HB.out.trans (hb0.mono HB.out.size)) (keep_lt hb0 hlt)).mono ?_
  rintro e w1 ⟨rfl, hC1, hO1⟩
  have O1 := hide ((Only.of_below hb0).trans hO1)
  have C1' := hide hC1
  clear hC1 hO1 hb0
  go_wp2_with fail
  refine (KKF.out w1 C1'.out (only_bel HP.out HB.out O1.out) (Nat.lt_of_lt_of_le hlt O1.out.size)).mono ?_
  rintro e w2 ⟨rfl, hC2, hO2⟩
  have O2 := hide (O1.out.trans hO2)
  have C2' := hide hC2
  clear hC2 hO2
  go_wp2_with fail
  go_loopw [7, 8] (fun v i wr => v = .slice none 0 0 ∧ i = .int .i64 0 ∧ CErr wr p bv len c at' ∧ Only (fun b => b = p) w wr) (fun _ _ _ => 0)
  case atStart => exact ⟨rfl, rfl, C2'.out, O2.out⟩
  case round =>
    obtain ⟨rfl, rfl, hC, hO⟩ := hrel
    have HC := hide hC
    have HO := hide hO
    clear hC hO
    go_wp2_with fail
    refine (stopped_err p _ len c at' _ HC.out).mono ?_
    rintro e w3 ⟨rfl, rfl⟩
    go_wp2
    go_ret
    exact ⟨rfl, HC.out, HO.out⟩

set_option maxRecDepth 100000 in
set_option maxHeartbeats 6400000 in
theorem rvec_n {lm : Lim} {zs : List Int} {o : Except (Int × Int) (List Ent × Int)} {ad : Option Addr} {len cap p : Nat} {wb : World} (hI : Ints .u8 wb ad len zs) (hlm : len ≤ 1000000) (hL : LimW lm) (hp : wb.heap.size ≤ p) (a n : Nat) (hn : 0 < n) (hn2 : n ≤ 1000000) (w : World) (hB : Below wb.heap.size wb w) (h0 : CGo w p (.slice ad len cap) len a)
    (K1 : Eff p 37 #[.pointer (some ⟨p, 0, none⟩), .int .i64 lm.en] (.int .i64 n) wb (fun W => CGo W p (.slice ad len cap) len a) (fun W => ∃ a1 cur h, CGo W p (.slice ad len cap) len a1 ∧ GoN lm zs o ⟨.rep, [], cur, n, h⟩ a1)) :
    Calls Tryd.prog 19 #[.pointer (some ⟨p, 0, none⟩), .agg #[.int .i64 lm.f, .int .i64 lm.ve, .int .i64 lm.en, .int .i64 lm.ho, .int .i64 lm.se]] w (VecPost o p (.slice ad len cap) len w) := by
  obtain ⟨i0', hi0, hz0, hz1, hz2⟩ := info_parts info_entry
  have hlt := CurC.lt h0
  have hzl := hI.length
  obtain ⟨_, c1, _, _, _, _, _⟩ := CurC.cells h0
  have INTS := hide hI; have HL := hide hL; have HP := hide hp; have HB := hide hB; have H0 := hide h0; have KK1 := hide K1
  have hpn : p ≠ w.heap.size := by omega
  have n0 : ((n : Int) == 0) = false := by simp; omega
  have HZ := hide hzl
  clear hI hL hp hB h0 K1 hzl
  go_enter Tryd.func19, Tryd.ntmps19
  go_wp2_with fail
  have hb0 : Below w.heap.size w (w.alloc (.cells #[.int .i64 lm.f, .int .i64 lm.ve, .int .i64 lm.en, .int .i64 lm.ho, .int .i64 lm.se] 36)) := bl_alloc (Below.refl _ _) _
  refine (KK1.out _ ((cgo_loc p _ len a).below hlt hb0 H0.out) (HB.out.trans (hb0.mono HB.out.size)) (keep_lt hb0 hlt)).mono ?_
  rintro e w1 ⟨rfl, ⟨a1, cur1, h1, hC1, hg1⟩, hO1⟩
  have X1 := hide (show w1.heap[w.heap.size]? = some (.cells #[.int .i64 lm.f, .int .i64 lm.ve, .int .i64 lm.en, .int .i64 lm.ho, .int .i64 lm.se] 36 (0, 0)) from hO1.obj (by omega) (heap_new_at _ _ rfl))
  have O1 := hide ((Only.of_below hb0).trans hO1)
  have J1 : Hid (VJ lm zs o p (.slice ad len cap) len n 0 (.slice none 0 0) w.heap.size w1) := hide (.inl ⟨[], a1, rfl, rowF_nil, hC1, fun _ => ⟨cur1, h1, by simpa using hg1⟩, fun e => by omega⟩)
  clear hC1 hO1 hb0 hg1 c1
  go_wp2_with fail
  go_loopw [7, 8] (fun v i wr => ∃ k : Nat, k ≤ n ∧ i = .int .i64 k ∧ Only (fun b => b = p) w wr ∧ wr.heap[w.heap.size]? = some (.cells #[.int .i64 lm.f, .int .i64 lm.ve, .int .i64 lm.en, .int .i64 lm.ho, .int .i64 lm.se] 36 (0, 0)) ∧ VJ lm zs o p (.slice ad len cap) len n k v w.heap.size wr)
    (fun _ i _ => n - (intOf i).toNat)
  case atStart => exact ⟨0, Nat.zero_le _, rfl, O1.out, X1.out, J1.out⟩
  case round =>
    obtain ⟨k, hk, rfl, hO, hX, hJ⟩ := hrel
    clear J1 X1 O1
    have HO := hide hO
    have HX := hide hX
    have l0 : wr.cell? ⟨w.heap.size, 0, none⟩ = some (.int .i64 lm.f) := by simp [World.cell?, hX]
    have l1 : wr.cell? ⟨w.heap.size, 1, none⟩ = some (.int .i64 lm.ve) := by simp [World.cell?, hX]
    have l2 : wr.cell? ⟨w.heap.size, 2, none⟩ = some (.int .i64 lm.en) := by simp [World.cell?, hX]
    have l3 : wr.cell? ⟨w.heap.size, 3, none⟩ = some (.int .i64 lm.ho) := by simp [World.cell?, hX]
    have l4 : wr.cell? ⟨w.heap.size, 4, none⟩ = some (.int .i64 lm.se) := by simp [World.cell?, hX]
    have i0 : (0 : Int) ≤ (k : Int) := by omega
    clear hO hX
    rcases hJ with ⟨l, a, hlk, hF, hC, hgo, hfin⟩ | ⟨c, at', ho, hE⟩
    · have HC := hide hC
      have HF := hide hF
      have HLK := hide hlk
      have ht := CurC.typed hC
      have HT := hide ht
      by_cases hkn : k < n
      · have i1 : (k : Int) < (n : Int) := by omega
        obtain ⟨cur, h, hg⟩ := hgo hkn
        have hes : l.length ≤ 1000000 := by have h1 := hg.inv.es; have h2 := hg.le; rw [HZ.out] at h2; simp only [List.length_map] at h1; omega
        have GO := hide hg
        have hword : Word (lastRep (l.map (·.1))) := by
          by_cases e : l = []
          · subst e; exact zw
          · obtain ⟨m, hm⟩ : ∃ m, l.length = m + 1 := ⟨l.length - 1, by have := List.length_pos_iff.2 e; omega⟩
            rw [lastRep_map l m hm]
            exact (hF.words _ (getD_mem (by omega))).rep
        have WD := hide hword
        clear hgo hfin hg hword ht
        by_cases hk0 : k = 0
        · have hl0 : l = [] := List.length_eq_zero_iff.1 (by omega)
          subst hl0
          obtain rfl : k = 0 := hk0
          obtain ⟨va, vc, rfl, _⟩ := own_len hF.row
          have KE := hide (fun W hB' hG' => entry_go (cap := cap) INTS.out hlm HL.out HP.out (es := ([] : List EV).map (·.1)) (cur := cur) (ents := (n : Int) - (0 : Nat)) (h := h) (a := a) W hB' hG' GO.out WD.out true rfl 0 (fun hh => absurd rfl hh))
          clear hF hC hlk
          go_wp2_with fail
          refine (stopped_go p _ len a _ HC.out).mono ?_
          rintro e w2 ⟨rfl, rfl⟩
          go_wp2_with fail
          refine (KE.out _ (only_bel HP.out HB.out HO.out) HC.out).mono ?_
          rintro e w3 ⟨hO3, x, mx, hs, hv, rfl, hown3, hor⟩
          obtain ⟨ha3, hc3, ehv, _⟩ := own_len hown3.row
          obtain ⟨hl3, ehl⟩ : ∃ hl3, hs.length = hl3 := ⟨_, rfl⟩
          rw [ehl] at ehv
          subst ehv
          have F3 := hide (only_p_rowF HF.out hO3 HT.out)
          have O3 := hide (HO.out.trans hO3)
          have X3 := hide (hO3.obj (fun e => hpn e.symm) HX.out)
          have T3 := hide (show Typed w3 42 p from by
            rcases hor with ⟨a', h1, _⟩ | ⟨c, at', _, _, nx, h1⟩
            · exact CurC.typed h1
            · exact CurC.typed h1)
          have OW3 := hide hown3
          have OR := hide hor
          clear hO3 hown3 hor l0 l1 l2 l3 l4 ehl
          go_wp2_with (at_builtin; refine wpList_append_own_at _ rfl _ _ 24 rfl w.heap.size 65 i0' (.agg #[.int .u64 0, .int .u64 0, .slice none 0 0]) 3 40 Tryd.underlying24 hi0 hz0 hz1 hz2 rfl (by decide) _ _ _ rfl (F3.out.row.alloc _) ⟨w3.heap.size, 0, none⟩ 1 1 [.int .u64 x, .int .u64 mx, .slice ha3 hl3 hc3] rfl rfl ?z1 ?z2 ?z3 ?z4 ?z5 ?_)
          case z1 => exact three_new (heap_new_at _ _ rfl)
          case z2 => intro u hu; simp at hu; rcases hu with rfl | rfl | rfl <;> rfl
          case z3 => first | (unfold maxLen; omega) | (simp; unfold maxLen; omega)
          case z4 => first | omega | (simp; omega)
          case z5 => have := O3.out.size; simp at this ⊢; omega
          intro v' w4 hown hgrow _ _
          obtain ⟨va', vc', rfl, _⟩ := own_len hown
          obtain ⟨hJ4, hO4, hX4⟩ := vj_push (o := o) (zs := zs) (lm := lm) (bv := .slice ad len cap) (len := len) F3.out T3.out X3.out OW3.out O3.out hlt (by omega) rfl hkn OR.out hown hgrow
          have J4 := hide hJ4
          have O4 := hide hO4
          have X4 := hide hX4
          clear hJ4 hO4 hX4 hown hgrow
          go_wp2
          go_roundw
          case rel => first | exact ⟨0 + 1, by omega, by go_num, O4.out, X4.out, J4.out⟩ | ((repeat apply Exists.intro); exact ⟨⟨0 + 1, by omega, by go_num, O4.out, X4.out, J4.out⟩, rfl⟩)
          case measure => simp [intOf]; omega
        · obtain ⟨m, hm⟩ : ∃ m, l.length = m + 1 := ⟨l.length - 1, by omega⟩
          have hne : ¬ l.map (·.1) = [] := by intro e; have := congrArg List.length e; rw [List.length_map, List.length_nil] at this; omega
          obtain ⟨g, vc, ev, _, hcell⟩ := own_some hF.row hm
          have hmk : m + 1 = k := by omega
          rw [hmk] at ev
          have elr := lastRep_map l m hm
          rw [← elr] at hcell
          have KE := hide (fun W hB' hG' => entry_go (cap := cap) INTS.out hlm HL.out HP.out (es := l.map (·.1)) (cur := cur) (ents := (n : Int) - k) (h := h) (a := a) W hB' hG' GO.out WD.out false (decide_eq_false hne).symm (lastRep (l.map (·.1))) (fun _ => rfl))
          have q0 : IntKind.i64.wrap ((k : Int) - 1) = (m : Int) := by rw [IntKind.wrap_i64]; omega
          have q1 : (0 : Int) ≤ (m : Int) := by omega
          have q2 : (m : Int) < (k : Int) := by omega
          have q3 : (0 : Int) < (k : Int) := by omega
          have q4 : ((k : Int) == 0) = false := by simp; omega
          subst ev
          obtain ⟨bf, ebf⟩ : ∃ bf, lastRep (l.map (·.1)) = bf := ⟨_, rfl⟩
          rw [ebf] at KE hcell
          clear hF hC hlk hm hmk elr ebf hne hk0
          go_wp2_with fail
          refine (stopped_go p _ len a _ HC.out).mono ?_
          rintro e w2 ⟨rfl, rfl⟩
          go_wp2_with fail
          refine (KE.out _ (only_bel HP.out HB.out HO.out) HC.out).mono ?_
          rintro e w3 ⟨hO3, x, mx, hs, hv, rfl, hown3, hor⟩
          obtain ⟨ha3, hc3, ehv, _⟩ := own_len hown3.row
          obtain ⟨hl3, ehl⟩ : ∃ hl3, hs.length = hl3 := ⟨_, rfl⟩
          rw [ehl] at ehv
          subst ehv
          have F3 := hide (only_p_rowF HF.out hO3 HT.out)
          have O3 := hide (HO.out.trans hO3)
          have X3 := hide (hO3.obj (fun e => hpn e.symm) HX.out)
          have T3 := hide (show Typed w3 42 p from by
            rcases hor with ⟨a', h1, _⟩ | ⟨c, at', _, _, nx, h1⟩
            · exact CurC.typed h1
            · exact CurC.typed h1)
          have OW3 := hide hown3
          have OR := hide hor
          clear hO3 hown3 hor l0 l1 l2 l3 l4 ehl
          go_wp2_with (at_builtin; refine wpList_append_own_at _ rfl _ _ 24 rfl w.heap.size 65 i0' (.agg #[.int .u64 0, .int .u64 0, .slice none 0 0]) 3 40 Tryd.underlying24 hi0 hz0 hz1 hz2 rfl (by decide) _ _ _ rfl (F3.out.row.alloc _) ⟨w3.heap.size, 0, none⟩ 1 1 [.int .u64 x, .int .u64 mx, .slice ha3 hl3 hc3] rfl rfl ?z1 ?z2 ?z3 ?z4 ?z5 ?_)
          case z1 => exact three_new (heap_new_at _ _ rfl)
          case z2 => intro u hu; simp at hu; rcases hu with rfl | rfl | rfl <;> rfl
          case z3 => first | (unfold maxLen; omega) | (simp; unfold maxLen; omega)
          case z4 => first | omega | (simp; omega)
          case z5 => have := O3.out.size; simp at this ⊢; omega
          intro v' w4 hown hgrow _ _
          obtain ⟨va', vc', rfl, _⟩ := own_len hown
          obtain ⟨hJ4, hO4, hX4⟩ := vj_push (o := o) (zs := zs) (lm := lm) (bv := .slice ad len cap) (len := len) F3.out T3.out X3.out OW3.out O3.out hlt (by omega) HLK.out hkn OR.out hown hgrow
          have J4 := hide hJ4
          have O4 := hide hO4
          have X4 := hide hX4
          clear hJ4 hO4 hX4 hown hgrow
          go_wp2
          go_roundw
          case rel => first | exact ⟨k + 1, by omega, by go_num, O4.out, X4.out, J4.out⟩ | ((repeat apply Exists.intro); exact ⟨⟨k + 1, by omega, by go_num, O4.out, X4.out, J4.out⟩, rfl⟩)
          case measure => simp [intOf]; omega
      · obtain rfl : k = n := by omega
        have ho := hide (hfin rfl)
        obtain ⟨va, vc, rfl, _⟩ := own_len hF.row
        clear hgo hfin hF hC hlk
        go_wp2_with fail
        refine (stopped_go p _ len a _ HC.out).mono ?_
        rintro e w2 ⟨rfl, rfl⟩
        go_wp2
        go_ret
        exact ⟨HO.out, .inl ⟨l, a, _, ho.out, HC.out, rfl, HF.out⟩⟩
    · have HE := hide hE
      have Ho := hide ho
      clear hE ho
      by_cases hkn : k < n
      · have i1 : (k : Int) < (n : Int) := by omega
        go_wp2_with fail
        refine (stopped_err p _ len c at' _ HE.out).mono ?_
        rintro e w2 ⟨rfl, rfl⟩
        go_wp2_with fail
        refine (stopped_err p _ len c at' _ HE.out).mono ?_
        rintro e w2 ⟨rfl, rfl⟩
        go_wp2
        go_ret
        exact ⟨HO.out, .inr ⟨c, at', Ho.out, HE.out, rfl⟩⟩
      · obtain rfl : k = n := by omega
        go_wp2_with fail
        refine (stopped_err p _ len c at' _ HE.out).mono ?_
        rintro e w2 ⟨rfl, rfl⟩
        go_wp2
        go_ret
        exact ⟨HO.out, .inr ⟨c, at', Ho.out, HE.out, rfl⟩⟩
end Go.Proofs.YtppeogalaikopaaDoor
namespace Go.Proofs.YtppeogalaikopaaDoor
open Go Go.RowKit

section
variable {lm : Lim} {zs : List Int} {o : Except (Int × Int) (List Ent × Int)} {ad : Option Addr} {len cap p : Nat} {wb : World}
theorem cnt_a (hI : Ints .u8 wb ad len zs) (hlm : len ≤ 1000000) {limit c : Int} (hl : -9223372036854775808 ≤ limit ∧ limit ≤ 9223372036854775807) {a : Nat} (hal : a ≤ len) (hq : Rd zs a (.error c)) :
    Eff p 37 #[.pointer (some ⟨p, 0, none⟩), .int .i64 limit] (.int .i64 0) wb (fun W => CGo W p (.slice ad len cap) len a) (fun W => CErr W p (.slice ad len cap) len c a) := by
  intro W hC hb _
  refine (count_go p ad len cap zs a limit W (hI.below hb) hal hlm hC hl).mono ?_
  rintro e w' ⟨hO, ⟨c', hc', rfl, hE⟩ | ⟨y, n, hr, _⟩⟩
  · rcases hc' with hr | ⟨y, n, hr, _⟩
    · have := rd_unique hq hr; cases this; exact ⟨rfl, hE, hO⟩
    · have := rd_unique hq hr; cases this
  · have := rd_unique hq hr; cases this
theorem cnt_b (hI : Ints .u8 wb ad len zs) (hlm : len ≤ 1000000) {limit y : Int} {n : Nat} (hl : -9223372036854775808 ≤ limit ∧ limit ≤ 9223372036854775807) {a : Nat} (hal : a ≤ len) (hq : Rd zs a (.ok (y, (n : Int)))) (h0 : limitC y limit (zs.length - n) ≠ 0) :
    Eff p 37 #[.pointer (some ⟨p, 0, none⟩), .int .i64 limit] (.int .i64 0) wb (fun W => CGo W p (.slice ad len cap) len a) (fun W => CErr W p (.slice ad len cap) len (limitC y limit (zs.length - n)) a) := by
  intro W hC hb _
  refine (count_go p ad len cap zs a limit W (hI.below hb) hal hlm hC hl).mono ?_
  rintro e w' ⟨hO, ⟨c', hc', rfl, hE⟩ | ⟨y', n', hr, h3, _⟩⟩
  · rcases hc' with hr | ⟨y', n', hr, h3, h4⟩
    · have := rd_unique hq hr; cases this
    · have := rd_unique hq hr
      injection this with e1
      injection e1 with e2 e3
      rw [← e2, ← e3] at h3
      rw [h3]
      exact ⟨rfl, hE, hO⟩
  · exfalso
    have := rd_unique hq hr
    injection this with e1
    injection e1 with e2 e3
    rw [← e2, ← e3] at h3
    exact h0 h3
theorem cnt_c (hI : Ints .u8 wb ad len zs) (hlm : len ≤ 1000000) {limit y : Int} {n : Nat} (hl : -9223372036854775808 ≤ limit ∧ limit ≤ 9223372036854775807) {a : Nat} (hal : a ≤ len) (hq : Rd zs a (.ok (y, (n : Int)))) (h0 : limitC y limit (zs.length - n) = 0) :
    Eff p 37 #[.pointer (some ⟨p, 0, none⟩), .int .i64 limit] (.int .i64 y) wb (fun W => CGo W p (.slice ad len cap) len a) (fun W => CGo W p (.slice ad len cap) len n) := by
  intro W hC hb _
  refine (count_go p ad len cap zs a limit W (hI.below hb) hal hlm hC hl).mono ?_
  rintro e w' ⟨hO, ⟨c', hc', rfl, hE⟩ | ⟨y', n', hr, _, rfl, hG, _, _⟩⟩
  · exfalso
    rcases hc' with hr | ⟨y', n', hr, h3, h4⟩
    · have := rd_unique hq hr; cases this
    · have := rd_unique hq hr
      injection this with e1
      injection e1 with e2 e3
      rw [← e2, ← e3] at h3
      exact h4 (by rw [← h3]; exact h0)
  · have := rd_unique hq hr
    injection this with e1
    injection e1 with e2 e3
    have e4 : n = n' := by omega
    subst e4
    rw [e2]
    exact ⟨rfl, hG, hO⟩
theorem vector_go (hI : Ints .u8 wb ad len zs) (hlm : len ≤ 1000000) (hL : LimW lm) (hp : wb.heap.size ≤ p) {a : Nat} (hal : a ≤ len) (w : World) (hB : Below wb.heap.size wb w) (hG : CGo w p (.slice ad len cap) len a) (hr : Run lm zs St0 a o) :
    Calls Tryd.prog 19 #[.pointer (some ⟨p, 0, none⟩), .agg #[.int .i64 lm.f, .int .i64 lm.ve, .int .i64 lm.en, .int .i64 lm.ho, .int .i64 lm.se]] w (VecPost o p (.slice ad len cap) len w) := by
  have hl := hI.length
  have hg : GoN lm zs o St0 a := ⟨hr, stI_0 _ (by omega), by omega⟩
  have est : St0 = ⟨.count, [], ⟨0, 0, []⟩, 0, 0⟩ := rfl
  obtain ⟨q, hq⟩ := rd_some zs a
  rcases rd_nat hq with ⟨c, rfl, _⟩ | ⟨y, n, rfl, h1, h2, hy⟩
  · refine (rvec_0 (lm := lm) hp a c a w _ hB hG (cerr_loc p (.slice ad len cap) len c a) (cnt_a hI hlm hL.en hal hq) eff_fail_err).mono ?_
    rintro e w' ⟨he, hC, hO⟩
    exact ⟨hO, .inr ⟨c, a, goN_err hg hq, hC, he⟩⟩
  · by_cases h0 : limitC y lm.en (zs.length - n) = 0
    · by_cases hy0 : y = 0
      · subst hy0
        refine (rvec_0 (lm := lm) hp a 9 a w _ hB hG (cgo_loc p (.slice ad len cap) len n) (cnt_c hI hlm hL.en hal hq h0) (eff_fail_go (by decide))).mono ?_
        rintro e w' ⟨he, hC, hO⟩
        exact ⟨hO, .inr ⟨9, a, goN_stop hg hq (count_zero h0), hC, he⟩⟩
      · have hyl : (y.toNat : Int) = y := Int.toNat_of_nonneg hy.1
        have hym : y.toNat ≤ 1000000 := by
          unfold limitC at h0
          split at h0
          · omega
          · split at h0
            · omega
            · omega
        have hg2 : GoN lm zs o ⟨.rep, [], ⟨0, 0, []⟩, y, 0⟩ n := (goN_step hg hq (by rw [est]; exact count_step h0 hy0)).go rfl
        have hE := cnt_c (cap := cap) (p := p) hI hlm hL.en hal hq h0
        refine rvec_n (n := y.toNat) hI hlm hL hp a (by omega) hym w hB hG ?_
        rw [hyl]
        intro W hC hb hlt
        refine (hE W hC hb hlt).mono ?_
        rintro e w' ⟨he, hC', hO⟩
        exact ⟨he, ⟨n, _, _, hC', hg2⟩, hO⟩
    · refine (rvec_0 (lm := lm) hp a _ a w _ hB hG (cerr_loc p (.slice ad len cap) len _ a) (cnt_b hI hlm hL.en hal hq h0) eff_fail_err).mono ?_
      rintro e w' ⟨he, hC, hO⟩
      exact ⟨hO, .inr ⟨_, a, goN_stop hg hq (by rw [est]; exact count_over h0), hC, he⟩⟩
end
end Go.Proofs.YtppeogalaikopaaDoor
