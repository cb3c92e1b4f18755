/- pack's Reader: the state open; what hole leaves. -/
import Derived.Test.YtbphphmjhcehkaaDoorPackCount
namespace Go.Proofs.YtbphphmjhcehkaaDoor
open Go Go.RowKit

/-- The memory behind hole. -/
theorem hole_post {w1 w2 : World} {base r : Nat} {lm : Lim} {fn v cp hv : Value} {ph : Ph} {es : List Ent} {cur : Ent} {ents hls : Int} {l : List EV} {B p : Nat} {lo llo lhi : Int} {sm : Bool} {f : FuncId}
    (hbr : base ≤ r) (ht : Typed w1 94 r) (hes : l.map (·.1) = es) (hC : RowC w1 base v l cur B hv) (hK : CurOk w1 base cp cur none p lo llo lhi sm f)
    (hR : RdR w2 r lm fn .nilIface v (if 0 < hls then ents else ents - 1) (if 0 < hls then hls - 1 else hls) cp) (ho : Only (fun b => b = r) w1 w2) :
    MemF w2 base r lm fn .nilIface (holeS ⟨ph, es, cur, ents, hls⟩) := by
  have hm : ∀ k, k = r → ¬ Typed w1 65 k ∧ ¬ Typed w1 68 k := fun k hk => by subst hk; exact ⟨ht.not (by decide), ht.not (by decide)⟩
  have hC2 := hC.only ho hm
  have hK2 := hK.only ho (fun e => ht.ne hK.typed (by decide) e.symm)
  subst hes
  unfold holeS
  by_cases g : 0 < hls
  · rw [if_pos g, if_pos g] at hR
    simp only [if_pos g]
    exact ⟨hbr, v, cp, hR, l, B, hv, p, lo, llo, lhi, sm, f, rfl, hC2, hK2⟩
  · rw [if_neg g, if_neg g] at hR
    simp only [if_neg g]
    by_cases g2 : 0 < ents - 1
    · simp only [if_pos g2]
      exact ⟨hbr, v, cp, hR, l ++ [(cur, hv)], by simp, hC2.finish⟩
    · simp only [if_neg g2]
      exact ⟨hbr, v, cp, hR, l ++ [(cur, hv)], by simp, hC2.finish⟩
theorem hole_fn (r : Nat) (ph : Ph) (es : List Ent) (cur : Ent) (ents hls : Int) :
    (holeS ⟨ph, es, cur, ents, hls⟩).ph.fn r = if 0 < hls then fnV r 102 else if 0 < ents - 1 then fnV r 66 else .nilFunc := by
  unfold holeS
  split
  · rfl
  · split <;> rfl
theorem fn_hole (hls ents : Int) (r : Nat) : ∃ f : Value, f = (if 0 < hls then fnV r 102 else if 0 < ents - 1 then fnV r 66 else .nilFunc) := ⟨_, rfl⟩

set_option maxRecDepth 100000 in
set_option maxHeartbeats 3200000 in
theorem open_any (lm : Lim) (hlm : LimW lm) (base r : Nat) (fn : Value) (s : St) (x rest : Int) (w : World) (h : MemF w base r lm fn .nilIface s) (hp : s.ph = .op) (hx : Word x) (hr : -9223372036854775808 ≤ rest ∧ rest ≤ 9223372036854775807) (he : 0 < s.ents ∧ s.ents < 18446744073709551616) :
    Calls Tryd.prog 90 #[.pointer (some ⟨r, 0, none⟩), .int .u64 x, .int .i64 rest] w fun e w' => StepPost lm base r fn (stepS lm s x rest) w e w' := by
  obtain ⟨ph, es, cur, ents, hls⟩ := s
  obtain rfl : ph = .op := hp
  obtain ⟨hbr, v, cp, hR, l, B, hv, hes, hC, hcur⟩ := h
  have e0 : stepS lm ⟨.op, es, cur, ents, hls⟩ x rest = if limitC x lm.ho rest ≠ 0 then .error (limitC x lm.ho rest) else .ok (holeS ⟨.op, es, cur, ents, x⟩) := rfl
  have hlt := hR.lt
  have c3 := hR.c3
  have c9 := hR.c9
  have c10 := hR.c10
  have fz := hR.free
  have H := hide hR
  have HC := hide hC
  have K := hide (fun W => limited_any x lm.ho rest W hx hlm.ho hr)
  obtain ⟨lim, elim⟩ : ∃ c, limitC x lm.ho rest = c := ⟨_, rfl⟩
  have hor := limitC_or x lm.ho rest
  obtain ⟨en, een⟩ : ∃ en, lm.ho = en := ⟨_, rfl⟩
  rw [elim] at e0 hor K
  rw [een] at c3 K
  have HX := hide hx
  have HES := hide hes
  have HCUR := hide hcur
  have HEN := hide he
  clear hR elim een hlm hr hx hes hC hcur he
  rcases hor with rfl | rfl | rfl
  · have E0 := hide e0
    clear e0
    rw [show errE 7 = .iface 44 (.int .i64 7) from rfl] at K
    go_enter Tryd.func90, Tryd.ntmps90
    go_wp2_with fail
    refine (K.out _).mono ?_
    rintro e w1 ⟨rfl, rfl⟩
    go_wp2
    go_ret2
    exact .err (E0.out.trans (if_pos (by decide))) (Below.refl _ _) rfl _ _ _ _ H.out
  · have E0 := hide e0
    clear e0
    rw [show errE 5 = .iface 44 (.int .i64 5) from rfl] at K
    go_enter Tryd.func90, Tryd.ntmps90
    go_wp2_with fail
    refine (K.out _).mono ?_
    rintro e w1 ⟨rfl, rfl⟩
    go_wp2
    go_ret2
    exact .err (E0.out.trans (if_pos (by decide))) (Below.refl _ _) rfl _ _ _ _ H.out
  · rw [if_neg (by simp)] at e0
    rw [show errE 0 = .nilIface from rfl] at K
    have E0 := hide e0
    clear e0
    go_enter Tryd.func90, Tryd.ntmps90
    go_wp2_with fail
    refine (K.out _).mono ?_
    rintro e w1 ⟨rfl, rfl⟩
    go_wp2_with fail
    refine (start_any 1 _).mono ?_
    rintro e w1 ⟨rfl, hcu, b1⟩
    have hR1 := H.out.below b1
    have d9 := hR1.c9
    have d10 := hR1.c10
    have fz1 := hR1.free
    have hR2 := hR1.s9 x
    have d10' := hR2.c10
    have fz2 := hR2.free
    have hR3 := hR2.s10 (.pointer (some ⟨w.heap.size, 0, none⟩))
    have o1 : Only (fun b => b = r) w1 ((w1.setCell ⟨r, 9, none⟩ (.int .u64 x)).setCell ⟨r, 10, none⟩ (.pointer (some ⟨w.heap.size, 0, none⟩))) := ((Only.refl (fun b => b = r) w1).setCell (p := ⟨r, 9, none⟩) (.inl rfl) _).setCell (p := ⟨r, 10, none⟩) (.inl rfl) _
    have ht1 := hR1.typed
    have hm : ∀ k, k = r → ¬ Typed w1 65 k ∧ ¬ Typed w1 68 k := fun k hk => by subst hk; exact ⟨ht1.not (by decide), ht1.not (by decide)⟩
    have hC3 := (HC.out.only (may := fun _ => False) (Only.of_below b1) (fun _ hk => hk.elim)).only o1 hm
    have hK1 : CurOk w1 base (.pointer (some ⟨w.heap.size, 0, none⟩)) cur none w.heap.size 0 0 0 false 101 := ⟨rfl, by omega, hcu, fun l hl => (by cases hl), .inl ⟨HCUR.out, rfl, rfl⟩⟩
    have hK3 := hK1.only o1 (fun e => ht1.ne hK1.typed (by decide) e.symm)
    have KH := hide (hole_any lm r fn .nilIface v (.pointer (some ⟨w.heap.size, 0, none⟩)) ents x _ hR3 HEN.out HX.out)
    have D := hide (fun w2 h1 h2 => hole_post (w2 := w2) (ph := .op) (lm := lm) (fn := fn) (ents := ents) (hls := x) hbr hR3.typed HES.out hC3 hK3 h1 h2)
    have hbl : Below base w ((w1.setCell ⟨r, 9, none⟩ (.int .u64 x)).setCell ⟨r, 10, none⟩ (.pointer (some ⟨w.heap.size, 0, none⟩))) := (below_of b1 (by omega)).trans (o1.below (by have := hR1.lt; omega) (fun k hk => by subst hk; exact hbr))
    have HB := hide hbl
    have hlt3 : base ≤ ((w1.setCell ⟨r, 9, none⟩ (.int .u64 x)).setCell ⟨r, 10, none⟩ (.pointer (some ⟨w.heap.size, 0, none⟩))).heap.size := by have := hR3.lt; omega
    have HL3 := hide hlt3
    clear hR1 hR2 hR3 o1 ht1 hm hC3 hK1 hK3 hcu b1 hbl hlt3 c9 c10
    rw [← hole_fn r .op es cur ents x] at KH
    obtain ⟨fv, efv⟩ : ∃ fv, (holeS ⟨.op, es, cur, ents, x⟩).ph.fn r = fv := ⟨_, rfl⟩
    rw [efv] at KH
    go_wp2_with fail
    refine KH.out.mono ?_
    rintro e w2 ⟨rfl, hR2, ho⟩
    have hM := hide (D.out w2 hR2 ho)
    have hB2 := hide (HB.out.trans (ho.below HL3.out (fun k hk => by subst hk; exact hbr)))
    have EFV := hide efv
    clear hR2 ho efv
    go_wp2
    go_ret2
    exact .ok E0.out hB2.out (by rw [EFV.out] <;> rfl) hM.out
end Go.Proofs.YtbphphmjhcehkaaDoor
