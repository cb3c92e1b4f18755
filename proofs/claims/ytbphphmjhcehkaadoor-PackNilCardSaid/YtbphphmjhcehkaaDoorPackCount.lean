/- pack's Reader: the states count and top. -/
import Derived.Test.YtbphphmjhcehkaaDoorPackSteps
namespace Go.Proofs.YtbphphmjhcehkaaDoor
open Go Go.RowKit

/-- What a state function does. -/
structure StepPost (lm : Lim) (base r : Nat) (fn : Value) (o : Except Int St) (w : World) (e : Ending) (w' : World) : Prop where
  below : Below base w w'
  bad : ∀ c, o = .error c → e = .returned (.tuple #[.nilFunc, errE c]) ∧ ∃ v cp en hl, RdR w' r lm fn .nilIface v en hl cp
  good : ∀ s', o = .ok s' → e = .returned (.tuple #[s'.ph.fn r, .nilIface]) ∧ MemF w' base r lm fn .nilIface s'
theorem StepPost.err {lm : Lim} {base r : Nat} {fn : Value} {o : Except Int St} {w w' : World} {e : Ending} {c : Int} (ho : o = .error c) (hb : Below base w w') (he : e = .returned (.tuple #[.nilFunc, errE c])) (v cp : Value) (en hl : Int) (h : RdR w' r lm fn .nilIface v en hl cp) : StepPost lm base r fn o w e w' :=
  ⟨hb, fun c' hc => (by rw [ho] at hc; cases hc; exact ⟨he, v, cp, en, hl, h⟩), fun s' hs => (by rw [ho] at hs; cases hs)⟩
theorem StepPost.ok {lm : Lim} {base r : Nat} {fn : Value} {o : Except Int St} {w w' : World} {e : Ending} {s' : St} (ho : o = .ok s') (hb : Below base w w') (he : e = .returned (.tuple #[s'.ph.fn r, .nilIface])) (h : MemF w' base r lm fn .nilIface s') : StepPost lm base r fn o w e w' :=
  ⟨hb, fun c' hc => (by rw [ho] at hc; cases hc), fun s'' hs => (by rw [ho] at hs; cases hs; exact ⟨he, h⟩)⟩
structure LimW (lm : Lim) : Prop where
  en : -9223372036854775808 ≤ lm.en ∧ lm.en ≤ 9223372036854775807
  ho : -9223372036854775808 ≤ lm.ho ∧ lm.ho ≤ 9223372036854775807
theorem limitC_or (x l n : Int) : limitC x l n = 7 ∨ limitC x l n = 5 ∨ limitC x l n = 0 := by
  unfold limitC
  split
  · exact .inl rfl
  · split
    · exact .inr (.inl rfl)
    · exact .inr (.inr rfl)
theorem below_of {n : Nat} {w w' : World} (h : Below w.heap.size w w') (hn : n ≤ w.heap.size) : Below n w w' := h.mono hn

set_option maxHeartbeats 1600000 in
theorem count_any (lm : Lim) (hlm : LimW lm) (base r : Nat) (fn : Value) (s : St) (x rest : Int) (w : World) (h : MemF w base r lm fn .nilIface s) (hp : s.ph = .count) (hx : Word x) (hr : -9223372036854775808 ≤ rest ∧ rest ≤ 9223372036854775807) :
    Calls Tryd.prog 44 #[.pointer (some ⟨r, 0, none⟩), .int .u64 x, .int .i64 rest] w fun e w' => StepPost lm base r fn (stepS lm s x rest) w e w' := by
  obtain ⟨ph, es, cur, ents, hls⟩ := s
  obtain rfl : ph = .count := hp
  obtain ⟨hbr, v, cp, hR, rfl, hes⟩ := h
  obtain rfl : es = [] := hes
  have e0 : stepS lm ⟨.count, [], cur, ents, hls⟩ x rest = if limitC x lm.en rest ≠ 0 then .error (limitC x lm.en rest) else if x = 0 then .error 9 else .ok ⟨.rep, [], cur, x, hls⟩ := rfl
  have hlt := hR.lt
  have c2 := hR.c2
  have c8 := hR.c8
  have fz := hR.free
  have H := hide hR
  have K := hide (fun W => limited_any x lm.en rest W hx hlm.en hr)
  obtain ⟨lim, elim⟩ : ∃ c, limitC x lm.en rest = c := ⟨_, rfl⟩
  have hor := limitC_or x lm.en rest
  obtain ⟨en, een⟩ : ∃ en, lm.en = en := ⟨_, rfl⟩
  rw [elim] at e0 hor K
  rw [een] at c2 K
  have hx' := hide hx
  clear hR elim een hlm hr hx
  rcases hor with rfl | rfl | rfl
  · have E0 := hide e0
    clear e0
    rw [show errE 7 = .iface 44 (.int .i64 7) from rfl] at K
    go_enter Tryd.func44, Tryd.ntmps44
    go_wp2_with fail
    refine (K.out _).mono ?_
    rintro e w1 ⟨rfl, rfl⟩
    go_wp2
    go_ret2
    exact .err (E0.out.trans (if_pos (by decide))) (Below.refl _ _) rfl _ _ _ _ H.out
  · have E0 := hide e0
    clear e0
    rw [show errE 5 = .iface 44 (.int .i64 5) from rfl] at K
    go_enter Tryd.func44, Tryd.ntmps44
    go_wp2_with fail
    refine (K.out _).mono ?_
    rintro e w1 ⟨rfl, rfl⟩
    go_wp2
    go_ret2
    exact .err (E0.out.trans (if_pos (by decide))) (Below.refl _ _) rfl _ _ _ _ H.out
  · rw [if_neg (by simp)] at e0
    rw [show errE 0 = .nilIface from rfl] at K
    by_cases g : x = 0
    · have E0 := hide e0
      have g' : (x == 0) = true := by simp [g]
      have G := hide g
      clear e0 g
      go_enter Tryd.func44, Tryd.ntmps44
      go_wp2_with fail
      refine (K.out _).mono ?_
      rintro e w1 ⟨rfl, rfl⟩
      go_wp2
      go_ret2
      exact .err (E0.out.trans (if_pos G.out)) (Below.refl _ _) rfl _ _ _ _ H.out
    · have E0 := hide e0
      have g' : (x == 0) = false := by simp [g]
      have G := hide g
      clear e0 g
      go_enter Tryd.func44, Tryd.ntmps44
      go_wp2_with fail
      refine (K.out _).mono ?_
      rintro e w1 ⟨rfl, rfl⟩
      go_wp2
      go_ret2
      refine .ok (E0.out.trans (if_neg G.out)) ((Below.refl base _).setCell (p := ⟨r, 8, none⟩) hbr _) rfl ⟨hbr, _, cp, H.out.s8 x, [], rfl, World.ownsRow_nil _ _ _ _, ?_, ?_⟩
      · intro p hp; cases hp
      · intro p hp; cases hp

set_option maxHeartbeats 1600000 in
theorem top_any (lm : Lim) (base r : Nat) (fn : Value) (s : St) (x rest : Int) (w : World) (h : MemF w base r lm fn .nilIface s) (hp : s.ph = .top) (hx : Word x) :
    Calls Tryd.prog 81 #[.pointer (some ⟨r, 0, none⟩), .int .u64 x, .int .i64 rest] w fun e w' => StepPost lm base r fn (stepS lm s x rest) w e w' := by
  obtain ⟨ph, es, cur, ents, hls⟩ := s
  obtain rfl : ph = .top := hp
  obtain ⟨hbr, v, cp, hR, l, B, hv, hes, hC, hcur⟩ := h
  have e0 : stepS lm ⟨.top, es, cur, ents, hls⟩ x rest = .ok ⟨.op, es, { cur with mx := x }, ents, hls⟩ := rfl
  obtain ⟨g, cap, rfl, hbg, hgl, hty, hm, fz, c0, c1, c2⟩ := row_slice hC
  have K := hide (entry_any lm r g l.length cap fn .nilIface cp ents hls w hR hm)
  have E0 := hide e0
  have HR := hide hR
  have HC := hide hC
  have HX := hide hx
  have HE := hide hes
  have HCUR := hide hcur
  have HT := hide hty
  have C1 := hide c1
  clear hR hC e0 c0 c1 c2 hx hcur hes hty
  go_enter Tryd.func81, Tryd.ntmps81
  go_wp2_with fail
  refine K.out.mono ?_
  rintro e w1 ⟨rfl, b1⟩
  have fz1 : ∀ j, w1.frozen? ⟨g, j, none⟩ = false := fun j => (b1.frozen (p := ⟨g, j, none⟩) hgl).trans (fz j)
  have d1 : w1.cell? ⟨g, l.length * 3 + 1, none⟩ = some (.int .u64 cur.mx) := keep_cell b1 hgl C1.out
  have B1 := hide b1
  clear b1
  go_wp2
  go_ret2
  have b1 := B1.out
  have hR1 := HR.out.below b1
  have hC1 := HC.out.only (may := fun _ => False) (Only.of_below b1) (fun _ hk => hk.elim)
  have ho : Only (fun b => b = g) w1 (w1.setCell ⟨g, l.length * 3 + 1, none⟩ (.int .u64 x)) := (Only.refl (fun b => b = g) w1).setCell (p := ⟨g, l.length * 3 + 1, none⟩) (.inl rfl) _
  have hT1 : Typed w1 65 g := by obtain ⟨cs, e⟩ := HT.out; exact ⟨cs, (b1.block g hgl).trans e⟩
  refine .ok E0.out ((below_of b1 (by have := HR.out.lt; omega)).setCell (p := ⟨g, l.length * 3 + 1, none⟩) hbg _) rfl ⟨hbr, _, cp, hR1.only ho (fun e => (hR1.typed.ne hT1 (by decide)) e), l, B, hv, HE.out, ?_, HCUR.out⟩
  have hs := hC1.row.stored (l.length * 3 + 1) (.int .u64 x)
  rw [cellsE_mx] at hs
  exact ⟨hs.1, hC1.le, Nat.le_trans hC1.lt ho.size, fun p hp => (hC1.fins p hp).only ho (fun k hk => by subst hk; exact .inr (hT1.not (by decide))), hC1.words,
    ⟨own_only hC1.own.row ho (fun k hk hy => by subst hy; exact (own_typed hC1.own.row hk).elim fun cs e => (Typed.ne ⟨cs, e⟩ hT1 (by decide)) rfl), hC1.own.words⟩, ⟨hC1.word.rep, HX.out, hC1.word.hs⟩⟩
end Go.Proofs.YtbphphmjhcehkaaDoor
