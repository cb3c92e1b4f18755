/- pack's Reader: the state lo. -/
import Derived.Test.YtbphphmjhcehkaaDoorPackCount
namespace Go.Proofs.YtbphphmjhcehkaaDoor
open Go Go.RowKit

theorem only_below {may : Nat → Prop} {w w' : World} {n : Nat} (h : Only may w w') (hs : n ≤ w.heap.size) (hm : ∀ k, may k → n ≤ k) : Below n w w' := h.below hs hm
theorem lo_done {w w' : World} {base r : Nat} {lm : Lim} {fn v cp hv : Value} {es : List Ent} {cur : Ent} {ents hls x : Int} {l : List EV} {B p : Nat} {lo llo lhi : Int} {sm : Bool} {f : FuncId}
    (hbr : base ≤ r) (hR : RdR w r lm fn .nilIface v ents hls cp) (hes : l.map (·.1) = es) (hC : RowC w base v l cur B hv) (hK : CurOk w base cp cur none p lo llo lhi sm f)
    (hcu : CurAt w' p 1 x llo lhi sm true f) (hx : Word x) (ho : Only (fun b => b = p) w w') : MemF w' base r lm fn .nilIface ⟨.hi x, es, cur, ents, hls⟩ ∧ Below base w w' := by
  have ht := hK.typed
  have hm : ∀ k, k = p → ¬ Typed w 65 k ∧ ¬ Typed w 68 k := fun k hk => by subst hk; exact ⟨ht.not (by decide), ht.not (by decide)⟩
  refine ⟨⟨hbr, v, cp, hR.only ho (fun e => hR.typed.ne ht (by decide) e), l, B, hv, p, x, llo, lhi, sm, f, hes, hC.only ho hm, ⟨hK.ptr, hK.le, hcu, fun y hy => ?_, hK.nxt⟩⟩, ho.below (by have := hR.lt; omega) (fun k hk => by subst hk; exact hK.le)⟩
  obtain rfl : x = y := by simpa using hy
  exact ⟨rfl, hx⟩

set_option maxRecDepth 100000 in
set_option maxHeartbeats 3200000 in
theorem lo_any (lm : Lim) (base r : Nat) (fn : Value) (s : St) (x rest : Int) (w : World) (h : MemF w base r lm fn .nilIface s) (hp : s.ph = .lo) (hx : Word x) :
    Calls Tryd.prog 102 #[.pointer (some ⟨r, 0, none⟩), .int .u64 x, .int .i64 rest] w fun e w' => StepPost lm base r fn (stepS lm s x rest) w e w' := by
  obtain ⟨ph, es, cur, ents, hls⟩ := s
  obtain rfl : ph = .lo := hp
  obtain ⟨hbr, v, cp, hR, l, B, hv, p, lo, llo, lhi, sm, f, hes, hC, hK⟩ := h
  have e0 : stepS lm ⟨.lo, es, cur, ents, hls⟩ x rest = if cur.hs = [] then .ok ⟨.hi x, es, cur, ents, hls⟩ else if lastHi cur.hs + 1 + 1 + x < 18446744073709551616 then .ok ⟨.hi (lastHi cur.hs + 1 + 1 + x), es, cur, ents, hls⟩ else .error 8 := rfl
  have hcp := hK.ptr
  have hes' : l.map (·.1) = es := hes
  subst hcp
  have c10 := hR.c10
  have H := hide hR
  rcases hK.nxt with ⟨h1, rfl, rfl⟩ | ⟨h1, rfl, h2, h3⟩
  · have E0 := hide (e0.trans (if_pos h1))
    have KL := hide (lo_first p x 1 lo llo lhi w hK.cur)
    have D := hide (fun w' hcu ho => lo_done (w' := w') hbr hR hes' hC hK hcu hx ho)
    clear hR hC hK hes hes' e0 h1 hx
    go_enter Tryd.func102, Tryd.ntmps102
    go_wp2_with fail
    refine KL.out.mono ?_
    rintro e w1 ⟨rfl, hcu, ho⟩
    have D1 := hide (D.out w1 hcu ho)
    clear hcu ho
    go_wp2
    go_ret2
    exact .ok E0.out D1.out.2 rfl D1.out.1
  · rw [if_neg h1] at e0
    by_cases hs : lastHi cur.hs + 1 + 1 + x < 18446744073709551616
    · have E0 := hide (e0.trans (if_pos hs))
      rw [← h2] at hs
      have KL := hide (lo_later p x 1 lo llo lhi sm w hK.cur one_word h3 hx hs)
      have hw : Word (lhi + 1 + 1 + x) := ⟨by have := h3.1; have := hx.1; omega, hs⟩
      have D := hide (fun w' hcu ho => lo_done (w' := w') (x := lhi + 1 + 1 + x) hbr hR hes' hC hK hcu hw ho)
      rw [← h2] at E0
      obtain ⟨y, ey⟩ : ∃ y, lhi + 1 + 1 + x = y := ⟨_, rfl⟩
      rw [ey] at KL D E0
      clear hR hC hK hes hes' e0 h1 hx hw ey hs h2 h3
      go_enter Tryd.func102, Tryd.ntmps102
      go_wp2_with fail
      refine KL.out.mono ?_
      rintro e w1 ⟨rfl, hcu, ho⟩
      have D1 := hide (D.out w1 hcu ho)
      clear hcu ho
      go_wp2
      go_ret2
      exact .ok E0.out D1.out.2 rfl D1.out.1
    · have E0 := hide (e0.trans (if_neg hs))
      rw [← h2] at hs
      have KL := hide (lo_later_no p x 1 lo llo lhi sm w hK.cur one_word h3 hx hs)
      clear hR hC hK hes hes' e0 h1 hx hs h2 h3
      go_enter Tryd.func102, Tryd.ntmps102
      go_wp2_with fail
      refine KL.out.mono ?_
      rintro e w1 ⟨rfl, b1⟩
      have B1 := hide b1
      clear b1
      go_wp2
      go_ret2
      exact .err E0.out (below_of B1.out (by have := H.out.lt; omega)) rfl _ _ _ _ (H.out.below B1.out)
end Go.Proofs.YtbphphmjhcehkaaDoor
