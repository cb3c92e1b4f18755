/- pack's Reader: entry, hole, and the functions of its states. -/
import Derived.Test.YtbphphmjhcehkaaDoorPackLim
import Derived.BigQuiet
import Derived.Deep.QuietTactic
namespace Go.Proofs.YtbphphmjhcehkaaDoor
open Go Go.RowKit

/-- The address of the last entry of a row. -/
theorem row_slice {w : World} {base : Nat} {v : Value} {l : List EV} {e : Ent} {B : Nat} {hv : Value} (h : RowC w base v l e B hv) :
    ∃ g cap, v = .slice (some ⟨g, 0, none⟩) (l.length + 1) cap ∧ base ≤ g ∧ g < w.heap.size ∧ Typed w 65 g ∧ l.length + 1 ≤ 9223372036854775807 ∧ (∀ j, w.frozen? ⟨g, j, none⟩ = false) ∧
      w.cell? ⟨g, l.length * 3, none⟩ = some (.int .u64 e.rep) ∧ w.cell? ⟨g, l.length * 3 + 1, none⟩ = some (.int .u64 e.mx) ∧ w.cell? ⟨g, l.length * 3 + 2, none⟩ = some hv := by
  have hr := h.row
  rcases hr.2 with ⟨_, hn⟩ | ⟨g, cap, cur, hv', hg, hc, hle, hm, _⟩
  · omega
  · subst hv'
    obtain ⟨c0, c1, c2⟩ := cellsE_last l e hv
    refine ⟨g, cap, rfl, hg, (Array.getElem?_eq_some_iff.1 hc).1, ⟨cur, hc⟩, by unfold maxLen at hm; omega, hr.frozenAt, ?_, ?_, ?_⟩
    · rw [hr.cellAt _ (by omega)]; exact c0
    · rw [hr.cellAt _ (by omega)]; exact c1
    · rw [hr.cellAt _ (by omega)]; exact c2

theorem entry_any (lm : Lim) (r g n cap : Nat) (fn er cp : Value) (ents hls : Int) (w : World) (h : RdR w r lm fn er (.slice (some ⟨g, 0, none⟩) (n + 1) cap) ents hls cp) (hm : n + 1 ≤ 9223372036854775807) :
    Calls Tryd.prog 89 #[.pointer (some ⟨r, 0, none⟩)] w fun e w' => e = .returned (.pointer (some ⟨g, n * 3, none⟩)) ∧ Below w.heap.size w w' := by
  have c7 := h.c7
  have q0 : IntKind.i64.wrap (((n + 1 : Nat) : Int) - 1) = (n : Int) := by rw [IntKind.wrap_i64]; omega
  have q1 : (0 : Int) ≤ (n : Int) := by omega
  have q2 : (n : Int) < ((n + 1 : Nat) : Int) := by omega
  clear h
  obtain ⟨m, em⟩ : ∃ m, m = n + 1 := ⟨_, rfl⟩
  rw [← em] at c7 q0 q2
  clear em hm
  go_enter Tryd.func89, Tryd.ntmps89
  go_wp2_with fail
  go_quiet (fail)
  go_wp2
  go_ret
  exact ⟨rfl, bl_drewN (Below.refl _ _) _⟩

/-- The counts behind hole. -/
theorem hole_any (lm : Lim) (r : Nat) (fn er v cp : Value) (ents hls : Int) (w : World) (h : RdR w r lm fn er v ents hls cp) (he : 0 < ents ∧ ents < 18446744073709551616) (hh : 0 ≤ hls ∧ hls < 18446744073709551616) :
    Calls Tryd.prog 98 #[.pointer (some ⟨r, 0, none⟩)] w fun e w' =>
      e = .returned (if 0 < hls then fnV r 102 else if 0 < ents - 1 then fnV r 66 else .nilFunc) ∧
      RdR w' r lm fn er v (if 0 < hls then ents else ents - 1) (if 0 < hls then hls - 1 else hls) cp ∧ Only (fun b => b = r) w w' := by
  have c8 := h.c8
  have c9 := h.c9
  have fz := h.free
  have H := hide h
  have HO := hide (Only.refl (fun b => b = r) w)
  clear h
  obtain ⟨he0, he1⟩ := he
  obtain ⟨hh0, hh1⟩ := hh
  unfold fnV
  by_cases g : 0 < hls
  · have q : IntKind.u64.wrap (hls - 1) = hls - 1 := by rw [IntKind.wrap_u64]; omega
    rw [if_pos g, if_pos g, if_pos g]
    obtain ⟨m, em⟩ : ∃ m, m = hls - 1 := ⟨_, rfl⟩
    have q' : IntKind.u64.wrap (hls - 1) = m := q.trans em.symm
    rw [← em]
    clear em q he0 he1 hh0 hh1
    go_enter Tryd.func98, Tryd.ntmps98
    go_wp2
    go_ret
    exact ⟨rfl, H.out.s9 _, HO.out.setCell (p := ⟨r, 9, none⟩) (.inl rfl) _⟩
  · have g0 : hls = 0 := by omega
    have q : IntKind.u64.wrap (ents - 1) = ents - 1 := by rw [IntKind.wrap_u64]; omega
    rw [if_neg g, if_neg g, if_neg g]
    subst g0
    have K := hide (fun x => And.intro (H.out.s8 x) (HO.out.setCell (p := ⟨r, 8, none⟩) (.inl rfl) (.int .u64 x)))
    obtain ⟨m, em⟩ : ∃ m, m = ents - 1 := ⟨_, rfl⟩
    have q' : IntKind.u64.wrap (ents - 1) = m := q.trans em.symm
    rw [← em]
    have d8 : (w.setCell ⟨r, 8, none⟩ (.int .u64 m)).cell? ⟨r, 8, none⟩ = some (.int .u64 m) := (K.out m).1.c8
    clear em q he0 he1 hh0 hh1 g
    by_cases g2 : 0 < m
    · rw [if_pos g2]
      go_enter Tryd.func98, Tryd.ntmps98
      go_wp2
      go_ret
      exact ⟨rfl, (K.out m).1, (K.out m).2⟩
    · rw [if_neg g2]
      go_enter Tryd.func98, Tryd.ntmps98
      go_wp2
      go_ret
      exact ⟨rfl, (K.out m).1, (K.out m).2⟩
end Go.Proofs.YtbphphmjhcehkaaDoor
