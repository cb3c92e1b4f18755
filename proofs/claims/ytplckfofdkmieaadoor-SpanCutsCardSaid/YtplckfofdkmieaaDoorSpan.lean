/- Contracts of the package span: Relate, Meet, Join, Has, Check, Shift. -/
import Derived.Test.YtplckfofdkmieaaDoorRef03
import Derived.Test.YtplckfofdkmieaaDoorWordSum
namespace Go.Proofs.YtplckfofdkmieaaDoor
open Go.RowKit

set_option maxHeartbeats 800000 in
theorem relate_any (al ah bl bh : Int) (h1 : Word al) (h2 : Word ah) (h3 : Word bl) (h4 : Word bh) (ha : al ≤ ah) (hb : bl ≤ bh) (w : World) :
    Calls Tryd.prog 11 #[.agg #[.int .u64 al, .int .u64 ah], .agg #[.int .u64 bl, .int .u64 bh]] w fun e w' => e = .returned (.int .i64 (relI al ah bl bh)) ∧ Below w.heap.size w w' := by
  by_cases c1 : ah < bl
  · have K1 := hide (fun W => between_lt ah bl h2 h3 c1 W)
    have K2 := hide (fun W => between_ge bh al h4 h1 (by omega) W)
    by_cases c2 : bl - ah = 1
    · have R := hide (show relI al ah bl bh = 1 by unfold relI; rw [if_pos c1, if_pos c2])
      have g1 : ¬ 0 < bl - ah - 1 := by omega
      clear h1 h2 h3 h4 ha hb c1 c2
      go_enter Tryd.func11, Tryd.ntmps11
      go_wp2_with fail
      refine (K1.out _).mono ?_
      rintro e w1 ⟨rfl, rfl⟩
      go_wp2_with fail
      refine (K2.out _).mono ?_
      rintro e w2 ⟨rfl, rfl⟩
      go_wp2
      go_ret
      exact ⟨ret_int R.out.symm, bl_alloc (bl_alloc (Below.refl _ _) _) _⟩
    · have R := hide (show relI al ah bl bh = 0 by unfold relI; rw [if_pos c1, if_neg c2])
      have g1 : 0 < bl - ah - 1 := by omega
      clear h1 h2 h3 h4 ha hb c1 c2
      go_enter Tryd.func11, Tryd.ntmps11
      go_wp2_with fail
      refine (K1.out _).mono ?_
      rintro e w1 ⟨rfl, rfl⟩
      go_wp2_with fail
      refine (K2.out _).mono ?_
      rintro e w2 ⟨rfl, rfl⟩
      go_wp2
      go_ret
      exact ⟨ret_int R.out.symm, bl_alloc (bl_alloc (Below.refl _ _) _) _⟩
  · have K1 := hide (fun W => between_ge ah bl h2 h3 (by omega) W)
    by_cases c3 : bh < al
    · have K2 := hide (fun W => between_lt bh al h4 h1 c3 W)
      by_cases c2 : al - bh = 1
      · have R := hide (show relI al ah bl bh = 3 by unfold relI; rw [if_neg c1, if_pos c3, if_pos c2])
        have g1 : ¬ 0 < al - bh - 1 := by omega
        clear h1 h2 h3 h4 ha hb c1 c2 c3
        go_enter Tryd.func11, Tryd.ntmps11
        go_wp2_with fail
        refine (K1.out _).mono ?_
        rintro e w1 ⟨rfl, rfl⟩
        go_wp2_with fail
        refine (K2.out _).mono ?_
        rintro e w2 ⟨rfl, rfl⟩
        go_wp2
        go_ret
        exact ⟨ret_int R.out.symm, bl_alloc (bl_alloc (Below.refl _ _) _) _⟩
      · have R := hide (show relI al ah bl bh = 4 by unfold relI; rw [if_neg c1, if_pos c3, if_neg c2])
        have g1 : 0 < al - bh - 1 := by omega
        clear h1 h2 h3 h4 ha hb c1 c2 c3
        go_enter Tryd.func11, Tryd.ntmps11
        go_wp2_with fail
        refine (K1.out _).mono ?_
        rintro e w1 ⟨rfl, rfl⟩
        go_wp2_with fail
        refine (K2.out _).mono ?_
        rintro e w2 ⟨rfl, rfl⟩
        go_wp2
        go_ret
        exact ⟨ret_int R.out.symm, bl_alloc (bl_alloc (Below.refl _ _) _) _⟩
    · have K2 := hide (fun W => between_ge bh al h4 h1 (by omega) W)
      have R := hide (show relI al ah bl bh = 2 by unfold relI; rw [if_neg c1, if_neg c3])
      clear h1 h2 h3 h4 ha hb c1 c3
      go_enter Tryd.func11, Tryd.ntmps11
      go_wp2_with fail
      refine (K1.out _).mono ?_
      rintro e w1 ⟨rfl, rfl⟩
      go_wp2_with fail
      refine (K2.out _).mono ?_
      rintro e w2 ⟨rfl, rfl⟩
      go_wp2
      go_ret
      exact ⟨ret_int R.out.symm, bl_alloc (bl_alloc (Below.refl _ _) _) _⟩

/-- The greater and the less of two numbers. -/
def mxI (a b : Int) : Int := if a < b then b else a
def mnI (a b : Int) : Int := if b < a then b else a
theorem word_mx {a b : Int} (h : Word a) (k : Word b) : Word (mxI a b) := by unfold mxI; split <;> assumption
theorem word_mn {a b : Int} (h : Word a) (k : Word b) : Word (mnI a b) := by unfold mnI; split <;> assumption
/-- Whether two intervals meet, and where. -/
def mtB (al ah bl bh : Int) : Bool := decide (mxI al bl ≤ mnI ah bh)
def mtL (al ah bl bh : Int) : Int := if mxI al bl ≤ mnI ah bh then mxI al bl else 0
def mtH (al ah bl bh : Int) : Int := if mxI al bl ≤ mnI ah bh then mnI ah bh else 0
set_option maxHeartbeats 800000 in
theorem meet_any (al ah bl bh : Int) (w : World) :
    Calls Tryd.prog 16 #[.agg #[.int .u64 al, .int .u64 ah], .agg #[.int .u64 bl, .int .u64 bh]] w fun e w' => e = .returned (.tuple #[.agg #[.int .u64 (mtL al ah bl bh), .int .u64 (mtH al ah bl bh)], .bool (mtB al ah bl bh)]) ∧ Below w.heap.size w w' := by
  go_enter Tryd.func16, Tryd.ntmps16
  go_wp2
  all_goals refine bodyPost_ret (v := .tuple #[.agg #[.int .u64 (mtL al ah bl bh), .int .u64 (mtH al ah bl bh)], .bool (mtB al ah bl bh)]) ?_ rfl ⟨rfl, ?_⟩
  all_goals try (repeat (first | exact Below.refl _ _ | refine bl_alloc ?_ _))
  all_goals simp [results, Tryd.results16, go_sem, mtL, mtH, mtB, mxI, mnI]
  all_goals (repeat' apply And.intro)
  all_goals first | omega | exact decide_eq_true (by omega) | exact decide_eq_false (by omega)
/-- Three rows of two cells that a call finds again behind another call. -/
theorem three_cells {w w1 : World} {x0 x1 y0 y1 z0 z1 : Value} {t0 t1 t2 : TypeId}
    (b1 : Below (((w.alloc (.cells #[x0, x1] t0)).alloc (.cells #[y0, y1] t1)).alloc (.cells #[z0, z1] t2)).heap.size (((w.alloc (.cells #[x0, x1] t0)).alloc (.cells #[y0, y1] t1)).alloc (.cells #[z0, z1] t2)) w1) :
    w1.heap[w.heap.size]? = some (.cells #[x0, x1] t0 (0, 0)) ∧ w1.heap[w.heap.size + 1]? = some (.cells #[y0, y1] t1 (0, 0)) ∧ w1.heap[w.heap.size + 1 + 1]? = some (.cells #[z0, z1] t2 (0, 0)) := by
  refine ⟨?_, ?_, ?_⟩
  · rw [b1.block _ (by simp; omega)]
    exact heap_old_at _ _ (by simp; omega) (heap_old_at _ _ (by simp) (heap_new_at _ _ rfl))
  · rw [b1.block _ (by simp)]
    exact heap_old_at _ _ (by simp) (heap_new_at _ _ (by simp))
  · rw [b1.block _ (by simp)]
    exact heap_new_at _ _ (by simp)
theorem cells_two {w : World} {b : Nat} {x y : Value} {t : TypeId} (h : w.heap[b]? = some (.cells #[x, y] t (0, 0))) :
    w.cell? ⟨b, 0, none⟩ = some x ∧ w.cell? ⟨b, 1, none⟩ = some y ∧ (∀ j, w.frozen? ⟨b, j, none⟩ = false) ∧ b < w.heap.size :=
  ⟨by simp [World.cell?, h], by simp [World.cell?, h], by intro j; simp [World.frozen?, h], Blk_lt h⟩
set_option maxHeartbeats 800000 in
theorem rmeet_any (al ah bl bh : Int) (h1 : Word al) (h2 : Word ah) (h3 : Word bl) (h4 : Word bh) (ha : al ≤ ah) (hb : bl ≤ bh) (w : World) :
    Calls Tryd.prog 17 #[.agg #[.int .u64 al, .int .u64 ah], .agg #[.int .u64 bl, .int .u64 bh]] w fun e w' => e = .returned (.tuple #[.agg #[.int .u64 (mtL al ah bl bh), .int .u64 (mtH al ah bl bh)], .bool (mtB al ah bl bh)]) ∧ Below w.heap.size w w' := by
  have K := hide (fun W => rrelate_any al ah bl bh h1 h2 h3 h4 W)
  have R : relI al ah bl bh = 2 ↔ mxI al bl ≤ mnI ah bh := by
    unfold relI mxI mnI
    split <;> (try split) <;> (try split) <;> (try split) <;> (try split) <;> omega
  obtain ⟨r, er⟩ : ∃ r, r = relI al ah bl bh := ⟨_, rfl⟩
  rw [← er] at K R
  clear h1 h2 h3 h4 ha hb er
  go_enter Tryd.func17, Tryd.ntmps17
  go_wp2_with fail
  refine (K.out _).mono ?_
  rintro e w1 ⟨rfl, b1⟩
  have B1 := bl_trans (bl_alloc (bl_alloc (bl_alloc (Below.refl _ w) _) _) _) b1
  obtain ⟨H0, H1, H2⟩ := three_cells b1
  obtain ⟨c0, c1, _, l0⟩ := cells_two H0
  obtain ⟨d0, d1, _, l1⟩ := cells_two H1
  obtain ⟨e0, e1, f2, l2⟩ := cells_two H2
  clear H0 H1 H2 b1
  by_cases g : r = 2
  · have R' := hide (R.1 g)
    subst g
    clear R
    go_wp2
    all_goals refine bodyPost_ret (v := .tuple #[.agg #[.int .u64 (mtL al ah bl bh), .int .u64 (mtH al ah bl bh)], .bool (mtB al ah bl bh)]) ?_ rfl ⟨rfl, ?_⟩
    all_goals try exact bl_set (bl_set B1 (by simp; omega) _) (by simp; omega) _
    all_goals simp [results, Tryd.results17, go_sem, e0, e1]
    all_goals (have R2 := R'.out; unfold mtL mtH mtB; rw [if_pos R2, if_pos R2, decide_eq_true R2]; unfold mxI mnI; refine ⟨⟨?_, ?_⟩, rfl⟩ <;> split <;> omega)
  · have R' := hide (fun h => g (R.2 h))
    clear R
    go_wp2
    exact bodyPost_ret (v := .tuple #[.agg #[.int .u64 (mtL al ah bl bh), .int .u64 (mtH al ah bl bh)], .bool (mtB al ah bl bh)]) (by have r := Int.not_le.1 R'.out; simp [results, Tryd.results17, go_sem, e0, e1, mtL, mtH, mtB]; omega) rfl ⟨rfl, by repeat (first | exact B1 | refine bl_set ?_ (by simp; omega) _)⟩

/-- Whether two intervals are joined to one, and to which. -/
def joB (r : Int) : Bool := decide (r ≠ 0 ∧ r ≠ 4)
def joL (r al bl : Int) : Int := if r ≠ 0 ∧ r ≠ 4 then mnI al bl else 0
def joH (r ah bh : Int) : Int := if r ≠ 0 ∧ r ≠ 4 then mxI ah bh else 0
set_option maxHeartbeats 1600000 in
theorem join_any (al ah bl bh : Int) (h1 : Word al) (h2 : Word ah) (h3 : Word bl) (h4 : Word bh) (ha : al ≤ ah) (hb : bl ≤ bh) (w : World) :
    Calls Tryd.prog 13 #[.agg #[.int .u64 al, .int .u64 ah], .agg #[.int .u64 bl, .int .u64 bh]] w fun e w' => e = .returned (.tuple #[.agg #[.int .u64 (joL (relI al ah bl bh) al bl), .int .u64 (joH (relI al ah bl bh) ah bh)], .bool (joB (relI al ah bl bh))]) ∧ Below w.heap.size w w' := by
  have K := hide (fun W => relate_any al ah bl bh h1 h2 h3 h4 ha hb W)
  obtain ⟨r, er⟩ : ∃ r, r = relI al ah bl bh := ⟨_, rfl⟩
  rw [← er] at K ⊢
  clear h1 h2 h3 h4 ha hb er
  go_enter Tryd.func13, Tryd.ntmps13
  go_wp2_with fail
  refine (K.out _).mono ?_
  rintro e w1 ⟨rfl, b1⟩
  clear K
  have B1 := bl_trans (bl_alloc (bl_alloc (bl_alloc (Below.refl _ w) _) _) _) b1
  obtain ⟨H0, H1, H2⟩ := three_cells b1
  obtain ⟨c0, c1, _, l0⟩ := cells_two H0
  obtain ⟨d0, d1, _, l1⟩ := cells_two H1
  obtain ⟨e0, e1, f2, l2⟩ := cells_two H2
  clear H0 H1 H2 b1
  by_cases g0 : r = 0
  · subst g0
    go_wp2
    exact bodyPost_ret (v := .tuple #[.agg #[.int .u64 (joL 0 al bl), .int .u64 (joH 0 ah bh)], .bool (joB 0)]) (by simp [results, Tryd.results13, go_sem, e0, e1, joL, joH, joB]) rfl ⟨rfl, by repeat (first | exact B1 | refine bl_set ?_ (by simp; omega) _)⟩
  · by_cases g4 : r = 4
    · subst g4
      go_wp2
      exact bodyPost_ret (v := .tuple #[.agg #[.int .u64 (joL 4 al bl), .int .u64 (joH 4 ah bh)], .bool (joB 4)]) (by simp [results, Tryd.results13, go_sem, e0, e1, joL, joH, joB]) rfl ⟨rfl, by repeat (first | exact B1 | refine bl_set ?_ (by simp; omega) _)⟩
    · have q0 : (r == 0) = false := by simp [g0]
      have q4 : (r == 4) = false := by simp [g4]
      go_wp2
      all_goals refine bodyPost_ret (v := .tuple #[.agg #[.int .u64 (joL r al bl), .int .u64 (joH r ah bh)], .bool (joB r)]) ?_ rfl ⟨rfl, ?_⟩
      all_goals try exact bl_set (bl_set B1 (by simp; omega) _) (by simp; omega) _
      all_goals simp [results, Tryd.results13, go_sem, e0, e1]
      all_goals first | (exfalso; simp only [beq_iff_eq] at *; omega) | (have R2 : r ≠ 0 ∧ r ≠ 4 := ⟨g0, g4⟩; unfold joL joH joB; rw [if_pos R2, if_pos R2, decide_eq_true R2]; unfold mxI mnI; refine ⟨⟨?_, ?_⟩, rfl⟩ <;> split <;> omega)
set_option maxHeartbeats 1600000 in
theorem rjoin_any (al ah bl bh : Int) (h1 : Word al) (h2 : Word ah) (h3 : Word bl) (h4 : Word bh) (w : World) :
    Calls Tryd.prog 14 #[.agg #[.int .u64 al, .int .u64 ah], .agg #[.int .u64 bl, .int .u64 bh]] w fun e w' => e = .returned (.tuple #[.agg #[.int .u64 (joL (relI al ah bl bh) al bl), .int .u64 (joH (relI al ah bl bh) ah bh)], .bool (joB (relI al ah bl bh))]) ∧ Below w.heap.size w w' := by
  have K := hide (fun W => rrelate_any al ah bl bh h1 h2 h3 h4 W)
  obtain ⟨r, er⟩ : ∃ r, r = relI al ah bl bh := ⟨_, rfl⟩
  rw [← er] at K ⊢
  clear h1 h2 h3 h4 er
  go_enter Tryd.func14, Tryd.ntmps14
  go_wp2_with fail
  refine (K.out _).mono ?_
  rintro e w1 ⟨rfl, b1⟩
  clear K
  have B1 := bl_trans (bl_alloc (bl_alloc (bl_alloc (Below.refl _ w) _) _) _) b1
  obtain ⟨H0, H1, H2⟩ := three_cells b1
  obtain ⟨c0, c1, _, l0⟩ := cells_two H0
  obtain ⟨d0, d1, _, l1⟩ := cells_two H1
  obtain ⟨e0, e1, f2, l2⟩ := cells_two H2
  clear H0 H1 H2 b1
  by_cases g0 : r = 0
  · subst g0
    go_wp2
    exact bodyPost_ret (v := .tuple #[.agg #[.int .u64 (joL 0 al bl), .int .u64 (joH 0 ah bh)], .bool (joB 0)]) (by simp [results, Tryd.results14, go_sem, e0, e1, joL, joH, joB]) rfl ⟨rfl, by repeat (first | exact B1 | refine bl_set ?_ (by simp; omega) _)⟩
  · by_cases g4 : r = 4
    · subst g4
      go_wp2
      exact bodyPost_ret (v := .tuple #[.agg #[.int .u64 (joL 4 al bl), .int .u64 (joH 4 ah bh)], .bool (joB 4)]) (by simp [results, Tryd.results14, go_sem, e0, e1, joL, joH, joB]) rfl ⟨rfl, by repeat (first | exact B1 | refine bl_set ?_ (by simp; omega) _)⟩
    · have q0 : (r == 0) = false := by simp [g0]
      have q4 : (r == 4) = false := by simp [g4]
      go_wp2
      all_goals refine bodyPost_ret (v := .tuple #[.agg #[.int .u64 (joL r al bl), .int .u64 (joH r ah bh)], .bool (joB r)]) ?_ rfl ⟨rfl, ?_⟩
      all_goals try exact bl_set (bl_set B1 (by simp; omega) _) (by simp; omega) _
      all_goals simp [results, Tryd.results14, go_sem, e0, e1]
      all_goals first | (exfalso; simp only [beq_iff_eq] at *; omega) | (have R2 : r ≠ 0 ∧ r ≠ 4 := ⟨g0, g4⟩; unfold joL joH joB; rw [if_pos R2, if_pos R2, decide_eq_true R2]; unfold mxI mnI; refine ⟨⟨?_, ?_⟩, rfl⟩ <;> split <;> omega)

set_option maxHeartbeats 800000 in
theorem check_yes (lo hi : Int) (h : lo ≤ hi) (w : World) :
    Calls Tryd.prog 18 #[.agg #[.int .u64 lo, .int .u64 hi]] w fun e w' => e = .returned .nilIface ∧ Below w.heap.size w w' := by
  go_enter Tryd.func18, Tryd.ntmps18
  go_wp2
  go_ret
  exact ⟨rfl, bl_alloc (Below.refl _ _) _⟩
theorem check_no (lo hi : Int) (h : hi < lo) (w : World) :
    Calls Tryd.prog 18 #[.agg #[.int .u64 lo, .int .u64 hi]] w fun e w' => e = .returned (.iface 36 (.int .i64 2)) ∧ Below w.heap.size w w' := by
  go_enter Tryd.func18, Tryd.ntmps18
  go_wp2
  go_ret
  exact ⟨rfl, bl_alloc (Below.refl _ _) _⟩
theorem has_any (lo hi x : Int) (h1 : Word lo) (h2 : Word hi) (h3 : Word x) (h : lo ≤ hi) (w : World) :
    Calls Tryd.prog 21 #[.agg #[.int .u64 lo, .int .u64 hi], .int .u64 x] w fun e w' => e = .returned (.bool (hasI lo hi x)) ∧ Below w.heap.size w w' := by
  unfold Word at h1 h2 h3
  go_enter Tryd.func21, Tryd.ntmps21
  go_wp2
  go_ret
  refine ⟨ret_bool ?_, bl_alloc (Below.refl _ _) _⟩
  unfold hasI
  rw [IntKind.wrap_u64, decide_eq_decide]
  omega
end Go.Proofs.YtplckfofdkmieaaDoor
