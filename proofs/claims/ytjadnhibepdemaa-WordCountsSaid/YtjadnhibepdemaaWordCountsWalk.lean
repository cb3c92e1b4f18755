/- The walk of the law WordCounts: for all counts the law returns true and changes nothing that was there. -/
import Derived.Test.YtjadnhibepdemaaWordAlive
import Derived.Deep.RegionHeld3
import Derived.Deep.DrawnRows
namespace Go.Proofs.Ytjadnhibepdemaa
open Go.RowKit
attribute [local go_sem ↓] Go.wp_at_zero Go.wp_at_succ

theorem cmp_neg (m n : Int) : cmpI n m = - cmpI m n := by unfold cmpI; split <;> split <;> (try split) <;> (try split) <;> omega
theorem cmp_cases (m n : Int) : cmpI m n = -1 ∨ cmpI m n = 0 ∨ cmpI m n = 1 := by unfold cmpI; split <;> (try split) <;> omega
theorem cmp_ge {m n : Int} (h : n ≤ m) : cmpI m n = 0 ∨ cmpI m n = 1 := by unfold cmpI; split <;> (try split) <;> omega
theorem sum_ge {ah al bh bl : Int} (h1 : Word ah) (h2 : Word al) (h3 : Word bh) (h4 : Word bl) (ha : ah ≤ 4611686018427387904) (hb : bh ≤ 4611686018427387904) :
    val ah al ≤ val (hi64 (val ah al + val bh bl)) (lo64 (val ah al + val bh bl)) := by
  rw [val_hilo (by unfold Word at *; unfold Long val; omega)]
  unfold Word at *; unfold val; omega

set_option maxRecDepth 100000 in
set_option maxHeartbeats 1600000 in
theorem counts_m0 (ah al bh bl ch cl : Int) (w : World) (g1 : ah ≤ 4611686018427387904) (g2 : bh ≤ 4611686018427387904)
    (p1 : ∀ W : World, Calls Try.prog 18 #[.agg #[.int .u64 ah, .int .u64 al], .agg #[.int .u64 bh, .int .u64 bl]] W fun e w' => e = .returned (.agg #[.int .u64 ch, .int .u64 cl]) ∧ Below W.heap.size W w')
    (p2 : ∀ W : World, Calls Try.prog 19 #[.int .u64 ah, .int .u64 al, .int .u64 bh, .int .u64 bl] W fun e w' => e = .returned (.tuple #[.int .u64 ch, .int .u64 cl]) ∧ W = w')
    (q1 : ∀ W : World, Calls Try.prog 20 #[.agg #[.int .u64 ah, .int .u64 al], .agg #[.int .u64 bh, .int .u64 bl]] W fun e w' => e = .returned (.int .i64 (-1)) ∧ Below W.heap.size W w')
    (q2 : ∀ W : World, Calls Try.prog 21 #[.int .u64 ah, .int .u64 al, .int .u64 bh, .int .u64 bl] W fun e w' => e = .returned (.int .i64 (-1)) ∧ W = w')
    (q3 : ∀ W : World, Calls Try.prog 20 #[.agg #[.int .u64 bh, .int .u64 bl], .agg #[.int .u64 ah, .int .u64 al]] W fun e w' => e = .returned (.int .i64 (1)) ∧ Below W.heap.size W w')
    (q4 : ∀ W : World, Calls Try.prog 20 #[.agg #[.int .u64 ch, .int .u64 cl], .agg #[.int .u64 ah, .int .u64 al]] W fun e w' => e = .returned (.int .i64 0) ∧ Below W.heap.size W w') :
    Calls Try.prog 7 #[.agg #[.int .u64 ah, .int .u64 al], .agg #[.int .u64 bh, .int .u64 bl]] w fun e w' => e = .returned (.bool true) ∧ Below w.heap.size w w' := by
  have P1 := hide p1; have P2 := hide p2; have Q1 := hide q1; have Q2 := hide q2; have Q3 := hide q3; have Q4 := hide q4
  clear p1 p2 q1 q2 q3 q4
  go_enter Try.func7, Try.ntmps7
  go_wp2_with fail
  refine (P1.out _).mono ?_
  rintro e w1 ⟨rfl, hb1⟩
  obtain ⟨hc1, hf1⟩ := bcell hb1
  have hz1 := hb1.size
  simp only [World.size_alloc] at hz1
  have s1 : w.heap.size < w1.heap.size := by omega
  have s2 : w.heap.size + 1 < w1.heap.size := by omega
  have s3 : w.heap.size < w1.heap.size + 1 := by omega
  have s4 : w.heap.size + 1 < w1.heap.size + 1 := by omega
  have a0 : w1.cell? ⟨w.heap.size, 0, none⟩ = some (.int .u64 ah) := by rw [hc1 _ _ (by simp; omega)]; simp
  have a1 : w1.cell? ⟨w.heap.size, 1, none⟩ = some (.int .u64 al) := by rw [hc1 _ _ (by simp; omega)]; simp
  have b0 : w1.cell? ⟨w.heap.size + 1, 0, none⟩ = some (.int .u64 bh) := by rw [hc1 _ _ (by simp)]; simp
  have b1 : w1.cell? ⟨w.heap.size + 1, 1, none⟩ = some (.int .u64 bl) := by rw [hc1 _ _ (by simp)]; simp
  clear hc1 hf1
  go_wp2_with fail
  refine (P2.out _).mono ?_
  rintro e w2 ⟨rfl, rfl⟩
  go_wp2_with fail
  have hw1 : IntKind.i64.wrap (0 - (-1)) = 1 := by decide
  have hw2 : IntKind.i64.wrap (1) = 1 := by decide
  have hw3 : wrap64 (1) = 1 := by unfold wrap64; decide
  have hw4 : wrap64 (0 - (-1)) = 1 := by unfold wrap64; decide
  go_region_held3 (fun w' => w'.cell? ⟨w.heap.size, 0, none⟩ = some (.int .u64 ah) ∧ w'.cell? ⟨w.heap.size, 1, none⟩ = some (.int .u64 al) ∧ w'.cell? ⟨w.heap.size + 1, 0, none⟩ = some (.int .u64 bh) ∧ w'.cell? ⟨w.heap.size + 1, 1, none⟩ = some (.int .u64 bl) ∧ w'.cell? ⟨w1.heap.size, 0, none⟩ = some (.int .u64 ch) ∧ w'.cell? ⟨w1.heap.size, 1, none⟩ = some (.int .u64 cl) ∧ w1.heap.size < w'.heap.size ∧ w.heap.size < w'.heap.size ∧ w.heap.size + 1 < w'.heap.size)
    (first | (go_split_ands; exact ⟨keep_cell hb3 (by assumption) (by assumption), keep_cell hb3 (by assumption) (by assumption), keep_cell hb3 (by assumption) (by assumption), keep_cell hb3 (by assumption) (by assumption), keep_cell hb3 (by assumption) (by assumption), keep_cell hb3 (by assumption) (by assumption), keep_lt hb3 (by assumption), keep_lt hb3 (by assumption), keep_lt hb3 (by assumption)⟩) | (refine ⟨?_, ?_, ?_, ?_, ?_, ?_, ?_, ?_, ?_⟩ <;> first | assumption | (simp [*, World.cell?_alloc_some]; done) | (simp; omega)))
    (first
      | (go_at_call 11; refine (alive_any _).mono ?_; rintro e w3 ⟨rfl, hb3⟩)
      | (go_at_call 21; refine (Q2.out _).mono ?_; rintro e w3 ⟨rfl, rfl⟩)
      | (go_at_call 20; (with_reducible refine (Q1.out _).mono ?_); rintro e w3 ⟨rfl, hb3⟩)
      | (go_at_call 20; (with_reducible refine (Q3.out _).mono ?_); rintro e w3 ⟨rfl, hb3⟩)
      | (go_at_call 20; (with_reducible refine (Q4.out _).mono ?_); rintro e w3 ⟨rfl, hb3⟩))
  all_goals go_wp2
  all_goals go_ret
  all_goals exact ⟨rfl, by repeat (first | exact Below.refl _ _ | refine bl_drew ?_ | refine bl_alloc ?_ _ | refine bl_trans ?_ (by assumption))⟩

set_option maxRecDepth 100000 in
set_option maxHeartbeats 1600000 in
theorem counts_m1 (ah al bh bl ch cl : Int) (w : World) (g1 : ah ≤ 4611686018427387904) (g2 : bh ≤ 4611686018427387904)
    (p1 : ∀ W : World, Calls Try.prog 18 #[.agg #[.int .u64 ah, .int .u64 al], .agg #[.int .u64 bh, .int .u64 bl]] W fun e w' => e = .returned (.agg #[.int .u64 ch, .int .u64 cl]) ∧ Below W.heap.size W w')
    (p2 : ∀ W : World, Calls Try.prog 19 #[.int .u64 ah, .int .u64 al, .int .u64 bh, .int .u64 bl] W fun e w' => e = .returned (.tuple #[.int .u64 ch, .int .u64 cl]) ∧ W = w')
    (q1 : ∀ W : World, Calls Try.prog 20 #[.agg #[.int .u64 ah, .int .u64 al], .agg #[.int .u64 bh, .int .u64 bl]] W fun e w' => e = .returned (.int .i64 (-1)) ∧ Below W.heap.size W w')
    (q2 : ∀ W : World, Calls Try.prog 21 #[.int .u64 ah, .int .u64 al, .int .u64 bh, .int .u64 bl] W fun e w' => e = .returned (.int .i64 (-1)) ∧ W = w')
    (q3 : ∀ W : World, Calls Try.prog 20 #[.agg #[.int .u64 bh, .int .u64 bl], .agg #[.int .u64 ah, .int .u64 al]] W fun e w' => e = .returned (.int .i64 (1)) ∧ Below W.heap.size W w')
    (q4 : ∀ W : World, Calls Try.prog 20 #[.agg #[.int .u64 ch, .int .u64 cl], .agg #[.int .u64 ah, .int .u64 al]] W fun e w' => e = .returned (.int .i64 1) ∧ Below W.heap.size W w') :
    Calls Try.prog 7 #[.agg #[.int .u64 ah, .int .u64 al], .agg #[.int .u64 bh, .int .u64 bl]] w fun e w' => e = .returned (.bool true) ∧ Below w.heap.size w w' := by
  have P1 := hide p1; have P2 := hide p2; have Q1 := hide q1; have Q2 := hide q2; have Q3 := hide q3; have Q4 := hide q4
  clear p1 p2 q1 q2 q3 q4
  go_enter Try.func7, Try.ntmps7
  go_wp2_with fail
  refine (P1.out _).mono ?_
  rintro e w1 ⟨rfl, hb1⟩
  obtain ⟨hc1, hf1⟩ := bcell hb1
  have hz1 := hb1.size
  simp only [World.size_alloc] at hz1
  have s1 : w.heap.size < w1.heap.size := by omega
  have s2 : w.heap.size + 1 < w1.heap.size := by omega
  have s3 : w.heap.size < w1.heap.size + 1 := by omega
  have s4 : w.heap.size + 1 < w1.heap.size + 1 := by omega
  have a0 : w1.cell? ⟨w.heap.size, 0, none⟩ = some (.int .u64 ah) := by rw [hc1 _ _ (by simp; omega)]; simp
  have a1 : w1.cell? ⟨w.heap.size, 1, none⟩ = some (.int .u64 al) := by rw [hc1 _ _ (by simp; omega)]; simp
  have b0 : w1.cell? ⟨w.heap.size + 1, 0, none⟩ = some (.int .u64 bh) := by rw [hc1 _ _ (by simp)]; simp
  have b1 : w1.cell? ⟨w.heap.size + 1, 1, none⟩ = some (.int .u64 bl) := by rw [hc1 _ _ (by simp)]; simp
  clear hc1 hf1
  go_wp2_with fail
  refine (P2.out _).mono ?_
  rintro e w2 ⟨rfl, rfl⟩
  go_wp2_with fail
  have hw1 : IntKind.i64.wrap (0 - (-1)) = 1 := by decide
  have hw2 : IntKind.i64.wrap (1) = 1 := by decide
  have hw3 : wrap64 (1) = 1 := by unfold wrap64; decide
  have hw4 : wrap64 (0 - (-1)) = 1 := by unfold wrap64; decide
  go_region_held3 (fun w' => w'.cell? ⟨w.heap.size, 0, none⟩ = some (.int .u64 ah) ∧ w'.cell? ⟨w.heap.size, 1, none⟩ = some (.int .u64 al) ∧ w'.cell? ⟨w.heap.size + 1, 0, none⟩ = some (.int .u64 bh) ∧ w'.cell? ⟨w.heap.size + 1, 1, none⟩ = some (.int .u64 bl) ∧ w'.cell? ⟨w1.heap.size, 0, none⟩ = some (.int .u64 ch) ∧ w'.cell? ⟨w1.heap.size, 1, none⟩ = some (.int .u64 cl) ∧ w1.heap.size < w'.heap.size ∧ w.heap.size < w'.heap.size ∧ w.heap.size + 1 < w'.heap.size)
    (first | (go_split_ands; exact ⟨keep_cell hb3 (by assumption) (by assumption), keep_cell hb3 (by assumption) (by assumption), keep_cell hb3 (by assumption) (by assumption), keep_cell hb3 (by assumption) (by assumption), keep_cell hb3 (by assumption) (by assumption), keep_cell hb3 (by assumption) (by assumption), keep_lt hb3 (by assumption), keep_lt hb3 (by assumption), keep_lt hb3 (by assumption)⟩) | (refine ⟨?_, ?_, ?_, ?_, ?_, ?_, ?_, ?_, ?_⟩ <;> first | assumption | (simp [*, World.cell?_alloc_some]; done) | (simp; omega)))
    (first
      | (go_at_call 11; refine (alive_any _).mono ?_; rintro e w3 ⟨rfl, hb3⟩)
      | (go_at_call 21; refine (Q2.out _).mono ?_; rintro e w3 ⟨rfl, rfl⟩)
      | (go_at_call 20; (with_reducible refine (Q1.out _).mono ?_); rintro e w3 ⟨rfl, hb3⟩)
      | (go_at_call 20; (with_reducible refine (Q3.out _).mono ?_); rintro e w3 ⟨rfl, hb3⟩)
      | (go_at_call 20; (with_reducible refine (Q4.out _).mono ?_); rintro e w3 ⟨rfl, hb3⟩))
  all_goals go_wp2
  all_goals go_ret
  all_goals exact ⟨rfl, by repeat (first | exact Below.refl _ _ | refine bl_drew ?_ | refine bl_alloc ?_ _ | refine bl_trans ?_ (by assumption))⟩

set_option maxRecDepth 100000 in
set_option maxHeartbeats 1600000 in
theorem counts_z0 (ah al bh bl ch cl : Int) (w : World) (g1 : ah ≤ 4611686018427387904) (g2 : bh ≤ 4611686018427387904)
    (p1 : ∀ W : World, Calls Try.prog 18 #[.agg #[.int .u64 ah, .int .u64 al], .agg #[.int .u64 bh, .int .u64 bl]] W fun e w' => e = .returned (.agg #[.int .u64 ch, .int .u64 cl]) ∧ Below W.heap.size W w')
    (p2 : ∀ W : World, Calls Try.prog 19 #[.int .u64 ah, .int .u64 al, .int .u64 bh, .int .u64 bl] W fun e w' => e = .returned (.tuple #[.int .u64 ch, .int .u64 cl]) ∧ W = w')
    (q1 : ∀ W : World, Calls Try.prog 20 #[.agg #[.int .u64 ah, .int .u64 al], .agg #[.int .u64 bh, .int .u64 bl]] W fun e w' => e = .returned (.int .i64 (0)) ∧ Below W.heap.size W w')
    (q2 : ∀ W : World, Calls Try.prog 21 #[.int .u64 ah, .int .u64 al, .int .u64 bh, .int .u64 bl] W fun e w' => e = .returned (.int .i64 (0)) ∧ W = w')
    (q3 : ∀ W : World, Calls Try.prog 20 #[.agg #[.int .u64 bh, .int .u64 bl], .agg #[.int .u64 ah, .int .u64 al]] W fun e w' => e = .returned (.int .i64 (0)) ∧ Below W.heap.size W w')
    (q4 : ∀ W : World, Calls Try.prog 20 #[.agg #[.int .u64 ch, .int .u64 cl], .agg #[.int .u64 ah, .int .u64 al]] W fun e w' => e = .returned (.int .i64 0) ∧ Below W.heap.size W w') :
    Calls Try.prog 7 #[.agg #[.int .u64 ah, .int .u64 al], .agg #[.int .u64 bh, .int .u64 bl]] w fun e w' => e = .returned (.bool true) ∧ Below w.heap.size w w' := by
  have P1 := hide p1; have P2 := hide p2; have Q1 := hide q1; have Q2 := hide q2; have Q3 := hide q3; have Q4 := hide q4
  clear p1 p2 q1 q2 q3 q4
  go_enter Try.func7, Try.ntmps7
  go_wp2_with fail
  refine (P1.out _).mono ?_
  rintro e w1 ⟨rfl, hb1⟩
  obtain ⟨hc1, hf1⟩ := bcell hb1
  have hz1 := hb1.size
  simp only [World.size_alloc] at hz1
  have s1 : w.heap.size < w1.heap.size := by omega
  have s2 : w.heap.size + 1 < w1.heap.size := by omega
  have s3 : w.heap.size < w1.heap.size + 1 := by omega
  have s4 : w.heap.size + 1 < w1.heap.size + 1 := by omega
  have a0 : w1.cell? ⟨w.heap.size, 0, none⟩ = some (.int .u64 ah) := by rw [hc1 _ _ (by simp; omega)]; simp
  have a1 : w1.cell? ⟨w.heap.size, 1, none⟩ = some (.int .u64 al) := by rw [hc1 _ _ (by simp; omega)]; simp
  have b0 : w1.cell? ⟨w.heap.size + 1, 0, none⟩ = some (.int .u64 bh) := by rw [hc1 _ _ (by simp)]; simp
  have b1 : w1.cell? ⟨w.heap.size + 1, 1, none⟩ = some (.int .u64 bl) := by rw [hc1 _ _ (by simp)]; simp
  clear hc1 hf1
  go_wp2_with fail
  refine (P2.out _).mono ?_
  rintro e w2 ⟨rfl, rfl⟩
  go_wp2_with fail
  have hw1 : IntKind.i64.wrap (0 - (0)) = 0 := by decide
  have hw2 : IntKind.i64.wrap (0) = 0 := by decide
  have hw3 : wrap64 (0) = 0 := by unfold wrap64; decide
  have hw4 : wrap64 (0 - (0)) = 0 := by unfold wrap64; decide
  go_region_held3 (fun w' => w'.cell? ⟨w.heap.size, 0, none⟩ = some (.int .u64 ah) ∧ w'.cell? ⟨w.heap.size, 1, none⟩ = some (.int .u64 al) ∧ w'.cell? ⟨w.heap.size + 1, 0, none⟩ = some (.int .u64 bh) ∧ w'.cell? ⟨w.heap.size + 1, 1, none⟩ = some (.int .u64 bl) ∧ w'.cell? ⟨w1.heap.size, 0, none⟩ = some (.int .u64 ch) ∧ w'.cell? ⟨w1.heap.size, 1, none⟩ = some (.int .u64 cl) ∧ w1.heap.size < w'.heap.size ∧ w.heap.size < w'.heap.size ∧ w.heap.size + 1 < w'.heap.size)
    (first | (go_split_ands; exact ⟨keep_cell hb3 (by assumption) (by assumption), keep_cell hb3 (by assumption) (by assumption), keep_cell hb3 (by assumption) (by assumption), keep_cell hb3 (by assumption) (by assumption), keep_cell hb3 (by assumption) (by assumption), keep_cell hb3 (by assumption) (by assumption), keep_lt hb3 (by assumption), keep_lt hb3 (by assumption), keep_lt hb3 (by assumption)⟩) | (refine ⟨?_, ?_, ?_, ?_, ?_, ?_, ?_, ?_, ?_⟩ <;> first | assumption | (simp [*, World.cell?_alloc_some]; done) | (simp; omega)))
    (first
      | (go_at_call 11; refine (alive_any _).mono ?_; rintro e w3 ⟨rfl, hb3⟩)
      | (go_at_call 21; refine (Q2.out _).mono ?_; rintro e w3 ⟨rfl, rfl⟩)
      | (go_at_call 20; (with_reducible refine (Q1.out _).mono ?_); rintro e w3 ⟨rfl, hb3⟩)
      | (go_at_call 20; (with_reducible refine (Q3.out _).mono ?_); rintro e w3 ⟨rfl, hb3⟩)
      | (go_at_call 20; (with_reducible refine (Q4.out _).mono ?_); rintro e w3 ⟨rfl, hb3⟩))
  all_goals go_wp2
  all_goals go_ret
  all_goals exact ⟨rfl, by repeat (first | exact Below.refl _ _ | refine bl_drew ?_ | refine bl_alloc ?_ _ | refine bl_trans ?_ (by assumption))⟩

set_option maxRecDepth 100000 in
set_option maxHeartbeats 1600000 in
theorem counts_z1 (ah al bh bl ch cl : Int) (w : World) (g1 : ah ≤ 4611686018427387904) (g2 : bh ≤ 4611686018427387904)
    (p1 : ∀ W : World, Calls Try.prog 18 #[.agg #[.int .u64 ah, .int .u64 al], .agg #[.int .u64 bh, .int .u64 bl]] W fun e w' => e = .returned (.agg #[.int .u64 ch, .int .u64 cl]) ∧ Below W.heap.size W w')
    (p2 : ∀ W : World, Calls Try.prog 19 #[.int .u64 ah, .int .u64 al, .int .u64 bh, .int .u64 bl] W fun e w' => e = .returned (.tuple #[.int .u64 ch, .int .u64 cl]) ∧ W = w')
    (q1 : ∀ W : World, Calls Try.prog 20 #[.agg #[.int .u64 ah, .int .u64 al], .agg #[.int .u64 bh, .int .u64 bl]] W fun e w' => e = .returned (.int .i64 (0)) ∧ Below W.heap.size W w')
    (q2 : ∀ W : World, Calls Try.prog 21 #[.int .u64 ah, .int .u64 al, .int .u64 bh, .int .u64 bl] W fun e w' => e = .returned (.int .i64 (0)) ∧ W = w')
    (q3 : ∀ W : World, Calls Try.prog 20 #[.agg #[.int .u64 bh, .int .u64 bl], .agg #[.int .u64 ah, .int .u64 al]] W fun e w' => e = .returned (.int .i64 (0)) ∧ Below W.heap.size W w')
    (q4 : ∀ W : World, Calls Try.prog 20 #[.agg #[.int .u64 ch, .int .u64 cl], .agg #[.int .u64 ah, .int .u64 al]] W fun e w' => e = .returned (.int .i64 1) ∧ Below W.heap.size W w') :
    Calls Try.prog 7 #[.agg #[.int .u64 ah, .int .u64 al], .agg #[.int .u64 bh, .int .u64 bl]] w fun e w' => e = .returned (.bool true) ∧ Below w.heap.size w w' := by
  have P1 := hide p1; have P2 := hide p2; have Q1 := hide q1; have Q2 := hide q2; have Q3 := hide q3; have Q4 := hide q4
  clear p1 p2 q1 q2 q3 q4
  go_enter Try.func7, Try.ntmps7
  go_wp2_with fail
  refine (P1.out _).mono ?_
  rintro e w1 ⟨rfl, hb1⟩
  obtain ⟨hc1, hf1⟩ := bcell hb1
  have hz1 := hb1.size
  simp only [World.size_alloc] at hz1
  have s1 : w.heap.size < w1.heap.size := by omega
  have s2 : w.heap.size + 1 < w1.heap.size := by omega
  have s3 : w.heap.size < w1.heap.size + 1 := by omega
  have s4 : w.heap.size + 1 < w1.heap.size + 1 := by omega
  have a0 : w1.cell? ⟨w.heap.size, 0, none⟩ = some (.int .u64 ah) := by rw [hc1 _ _ (by simp; omega)]; simp
  have a1 : w1.cell? ⟨w.heap.size, 1, none⟩ = some (.int .u64 al) := by rw [hc1 _ _ (by simp; omega)]; simp
  have b0 : w1.cell? ⟨w.heap.size + 1, 0, none⟩ = some (.int .u64 bh) := by rw [hc1 _ _ (by simp)]; simp
  have b1 : w1.cell? ⟨w.heap.size + 1, 1, none⟩ = some (.int .u64 bl) := by rw [hc1 _ _ (by simp)]; simp
  clear hc1 hf1
  go_wp2_with fail
  refine (P2.out _).mono ?_
  rintro e w2 ⟨rfl, rfl⟩
  go_wp2_with fail
  have hw1 : IntKind.i64.wrap (0 - (0)) = 0 := by decide
  have hw2 : IntKind.i64.wrap (0) = 0 := by decide
  have hw3 : wrap64 (0) = 0 := by unfold wrap64; decide
  have hw4 : wrap64 (0 - (0)) = 0 := by unfold wrap64; decide
  go_region_held3 (fun w' => w'.cell? ⟨w.heap.size, 0, none⟩ = some (.int .u64 ah) ∧ w'.cell? ⟨w.heap.size, 1, none⟩ = some (.int .u64 al) ∧ w'.cell? ⟨w.heap.size + 1, 0, none⟩ = some (.int .u64 bh) ∧ w'.cell? ⟨w.heap.size + 1, 1, none⟩ = some (.int .u64 bl) ∧ w'.cell? ⟨w1.heap.size, 0, none⟩ = some (.int .u64 ch) ∧ w'.cell? ⟨w1.heap.size, 1, none⟩ = some (.int .u64 cl) ∧ w1.heap.size < w'.heap.size ∧ w.heap.size < w'.heap.size ∧ w.heap.size + 1 < w'.heap.size)
    (first | (go_split_ands; exact ⟨keep_cell hb3 (by assumption) (by assumption), keep_cell hb3 (by assumption) (by assumption), keep_cell hb3 (by assumption) (by assumption), keep_cell hb3 (by assumption) (by assumption), keep_cell hb3 (by assumption) (by assumption), keep_cell hb3 (by assumption) (by assumption), keep_lt hb3 (by assumption), keep_lt hb3 (by assumption), keep_lt hb3 (by assumption)⟩) | (refine ⟨?_, ?_, ?_, ?_, ?_, ?_, ?_, ?_, ?_⟩ <;> first | assumption | (simp [*, World.cell?_alloc_some]; done) | (simp; omega)))
    (first
      | (go_at_call 11; refine (alive_any _).mono ?_; rintro e w3 ⟨rfl, hb3⟩)
      | (go_at_call 21; refine (Q2.out _).mono ?_; rintro e w3 ⟨rfl, rfl⟩)
      | (go_at_call 20; (with_reducible refine (Q1.out _).mono ?_); rintro e w3 ⟨rfl, hb3⟩)
      | (go_at_call 20; (with_reducible refine (Q3.out _).mono ?_); rintro e w3 ⟨rfl, hb3⟩)
      | (go_at_call 20; (with_reducible refine (Q4.out _).mono ?_); rintro e w3 ⟨rfl, hb3⟩))
  all_goals go_wp2
  all_goals go_ret
  all_goals exact ⟨rfl, by repeat (first | exact Below.refl _ _ | refine bl_drew ?_ | refine bl_alloc ?_ _ | refine bl_trans ?_ (by assumption))⟩

set_option maxRecDepth 100000 in
set_option maxHeartbeats 1600000 in
theorem counts_p0 (ah al bh bl ch cl : Int) (w : World) (g1 : ah ≤ 4611686018427387904) (g2 : bh ≤ 4611686018427387904)
    (p1 : ∀ W : World, Calls Try.prog 18 #[.agg #[.int .u64 ah, .int .u64 al], .agg #[.int .u64 bh, .int .u64 bl]] W fun e w' => e = .returned (.agg #[.int .u64 ch, .int .u64 cl]) ∧ Below W.heap.size W w')
    (p2 : ∀ W : World, Calls Try.prog 19 #[.int .u64 ah, .int .u64 al, .int .u64 bh, .int .u64 bl] W fun e w' => e = .returned (.tuple #[.int .u64 ch, .int .u64 cl]) ∧ W = w')
    (q1 : ∀ W : World, Calls Try.prog 20 #[.agg #[.int .u64 ah, .int .u64 al], .agg #[.int .u64 bh, .int .u64 bl]] W fun e w' => e = .returned (.int .i64 (1)) ∧ Below W.heap.size W w')
    (q2 : ∀ W : World, Calls Try.prog 21 #[.int .u64 ah, .int .u64 al, .int .u64 bh, .int .u64 bl] W fun e w' => e = .returned (.int .i64 (1)) ∧ W = w')
    (q3 : ∀ W : World, Calls Try.prog 20 #[.agg #[.int .u64 bh, .int .u64 bl], .agg #[.int .u64 ah, .int .u64 al]] W fun e w' => e = .returned (.int .i64 (-1)) ∧ Below W.heap.size W w')
    (q4 : ∀ W : World, Calls Try.prog 20 #[.agg #[.int .u64 ch, .int .u64 cl], .agg #[.int .u64 ah, .int .u64 al]] W fun e w' => e = .returned (.int .i64 0) ∧ Below W.heap.size W w') :
    Calls Try.prog 7 #[.agg #[.int .u64 ah, .int .u64 al], .agg #[.int .u64 bh, .int .u64 bl]] w fun e w' => e = .returned (.bool true) ∧ Below w.heap.size w w' := by
  have P1 := hide p1; have P2 := hide p2; have Q1 := hide q1; have Q2 := hide q2; have Q3 := hide q3; have Q4 := hide q4
  clear p1 p2 q1 q2 q3 q4
  go_enter Try.func7, Try.ntmps7
  go_wp2_with fail
  refine (P1.out _).mono ?_
  rintro e w1 ⟨rfl, hb1⟩
  obtain ⟨hc1, hf1⟩ := bcell hb1
  have hz1 := hb1.size
  simp only [World.size_alloc] at hz1
  have s1 : w.heap.size < w1.heap.size := by omega
  have s2 : w.heap.size + 1 < w1.heap.size := by omega
  have s3 : w.heap.size < w1.heap.size + 1 := by omega
  have s4 : w.heap.size + 1 < w1.heap.size + 1 := by omega
  have a0 : w1.cell? ⟨w.heap.size, 0, none⟩ = some (.int .u64 ah) := by rw [hc1 _ _ (by simp; omega)]; simp
  have a1 : w1.cell? ⟨w.heap.size, 1, none⟩ = some (.int .u64 al) := by rw [hc1 _ _ (by simp; omega)]; simp
  have b0 : w1.cell? ⟨w.heap.size + 1, 0, none⟩ = some (.int .u64 bh) := by rw [hc1 _ _ (by simp)]; simp
  have b1 : w1.cell? ⟨w.heap.size + 1, 1, none⟩ = some (.int .u64 bl) := by rw [hc1 _ _ (by simp)]; simp
  clear hc1 hf1
  go_wp2_with fail
  refine (P2.out _).mono ?_
  rintro e w2 ⟨rfl, rfl⟩
  go_wp2_with fail
  have hw1 : IntKind.i64.wrap (0 - (1)) = -1 := by decide
  have hw2 : IntKind.i64.wrap (-1) = -1 := by decide
  have hw3 : wrap64 (-1) = -1 := by unfold wrap64; decide
  have hw4 : wrap64 (0 - (1)) = -1 := by unfold wrap64; decide
  go_region_held3 (fun w' => w'.cell? ⟨w.heap.size, 0, none⟩ = some (.int .u64 ah) ∧ w'.cell? ⟨w.heap.size, 1, none⟩ = some (.int .u64 al) ∧ w'.cell? ⟨w.heap.size + 1, 0, none⟩ = some (.int .u64 bh) ∧ w'.cell? ⟨w.heap.size + 1, 1, none⟩ = some (.int .u64 bl) ∧ w'.cell? ⟨w1.heap.size, 0, none⟩ = some (.int .u64 ch) ∧ w'.cell? ⟨w1.heap.size, 1, none⟩ = some (.int .u64 cl) ∧ w1.heap.size < w'.heap.size ∧ w.heap.size < w'.heap.size ∧ w.heap.size + 1 < w'.heap.size)
    (first | (go_split_ands; exact ⟨keep_cell hb3 (by assumption) (by assumption), keep_cell hb3 (by assumption) (by assumption), keep_cell hb3 (by assumption) (by assumption), keep_cell hb3 (by assumption) (by assumption), keep_cell hb3 (by assumption) (by assumption), keep_cell hb3 (by assumption) (by assumption), keep_lt hb3 (by assumption), keep_lt hb3 (by assumption), keep_lt hb3 (by assumption)⟩) | (refine ⟨?_, ?_, ?_, ?_, ?_, ?_, ?_, ?_, ?_⟩ <;> first | assumption | (simp [*, World.cell?_alloc_some]; done) | (simp; omega)))
    (first
      | (go_at_call 11; refine (alive_any _).mono ?_; rintro e w3 ⟨rfl, hb3⟩)
      | (go_at_call 21; refine (Q2.out _).mono ?_; rintro e w3 ⟨rfl, rfl⟩)
      | (go_at_call 20; (with_reducible refine (Q1.out _).mono ?_); rintro e w3 ⟨rfl, hb3⟩)
      | (go_at_call 20; (with_reducible refine (Q3.out _).mono ?_); rintro e w3 ⟨rfl, hb3⟩)
      | (go_at_call 20; (with_reducible refine (Q4.out _).mono ?_); rintro e w3 ⟨rfl, hb3⟩))
  all_goals go_wp2
  all_goals go_ret
  all_goals exact ⟨rfl, by repeat (first | exact Below.refl _ _ | refine bl_drew ?_ | refine bl_alloc ?_ _ | refine bl_trans ?_ (by assumption))⟩

set_option maxRecDepth 100000 in
set_option maxHeartbeats 1600000 in
theorem counts_p1 (ah al bh bl ch cl : Int) (w : World) (g1 : ah ≤ 4611686018427387904) (g2 : bh ≤ 4611686018427387904)
    (p1 : ∀ W : World, Calls Try.prog 18 #[.agg #[.int .u64 ah, .int .u64 al], .agg #[.int .u64 bh, .int .u64 bl]] W fun e w' => e = .returned (.agg #[.int .u64 ch, .int .u64 cl]) ∧ Below W.heap.size W w')
    (p2 : ∀ W : World, Calls Try.prog 19 #[.int .u64 ah, .int .u64 al, .int .u64 bh, .int .u64 bl] W fun e w' => e = .returned (.tuple #[.int .u64 ch, .int .u64 cl]) ∧ W = w')
    (q1 : ∀ W : World, Calls Try.prog 20 #[.agg #[.int .u64 ah, .int .u64 al], .agg #[.int .u64 bh, .int .u64 bl]] W fun e w' => e = .returned (.int .i64 (1)) ∧ Below W.heap.size W w')
    (q2 : ∀ W : World, Calls Try.prog 21 #[.int .u64 ah, .int .u64 al, .int .u64 bh, .int .u64 bl] W fun e w' => e = .returned (.int .i64 (1)) ∧ W = w')
    (q3 : ∀ W : World, Calls Try.prog 20 #[.agg #[.int .u64 bh, .int .u64 bl], .agg #[.int .u64 ah, .int .u64 al]] W fun e w' => e = .returned (.int .i64 (-1)) ∧ Below W.heap.size W w')
    (q4 : ∀ W : World, Calls Try.prog 20 #[.agg #[.int .u64 ch, .int .u64 cl], .agg #[.int .u64 ah, .int .u64 al]] W fun e w' => e = .returned (.int .i64 1) ∧ Below W.heap.size W w') :
    Calls Try.prog 7 #[.agg #[.int .u64 ah, .int .u64 al], .agg #[.int .u64 bh, .int .u64 bl]] w fun e w' => e = .returned (.bool true) ∧ Below w.heap.size w w' := by
  have P1 := hide p1; have P2 := hide p2; have Q1 := hide q1; have Q2 := hide q2; have Q3 := hide q3; have Q4 := hide q4
  clear p1 p2 q1 q2 q3 q4
  go_enter Try.func7, Try.ntmps7
  go_wp2_with fail
  refine (P1.out _).mono ?_
  rintro e w1 ⟨rfl, hb1⟩
  obtain ⟨hc1, hf1⟩ := bcell hb1
  have hz1 := hb1.size
  simp only [World.size_alloc] at hz1
  have s1 : w.heap.size < w1.heap.size := by omega
  have s2 : w.heap.size + 1 < w1.heap.size := by omega
  have s3 : w.heap.size < w1.heap.size + 1 := by omega
  have s4 : w.heap.size + 1 < w1.heap.size + 1 := by omega
  have a0 : w1.cell? ⟨w.heap.size, 0, none⟩ = some (.int .u64 ah) := by rw [hc1 _ _ (by simp; omega)]; simp
  have a1 : w1.cell? ⟨w.heap.size, 1, none⟩ = some (.int .u64 al) := by rw [hc1 _ _ (by simp; omega)]; simp
  have b0 : w1.cell? ⟨w.heap.size + 1, 0, none⟩ = some (.int .u64 bh) := by rw [hc1 _ _ (by simp)]; simp
  have b1 : w1.cell? ⟨w.heap.size + 1, 1, none⟩ = some (.int .u64 bl) := by rw [hc1 _ _ (by simp)]; simp
  clear hc1 hf1
  go_wp2_with fail
  refine (P2.out _).mono ?_
  rintro e w2 ⟨rfl, rfl⟩
  go_wp2_with fail
  have hw1 : IntKind.i64.wrap (0 - (1)) = -1 := by decide
  have hw2 : IntKind.i64.wrap (-1) = -1 := by decide
  have hw3 : wrap64 (-1) = -1 := by unfold wrap64; decide
  have hw4 : wrap64 (0 - (1)) = -1 := by unfold wrap64; decide
  go_region_held3 (fun w' => w'.cell? ⟨w.heap.size, 0, none⟩ = some (.int .u64 ah) ∧ w'.cell? ⟨w.heap.size, 1, none⟩ = some (.int .u64 al) ∧ w'.cell? ⟨w.heap.size + 1, 0, none⟩ = some (.int .u64 bh) ∧ w'.cell? ⟨w.heap.size + 1, 1, none⟩ = some (.int .u64 bl) ∧ w'.cell? ⟨w1.heap.size, 0, none⟩ = some (.int .u64 ch) ∧ w'.cell? ⟨w1.heap.size, 1, none⟩ = some (.int .u64 cl) ∧ w1.heap.size < w'.heap.size ∧ w.heap.size < w'.heap.size ∧ w.heap.size + 1 < w'.heap.size)
    (first | (go_split_ands; exact ⟨keep_cell hb3 (by assumption) (by assumption), keep_cell hb3 (by assumption) (by assumption), keep_cell hb3 (by assumption) (by assumption), keep_cell hb3 (by assumption) (by assumption), keep_cell hb3 (by assumption) (by assumption), keep_cell hb3 (by assumption) (by assumption), keep_lt hb3 (by assumption), keep_lt hb3 (by assumption), keep_lt hb3 (by assumption)⟩) | (refine ⟨?_, ?_, ?_, ?_, ?_, ?_, ?_, ?_, ?_⟩ <;> first | assumption | (simp [*, World.cell?_alloc_some]; done) | (simp; omega)))
    (first
      | (go_at_call 11; refine (alive_any _).mono ?_; rintro e w3 ⟨rfl, hb3⟩)
      | (go_at_call 21; refine (Q2.out _).mono ?_; rintro e w3 ⟨rfl, rfl⟩)
      | (go_at_call 20; (with_reducible refine (Q1.out _).mono ?_); rintro e w3 ⟨rfl, hb3⟩)
      | (go_at_call 20; (with_reducible refine (Q3.out _).mono ?_); rintro e w3 ⟨rfl, hb3⟩)
      | (go_at_call 20; (with_reducible refine (Q4.out _).mono ?_); rintro e w3 ⟨rfl, hb3⟩))
  all_goals go_wp2
  all_goals go_ret
  all_goals exact ⟨rfl, by repeat (first | exact Below.refl _ _ | refine bl_drew ?_ | refine bl_alloc ?_ _ | refine bl_trans ?_ (by assumption))⟩

theorem wordCounts_walk (ah al bh bl : Int) (w : World) (h1 : Word ah) (h2 : Word al) (h3 : Word bh) (h4 : Word bl) :
    Calls Try.prog 7 #[.agg #[.int .u64 ah, .int .u64 al], .agg #[.int .u64 bh, .int .u64 bl]] w fun e w' => e = .returned (.bool true) ∧ Below w.heap.size w w' := by
  by_cases g1 : ah ≤ 4611686018427387904
  · by_cases g2 : bh ≤ 4611686018427387904
    · have hx := cmp_cases (val ah al) (val bh bl)
      have hy := cmp_neg (val ah al) (val bh bl)
      have hz := cmp_ge (sum_ge h1 h2 h3 h4 g1 g2)
      have p1 := plus_any ah al bh bl h1 h2 h3 h4
      have p2 := rplus_any ah al bh bl h1 h2 h3 h4
      have q1 := compare_any ah al bh bl h1 h2 h3 h4
      have q2 := rcompare_any ah al bh bl h1 h2 h3 h4
      have q3 := compare_any bh bl ah al h3 h4 h1 h2
      have q4 := compare_any _ _ ah al (word_hi (val ah al + val bh bl)) (word_lo (val ah al + val bh bl)) h1 h2
      rw [hy] at q3
      rcases hx with hx | hx | hx <;> rcases hz with hz | hz <;> rw [hx] at q1 q2 q3 <;> rw [hz] at q4
      · exact counts_m0 ah al bh bl _ _ w g1 g2 p1 p2 q1 q2 q3 q4
      · exact counts_m1 ah al bh bl _ _ w g1 g2 p1 p2 q1 q2 q3 q4
      · exact counts_z0 ah al bh bl _ _ w g1 g2 p1 p2 q1 q2 q3 q4
      · exact counts_z1 ah al bh bl _ _ w g1 g2 p1 p2 q1 q2 q3 q4
      · exact counts_p0 ah al bh bl _ _ w g1 g2 p1 p2 q1 q2 q3 q4
      · exact counts_p1 ah al bh bl _ _ w g1 g2 p1 p2 q1 q2 q3 q4
    · have g2' : 4611686018427387904 < bh := by omega
      clear g2 h1 h2 h3 h4
      go_enter Try.func7, Try.ntmps7
      go_wp2_with fail
      refine (alive_any _).mono ?_
      rintro e w1 ⟨rfl, hb1⟩
      go_wp2_with fail
      go_ret
      exact ⟨rfl, by repeat (first | exact Below.refl _ _ | refine bl_drew ?_ | refine bl_alloc ?_ _ | refine bl_trans ?_ (by assumption))⟩
  · have g1' : 4611686018427387904 < ah := by omega
    clear g1 h1 h2 h3 h4
    go_enter Try.func7, Try.ntmps7
    go_wp2_with fail
    refine (alive_any _).mono ?_
    rintro e w1 ⟨rfl, hb1⟩
    go_wp2_with fail
    go_ret
    exact ⟨rfl, by repeat (first | exact Below.refl _ _ | refine bl_drew ?_ | refine bl_alloc ?_ _ | refine bl_trans ?_ (by assumption))⟩
end Go.Proofs.Ytjadnhibepdemaa
