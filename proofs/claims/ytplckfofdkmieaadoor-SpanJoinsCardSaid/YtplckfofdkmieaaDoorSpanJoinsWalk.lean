/- The walk of the law SpanJoins. -/
import Derived.Test.YtplckfofdkmieaaDoorSpanAlive
import Derived.Test.YtplckfofdkmieaaDoorTake
import Derived.Deep.RegionWith
namespace Go.Proofs.YtplckfofdkmieaaDoor
open Go.RowKit

/-- The rows of a, of b and of the two results, in every world of the region. -/
structure Held (w : World) (n3 n4 : Nat) (al ah bl bh L H : Int) (W : World) : Prop where
  c0 : W.cell? ⟨w.heap.size, 0, none⟩ = some (.int .u64 al)
  c1 : W.cell? ⟨w.heap.size, 1, none⟩ = some (.int .u64 ah)
  d0 : W.cell? ⟨w.heap.size + 1, 0, none⟩ = some (.int .u64 bl)
  d1 : W.cell? ⟨w.heap.size + 1, 1, none⟩ = some (.int .u64 bh)
  f0 : W.cell? ⟨n3, 0, none⟩ = some (.int .u64 L)
  f1 : W.cell? ⟨n3, 1, none⟩ = some (.int .u64 H)
  g0 : W.cell? ⟨n4, 0, none⟩ = some (.int .u64 L)
  g1 : W.cell? ⟨n4, 1, none⟩ = some (.int .u64 H)
  bl : Below w.heap.size w W
theorem Held.below {w W W' : World} {n3 n4 : Nat} {al ah bl bh L H : Int} (h : Held w n3 n4 al ah bl bh L H W) (hb : Below W.heap.size W W') : Held w n3 n4 al ah bl bh L H W' :=
  ⟨keep_cs hb h.c0, keep_cs hb h.c1, keep_cs hb h.d0, keep_cs hb h.d1, keep_cs hb h.f0, keep_cs hb h.f1, keep_cs hb h.g0, keep_cs hb h.g1, bl_trans h.bl hb⟩
theorem Held.drew {w W : World} {n3 n4 : Nat} {al ah bl bh L H : Int} (h : Held w n3 n4 al ah bl bh L H W) : Held w n3 n4 al ah bl bh L H W.drew :=
  ⟨h.c0, h.c1, h.d0, h.d1, h.f0, h.f1, h.g0, h.g1, bl_drew h.bl⟩
theorem jo_has (al ah bl bh x : Int) (ha : al ≤ ah) (hb : bl ≤ bh) (h : joB (relI al ah bl bh) = true) : hasI (joL (relI al ah bl bh) al bl) (joH (relI al ah bl bh) ah bh) x = (hasI al ah x || hasI bl bh x) := by
  have h' : relI al ah bl bh ≠ 0 ∧ relI al ah bl bh ≠ 4 := of_decide_eq_true h
  unfold joL joH
  rw [if_pos h', if_pos h']
  clear h
  unfold hasI mxI mnI
  rw [Bool.eq_iff_iff]
  simp only [decide_eq_true_eq, Bool.or_eq_true]
  revert h'
  unfold relI
  split <;> (try split) <;> (try split) <;> (try split) <;> (try split) <;> omega
theorem word_joL {r al bl : Int} (h1 : Word al) (h3 : Word bl) : Word (joL r al bl) := by
  unfold joL; split
  · exact word_mn h1 h3
  · exact ⟨by decide, by decide⟩
theorem word_joH {r ah bh : Int} (h1 : Word ah) (h3 : Word bh) : Word (joH r ah bh) := by
  unfold joH; split
  · exact word_mx h1 h3
  · exact ⟨by decide, by decide⟩

set_option maxHeartbeats 3200000 in
theorem spanJoins_walk (al ah bl bh x : Int) (w : World) (h1 : Word al) (h2 : Word ah) (h3 : Word bl) (h4 : Word bh) (hx : Word x) (hg : Laid w) :
    Calls Tryd.prog 4 #[.agg #[.int .u64 al, .int .u64 ah], .agg #[.int .u64 bl, .int .u64 bh], .int .u64 x] w fun e w' => e = .returned (.bool true) ∧ Below w.heap.size w w' := by
  have HA := hide (fun W (hb : Below w.heap.size w W) => alive_any W (hg.below hb))
  clear hg
  by_cases ha : al ≤ ah
  · have K1 := hide (fun W => rright_yes al ah h1 h2 ha W)
    by_cases hb : bl ≤ bh
    · have K2 := hide (fun W => rright_yes bl bh h3 h4 hb W)
      have K3 := hide (fun W => join_any al ah bl bh h1 h2 h3 h4 ha hb W)
      have K4 := hide (fun W => rjoin_any al ah bl bh h1 h2 h3 h4 W)
      have KM := hide (fun W => rhas_any (joL (relI al ah bl bh) al bl) (joH (relI al ah bl bh) ah bh) x (word_joL h1 h3) (word_joH h2 h4) hx W)
      have P1 := jo_has al ah bl bh x ha hb
      have P2 : True := trivial
      obtain ⟨L, eL⟩ : ∃ y, y = joL (relI al ah bl bh) al bl := ⟨_, rfl⟩
      obtain ⟨H, eH⟩ : ∃ y, y = joH (relI al ah bl bh) ah bh := ⟨_, rfl⟩
      obtain ⟨B, eB⟩ : ∃ y, y = joB (relI al ah bl bh) := ⟨_, rfl⟩
      have KA := hide (fun W => rhas_any al ah x h1 h2 hx W)
      have KB := hide (fun W => rhas_any bl bh x h3 h4 hx W)
      obtain ⟨q, eq⟩ : ∃ y, y = hasI al ah x := ⟨_, rfl⟩
      obtain ⟨r, er⟩ : ∃ y, y = hasI bl bh x := ⟨_, rfl⟩
      rw [← eL, ← eH, ← eB] at K3 K4
      rw [← eL, ← eH] at KM P1
      rw [← eq] at KA P1
      rw [← er] at KB P1
      rw [← eB] at P1
      obtain ⟨p, ep⟩ : ∃ y, y = hasI L H x := ⟨_, rfl⟩
      rw [← ep] at KM P1
      clear h1 h2 h3 h4 hx ha hb eL eH eB eq er ep
      cases B with
      | true =>
        obtain rfl := P1 rfl
        clear P1 P2
        cases q with
        | true =>
          rw [Bool.true_or] at KM
          go_enter Tryd.func4, Tryd.ntmps4
          go_wp2_with fail
          refine (K1.out _).mono ?_
          rintro e w1 ⟨rfl, b1⟩
          have B1 := bl_trans (bl_alloc (bl_alloc (Below.refl _ w) _) _) b1
          have R0 := row_keep b1 (heap_old_at _ _ (by simp) (heap_new_at _ _ rfl))
          have R1 := row_keep b1 (heap_new_at _ _ (g := w.heap.size + 1) (by simp))
          obtain ⟨c0, c1, _, l0⟩ := cells_two R0
          obtain ⟨d0, d1, _, l1⟩ := cells_two R1
          clear b1
          go_wp2_with fail
          refine (K2.out _).mono ?_
          rintro e w2 ⟨rfl, b2⟩
          have B2 := bl_trans B1 b2
          have R0 := row_keep b2 R0
          have R1 := row_keep b2 R1
          clear b2 c0 c1 d0 d1 l0 l1
          obtain ⟨c0, c1, _, l0⟩ := cells_two R0
          obtain ⟨d0, d1, _, l1⟩ := cells_two R1
          go_wp2_with fail
          refine (K3.out _).mono ?_
          rintro e w3 ⟨rfl, b3⟩
          have B3 := bl_trans B2 b3
          have R0 := row_keep b3 R0
          have R1 := row_keep b3 R1
          clear b3 c0 c1 d0 d1 l0 l1
          obtain ⟨c0, c1, _, l0⟩ := cells_two R0
          obtain ⟨d0, d1, _, l1⟩ := cells_two R1
          go_wp2_with fail
          refine (K4.out _).mono ?_
          rintro e w4 ⟨rfl, b4⟩
          have B4 := bl_trans (bl_alloc B3 _) b4
          have R0 := row_keep b4 (heap_old_at _ _ l0 R0)
          have R1 := row_keep b4 (heap_old_at _ _ l1 R1)
          have R2 := row_keep b4 (heap_new_at _ _ rfl)
          clear b4 c0 c1 d0 d1 l0 l1
          obtain ⟨_, _, _, l0⟩ := cells_two R0
          obtain ⟨_, _, _, l1⟩ := cells_two R1
          obtain ⟨_, _, _, l2⟩ := cells_two R2
          have hmx : Tryd.prog.follows .mixedOrders = true := by kernel_rfl
          go_wp2_with fail
          have B5 := bl_alloc B4 (.cells #[.int .u64 L, .int .u64 H] 24)
          have R0 := heap_old_at w4 (.cells #[.int .u64 L, .int .u64 H] 24) l0 R0
          have R1 := heap_old_at w4 (.cells #[.int .u64 L, .int .u64 H] 24) l1 R1
          have R2 := heap_old_at w4 (.cells #[.int .u64 L, .int .u64 H] 24) l2 R2
          have R3 := heap_new_at w4 (.cells #[.int .u64 L, .int .u64 H] 24) rfl
          clear l0 l1 l2 B1 B2 B3 B4
          obtain ⟨n3, en3⟩ : ∃ n, n = w3.heap.size := ⟨_, rfl⟩
          obtain ⟨n4, en4⟩ : ∃ n, n = w4.heap.size := ⟨_, rfl⟩
          obtain ⟨w5, e5⟩ : ∃ w5, w4.alloc (.cells #[.int .u64 L, .int .u64 H] 24) = w5 := ⟨_, rfl⟩
          rw [e5] at B5 R0 R1 R2 R3 ⊢
          rw [← en3] at R2 ⊢
          rw [← en4] at R3 ⊢
          clear e5 en3 en4
          obtain ⟨c0, c1, _, l0⟩ := cells_two R0
          obtain ⟨d0, d1, _, l1⟩ := cells_two R1
          obtain ⟨f0, f1, _, l2⟩ := cells_two R2
          obtain ⟨g0, g1, _, l3⟩ := cells_two R3
          have hS : Held w n3 n4 al ah bl bh L H w5 := ⟨c0, c1, d0, d1, f0, f1, g0, g1, B5⟩
          clear R0 R1 R2 R3 l0 l1 l2 l3 c0 c1 d0 d1 f0 f1 g0 g1 B5
          refine wp_region_held_drew (S := Held w n3 n4 al ah bl bh L H) hmx hS.drew (fun hS => ?_)
          refine wpAnyH_ready (rs := [0]) (by kernel_rfl) (by simp) ?_
          refine AllReadyH.cons (o := _) rfl (fun K hK => ?_) AllReadyH.nil
          go_simp
          refine (HA.out _ hS.bl).mono ?_
          rintro e w6 ⟨rfl, hb⟩
          have hS := hS.below hb
          clear hb
          go_simp
          refine hK.out _ _ hS (fun _ => ?_)
          clear hK K
          refine wpAnyH_takeD (i := 1) (d := some 33) (v := (.bool true)) rfl rfl (by kernel_rfl) (by kernel_rfl) (by kernel_rfl) (fun _ _ _ h => h) (Or.inl ⟨by rfl, ?_⟩) (by assumption) ?_
          · intro X hX; obtain ⟨c0, c1, d0, d1, f0, f1, g0, g1, hb0⟩ := hX; go_simp
          simp only [Act.put, List.setIfInBounds_toArray, List.set_cons_zero, List.set_cons_succ]
          refine wpAnyH_takeD (i := 2) (d := some 34) (v := (.agg #[.int .u64 L, .int .u64 H])) rfl rfl (by kernel_rfl) (by kernel_rfl) (by kernel_rfl) (fun _ _ _ h => h) (Or.inl ⟨by rfl, ?_⟩) (by assumption) ?_
          · intro X hX; obtain ⟨c0, c1, d0, d1, f0, f1, g0, g1, hb0⟩ := hX; go_simp
          simp only [Act.put, List.setIfInBounds_toArray, List.set_cons_zero, List.set_cons_succ]
          refine wpAnyH_takeD (i := 3) (d := some 35) (v := (.agg #[.int .u64 L, .int .u64 H])) rfl rfl (by kernel_rfl) (by kernel_rfl) (by kernel_rfl) (fun _ _ _ h => h) (Or.inl ⟨by rfl, ?_⟩) (by assumption) ?_
          · intro X hX; obtain ⟨c0, c1, d0, d1, f0, f1, g0, g1, hb0⟩ := hX; go_simp
          simp only [Act.put, List.setIfInBounds_toArray, List.set_cons_zero, List.set_cons_succ]
          refine wpAnyH_takeD (i := 4) (d := some 36) (v := (.bool true)) rfl rfl (by kernel_rfl) (by kernel_rfl) (by kernel_rfl) (fun _ _ _ h => h) (Or.inl ⟨by rfl, ?_⟩) (by assumption) ?_
          · intro X hX; obtain ⟨c0, c1, d0, d1, f0, f1, g0, g1, hb0⟩ := hX; go_simp
          simp only [Act.put, List.setIfInBounds_toArray, List.set_cons_zero, List.set_cons_succ]
          refine wpAnyH_takeD (i := 5) (d := some 37) (v := (.bool true)) rfl rfl (by kernel_rfl) (by kernel_rfl) (by kernel_rfl) (fun _ _ _ h => h) (Or.inl ⟨by rfl, ?_⟩) (by assumption) ?_
          · intro X hX; obtain ⟨c0, c1, d0, d1, f0, f1, g0, g1, hb0⟩ := hX; go_simp
          simp only [Act.put, List.setIfInBounds_toArray, List.set_cons_zero, List.set_cons_succ]
          refine wpAnyH_takeD (i := 6) (d := some 38) (v := (.bool true)) rfl rfl (by kernel_rfl) (by kernel_rfl) (by kernel_rfl) (fun _ _ _ h => h) (Or.inl ⟨by rfl, ?_⟩) (by assumption) ?_
          · intro X hX; obtain ⟨c0, c1, d0, d1, f0, f1, g0, g1, hb0⟩ := hX; go_simp
          simp only [Act.put, List.setIfInBounds_toArray, List.set_cons_zero, List.set_cons_succ]
          refine wpAnyH_takeD (i := 7) (d := some 39) (v := (.bool true)) rfl rfl (by kernel_rfl) (by kernel_rfl) (by kernel_rfl) (fun _ _ _ h => h) (Or.inl ⟨by rfl, ?_⟩) (by assumption) ?_
          · intro X hX; obtain ⟨c0, c1, d0, d1, f0, f1, g0, g1, hb0⟩ := hX; go_simp
          simp only [Act.put, List.setIfInBounds_toArray, List.set_cons_zero, List.set_cons_succ]
          refine wpAnyH_takeD (i := 8) (d := some 40) (v := (.bool true)) rfl rfl (by kernel_rfl) (by kernel_rfl) (by kernel_rfl) (fun _ _ _ h => h) (Or.inl ⟨by rfl, ?_⟩) (by assumption) ?_
          · intro X hX; obtain ⟨c0, c1, d0, d1, f0, f1, g0, g1, hb0⟩ := hX; go_simp
          simp only [Act.put, List.setIfInBounds_toArray, List.set_cons_zero, List.set_cons_succ]
          refine wpAnyH_takeD (i := 9) (d := some 41) (v := (.bool true)) rfl rfl (by kernel_rfl) (by kernel_rfl) (by kernel_rfl) (fun _ _ _ h => h) (Or.inl ⟨by rfl, ?_⟩) (by assumption) ?_
          · intro X hX; obtain ⟨c0, c1, d0, d1, f0, f1, g0, g1, hb0⟩ := hX; go_simp
          simp only [Act.put, List.setIfInBounds_toArray, List.set_cons_zero, List.set_cons_succ]
          refine wpAnyH_takeD (i := 10) (d := some 42) (v := (.bool true)) rfl rfl (by kernel_rfl) (by kernel_rfl) (by kernel_rfl) (fun _ _ _ h => h) (Or.inl ⟨by rfl, ?_⟩) (by assumption) ?_
          · intro X hX; obtain ⟨c0, c1, d0, d1, f0, f1, g0, g1, hb0⟩ := hX; go_simp
          simp only [Act.put, List.setIfInBounds_toArray, List.set_cons_zero, List.set_cons_succ]
          refine wpAnyH_takeD (i := 11) (d := some 43) (v := (.bool true)) rfl rfl (by kernel_rfl) (by kernel_rfl) (by kernel_rfl) (fun _ _ _ h => h) (Or.inl ⟨by rfl, ?_⟩) (by assumption) ?_
          · intro X hX; obtain ⟨c0, c1, d0, d1, f0, f1, g0, g1, hb0⟩ := hX; go_simp
          simp only [Act.put, List.setIfInBounds_toArray, List.set_cons_zero, List.set_cons_succ]
          refine wpAnyH_takeD (i := 12) (d := some 44) (v := (.bool true)) rfl rfl (by kernel_rfl) (by kernel_rfl) (by kernel_rfl) (fun _ _ _ h => h) (Or.inl ⟨by rfl, ?_⟩) (by assumption) ?_
          · intro X hX; obtain ⟨c0, c1, d0, d1, f0, f1, g0, g1, hb0⟩ := hX; go_simp
          simp only [Act.put, List.setIfInBounds_toArray, List.set_cons_zero, List.set_cons_succ]
          refine wpAnyH_takeD (i := 13) (d := some 45) (v := (.bool false)) rfl rfl (by kernel_rfl) (by kernel_rfl) (by kernel_rfl) (fun _ _ _ h => h) (Or.inl ⟨by rfl, ?_⟩) (by assumption) ?_
          · intro X hX; obtain ⟨c0, c1, d0, d1, f0, f1, g0, g1, hb0⟩ := hX; go_simp
          simp only [Act.put, List.setIfInBounds_toArray, List.set_cons_zero, List.set_cons_succ]
          refine wpAnyH_takeD (i := 14) (d := some 46) (v := (.bool false)) rfl rfl (by kernel_rfl) (by kernel_rfl) (by kernel_rfl) (fun _ _ _ h => h) (Or.inl ⟨by rfl, ?_⟩) (by assumption) ?_
          · intro X hX; obtain ⟨c0, c1, d0, d1, f0, f1, g0, g1, hb0⟩ := hX; go_simp
          simp only [Act.put, List.setIfInBounds_toArray, List.set_cons_zero, List.set_cons_succ]
          refine wpAnyH_takeD (i := 15) (d := some 47) (v := (.agg #[.int .u64 L, .int .u64 H])) rfl rfl (by kernel_rfl) (by kernel_rfl) (by kernel_rfl) (fun _ _ _ h => h) (Or.inl ⟨by rfl, ?_⟩) (by assumption) ?_
          · intro X hX; obtain ⟨c0, c1, d0, d1, f0, f1, g0, g1, hb0⟩ := hX; go_simp
          simp only [Act.put, List.setIfInBounds_toArray, List.set_cons_zero, List.set_cons_succ]
          refine wpAnyH_takeD (i := 16) (d := some 48) (v := (.int .u64 x)) rfl rfl (by kernel_rfl) (by kernel_rfl) (by kernel_rfl) (fun _ _ _ h => h) (Or.inl ⟨by rfl, ?_⟩) (by assumption) ?_
          · intro X hX; obtain ⟨c0, c1, d0, d1, f0, f1, g0, g1, hb0⟩ := hX; go_simp
          simp only [Act.put, List.setIfInBounds_toArray, List.set_cons_zero, List.set_cons_succ]
          refine wpAnyH_takeD (i := 18) (d := some 50) (v := (.agg #[.int .u64 al, .int .u64 ah])) rfl rfl (by kernel_rfl) (by kernel_rfl) (by kernel_rfl) (fun _ _ _ h => h) (Or.inl ⟨by rfl, ?_⟩) (by assumption) ?_
          · intro X hX; obtain ⟨c0, c1, d0, d1, f0, f1, g0, g1, hb0⟩ := hX; go_simp
          simp only [Act.put, List.setIfInBounds_toArray, List.set_cons_zero, List.set_cons_succ]
          refine wpAnyH_takeD (i := 19) (d := some 51) (v := (.int .u64 x)) rfl rfl (by kernel_rfl) (by kernel_rfl) (by kernel_rfl) (fun _ _ _ h => h) (Or.inl ⟨by rfl, ?_⟩) (by assumption) ?_
          · intro X hX; obtain ⟨c0, c1, d0, d1, f0, f1, g0, g1, hb0⟩ := hX; go_simp
          simp only [Act.put, List.setIfInBounds_toArray, List.set_cons_zero, List.set_cons_succ]
          refine wpAnyH_ready (rs := [17]) (by kernel_rfl) (by simp) ?_
          refine AllReadyH.cons (o := _) rfl (fun K hK => ?_) AllReadyH.nil
          go_simp
          refine (KM.out _).mono ?_
          rintro e w6 ⟨rfl, hb⟩
          have hS := hS.below hb
          clear hb
          go_simp
          refine hK.out _ _ hS (fun _ => ?_)
          clear hK K
          refine wpAnyH_ready (rs := [20]) (by kernel_rfl) (by simp) ?_
          refine AllReadyH.cons (o := _) rfl (fun K hK => ?_) AllReadyH.nil
          go_simp
          refine (KA.out _).mono ?_
          rintro e w6 ⟨rfl, hb⟩
          have hS := hS.below hb
          clear hb
          go_simp
          refine hK.out _ _ hS (fun _ => ?_)
          clear hK K
          refine wpAnyH_takeD (i := 21) (d := some 53) (v := (.bool true)) rfl rfl (by kernel_rfl) (by kernel_rfl) (by kernel_rfl) (fun _ _ _ h => h) (Or.inl ⟨by rfl, ?_⟩) (by assumption) ?_
          · intro X hX; obtain ⟨c0, c1, d0, d1, f0, f1, g0, g1, hb0⟩ := hX; go_simp
          simp only [Act.put, List.setIfInBounds_toArray, List.set_cons_zero, List.set_cons_succ]
          refine wpAnyH_takeD (i := 22) (d := some 54) (v := undef) rfl rfl (by kernel_rfl) (by kernel_rfl) (by kernel_rfl) (fun _ _ _ h => h) (Or.inr ⟨by rfl, rfl⟩) (by assumption) ?_
          simp only [Act.put, List.setIfInBounds_toArray, List.set_cons_zero, List.set_cons_succ]
          refine wpAnyH_takeD (i := 23) (d := some 55) (v := undef) rfl rfl (by kernel_rfl) (by kernel_rfl) (by kernel_rfl) (fun _ _ _ h => h) (Or.inr ⟨by rfl, rfl⟩) (by assumption) ?_
          simp only [Act.put, List.setIfInBounds_toArray, List.set_cons_zero, List.set_cons_succ]
          refine wpAnyH_takeD (i := 24) (d := some 56) (v := undef) rfl rfl (by kernel_rfl) (by kernel_rfl) (by kernel_rfl) (fun _ _ _ h => h) (Or.inr ⟨by rfl, rfl⟩) (by assumption) ?_
          simp only [Act.put, List.setIfInBounds_toArray, List.set_cons_zero, List.set_cons_succ]
          refine wpAnyH_takeD (i := 25) (d := some 57) (v := (.bool true)) rfl rfl (by kernel_rfl) (by kernel_rfl) (by kernel_rfl) (fun _ _ _ h => h) (Or.inl ⟨by rfl, ?_⟩) (by assumption) ?_
          · intro X hX; obtain ⟨c0, c1, d0, d1, f0, f1, g0, g1, hb0⟩ := hX; go_simp
          simp only [Act.put, List.setIfInBounds_toArray, List.set_cons_zero, List.set_cons_succ]
          refine wpAnyH_takeD (i := 26) (d := some 58) (v := (.bool true)) rfl rfl (by kernel_rfl) (by kernel_rfl) (by kernel_rfl) (fun _ _ _ h => h) (Or.inl ⟨by rfl, ?_⟩) (by assumption) ?_
          · intro X hX; obtain ⟨c0, c1, d0, d1, f0, f1, g0, g1, hb0⟩ := hX; go_simp
          simp only [Act.put, List.setIfInBounds_toArray, List.set_cons_zero, List.set_cons_succ]
          refine wpAnyH_takeD (i := 27) (d := some 59) (v := (.bool true)) rfl rfl (by kernel_rfl) (by kernel_rfl) (by kernel_rfl) (fun _ _ _ h => h) (Or.inl ⟨by rfl, ?_⟩) (by assumption) ?_
          · intro X hX; obtain ⟨c0, c1, d0, d1, f0, f1, g0, g1, hb0⟩ := hX; go_simp
          simp only [Act.put, List.setIfInBounds_toArray, List.set_cons_zero, List.set_cons_succ]
          refine wpAnyH_takeD (i := 28) (d := some 60) (v := (.bool true)) rfl rfl (by kernel_rfl) (by kernel_rfl) (by kernel_rfl) (fun _ _ _ h => h) (Or.inl ⟨by rfl, ?_⟩) (by assumption) ?_
          · intro X hX; obtain ⟨c0, c1, d0, d1, f0, f1, g0, g1, hb0⟩ := hX; go_simp
          simp only [Act.put, List.setIfInBounds_toArray, List.set_cons_zero, List.set_cons_succ]
          refine wpAnyH_takeD (i := 29) (d := some 6) (v := (.bool true)) rfl rfl (by kernel_rfl) (by kernel_rfl) (by kernel_rfl) (fun _ _ _ h => h) (Or.inl ⟨by rfl, ?_⟩) (by assumption) ?_
          · intro X hX; obtain ⟨c0, c1, d0, d1, f0, f1, g0, g1, hb0⟩ := hX; go_simp
          simp only [Act.put, List.setIfInBounds_toArray, List.set_cons_zero, List.set_cons_succ]
          refine wpAnyH_done (by kernel_rfl) ?_ _
          go_wp2
          go_ret
          exact ⟨rfl, hS.bl⟩
        | false =>
          rw [Bool.false_or] at KM
          go_enter Tryd.func4, Tryd.ntmps4
          go_wp2_with fail
          refine (K1.out _).mono ?_
          rintro e w1 ⟨rfl, b1⟩
          have B1 := bl_trans (bl_alloc (bl_alloc (Below.refl _ w) _) _) b1
          have R0 := row_keep b1 (heap_old_at _ _ (by simp) (heap_new_at _ _ rfl))
          have R1 := row_keep b1 (heap_new_at _ _ (g := w.heap.size + 1) (by simp))
          obtain ⟨c0, c1, _, l0⟩ := cells_two R0
          obtain ⟨d0, d1, _, l1⟩ := cells_two R1
          clear b1
          go_wp2_with fail
          refine (K2.out _).mono ?_
          rintro e w2 ⟨rfl, b2⟩
          have B2 := bl_trans B1 b2
          have R0 := row_keep b2 R0
          have R1 := row_keep b2 R1
          clear b2 c0 c1 d0 d1 l0 l1
          obtain ⟨c0, c1, _, l0⟩ := cells_two R0
          obtain ⟨d0, d1, _, l1⟩ := cells_two R1
          go_wp2_with fail
          refine (K3.out _).mono ?_
          rintro e w3 ⟨rfl, b3⟩
          have B3 := bl_trans B2 b3
          have R0 := row_keep b3 R0
          have R1 := row_keep b3 R1
          clear b3 c0 c1 d0 d1 l0 l1
          obtain ⟨c0, c1, _, l0⟩ := cells_two R0
          obtain ⟨d0, d1, _, l1⟩ := cells_two R1
          go_wp2_with fail
          refine (K4.out _).mono ?_
          rintro e w4 ⟨rfl, b4⟩
          have B4 := bl_trans (bl_alloc B3 _) b4
          have R0 := row_keep b4 (heap_old_at _ _ l0 R0)
          have R1 := row_keep b4 (heap_old_at _ _ l1 R1)
          have R2 := row_keep b4 (heap_new_at _ _ rfl)
          clear b4 c0 c1 d0 d1 l0 l1
          obtain ⟨_, _, _, l0⟩ := cells_two R0
          obtain ⟨_, _, _, l1⟩ := cells_two R1
          obtain ⟨_, _, _, l2⟩ := cells_two R2
          have hmx : Tryd.prog.follows .mixedOrders = true := by kernel_rfl
          go_wp2_with fail
          have B5 := bl_alloc B4 (.cells #[.int .u64 L, .int .u64 H] 24)
          have R0 := heap_old_at w4 (.cells #[.int .u64 L, .int .u64 H] 24) l0 R0
          have R1 := heap_old_at w4 (.cells #[.int .u64 L, .int .u64 H] 24) l1 R1
          have R2 := heap_old_at w4 (.cells #[.int .u64 L, .int .u64 H] 24) l2 R2
          have R3 := heap_new_at w4 (.cells #[.int .u64 L, .int .u64 H] 24) rfl
          clear l0 l1 l2 B1 B2 B3 B4
          obtain ⟨n3, en3⟩ : ∃ n, n = w3.heap.size := ⟨_, rfl⟩
          obtain ⟨n4, en4⟩ : ∃ n, n = w4.heap.size := ⟨_, rfl⟩
          obtain ⟨w5, e5⟩ : ∃ w5, w4.alloc (.cells #[.int .u64 L, .int .u64 H] 24) = w5 := ⟨_, rfl⟩
          rw [e5] at B5 R0 R1 R2 R3 ⊢
          rw [← en3] at R2 ⊢
          rw [← en4] at R3 ⊢
          clear e5 en3 en4
          obtain ⟨c0, c1, _, l0⟩ := cells_two R0
          obtain ⟨d0, d1, _, l1⟩ := cells_two R1
          obtain ⟨f0, f1, _, l2⟩ := cells_two R2
          obtain ⟨g0, g1, _, l3⟩ := cells_two R3
          have hS : Held w n3 n4 al ah bl bh L H w5 := ⟨c0, c1, d0, d1, f0, f1, g0, g1, B5⟩
          clear R0 R1 R2 R3 l0 l1 l2 l3 c0 c1 d0 d1 f0 f1 g0 g1 B5
          refine wp_region_held_drew (S := Held w n3 n4 al ah bl bh L H) hmx hS.drew (fun hS => ?_)
          refine wpAnyH_ready (rs := [0]) (by kernel_rfl) (by simp) ?_
          refine AllReadyH.cons (o := _) rfl (fun K hK => ?_) AllReadyH.nil
          go_simp
          refine (HA.out _ hS.bl).mono ?_
          rintro e w6 ⟨rfl, hb⟩
          have hS := hS.below hb
          clear hb
          go_simp
          refine hK.out _ _ hS (fun _ => ?_)
          clear hK K
          refine wpAnyH_takeD (i := 1) (d := some 33) (v := (.bool true)) rfl rfl (by kernel_rfl) (by kernel_rfl) (by kernel_rfl) (fun _ _ _ h => h) (Or.inl ⟨by rfl, ?_⟩) (by assumption) ?_
          · intro X hX; obtain ⟨c0, c1, d0, d1, f0, f1, g0, g1, hb0⟩ := hX; go_simp
          simp only [Act.put, List.setIfInBounds_toArray, List.set_cons_zero, List.set_cons_succ]
          refine wpAnyH_takeD (i := 2) (d := some 34) (v := (.agg #[.int .u64 L, .int .u64 H])) rfl rfl (by kernel_rfl) (by kernel_rfl) (by kernel_rfl) (fun _ _ _ h => h) (Or.inl ⟨by rfl, ?_⟩) (by assumption) ?_
          · intro X hX; obtain ⟨c0, c1, d0, d1, f0, f1, g0, g1, hb0⟩ := hX; go_simp
          simp only [Act.put, List.setIfInBounds_toArray, List.set_cons_zero, List.set_cons_succ]
          refine wpAnyH_takeD (i := 3) (d := some 35) (v := (.agg #[.int .u64 L, .int .u64 H])) rfl rfl (by kernel_rfl) (by kernel_rfl) (by kernel_rfl) (fun _ _ _ h => h) (Or.inl ⟨by rfl, ?_⟩) (by assumption) ?_
          · intro X hX; obtain ⟨c0, c1, d0, d1, f0, f1, g0, g1, hb0⟩ := hX; go_simp
          simp only [Act.put, List.setIfInBounds_toArray, List.set_cons_zero, List.set_cons_succ]
          refine wpAnyH_takeD (i := 4) (d := some 36) (v := (.bool true)) rfl rfl (by kernel_rfl) (by kernel_rfl) (by kernel_rfl) (fun _ _ _ h => h) (Or.inl ⟨by rfl, ?_⟩) (by assumption) ?_
          · intro X hX; obtain ⟨c0, c1, d0, d1, f0, f1, g0, g1, hb0⟩ := hX; go_simp
          simp only [Act.put, List.setIfInBounds_toArray, List.set_cons_zero, List.set_cons_succ]
          refine wpAnyH_takeD (i := 5) (d := some 37) (v := (.bool true)) rfl rfl (by kernel_rfl) (by kernel_rfl) (by kernel_rfl) (fun _ _ _ h => h) (Or.inl ⟨by rfl, ?_⟩) (by assumption) ?_
          · intro X hX; obtain ⟨c0, c1, d0, d1, f0, f1, g0, g1, hb0⟩ := hX; go_simp
          simp only [Act.put, List.setIfInBounds_toArray, List.set_cons_zero, List.set_cons_succ]
          refine wpAnyH_takeD (i := 6) (d := some 38) (v := (.bool true)) rfl rfl (by kernel_rfl) (by kernel_rfl) (by kernel_rfl) (fun _ _ _ h => h) (Or.inl ⟨by rfl, ?_⟩) (by assumption) ?_
          · intro X hX; obtain ⟨c0, c1, d0, d1, f0, f1, g0, g1, hb0⟩ := hX; go_simp
          simp only [Act.put, List.setIfInBounds_toArray, List.set_cons_zero, List.set_cons_succ]
          refine wpAnyH_takeD (i := 7) (d := some 39) (v := (.bool true)) rfl rfl (by kernel_rfl) (by kernel_rfl) (by kernel_rfl) (fun _ _ _ h => h) (Or.inl ⟨by rfl, ?_⟩) (by assumption) ?_
          · intro X hX; obtain ⟨c0, c1, d0, d1, f0, f1, g0, g1, hb0⟩ := hX; go_simp
          simp only [Act.put, List.setIfInBounds_toArray, List.set_cons_zero, List.set_cons_succ]
          refine wpAnyH_takeD (i := 8) (d := some 40) (v := (.bool true)) rfl rfl (by kernel_rfl) (by kernel_rfl) (by kernel_rfl) (fun _ _ _ h => h) (Or.inl ⟨by rfl, ?_⟩) (by assumption) ?_
          · intro X hX; obtain ⟨c0, c1, d0, d1, f0, f1, g0, g1, hb0⟩ := hX; go_simp
          simp only [Act.put, List.setIfInBounds_toArray, List.set_cons_zero, List.set_cons_succ]
          refine wpAnyH_takeD (i := 9) (d := some 41) (v := (.bool true)) rfl rfl (by kernel_rfl) (by kernel_rfl) (by kernel_rfl) (fun _ _ _ h => h) (Or.inl ⟨by rfl, ?_⟩) (by assumption) ?_
          · intro X hX; obtain ⟨c0, c1, d0, d1, f0, f1, g0, g1, hb0⟩ := hX; go_simp
          simp only [Act.put, List.setIfInBounds_toArray, List.set_cons_zero, List.set_cons_succ]
          refine wpAnyH_takeD (i := 10) (d := some 42) (v := (.bool true)) rfl rfl (by kernel_rfl) (by kernel_rfl) (by kernel_rfl) (fun _ _ _ h => h) (Or.inl ⟨by rfl, ?_⟩) (by assumption) ?_
          · intro X hX; obtain ⟨c0, c1, d0, d1, f0, f1, g0, g1, hb0⟩ := hX; go_simp
          simp only [Act.put, List.setIfInBounds_toArray, List.set_cons_zero, List.set_cons_succ]
          refine wpAnyH_takeD (i := 11) (d := some 43) (v := (.bool true)) rfl rfl (by kernel_rfl) (by kernel_rfl) (by kernel_rfl) (fun _ _ _ h => h) (Or.inl ⟨by rfl, ?_⟩) (by assumption) ?_
          · intro X hX; obtain ⟨c0, c1, d0, d1, f0, f1, g0, g1, hb0⟩ := hX; go_simp
          simp only [Act.put, List.setIfInBounds_toArray, List.set_cons_zero, List.set_cons_succ]
          refine wpAnyH_takeD (i := 12) (d := some 44) (v := (.bool true)) rfl rfl (by kernel_rfl) (by kernel_rfl) (by kernel_rfl) (fun _ _ _ h => h) (Or.inl ⟨by rfl, ?_⟩) (by assumption) ?_
          · intro X hX; obtain ⟨c0, c1, d0, d1, f0, f1, g0, g1, hb0⟩ := hX; go_simp
          simp only [Act.put, List.setIfInBounds_toArray, List.set_cons_zero, List.set_cons_succ]
          refine wpAnyH_takeD (i := 13) (d := some 45) (v := (.bool false)) rfl rfl (by kernel_rfl) (by kernel_rfl) (by kernel_rfl) (fun _ _ _ h => h) (Or.inl ⟨by rfl, ?_⟩) (by assumption) ?_
          · intro X hX; obtain ⟨c0, c1, d0, d1, f0, f1, g0, g1, hb0⟩ := hX; go_simp
          simp only [Act.put, List.setIfInBounds_toArray, List.set_cons_zero, List.set_cons_succ]
          refine wpAnyH_takeD (i := 14) (d := some 46) (v := (.bool false)) rfl rfl (by kernel_rfl) (by kernel_rfl) (by kernel_rfl) (fun _ _ _ h => h) (Or.inl ⟨by rfl, ?_⟩) (by assumption) ?_
          · intro X hX; obtain ⟨c0, c1, d0, d1, f0, f1, g0, g1, hb0⟩ := hX; go_simp
          simp only [Act.put, List.setIfInBounds_toArray, List.set_cons_zero, List.set_cons_succ]
          refine wpAnyH_takeD (i := 15) (d := some 47) (v := (.agg #[.int .u64 L, .int .u64 H])) rfl rfl (by kernel_rfl) (by kernel_rfl) (by kernel_rfl) (fun _ _ _ h => h) (Or.inl ⟨by rfl, ?_⟩) (by assumption) ?_
          · intro X hX; obtain ⟨c0, c1, d0, d1, f0, f1, g0, g1, hb0⟩ := hX; go_simp
          simp only [Act.put, List.setIfInBounds_toArray, List.set_cons_zero, List.set_cons_succ]
          refine wpAnyH_takeD (i := 16) (d := some 48) (v := (.int .u64 x)) rfl rfl (by kernel_rfl) (by kernel_rfl) (by kernel_rfl) (fun _ _ _ h => h) (Or.inl ⟨by rfl, ?_⟩) (by assumption) ?_
          · intro X hX; obtain ⟨c0, c1, d0, d1, f0, f1, g0, g1, hb0⟩ := hX; go_simp
          simp only [Act.put, List.setIfInBounds_toArray, List.set_cons_zero, List.set_cons_succ]
          refine wpAnyH_takeD (i := 18) (d := some 50) (v := (.agg #[.int .u64 al, .int .u64 ah])) rfl rfl (by kernel_rfl) (by kernel_rfl) (by kernel_rfl) (fun _ _ _ h => h) (Or.inl ⟨by rfl, ?_⟩) (by assumption) ?_
          · intro X hX; obtain ⟨c0, c1, d0, d1, f0, f1, g0, g1, hb0⟩ := hX; go_simp
          simp only [Act.put, List.setIfInBounds_toArray, List.set_cons_zero, List.set_cons_succ]
          refine wpAnyH_takeD (i := 19) (d := some 51) (v := (.int .u64 x)) rfl rfl (by kernel_rfl) (by kernel_rfl) (by kernel_rfl) (fun _ _ _ h => h) (Or.inl ⟨by rfl, ?_⟩) (by assumption) ?_
          · intro X hX; obtain ⟨c0, c1, d0, d1, f0, f1, g0, g1, hb0⟩ := hX; go_simp
          simp only [Act.put, List.setIfInBounds_toArray, List.set_cons_zero, List.set_cons_succ]
          refine wpAnyH_ready (rs := [17]) (by kernel_rfl) (by simp) ?_
          refine AllReadyH.cons (o := _) rfl (fun K hK => ?_) AllReadyH.nil
          go_simp
          refine (KM.out _).mono ?_
          rintro e w6 ⟨rfl, hb⟩
          have hS := hS.below hb
          clear hb
          go_simp
          refine hK.out _ _ hS (fun _ => ?_)
          clear hK K
          refine wpAnyH_ready (rs := [20]) (by kernel_rfl) (by simp) ?_
          refine AllReadyH.cons (o := _) rfl (fun K hK => ?_) AllReadyH.nil
          go_simp
          refine (KA.out _).mono ?_
          rintro e w6 ⟨rfl, hb⟩
          have hS := hS.below hb
          clear hb
          go_simp
          refine hK.out _ _ hS (fun _ => ?_)
          clear hK K
          refine wpAnyH_takeD (i := 21) (d := some 53) (v := (.bool false)) rfl rfl (by kernel_rfl) (by kernel_rfl) (by kernel_rfl) (fun _ _ _ h => h) (Or.inl ⟨by rfl, ?_⟩) (by assumption) ?_
          · intro X hX; obtain ⟨c0, c1, d0, d1, f0, f1, g0, g1, hb0⟩ := hX; go_simp
          simp only [Act.put, List.setIfInBounds_toArray, List.set_cons_zero, List.set_cons_succ]
          refine wpAnyH_takeD (i := 22) (d := some 54) (v := (.agg #[.int .u64 bl, .int .u64 bh])) rfl rfl (by kernel_rfl) (by kernel_rfl) (by kernel_rfl) (fun _ _ _ h => h) (Or.inl ⟨by rfl, ?_⟩) (by assumption) ?_
          · intro X hX; obtain ⟨c0, c1, d0, d1, f0, f1, g0, g1, hb0⟩ := hX; go_simp
          simp only [Act.put, List.setIfInBounds_toArray, List.set_cons_zero, List.set_cons_succ]
          refine wpAnyH_takeD (i := 23) (d := some 55) (v := (.int .u64 x)) rfl rfl (by kernel_rfl) (by kernel_rfl) (by kernel_rfl) (fun _ _ _ h => h) (Or.inl ⟨by rfl, ?_⟩) (by assumption) ?_
          · intro X hX; obtain ⟨c0, c1, d0, d1, f0, f1, g0, g1, hb0⟩ := hX; go_simp
          simp only [Act.put, List.setIfInBounds_toArray, List.set_cons_zero, List.set_cons_succ]
          refine wpAnyH_ready (rs := [24]) (by kernel_rfl) (by simp) ?_
          refine AllReadyH.cons (o := _) rfl (fun K hK => ?_) AllReadyH.nil
          go_simp
          refine (KB.out _).mono ?_
          rintro e w6 ⟨rfl, hb⟩
          have hS := hS.below hb
          clear hb
          go_simp
          refine hK.out _ _ hS (fun _ => ?_)
          clear hK K
          refine wpAnyH_takeD (i := 25) (d := some 57) (v := (.bool r)) rfl rfl (by kernel_rfl) (by kernel_rfl) (by kernel_rfl) (fun _ _ _ h => h) (Or.inl ⟨by rfl, ?_⟩) (by assumption) ?_
          · intro X hX; obtain ⟨c0, c1, d0, d1, f0, f1, g0, g1, hb0⟩ := hX; go_simp
          simp only [Act.put, List.setIfInBounds_toArray, List.set_cons_zero, List.set_cons_succ]
          refine wpAnyH_takeD (i := 26) (d := some 58) (v := (.bool true)) rfl rfl (by kernel_rfl) (by kernel_rfl) (by kernel_rfl) (fun _ _ _ h => h) (Or.inl ⟨by rfl, ?_⟩) (by assumption) ?_
          · intro X hX; obtain ⟨c0, c1, d0, d1, f0, f1, g0, g1, hb0⟩ := hX; go_simp
          simp only [Act.put, List.setIfInBounds_toArray, List.set_cons_zero, List.set_cons_succ]
          refine wpAnyH_takeD (i := 27) (d := some 59) (v := (.bool true)) rfl rfl (by kernel_rfl) (by kernel_rfl) (by kernel_rfl) (fun _ _ _ h => h) (Or.inl ⟨by rfl, ?_⟩) (by assumption) ?_
          · intro X hX; obtain ⟨c0, c1, d0, d1, f0, f1, g0, g1, hb0⟩ := hX; go_simp
          simp only [Act.put, List.setIfInBounds_toArray, List.set_cons_zero, List.set_cons_succ]
          refine wpAnyH_takeD (i := 28) (d := some 60) (v := (.bool true)) rfl rfl (by kernel_rfl) (by kernel_rfl) (by kernel_rfl) (fun _ _ _ h => h) (Or.inl ⟨by rfl, ?_⟩) (by assumption) ?_
          · intro X hX; obtain ⟨c0, c1, d0, d1, f0, f1, g0, g1, hb0⟩ := hX; go_simp
          simp only [Act.put, List.setIfInBounds_toArray, List.set_cons_zero, List.set_cons_succ]
          refine wpAnyH_takeD (i := 29) (d := some 6) (v := (.bool true)) rfl rfl (by kernel_rfl) (by kernel_rfl) (by kernel_rfl) (fun _ _ _ h => h) (Or.inl ⟨by rfl, ?_⟩) (by assumption) ?_
          · intro X hX; obtain ⟨c0, c1, d0, d1, f0, f1, g0, g1, hb0⟩ := hX; go_simp
          simp only [Act.put, List.setIfInBounds_toArray, List.set_cons_zero, List.set_cons_succ]
          refine wpAnyH_done (by kernel_rfl) ?_ _
          go_wp2
          go_ret
          exact ⟨rfl, hS.bl⟩
      | false =>
        clear P1 KM
        clear P2
        go_enter Tryd.func4, Tryd.ntmps4
        go_wp2_with fail
        refine (K1.out _).mono ?_
        rintro e w1 ⟨rfl, b1⟩
        have B1 := bl_trans (bl_alloc (bl_alloc (Below.refl _ w) _) _) b1
        have R0 := row_keep b1 (heap_old_at _ _ (by simp) (heap_new_at _ _ rfl))
        have R1 := row_keep b1 (heap_new_at _ _ (g := w.heap.size + 1) (by simp))
        obtain ⟨c0, c1, _, l0⟩ := cells_two R0
        obtain ⟨d0, d1, _, l1⟩ := cells_two R1
        clear b1
        go_wp2_with fail
        refine (K2.out _).mono ?_
        rintro e w2 ⟨rfl, b2⟩
        have B2 := bl_trans B1 b2
        have R0 := row_keep b2 R0
        have R1 := row_keep b2 R1
        clear b2 c0 c1 d0 d1 l0 l1
        obtain ⟨c0, c1, _, l0⟩ := cells_two R0
        obtain ⟨d0, d1, _, l1⟩ := cells_two R1
        go_wp2_with fail
        refine (K3.out _).mono ?_
        rintro e w3 ⟨rfl, b3⟩
        have B3 := bl_trans B2 b3
        have R0 := row_keep b3 R0
        have R1 := row_keep b3 R1
        clear b3 c0 c1 d0 d1 l0 l1
        obtain ⟨c0, c1, _, l0⟩ := cells_two R0
        obtain ⟨d0, d1, _, l1⟩ := cells_two R1
        go_wp2_with fail
        refine (K4.out _).mono ?_
        rintro e w4 ⟨rfl, b4⟩
        have B4 := bl_trans (bl_alloc B3 _) b4
        have R0 := row_keep b4 (heap_old_at _ _ l0 R0)
        have R1 := row_keep b4 (heap_old_at _ _ l1 R1)
        have R2 := row_keep b4 (heap_new_at _ _ rfl)
        clear b4 c0 c1 d0 d1 l0 l1
        obtain ⟨_, _, _, l0⟩ := cells_two R0
        obtain ⟨_, _, _, l1⟩ := cells_two R1
        obtain ⟨_, _, _, l2⟩ := cells_two R2
        have hmx : Tryd.prog.follows .mixedOrders = true := by kernel_rfl
        go_wp2_with fail
        have B5 := bl_alloc B4 (.cells #[.int .u64 L, .int .u64 H] 24)
        have R0 := heap_old_at w4 (.cells #[.int .u64 L, .int .u64 H] 24) l0 R0
        have R1 := heap_old_at w4 (.cells #[.int .u64 L, .int .u64 H] 24) l1 R1
        have R2 := heap_old_at w4 (.cells #[.int .u64 L, .int .u64 H] 24) l2 R2
        have R3 := heap_new_at w4 (.cells #[.int .u64 L, .int .u64 H] 24) rfl
        clear l0 l1 l2 B1 B2 B3 B4
        obtain ⟨n3, en3⟩ : ∃ n, n = w3.heap.size := ⟨_, rfl⟩
        obtain ⟨n4, en4⟩ : ∃ n, n = w4.heap.size := ⟨_, rfl⟩
        obtain ⟨w5, e5⟩ : ∃ w5, w4.alloc (.cells #[.int .u64 L, .int .u64 H] 24) = w5 := ⟨_, rfl⟩
        rw [e5] at B5 R0 R1 R2 R3 ⊢
        rw [← en3] at R2 ⊢
        rw [← en4] at R3 ⊢
        clear e5 en3 en4
        obtain ⟨c0, c1, _, l0⟩ := cells_two R0
        obtain ⟨d0, d1, _, l1⟩ := cells_two R1
        obtain ⟨f0, f1, _, l2⟩ := cells_two R2
        obtain ⟨g0, g1, _, l3⟩ := cells_two R3
        have hS : Held w n3 n4 al ah bl bh L H w5 := ⟨c0, c1, d0, d1, f0, f1, g0, g1, B5⟩
        clear R0 R1 R2 R3 l0 l1 l2 l3 c0 c1 d0 d1 f0 f1 g0 g1 B5
        refine wp_region_held_drew (S := Held w n3 n4 al ah bl bh L H) hmx hS.drew (fun hS => ?_)
        refine wpAnyH_ready (rs := [0]) (by kernel_rfl) (by simp) ?_
        refine AllReadyH.cons (o := _) rfl (fun K hK => ?_) AllReadyH.nil
        go_simp
        refine (HA.out _ hS.bl).mono ?_
        rintro e w6 ⟨rfl, hb⟩
        have hS := hS.below hb
        clear hb
        go_simp
        refine hK.out _ _ hS (fun _ => ?_)
        clear hK K
        refine wpAnyH_takeD (i := 1) (d := some 33) (v := (.bool true)) rfl rfl (by kernel_rfl) (by kernel_rfl) (by kernel_rfl) (fun _ _ _ h => h) (Or.inl ⟨by rfl, ?_⟩) (by assumption) ?_
        · intro X hX; obtain ⟨c0, c1, d0, d1, f0, f1, g0, g1, hb0⟩ := hX; go_simp
        simp only [Act.put, List.setIfInBounds_toArray, List.set_cons_zero, List.set_cons_succ]
        refine wpAnyH_takeD (i := 2) (d := some 34) (v := (.agg #[.int .u64 L, .int .u64 H])) rfl rfl (by kernel_rfl) (by kernel_rfl) (by kernel_rfl) (fun _ _ _ h => h) (Or.inl ⟨by rfl, ?_⟩) (by assumption) ?_
        · intro X hX; obtain ⟨c0, c1, d0, d1, f0, f1, g0, g1, hb0⟩ := hX; go_simp
        simp only [Act.put, List.setIfInBounds_toArray, List.set_cons_zero, List.set_cons_succ]
        refine wpAnyH_takeD (i := 3) (d := some 35) (v := (.agg #[.int .u64 L, .int .u64 H])) rfl rfl (by kernel_rfl) (by kernel_rfl) (by kernel_rfl) (fun _ _ _ h => h) (Or.inl ⟨by rfl, ?_⟩) (by assumption) ?_
        · intro X hX; obtain ⟨c0, c1, d0, d1, f0, f1, g0, g1, hb0⟩ := hX; go_simp
        simp only [Act.put, List.setIfInBounds_toArray, List.set_cons_zero, List.set_cons_succ]
        refine wpAnyH_takeD (i := 4) (d := some 36) (v := (.bool true)) rfl rfl (by kernel_rfl) (by kernel_rfl) (by kernel_rfl) (fun _ _ _ h => h) (Or.inl ⟨by rfl, ?_⟩) (by assumption) ?_
        · intro X hX; obtain ⟨c0, c1, d0, d1, f0, f1, g0, g1, hb0⟩ := hX; go_simp
        simp only [Act.put, List.setIfInBounds_toArray, List.set_cons_zero, List.set_cons_succ]
        refine wpAnyH_takeD (i := 5) (d := some 37) (v := (.bool true)) rfl rfl (by kernel_rfl) (by kernel_rfl) (by kernel_rfl) (fun _ _ _ h => h) (Or.inl ⟨by rfl, ?_⟩) (by assumption) ?_
        · intro X hX; obtain ⟨c0, c1, d0, d1, f0, f1, g0, g1, hb0⟩ := hX; go_simp
        simp only [Act.put, List.setIfInBounds_toArray, List.set_cons_zero, List.set_cons_succ]
        refine wpAnyH_takeD (i := 6) (d := some 38) (v := (.bool true)) rfl rfl (by kernel_rfl) (by kernel_rfl) (by kernel_rfl) (fun _ _ _ h => h) (Or.inl ⟨by rfl, ?_⟩) (by assumption) ?_
        · intro X hX; obtain ⟨c0, c1, d0, d1, f0, f1, g0, g1, hb0⟩ := hX; go_simp
        simp only [Act.put, List.setIfInBounds_toArray, List.set_cons_zero, List.set_cons_succ]
        refine wpAnyH_takeD (i := 7) (d := some 39) (v := (.bool false)) rfl rfl (by kernel_rfl) (by kernel_rfl) (by kernel_rfl) (fun _ _ _ h => h) (Or.inl ⟨by rfl, ?_⟩) (by assumption) ?_
        · intro X hX; obtain ⟨c0, c1, d0, d1, f0, f1, g0, g1, hb0⟩ := hX; go_simp
        simp only [Act.put, List.setIfInBounds_toArray, List.set_cons_zero, List.set_cons_succ]
        refine wpAnyH_takeD (i := 8) (d := some 40) (v := (.bool false)) rfl rfl (by kernel_rfl) (by kernel_rfl) (by kernel_rfl) (fun _ _ _ h => h) (Or.inl ⟨by rfl, ?_⟩) (by assumption) ?_
        · intro X hX; obtain ⟨c0, c1, d0, d1, f0, f1, g0, g1, hb0⟩ := hX; go_simp
        simp only [Act.put, List.setIfInBounds_toArray, List.set_cons_zero, List.set_cons_succ]
        refine wpAnyH_takeD (i := 9) (d := some 41) (v := (.bool true)) rfl rfl (by kernel_rfl) (by kernel_rfl) (by kernel_rfl) (fun _ _ _ h => h) (Or.inl ⟨by rfl, ?_⟩) (by assumption) ?_
        · intro X hX; obtain ⟨c0, c1, d0, d1, f0, f1, g0, g1, hb0⟩ := hX; go_simp
        simp only [Act.put, List.setIfInBounds_toArray, List.set_cons_zero, List.set_cons_succ]
        refine wpAnyH_takeD (i := 10) (d := some 42) (v := (.bool true)) rfl rfl (by kernel_rfl) (by kernel_rfl) (by kernel_rfl) (fun _ _ _ h => h) (Or.inl ⟨by rfl, ?_⟩) (by assumption) ?_
        · intro X hX; obtain ⟨c0, c1, d0, d1, f0, f1, g0, g1, hb0⟩ := hX; go_simp
        simp only [Act.put, List.setIfInBounds_toArray, List.set_cons_zero, List.set_cons_succ]
        refine wpAnyH_takeD (i := 11) (d := some 43) (v := (.bool true)) rfl rfl (by kernel_rfl) (by kernel_rfl) (by kernel_rfl) (fun _ _ _ h => h) (Or.inl ⟨by rfl, ?_⟩) (by assumption) ?_
        · intro X hX; obtain ⟨c0, c1, d0, d1, f0, f1, g0, g1, hb0⟩ := hX; go_simp
        simp only [Act.put, List.setIfInBounds_toArray, List.set_cons_zero, List.set_cons_succ]
        refine wpAnyH_takeD (i := 12) (d := some 44) (v := (.bool false)) rfl rfl (by kernel_rfl) (by kernel_rfl) (by kernel_rfl) (fun _ _ _ h => h) (Or.inl ⟨by rfl, ?_⟩) (by assumption) ?_
        · intro X hX; obtain ⟨c0, c1, d0, d1, f0, f1, g0, g1, hb0⟩ := hX; go_simp
        simp only [Act.put, List.setIfInBounds_toArray, List.set_cons_zero, List.set_cons_succ]
        refine wpAnyH_takeD (i := 13) (d := some 45) (v := (.bool true)) rfl rfl (by kernel_rfl) (by kernel_rfl) (by kernel_rfl) (fun _ _ _ h => h) (Or.inl ⟨by rfl, ?_⟩) (by assumption) ?_
        · intro X hX; obtain ⟨c0, c1, d0, d1, f0, f1, g0, g1, hb0⟩ := hX; go_simp
        simp only [Act.put, List.setIfInBounds_toArray, List.set_cons_zero, List.set_cons_succ]
        refine wpAnyH_takeD (i := 14) (d := some 46) (v := (.bool true)) rfl rfl (by kernel_rfl) (by kernel_rfl) (by kernel_rfl) (fun _ _ _ h => h) (Or.inl ⟨by rfl, ?_⟩) (by assumption) ?_
        · intro X hX; obtain ⟨c0, c1, d0, d1, f0, f1, g0, g1, hb0⟩ := hX; go_simp
        simp only [Act.put, List.setIfInBounds_toArray, List.set_cons_zero, List.set_cons_succ]
        refine wpAnyH_takeD (i := 15) (d := some 47) (v := undef) rfl rfl (by kernel_rfl) (by kernel_rfl) (by kernel_rfl) (fun _ _ _ h => h) (Or.inr ⟨by rfl, rfl⟩) (by assumption) ?_
        simp only [Act.put, List.setIfInBounds_toArray, List.set_cons_zero, List.set_cons_succ]
        refine wpAnyH_takeD (i := 16) (d := some 48) (v := undef) rfl rfl (by kernel_rfl) (by kernel_rfl) (by kernel_rfl) (fun _ _ _ h => h) (Or.inr ⟨by rfl, rfl⟩) (by assumption) ?_
        simp only [Act.put, List.setIfInBounds_toArray, List.set_cons_zero, List.set_cons_succ]
        refine wpAnyH_takeD (i := 18) (d := some 50) (v := undef) rfl rfl (by kernel_rfl) (by kernel_rfl) (by kernel_rfl) (fun _ _ _ h => h) (Or.inr ⟨by rfl, rfl⟩) (by assumption) ?_
        simp only [Act.put, List.setIfInBounds_toArray, List.set_cons_zero, List.set_cons_succ]
        refine wpAnyH_takeD (i := 19) (d := some 51) (v := undef) rfl rfl (by kernel_rfl) (by kernel_rfl) (by kernel_rfl) (fun _ _ _ h => h) (Or.inr ⟨by rfl, rfl⟩) (by assumption) ?_
        simp only [Act.put, List.setIfInBounds_toArray, List.set_cons_zero, List.set_cons_succ]
        refine wpAnyH_takeD (i := 17) (d := some 49) (v := undef) rfl rfl (by kernel_rfl) (by kernel_rfl) (by kernel_rfl) (fun _ _ _ h => h) (Or.inr ⟨by rfl, rfl⟩) (by assumption) ?_
        simp only [Act.put, List.setIfInBounds_toArray, List.set_cons_zero, List.set_cons_succ]
        refine wpAnyH_takeD (i := 20) (d := some 52) (v := undef) rfl rfl (by kernel_rfl) (by kernel_rfl) (by kernel_rfl) (fun _ _ _ h => h) (Or.inr ⟨by rfl, rfl⟩) (by assumption) ?_
        simp only [Act.put, List.setIfInBounds_toArray, List.set_cons_zero, List.set_cons_succ]
        refine wpAnyH_takeD (i := 21) (d := some 53) (v := undef) rfl rfl (by kernel_rfl) (by kernel_rfl) (by kernel_rfl) (fun _ _ _ h => h) (Or.inr ⟨by rfl, rfl⟩) (by assumption) ?_
        simp only [Act.put, List.setIfInBounds_toArray, List.set_cons_zero, List.set_cons_succ]
        refine wpAnyH_takeD (i := 22) (d := some 54) (v := undef) rfl rfl (by kernel_rfl) (by kernel_rfl) (by kernel_rfl) (fun _ _ _ h => h) (Or.inr ⟨by rfl, rfl⟩) (by assumption) ?_
        simp only [Act.put, List.setIfInBounds_toArray, List.set_cons_zero, List.set_cons_succ]
        refine wpAnyH_takeD (i := 23) (d := some 55) (v := undef) rfl rfl (by kernel_rfl) (by kernel_rfl) (by kernel_rfl) (fun _ _ _ h => h) (Or.inr ⟨by rfl, rfl⟩) (by assumption) ?_
        simp only [Act.put, List.setIfInBounds_toArray, List.set_cons_zero, List.set_cons_succ]
        refine wpAnyH_takeD (i := 24) (d := some 56) (v := undef) rfl rfl (by kernel_rfl) (by kernel_rfl) (by kernel_rfl) (fun _ _ _ h => h) (Or.inr ⟨by rfl, rfl⟩) (by assumption) ?_
        simp only [Act.put, List.setIfInBounds_toArray, List.set_cons_zero, List.set_cons_succ]
        refine wpAnyH_takeD (i := 25) (d := some 57) (v := undef) rfl rfl (by kernel_rfl) (by kernel_rfl) (by kernel_rfl) (fun _ _ _ h => h) (Or.inr ⟨by rfl, rfl⟩) (by assumption) ?_
        simp only [Act.put, List.setIfInBounds_toArray, List.set_cons_zero, List.set_cons_succ]
        refine wpAnyH_takeD (i := 26) (d := some 58) (v := undef) rfl rfl (by kernel_rfl) (by kernel_rfl) (by kernel_rfl) (fun _ _ _ h => h) (Or.inr ⟨by rfl, rfl⟩) (by assumption) ?_
        simp only [Act.put, List.setIfInBounds_toArray, List.set_cons_zero, List.set_cons_succ]
        refine wpAnyH_takeD (i := 27) (d := some 59) (v := (.bool true)) rfl rfl (by kernel_rfl) (by kernel_rfl) (by kernel_rfl) (fun _ _ _ h => h) (Or.inl ⟨by rfl, ?_⟩) (by assumption) ?_
        · intro X hX; obtain ⟨c0, c1, d0, d1, f0, f1, g0, g1, hb0⟩ := hX; go_simp
        simp only [Act.put, List.setIfInBounds_toArray, List.set_cons_zero, List.set_cons_succ]
        refine wpAnyH_takeD (i := 28) (d := some 60) (v := (.bool true)) rfl rfl (by kernel_rfl) (by kernel_rfl) (by kernel_rfl) (fun _ _ _ h => h) (Or.inl ⟨by rfl, ?_⟩) (by assumption) ?_
        · intro X hX; obtain ⟨c0, c1, d0, d1, f0, f1, g0, g1, hb0⟩ := hX; go_simp
        simp only [Act.put, List.setIfInBounds_toArray, List.set_cons_zero, List.set_cons_succ]
        refine wpAnyH_takeD (i := 29) (d := some 6) (v := (.bool true)) rfl rfl (by kernel_rfl) (by kernel_rfl) (by kernel_rfl) (fun _ _ _ h => h) (Or.inl ⟨by rfl, ?_⟩) (by assumption) ?_
        · intro X hX; obtain ⟨c0, c1, d0, d1, f0, f1, g0, g1, hb0⟩ := hX; go_simp
        simp only [Act.put, List.setIfInBounds_toArray, List.set_cons_zero, List.set_cons_succ]
        refine wpAnyH_done (by kernel_rfl) ?_ _
        go_wp2
        go_ret
        exact ⟨rfl, hS.bl⟩
    · skip
      have K2 := hide (fun W => rright_no bl bh h3 h4 (by omega) W)
      clear h1 h2 h3 h4 ha hb
      go_enter Tryd.func4, Tryd.ntmps4
      go_wp2_with fail
      refine (K1.out _).mono ?_
      rintro e w1 ⟨rfl, b1⟩
      have B1 := bl_trans (bl_alloc (bl_alloc (Below.refl _ w) _) _) b1
      have R1 := row_keep b1 (heap_new_at _ _ (g := w.heap.size + 1) (by simp))
      obtain ⟨d0, d1, _, l1⟩ := cells_two R1
      clear b1 R1
      go_wp2_with fail
      refine (K2.out _).mono ?_
      rintro e w2 ⟨rfl, b2⟩
      have B2 := bl_trans B1 b2
      clear b2 d0 d1 l1
      go_wp2_with fail
      refine (HA.out _ B2).mono ?_
      rintro e w3 ⟨rfl, b3⟩
      have B3 := bl_trans B2 b3
      clear b3
      go_wp2
      go_ret
      exact ⟨rfl, B3⟩
  · skip
    have K1 := hide (fun W => rright_no al ah h1 h2 (by omega) W)
    clear h1 h2 h3 h4 ha
    go_enter Tryd.func4, Tryd.ntmps4
    go_wp2_with fail
    refine (K1.out _).mono ?_
    rintro e w1 ⟨rfl, b1⟩
    have B1 := bl_trans (bl_alloc (bl_alloc (Below.refl _ w) _) _) b1
    clear b1
    go_wp2_with fail
    refine (HA.out _ B1).mono ?_
    rintro e w3 ⟨rfl, b3⟩
    have B3 := bl_trans B1 b3
    clear b3
    go_wp2
    go_ret
    exact ⟨rfl, B3⟩
end Go.Proofs.YtplckfofdkmieaaDoor
