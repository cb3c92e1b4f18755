/- The law PackReads. -/
import Derived.Test.YtbphphmjhcehkaaDoorMG20
import Derived.Test.YtbphphmjhcehkaaDoorMG23
import Derived.Test.YtbphphmjhcehkaaDoorMG26
namespace Go.Proofs.YtbphphmjhcehkaaDoor
open Go Go.RowKit
set_option linter.unusedSimpArgs false

theorem u8_wf {x : Int} (h : (Lit.int .u8 x).wf = true) : 0 ≤ x ∧ x ≤ 255 := byte_of_wf h
/-- The cursor's error, while nothing that was there changes. -/
structure RdT (w : World) (p : Nat) (c at' : Int) (W : World) : Prop where
  cd : W.cell? ⟨p, 3, none⟩ = some (.int .i64 c)
  at' : W.cell? ⟨p, 4, none⟩ = some (.int .i64 at')
  bl : Below w.heap.size w W
theorem RdT.below {w W W' : World} {p : Nat} {c at' : Int} (h : RdT w p c at' W) (hb : Below W.heap.size W W') : RdT w p c at' W' := ⟨keep_c hb h.cd, keep_c hb h.at', bl_trans h.bl hb⟩
theorem RdT.drew {w W : World} {p : Nat} {c at' : Int} (h : RdT w p c at' W) : RdT w p c at' W.drew := h.below (bl_drew (Below.refl _ _))
theorem run_at {lm : Lim} {zs : List Int} {s : St} {a c at' : Int} (h : Run lm zs s a (.error (c, at'))) : c ≠ 0 := by
  generalize ho : (Except.error (c, at') : Except (Int × Int) (List Ent × Int)) = o at h
  induction h with
  | rd g => cases ho; rcases rd_err g with e | e <;> omega
  | stop g g2 => cases ho; rcases step_err g2 with e | e | e | e <;> omega
  | fin _ _ _ => cases ho
  | next _ _ _ _ ih => exact ih ho
set_option maxRecDepth 100000 in
set_option maxHeartbeats 6400000 in
theorem packReads_walk (a : Option Addr) (len cap : Nat) (zs : List Int) (at' : Int) (lm : Lim) (w : World) (h : Ints .u8 w a len zs) (hsh : Shaped a len cap) (hat : (Lit.int .u8 at').wf = true) (hL : LimW lm) (hg : Laid w) :
    Calls Tryd.prog 4 #[.slice a len cap, .int .u8 at', .agg #[.int .i64 lm.f, .int .i64 lm.ve, .int .i64 lm.en, .int .i64 lm.ho, .int .i64 lm.se]] w fun e w' => e = .returned (.bool true) ∧ Below w.heap.size w w' := by
  have hmx : Tryd.prog.follows .mixedOrders = true := by kernel_rfl
  have HG := hide (fun W (hb : Below w.heap.size w W) => hg.below hb)
  have H := hide h
  have hl := h.length
  obtain ⟨ha0, ha1⟩ := u8_wf hat
  by_cases g : 300 < (len : Int)
  · clear h hat hL hg
    go_enter Tryd.func4, Tryd.ntmps4
    go_wp2_with fail
    refine (alive_any _ (HG.out _ (bl_alloc (Below.refl _ _) _))).mono ?_
    rintro e w1 ⟨rfl, b1⟩
    go_wp2
    go_ret
    exact ⟨rfl, bl_trans (bl_alloc (Below.refl _ _) _) b1⟩
  · have q1 : IntKind.i64.wrap at' = at' := by rw [IntKind.wrap_i64]; omega
    have q2 : IntKind.i64.wrap ((len : Int) + 1) = (len : Int) + 1 := by rw [IntKind.wrap_i64]; omega
    have q3 : ¬ ((len : Int) + 1 = 0) := by omega
    have q3' : ((len : Int) + 1 == 0) = false := by simp; omega
    obtain ⟨n, en⟩ : ∃ n : Nat, at' % ((len : Int) + 1) = n := ⟨(at' % ((len : Int) + 1)).toNat, by have := Int.emod_nonneg at' q3; omega⟩
    have hn : n ≤ len := by have := Int.emod_lt_of_pos at' (show (0 : Int) < (len : Int) + 1 by omega); omega
    have q4 : at'.tmod ((len : Int) + 1) = n := by rw [← en]; exact Int.tmod_eq_emod_of_nonneg ha0
    have q5 : IntKind.i64.wrap (n : Int) = n := by rw [IntKind.wrap_i64]; omega
    have hcap : len ≤ cap := hsh.le
    obtain ⟨o, ho⟩ := run_some lm zs _ St0 n (Nat.le_refl _)
    have RUN := hide ho
    have KP := hide (fun W (hb : Below w.heap.size w W) => pread_any a len cap zs n lm hL o W (hg.below hb) (h.below hb) hcap (by omega) hn ho)
    have KV := hide (fun p W (hp : w.heap.size ≤ p) (hb : Below w.heap.size w W) (hG : CGo W p (.slice a len cap) len n) => vector_go (o := o) (lm := lm) (wb := w) h (by omega) hL hp hn W hb hG ho)
    clear h hat hL hg hsh ha0 ha1 en q3 ho
    go_enter Tryd.func4, Tryd.ntmps4
    go_wp2_with fail
    have hb0 : Below w.heap.size w ((w.alloc (.cells #[.int .i64 lm.f, .int .i64 lm.ve, .int .i64 lm.en, .int .i64 lm.ho, .int .i64 lm.se] 36)).alloc (.cells #[.slice a len cap, .int .i64 n, .int .i64 len, .int .i64 0, .int .i64 0, .bool false] 42)) := bl_alloc (bl_alloc (Below.refl _ _) _) _
    refine (KV.out (w.heap.size + 1) _ (by omega) hb0 (heap_new_at _ _ (by simp))).mono ?_
    rintro e w1 ⟨hO1, hor⟩
    have B1 := hide (hb0.trans (hO1.below hb0.size (fun k hk => by subst hk; omega)))
    have LX := hO1.obj (show ¬ w.heap.size = w.heap.size + 1 by omega) (heap_old_at _ _ (by simp) (heap_new_at w (.cells #[.int .i64 lm.f, .int .i64 lm.ve, .int .i64 lm.en, .int .i64 lm.ho, .int .i64 lm.se] 36) rfl))
    have l0 : w1.cell? ⟨w.heap.size, 0, none⟩ = some (.int .i64 lm.f) := by simp [World.cell?, LX]
    have l1 : w1.cell? ⟨w.heap.size, 1, none⟩ = some (.int .i64 lm.ve) := by simp [World.cell?, LX]
    have l2 : w1.cell? ⟨w.heap.size, 2, none⟩ = some (.int .i64 lm.en) := by simp [World.cell?, LX]
    have l3 : w1.cell? ⟨w.heap.size, 3, none⟩ = some (.int .i64 lm.ho) := by simp [World.cell?, LX]
    have l4 : w1.cell? ⟨w.heap.size, 4, none⟩ = some (.int .i64 lm.se) := by simp [World.cell?, LX]
    clear LX hO1 hb0
    rcases hor with ⟨l, n1, v, rfl, hC, rfl, hF⟩ | ⟨c, at1, rfl, hE, rfl⟩
    · obtain ⟨av, cv, rfl, hEn, _⟩ := hF.ents
      have EN := hide hEn
      have HC := hide hC
      clear hC hF hEn
      go_wp2_with fail
      refine (KP.out _ B1.out).mono ?_
      rintro e w2 ⟨hb2, v2, l2', rfl, hl2, hF2⟩
      obtain ⟨av2, cv2, rfl, hEn2, _⟩ := hF2.ents
      have EN1 := hide (EN.out.below hb2)
      have EN2 := hide hEn2
      have HC2 := hide (CurC.below HC.out hb2)
      have B2 := hide (bl_trans B1.out hb2)
      have SV := hide hl2
      obtain ⟨_, c1, _, c3, _, _, _⟩ := CurC.cells HC2.out
      clear hb2 hF2 hEn2 hl2 HC EN l0 l1 l2 l3 l4
      go_wp2_with fail
      refine (alive_any _ (HG.out _ B2.out)).mono ?_
      rintro e w3 ⟨rfl, b3⟩
      have B3 := hide (bl_trans B2.out b3)
      have F1 := hide (EN1.out.below b3)
      have F2 := hide (EN2.out.below b3)
      have HC3 := hide (CurC.below HC2.out b3)
      clear b3 c1 c3 HC2 EN1 EN2
      go_wp2_with fail
      refine (vsame_any _ _ _ _ _ _ l2' l _ F2.out F1.out).mono ?_
      rintro e w4 ⟨rfl, b4⟩
      rw [show sameV l2' l = true from decide_eq_true SV.out]
      have B4 := hide (bl_trans B3.out b4)
      obtain ⟨_, c1, _, c3, _, _, _⟩ := CurC.cells (CurC.below HC3.out b4)
      clear b4 HC3 F1 F2
      go_wp2
      go_ret
      exact ⟨rfl, B4.out⟩
    · have HE := hide hE
      have hc0 := run_at RUN.out
      have hcn : (c != 0) = true := by simpa using hc0
      clear hE RUN
      go_wp2_with fail
      refine (KP.out _ B1.out).mono ?_
      rintro e w2 ⟨hb2, rfl⟩
      have HE2 := hide ((cerr_loc (w.heap.size + 1) (.slice a len cap) len c at1).below (Blk_lt HE.out.2.choose_spec) hb2 HE.out)
      have B2 := hide (bl_trans B1.out hb2)
      obtain ⟨_, nx, hCC⟩ := HE2.out
      obtain ⟨_, _, _, c3, c4, _, _⟩ := CurC.cells hCC
      have RT := hide (RdT.mk (w := w) c3 c4 B2.out)
      clear hb2 HE l0 l1 l2 l3 l4 hCC c4
      go_wp2_with fail
      refine wp_region_held_drew (S := RdT w (w.heap.size + 1) c at1) hmx RT.out.drew (fun hS => ?_)
      refine wpAnyH_ready (rs := [0]) (by kernel_rfl) (by simp) ?_
      refine AllReadyH.cons (o := _) rfl (fun K hK => ?_) AllReadyH.nil
      go_simp
      refine (alive_any _ (HG.out _ hS.bl)).mono ?_
      rintro e wq ⟨rfl, hb⟩
      have hS := hS.below hb
      clear hb
      go_simp
      refine hK.out _ _ hS (fun _ => ?_)
      clear hK K
      refine wpAnyH_takeD (i := 1) (d := some 46) (v := (.bool true)) rfl rfl (by kernel_rfl) (by kernel_rfl) (by kernel_rfl) (fun _ _ _ h => h) (Or.inl ⟨by rfl, ?_⟩) (by assumption) ?_
      · intro X hX; go_simp
      simp only [Act.put, List.setIfInBounds_toArray, List.set_cons_zero, List.set_cons_succ]
      refine wpAnyH_takeD (i := 2) (d := some 47) (v := (.slice none 0 0)) rfl rfl (by kernel_rfl) (by kernel_rfl) (by kernel_rfl) (fun _ _ _ h => h) (Or.inl ⟨by rfl, ?_⟩) (by assumption) ?_
      · intro X hX; go_simp
      simp only [Act.put, List.setIfInBounds_toArray, List.set_cons_zero, List.set_cons_succ]
      refine wpAnyH_takeD (i := 3) (d := some 48) (v := (.int .i64 0)) rfl rfl (by kernel_rfl) (by kernel_rfl) (by kernel_rfl) (fun _ _ _ h => h) (Or.inl ⟨by rfl, ?_⟩) (by assumption) ?_
      · intro X hX; go_simp
      simp only [Act.put, List.setIfInBounds_toArray, List.set_cons_zero, List.set_cons_succ]
      refine wpAnyH_takeD (i := 4) (d := some 49) (v := (.bool true)) rfl rfl (by kernel_rfl) (by kernel_rfl) (by kernel_rfl) (fun _ _ _ h => h) (Or.inl ⟨by rfl, ?_⟩) (by assumption) ?_
      · intro X hX; go_simp
      simp only [Act.put, List.setIfInBounds_toArray, List.set_cons_zero, List.set_cons_succ]
      refine wpAnyH_takeD (i := 5) (d := some 50) (v := (.bool true)) rfl rfl (by kernel_rfl) (by kernel_rfl) (by kernel_rfl) (fun _ _ _ h => h) (Or.inl ⟨by rfl, ?_⟩) (by assumption) ?_
      · intro X hX; go_simp
      simp only [Act.put, List.setIfInBounds_toArray, List.set_cons_zero, List.set_cons_succ]
      refine wpAnyH_takeD (i := 6) (d := some 51) (v := (.bool true)) rfl rfl (by kernel_rfl) (by kernel_rfl) (by kernel_rfl) (fun _ _ _ h => h) (Or.inl ⟨by rfl, ?_⟩) (by assumption) ?_
      · intro X hX; go_simp
      simp only [Act.put, List.setIfInBounds_toArray, List.set_cons_zero, List.set_cons_succ]
      refine wpAnyH_takeD (i := 7) (d := some 52) (v := (.int .i64 0)) rfl rfl (by kernel_rfl) (by kernel_rfl) (by kernel_rfl) (fun _ _ _ h => h) (Or.inl ⟨by rfl, ?_⟩) (by assumption) ?_
      · intro X hX; go_simp
      simp only [Act.put, List.setIfInBounds_toArray, List.set_cons_zero, List.set_cons_succ]
      refine wpAnyH_takeD (i := 8) (d := some 53) (v := (.bool true)) rfl rfl (by kernel_rfl) (by kernel_rfl) (by kernel_rfl) (fun _ _ _ h => h) (Or.inl ⟨by rfl, ?_⟩) (by assumption) ?_
      · intro X hX; go_simp
      simp only [Act.put, List.setIfInBounds_toArray, List.set_cons_zero, List.set_cons_succ]
      refine wpAnyH_takeD (i := 9) (d := some 54) (v := (.bool true)) rfl rfl (by kernel_rfl) (by kernel_rfl) (by kernel_rfl) (fun _ _ _ h => h) (Or.inl ⟨by rfl, ?_⟩) (by assumption) ?_
      · intro X hX; go_simp
      simp only [Act.put, List.setIfInBounds_toArray, List.set_cons_zero, List.set_cons_succ]
      refine wpAnyH_takeD (i := 10) (d := some 55) (v := (.bool true)) rfl rfl (by kernel_rfl) (by kernel_rfl) (by kernel_rfl) (fun _ _ _ h => h) (Or.inl ⟨by rfl, ?_⟩) (by assumption) ?_
      · intro X hX; go_simp
      simp only [Act.put, List.setIfInBounds_toArray, List.set_cons_zero, List.set_cons_succ]
      refine wpAnyH_takeD (i := 11) (d := some 56) (v := (.iface 85 (.agg #[.int .i64 c, .int .i64 at1]))) rfl rfl (by kernel_rfl) (by kernel_rfl) (by kernel_rfl) (fun _ _ _ h => h) (Or.inl ⟨by rfl, ?_⟩) (by assumption) ?_
      · intro X hX; go_simp
      simp only [Act.put, List.setIfInBounds_toArray, List.set_cons_zero, List.set_cons_succ]
      refine wpAnyH_takeD (i := 13) (d := some 58) (v := (.pointer (some ⟨w.heap.size + 1, 0, none⟩))) rfl rfl (by kernel_rfl) (by kernel_rfl) (by kernel_rfl) (fun _ _ _ h => h) (Or.inl ⟨by rfl, ?_⟩) (by assumption) ?_
      · intro X hX; go_simp
      simp only [Act.put, List.setIfInBounds_toArray, List.set_cons_zero, List.set_cons_succ]
      refine wpAnyH_takeD (i := 14) (d := some 59) (v := (.pointer (some ⟨w.heap.size + 1, 0, none⟩))) rfl rfl (by kernel_rfl) (by kernel_rfl) (by kernel_rfl) (fun _ _ _ h => h) (Or.inl ⟨by rfl, ?_⟩) (by assumption) ?_
      · intro X hX; go_simp
      simp only [Act.put, List.setIfInBounds_toArray, List.set_cons_zero, List.set_cons_succ]
      refine wpAnyH_takeD (i := 15) (d := some 60) (v := (.pointer (some ⟨w.heap.size + 1, 3, none⟩))) rfl rfl (by kernel_rfl) (by kernel_rfl) (by kernel_rfl) (fun _ _ _ h => h) (Or.inl ⟨by rfl, ?_⟩) (by assumption) ?_
      · intro X hX; go_simp
      simp only [Act.put, List.setIfInBounds_toArray, List.set_cons_zero, List.set_cons_succ]
      refine wpAnyH_takeD (i := 16) (d := some 61) (v := (.int .i64 c)) rfl rfl (by kernel_rfl) (by kernel_rfl) (by kernel_rfl) (fun _ _ _ h => h) (Or.inl ⟨by rfl, ?_⟩) (by assumption) ?_
      · intro X hX; obtain ⟨x0, x1, x2⟩ := hX; go_simp
      simp only [Act.put, List.setIfInBounds_toArray, List.set_cons_zero, List.set_cons_succ]
      refine wpAnyH_ready (rs := [12]) (by kernel_rfl) (by simp) ?_
      refine AllReadyH.cons (o := _) rfl (fun K hK => ?_) AllReadyH.nil
      go_simp
      refine (code_F c at1 _ (HG.out _ hS.bl)).mono ?_
      rintro e wq ⟨rfl, hb⟩
      have hS := hS.below hb
      clear hb
      go_simp
      refine hK.out _ _ hS (fun _ => ?_)
      clear hK K
      refine wpAnyH_takeD (i := 17) (d := some 62) (v := (.bool true)) rfl rfl (by kernel_rfl) (by kernel_rfl) (by kernel_rfl) (fun _ _ _ h => h) (Or.inl ⟨by rfl, ?_⟩) (by assumption) ?_
      · intro X hX; go_simp
      simp only [Act.put, List.setIfInBounds_toArray, List.set_cons_zero, List.set_cons_succ]
      refine wpAnyH_takeD (i := 18) (d := some 63) (v := (.bool true)) rfl rfl (by kernel_rfl) (by kernel_rfl) (by kernel_rfl) (fun _ _ _ h => h) (Or.inl ⟨by rfl, ?_⟩) (by assumption) ?_
      · intro X hX; go_simp
      simp only [Act.put, List.setIfInBounds_toArray, List.set_cons_zero, List.set_cons_succ]
      refine wpAnyH_takeD (i := 19) (d := some 64) (v := (.bool true)) rfl rfl (by kernel_rfl) (by kernel_rfl) (by kernel_rfl) (fun _ _ _ h => h) (Or.inl ⟨by rfl, ?_⟩) (by assumption) ?_
      · intro X hX; go_simp
      simp only [Act.put, List.setIfInBounds_toArray, List.set_cons_zero, List.set_cons_succ]
      refine wpAnyH_takeD (i := 20) (d := some 65) (v := (.iface 85 (.agg #[.int .i64 c, .int .i64 at1]))) rfl rfl (by kernel_rfl) (by kernel_rfl) (by kernel_rfl) (fun _ _ _ h => h) (Or.inl ⟨by rfl, ?_⟩) (by assumption) ?_
      · intro X hX; go_simp
      simp only [Act.put, List.setIfInBounds_toArray, List.set_cons_zero, List.set_cons_succ]
      refine wpAnyH_takeD (i := 22) (d := some 67) (v := (.pointer (some ⟨w.heap.size + 1, 0, none⟩))) rfl rfl (by kernel_rfl) (by kernel_rfl) (by kernel_rfl) (fun _ _ _ h => h) (Or.inl ⟨by rfl, ?_⟩) (by assumption) ?_
      · intro X hX; go_simp
      simp only [Act.put, List.setIfInBounds_toArray, List.set_cons_zero, List.set_cons_succ]
      refine wpAnyH_takeD (i := 23) (d := some 68) (v := (.pointer (some ⟨w.heap.size + 1, 0, none⟩))) rfl rfl (by kernel_rfl) (by kernel_rfl) (by kernel_rfl) (fun _ _ _ h => h) (Or.inl ⟨by rfl, ?_⟩) (by assumption) ?_
      · intro X hX; go_simp
      simp only [Act.put, List.setIfInBounds_toArray, List.set_cons_zero, List.set_cons_succ]
      refine wpAnyH_takeD (i := 24) (d := some 69) (v := (.pointer (some ⟨w.heap.size + 1, 4, none⟩))) rfl rfl (by kernel_rfl) (by kernel_rfl) (by kernel_rfl) (fun _ _ _ h => h) (Or.inl ⟨by rfl, ?_⟩) (by assumption) ?_
      · intro X hX; go_simp
      simp only [Act.put, List.setIfInBounds_toArray, List.set_cons_zero, List.set_cons_succ]
      refine wpAnyH_takeD (i := 25) (d := some 70) (v := (.int .i64 at1)) rfl rfl (by kernel_rfl) (by kernel_rfl) (by kernel_rfl) (fun _ _ _ h => h) (Or.inl ⟨by rfl, ?_⟩) (by assumption) ?_
      · intro X hX; obtain ⟨x0, x1, x2⟩ := hX; go_simp
      simp only [Act.put, List.setIfInBounds_toArray, List.set_cons_zero, List.set_cons_succ]
      refine wpAnyH_ready (rs := [21]) (by kernel_rfl) (by simp) ?_
      refine AllReadyH.cons (o := _) rfl (fun K hK => ?_) AllReadyH.nil
      go_simp
      refine (at_F c at1 _ (HG.out _ hS.bl)).mono ?_
      rintro e wq ⟨rfl, hb⟩
      have hS := hS.below hb
      clear hb
      go_simp
      refine hK.out _ _ hS (fun _ => ?_)
      clear hK K
      refine wpAnyH_takeD (i := 26) (d := some 71) (v := (.bool true)) rfl rfl (by kernel_rfl) (by kernel_rfl) (by kernel_rfl) (fun _ _ _ h => h) (Or.inl ⟨by rfl, ?_⟩) (by assumption) ?_
      · intro X hX; go_simp
      simp only [Act.put, List.setIfInBounds_toArray, List.set_cons_zero, List.set_cons_succ]
      refine wpAnyH_takeD (i := 27) (d := some 72) (v := (.bool true)) rfl rfl (by kernel_rfl) (by kernel_rfl) (by kernel_rfl) (fun _ _ _ h => h) (Or.inl ⟨by rfl, ?_⟩) (by assumption) ?_
      · intro X hX; go_simp
      simp only [Act.put, List.setIfInBounds_toArray, List.set_cons_zero, List.set_cons_succ]
      refine wpAnyH_takeD (i := 28) (d := some 6) (v := (.bool true)) rfl rfl (by kernel_rfl) (by kernel_rfl) (by kernel_rfl) (fun _ _ _ h => h) (Or.inl ⟨by rfl, ?_⟩) (by assumption) ?_
      · intro X hX; go_simp
      simp only [Act.put, List.setIfInBounds_toArray, List.set_cons_zero, List.set_cons_succ]
      refine wpAnyH_done (by kernel_rfl) ?_ _
      have BB := hide hS.bl
      clear hS
      go_wp2
      go_ret
      exact ⟨rfl, BB.out⟩
end Go.Proofs.YtbphphmjhcehkaaDoor
