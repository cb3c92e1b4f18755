/- The law PackOnce. -/
import Derived.Test.YtbphphmjhcehkaaDoorMG20
import Derived.Test.YtbphphmjhcehkaaDoorMG31
import Derived.Test.YtbphphmjhcehkaaDoorMG24
namespace Go.Proofs.YtbphphmjhcehkaaDoor
open Go Go.RowKit
set_option linter.unusedSimpArgs false

theorem ints_fst {k : IntKind} {w : World} {a : Option Addr} {len : Nat} {zs : List Int} (h : Ints k w a len zs) (n : Nat) (hn : n ≤ len) : Ints k w a n (zs.take n) where
  length := by rw [List.length_take, h.length]; omega
  most := by have := h.most; omega
  wf := fun z hz => h.wf z (List.mem_of_mem_take hz)
  cells := fun i hi => by
    have e : (zs.take n).getD i 0 = zs.getD i 0 := by simp [List.getD, hi]
    rw [e]
    exact h.cells i (by omega)
theorem byteAt_u8 {w : World} {a : Option Addr} {len : Nat} {zs : List Int} (h : Ints .u8 w a len zs) (i : Nat) : 0 ≤ byteAt zs i ∧ byteAt zs i ≤ 255 := by
  simp only [byteAt, List.getD]
  cases e : zs[i]? with
  | none => simp
  | some z => simpa using byte_of_wf (h.wf z (List.mem_of_getElem? e))
theorem hs_nums {es : List Ent} {i : Nat} (h : i < es.length) : (es.getD i Ent.z).hs.length ≤ (numsV es).length := by
  have h1 := numsTo_le es (show i + 1 ≤ es.length by omega)
  rw [show numsTo es (i + 1) = numsTo es i ++ numE (repN es i) (es.getD i Ent.z) from rfl, List.length_append, numE_length] at h1
  omega
theorem run_err_c {lm : Lim} {zs : List Int} {s : St} {a : Int} {p : Int × Int} (_h : Run lm zs s a (.error p)) : True := trivial

set_option maxRecDepth 100000 in
set_option maxHeartbeats 6400000 in
theorem packOnce_walk (a : Option Addr) (len cap : Nat) (zs : List Int) (w : World) (h : Ints .u8 w a len zs) (hsh : Shaped a len cap) (hg : Laid w) :
    Calls Tryd.prog 8 #[.slice a len cap] w fun e w' => e = .returned (.bool true) ∧ Below w.heap.size w w' := by
  have hmx : Tryd.prog.follows .mixedOrders = true := by kernel_rfl
  have HG := hide (fun W (hb : Below w.heap.size w W) => hg.below hb)
  have hl := h.length
  have hcap := hsh.le
  by_cases g : 300 < (len : Int)
  · clear h hsh hg
    go_enter Tryd.func8, Tryd.ntmps8
    go_wp2_with fail
    refine (alive_any _ (HG.out _ (Below.refl _ _))).mono ?_
    rintro e w1 ⟨rfl, b1⟩
    go_wp2
    go_ret
    exact ⟨rfl, b1⟩
  · obtain ⟨o, ho⟩ := run_some unl zs _ St0 (0 : Nat) (Nat.le_refl _)
    have KP := hide (fun W (hb : Below w.heap.size w W) => pread_any a len cap zs 0 unl unl_w o W (hg.below hb) (h.below hb) hcap (by omega) (by omega) ho)
    cases o with
    | error p =>
      obtain ⟨c, at1⟩ := p
      clear h hsh hg ho
      go_enter Tryd.func8, Tryd.ntmps8
      go_wp2_with fail
      refine (unlimited_any _).mono ?_
      rintro e w0 ⟨rfl, b0⟩
      have B0 := hide b0
      clear b0
      go_wp2_with fail
      refine (KP.out _ B0.out).mono ?_
      rintro e w1 ⟨hb1, rfl⟩
      have B1 := hide (bl_trans B0.out hb1)
      clear hb1
      go_wp2_with fail
      refine (alive_any _ (HG.out _ B1.out)).mono ?_
      rintro e w2 ⟨rfl, b2⟩
      go_wp2
      go_ret
      exact ⟨rfl, bl_trans B1.out b2⟩
    | ok p =>
      obtain ⟨es, n'⟩ := p
      obtain ⟨hC, hne, hJ, hn0, hn1⟩ := once_run (byteAt_u8 h) ho
      obtain ⟨n, rfl⟩ : ∃ n : Nat, n' = n := ⟨n'.toNat, by omega⟩
      rw [Int.toNat_natCast] at hJ
      have hnl : n ≤ len := by omega
      obtain ⟨J, eJ⟩ : ∃ J, zs.take n = J := ⟨_, rfl⟩
      have H := hide (show Ints .u8 w a n J from by rw [← eJ]; exact ints_fst h n hnl)
      rw [eJ] at hJ
      have hJl : J.length = n := by rw [← eJ, List.length_take]; omega
      have hnum : (numsV es).length ≤ n := by have := joinB_least (numsV es); rw [hJ, hJl] at this; exact this
      have hhs : ∀ e ∈ es, e.hs.length ≤ 300 := fun e he => by
        obtain ⟨i, hi, rfl⟩ := List.mem_iff_getElem.1 he
        have h1 := hs_nums hi
        have e2 : es.getD i Ent.z = es[i] := by simp [List.getD, List.getElem?_eq_getElem hi]
        rw [e2] at h1
        omega
      have CAN := hide hC
      have HHS := hide hhs
      have HJ := hide hJ
      have HJL := hide hJl
      have hes0 : 0 < es.length := List.length_pos_iff.2 hne
      have ES0 := hide hes0
      have EQ := hide (fun W a2 c2 (h1 : Ints .u8 W a2 n J) (h2 : Ints .u8 W a n J) => equal_any a2 a n c2 n cap J J W h1 h2)
      rw [show eqI J J = true from decide_eq_true rfl] at EQ
      have q0 : ¬ (n : Int) < 0 := by omega
      have q1 : ¬ (len : Int) < (n : Int) := by omega
      have q2 : (n : Int) ≤ (cap : Int) := by omega
      have q3 : (n : Int) ≤ (len : Int) := by omega
      have hn300 : n ≤ 300 := by omega
      clear h hsh hg ho hC hne hJ hJl hhs hes0 eJ hl hn0 hn1
      go_enter Tryd.func8, Tryd.ntmps8
      go_wp2_with fail
      refine (unlimited_any _).mono ?_
      rintro e w0 ⟨rfl, b0⟩
      have B0 := hide b0
      clear b0
      go_wp2_with fail
      refine (KP.out _ B0.out).mono ?_
      rintro e w1 ⟨hb1, v2, l2, rfl, hl2, hF2⟩
      obtain ⟨av, cv, rfl, hE2, _⟩ := hF2.ents
      have EN := hide hE2
      have B1 := hide (bl_trans B0.out hb1)
      have AP : Hid (∀ W, Below w1.heap.size w1 W → Calls Tryd.prog 12 #[.slice none 0 0, .slice av l2.length cv] W fun e w' => ∃ a2 c2, e = .returned (.slice a2 n c2) ∧ Ints .u8 w' a2 n J ∧ Below W.heap.size W w') := hide (fun W hb => by
        refine (pappend_any W (.slice none 0 0) [] av l2.length cv l2 es W (OwnB.nil _ _) (Below.refl _ _) (EN.out.below hb) hl2 CAN.out (fun e he => by have := HHS.out e he; omega) (by simp; omega)).mono ?_
        rintro e w' ⟨v', rfl, hO, hb'⟩
        rw [List.nil_append, HJ.out] at hO
        obtain ⟨a2, c2, rfl, hI, _⟩ := hO.ints (by rw [HJL.out]; omega)
        rw [HJL.out] at hI ⊢
        exact ⟨a2, c2, rfl, hI, hb'⟩)
      have CAN2 := hide (show CanV (l2.map (·.1)) from by rw [hl2]; exact CAN.out)
      have HS2 := hide (show ∀ i, i < l2.length → (l2.getD i EV.z).1.hs.length ≤ 1000000 from fun i hi => by
        have h1 : (l2.getD i EV.z).1 ∈ es := by rw [← hl2]; exact List.mem_map.2 ⟨_, getD_mem hi, rfl⟩
        have := HHS.out _ h1
        omega)
      have hm0 : 0 < l2.length := by have := ES0.out; rw [← hl2, List.length_map] at this; exact this
      obtain ⟨m, em⟩ : ∃ m, l2.length = m := ⟨_, rfl⟩
      rw [em] at EN AP HS2 hm0 ⊢
      have hm1 : (0 : Int) < (m : Int) := by omega
      clear hb1 hF2 hE2 hl2 em
      go_wp2_with fail
      refine wp_region_held_drew (S := Below w1.heap.size w1) hmx (bl_drew (Below.refl _ _)) (fun hS => ?_)
      refine wpAnyH_ready (rs := [0]) (by kernel_rfl) (by simp) ?_
      refine AllReadyH.cons (o := _) rfl (fun K hK => ?_) AllReadyH.nil
      go_simp
      refine (alive_any _ (HG.out _ (bl_trans B1.out hS))).mono ?_
      rintro e wq ⟨rfl, hb⟩
      have hS := bl_trans hS hb
      clear hb
      go_simp
      refine hK.out _ _ hS (fun _ => ?_)
      clear hK K
      refine wpAnyH_takeD (i := 1) (d := some 38) (v := (.bool true)) rfl rfl (by kernel_rfl) (by kernel_rfl) (by kernel_rfl) (fun _ _ _ h => h) (Or.inl ⟨by rfl, ?_⟩) (by assumption) ?_
      · intro X hX; go_simp
      simp only [Act.put, List.setIfInBounds_toArray, List.set_cons_zero, List.set_cons_succ]
      refine wpAnyH_takeD (i := 2) (d := some 39) (v := (.slice av m cv)) rfl rfl (by kernel_rfl) (by kernel_rfl) (by kernel_rfl) (fun _ _ _ h => h) (Or.inl ⟨by rfl, ?_⟩) (by assumption) ?_
      · intro X hX; go_simp
      simp only [Act.put, List.setIfInBounds_toArray, List.set_cons_zero, List.set_cons_succ]
      refine wpAnyH_takeD (i := 3) (d := some 40) (v := (.int .i64 m)) rfl rfl (by kernel_rfl) (by kernel_rfl) (by kernel_rfl) (fun _ _ _ h => h) (Or.inl ⟨by rfl, ?_⟩) (by assumption) ?_
      · intro X hX; go_simp
      simp only [Act.put, List.setIfInBounds_toArray, List.set_cons_zero, List.set_cons_succ]
      refine wpAnyH_takeD (i := 4) (d := some 41) (v := (.bool true)) rfl rfl (by kernel_rfl) (by kernel_rfl) (by kernel_rfl) (fun _ _ _ h => h) (Or.inl ⟨by rfl, ?_⟩) (by assumption) ?_
      · intro X hX; go_simp
      simp only [Act.put, List.setIfInBounds_toArray, List.set_cons_zero, List.set_cons_succ]
      refine wpAnyH_takeD (i := 5) (d := some 42) (v := (.bool true)) rfl rfl (by kernel_rfl) (by kernel_rfl) (by kernel_rfl) (fun _ _ _ h => h) (Or.inl ⟨by rfl, ?_⟩) (by assumption) ?_
      · intro X hX; go_simp
      simp only [Act.put, List.setIfInBounds_toArray, List.set_cons_zero, List.set_cons_succ]
      refine wpAnyH_takeD (i := 6) (d := some 43) (v := (.bool true)) rfl rfl (by kernel_rfl) (by kernel_rfl) (by kernel_rfl) (fun _ _ _ h => h) (Or.inl ⟨by rfl, ?_⟩) (by assumption) ?_
      · intro X hX; go_simp
      simp only [Act.put, List.setIfInBounds_toArray, List.set_cons_zero, List.set_cons_succ]
      refine wpAnyH_takeD (i := 7) (d := some 44) (v := (.slice av m cv)) rfl rfl (by kernel_rfl) (by kernel_rfl) (by kernel_rfl) (fun _ _ _ h => h) (Or.inl ⟨by rfl, ?_⟩) (by assumption) ?_
      · intro X hX; go_simp
      simp only [Act.put, List.setIfInBounds_toArray, List.set_cons_zero, List.set_cons_succ]
      refine wpAnyH_ready (rs := [8]) (by kernel_rfl) (by simp) ?_
      refine AllReadyH.cons (o := _) rfl (fun K hK => ?_) AllReadyH.nil
      go_simp
      refine (vcanon_ok av m cv l2 _ (EN.out.below hS) CAN2.out HS2.out).mono ?_
      rintro e wq ⟨rfl, hb⟩
      have hS := bl_trans hS hb
      clear hb
      go_simp
      refine hK.out _ _ hS (fun _ => ?_)
      clear hK K
      refine wpAnyH_takeD (i := 9) (d := some 46) (v := (.bool true)) rfl rfl (by kernel_rfl) (by kernel_rfl) (by kernel_rfl) (fun _ _ _ h => h) (Or.inl ⟨by rfl, ?_⟩) (by assumption) ?_
      · intro X hX; go_simp
      simp only [Act.put, List.setIfInBounds_toArray, List.set_cons_zero, List.set_cons_succ]
      refine wpAnyH_takeD (i := 10) (d := some 47) (v := (.bool true)) rfl rfl (by kernel_rfl) (by kernel_rfl) (by kernel_rfl) (fun _ _ _ h => h) (Or.inl ⟨by rfl, ?_⟩) (by assumption) ?_
      · intro X hX; go_simp
      simp only [Act.put, List.setIfInBounds_toArray, List.set_cons_zero, List.set_cons_succ]
      refine wpAnyH_takeD (i := 11) (d := some 48) (v := (.slice av m cv)) rfl rfl (by kernel_rfl) (by kernel_rfl) (by kernel_rfl) (fun _ _ _ h => h) (Or.inl ⟨by rfl, ?_⟩) (by assumption) ?_
      · intro X hX; go_simp
      simp only [Act.put, List.setIfInBounds_toArray, List.set_cons_zero, List.set_cons_succ]
      refine wpAnyH_takeD (i := 13) (d := some 50) (v := (.slice a len cap)) rfl rfl (by kernel_rfl) (by kernel_rfl) (by kernel_rfl) (fun _ _ _ h => h) (Or.inl ⟨by rfl, ?_⟩) (by assumption) ?_
      · intro X hX; go_simp
      simp only [Act.put, List.setIfInBounds_toArray, List.set_cons_zero, List.set_cons_succ]
      refine wpAnyH_takeD (i := 14) (d := some 51) (v := (.int .i64 n)) rfl rfl (by kernel_rfl) (by kernel_rfl) (by kernel_rfl) (fun _ _ _ h => h) (Or.inl ⟨by rfl, ?_⟩) (by assumption) ?_
      · intro X hX; go_simp
      simp only [Act.put, List.setIfInBounds_toArray, List.set_cons_zero, List.set_cons_succ]
      refine wpAnyH_takeD (i := 15) (d := some 52) (v := (.slice a n cap)) rfl rfl (by kernel_rfl) (by kernel_rfl) (by kernel_rfl) (fun _ _ _ h => h) (Or.inl ⟨by rfl, ?_⟩) (by assumption) ?_
      · intro X hX; go_simp
      simp only [Act.put, List.setIfInBounds_toArray, List.set_cons_zero, List.set_cons_succ]
      refine wpAnyH_ready (rs := [12]) (by kernel_rfl) (by simp) ?_
      refine AllReadyH.cons (o := _) rfl (fun K hK => ?_) AllReadyH.nil
      go_simp
      refine (AP.out _ hS).mono ?_
      rintro e wq ⟨a2, c2, rfl, hI, hb⟩
      have hS := bl_trans hS hb
      have I2 := hide hI
      clear hI
      clear hb
      go_simp
      refine hK.out _ _ hS (fun _ => ?_)
      clear hK K
      refine wpAnyH_ready (rs := [16]) (by kernel_rfl) (by simp) ?_
      refine AllReadyH.cons (o := _) rfl (fun K hK => ?_) AllReadyH.nil
      go_simp
      refine (EQ.out _ a2 c2 I2.out (H.out.below (bl_trans B1.out hS))).mono ?_
      rintro e wq ⟨rfl, hb⟩
      have hS := bl_trans hS hb
      clear hb
      go_simp
      refine hK.out _ _ hS (fun _ => ?_)
      clear hK K
      refine wpAnyH_takeD (i := 17) (d := some 54) (v := (.bool true)) rfl rfl (by kernel_rfl) (by kernel_rfl) (by kernel_rfl) (fun _ _ _ h => h) (Or.inl ⟨by rfl, ?_⟩) (by assumption) ?_
      · intro X hX; go_simp
      simp only [Act.put, List.setIfInBounds_toArray, List.set_cons_zero, List.set_cons_succ]
      refine wpAnyH_takeD (i := 18) (d := some 2) (v := (.bool true)) rfl rfl (by kernel_rfl) (by kernel_rfl) (by kernel_rfl) (fun _ _ _ h => h) (Or.inl ⟨by rfl, ?_⟩) (by assumption) ?_
      · intro X hX; go_simp
      simp only [Act.put, List.setIfInBounds_toArray, List.set_cons_zero, List.set_cons_succ]
      refine wpAnyH_done (by kernel_rfl) ?_ _
      have BB := hide (bl_trans B1.out hS)
      clear hS
      go_wp2
      go_ret
      exact ⟨rfl, BB.out⟩
end Go.Proofs.YtbphphmjhcehkaaDoor
