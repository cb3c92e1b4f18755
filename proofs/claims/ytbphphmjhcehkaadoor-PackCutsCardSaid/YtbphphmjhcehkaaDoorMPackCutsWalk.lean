/- The law PackCuts. -/
import Derived.Test.YtbphphmjhcehkaaDoorMG20
import Derived.Test.YtbphphmjhcehkaaDoorMG28
import Derived.Test.YtbphphmjhcehkaaDoorMG30
namespace Go.Proofs.YtbphphmjhcehkaaDoor
open Go Go.RowKit
set_option linter.unusedSimpArgs false

theorem u8_in {x : Int} (h : (Lit.int .u8 x).wf = true) : 0 ≤ x ∧ x ≤ 255 := byte_of_wf h
theorem ints_pre {k : IntKind} {w : World} {a : Option Addr} {len : Nat} {zs : List Int} (h : Ints k w a len zs) (n : Nat) (hn : n ≤ len) : Ints k w a n (zs.take n) where
  length := by rw [List.length_take, h.length]; omega
  most := by have := h.most; omega
  wf := fun z hz => h.wf z (List.mem_of_mem_take hz)
  cells := fun i hi => by
    have e : (zs.take n).getD i 0 = zs.getD i 0 := by simp [List.getD, hi]
    rw [e]
    exact h.cells i (by omega)
theorem cut_run {es : List Ent} (hn : 0 < es.length) (hw : ∀ e ∈ es, EntW e) (hc : CanV es) (hf : FewV es) {m : Nat} (hm : m < (joinB (numsV es)).length) : ∃ at', Run unl ((joinB (numsV es)).take m) St0 (0 : Nat) (.error (5, at')) := by
  have hh := few_hs hf
  have h20 := hf.1
  obtain ⟨o, ho⟩ := run_some unl ((joinB (numsV es)).take m) _ St0 (0 : Nat) (Nat.le_refl _)
  have hwk := canon_walk (lm := unl) (len := ((joinB (numsV es)).length : Int)) (a := 0) hn hw hc (by show (es.length : Int) ≤ 9223372036854775807; omega) (fun e he => by have := hh e he; show (e.hs.length : Int) ≤ 9223372036854775807; omega) (by omega)
  rw [Int.zero_add] at hwk
  obtain ⟨at', e⟩ := run_cut (m := m) (numsV es) [] St0 (numsTo_words hc hw (fun e he => by have := hh e he; omega) (by omega) _ (Nat.le_refl _)) (by simp) (by simpa using hm) (by simpa using hwk) (by simpa using ho)
  rw [e] at ho
  exact ⟨at', ho⟩

set_option maxRecDepth 100000 in
set_option maxHeartbeats 6400000 in
theorem packCuts_walk (a : Option Addr) (len cap : Nat) (l : List EV) (cut : Int) (w : World) (h : EntsAt w a len l) (hcut : (Lit.int .u8 cut).wf = true) (hg : Laid w) :
    Calls Tryd.prog 6 #[.slice a len cap, .int .u8 cut] w fun e w' => e = .returned (.bool true) ∧ Below w.heap.size w w' := by
  have hmx : Tryd.prog.follows .mixedOrders = true := by kernel_rfl
  have HG := hide (fun W (hb : Below w.heap.size w W) => hg.below hb)
  have KR := hide (fun p len cap zs o W (hb : Below w.heap.size w W) h hc hl ha hr => pread_any p len cap zs 0 unl unl_w o W (hg.below hb) h hc hl ha hr)
  have E := hide h
  have hl := h.length
  obtain ⟨hc0, hc1⟩ := u8_in hcut
  clear h hcut hg
  go_enter Tryd.func6, Tryd.ntmps6
  go_wp2_with fail
  refine (few_any a len cap l _ E.out).mono ?_
  rintro e w1 ⟨⟨b, rfl, hF⟩, hb1⟩
  have B1 := hide hb1
  clear hb1
  cases b with
  | false =>
    clear hF
    go_wp2_with fail
    refine (alive_any _ (HG.out _ B1.out)).mono ?_
    rintro e w2 ⟨rfl, b2⟩
    go_wp2
    go_ret
    exact ⟨rfl, bl_trans B1.out b2⟩
  | true =>
    have FEW := hide (hF rfl)
    clear hF
    go_wp2_with fail
    refine (r9canon_any a len cap l _ (E.out.below B1.out)).mono ?_
    rintro e w2 ⟨⟨b, rfl, hF⟩, hb2⟩
    have B2 := hide (bl_trans B1.out hb2)
    clear hb2
    cases b with
    | false =>
      clear hF
      go_wp2_with fail
      refine (alive_any _ (HG.out _ B2.out)).mono ?_
      rintro e w3 ⟨rfl, b3⟩
      go_wp2
      go_ret
      exact ⟨rfl, bl_trans B2.out b3⟩
    | true =>
      have CAN := hide (hF rfl)
      clear hF
      by_cases h0 : len = 0
      · have n0 : ((len : Int) == 0) = true := by simp; omega
        clear h0
        go_wp2_with fail
        refine (alive_any _ (HG.out _ B2.out)).mono ?_
        rintro e w3 ⟨rfl, b3⟩
        go_wp2
        go_ret
        exact ⟨rfl, bl_trans B2.out b3⟩
      · have n0 : ((len : Int) == 0) = false := by simp; omega
        obtain ⟨es, ees⟩ : ∃ es, l.map (·.1) = es := ⟨_, rfl⟩
        rw [ees] at FEW CAN
        have hles : es.length = len := by rw [← ees, List.length_map, hl]
        have hnum := few_nums FEW.out
        have hhs := few_hs FEW.out
        have hwd : ∀ e ∈ es, EntW e := fun e he => by
          rw [← ees] at he
          obtain ⟨p, hp, rfl⟩ := List.mem_map.1 he
          exact E.out.words p hp
        have KB := hide (fun W (hb : Below w.heap.size w W) => rbytesV_any a len cap l es W (E.out.below hb) ees CAN.out (fun e he => by have := hhs e he; omega) (by omega))
        have CR := hide (fun m hm => cut_run (es := es) (m := m) (by omega) hwd CAN.out FEW.out hm)
        have hL1 := joinB_most (numsV es)
        have hL0 := joinB_least (numsV es)
        have hL00 : 0 < (numsV es).length := by
          have : ∀ k, 0 < (numsTo es k).length := fun k => by
            induction k with
            | zero => simp [numsTo]
            | succ k ih => rw [show numsTo es (k + 1) = numsTo es k ++ numE (repN es k) (es.getD k Ent.z) from rfl, List.length_append]; omega
          exact this es.length
        obtain ⟨J, eJ⟩ : ∃ J, joinB (numsV es) = J := ⟨_, rfl⟩
        rw [eJ] at KB CR hL1 hL0
        obtain ⟨L, eL⟩ : ∃ L, J.length = L := ⟨_, rfl⟩
        rw [eL] at hL1 hL0 CR
        have EL := hide eL
        have q1 : IntKind.i64.wrap cut = cut := by rw [IntKind.wrap_i64]; omega
        have q3 : ¬ ((L : Int) = 0) := by omega
        have q3' : ((L : Int) == 0) = false := by simp; omega
        have q3n : ¬ L = 0 := by omega
        obtain ⟨m, em⟩ : ∃ m : Nat, cut % (L : Int) = m := ⟨(cut % (L : Int)).toNat, by have := Int.emod_nonneg cut q3; omega⟩
        have hm : m < L := by have := Int.emod_lt_of_pos cut (show (0 : Int) < (L : Int) by omega); omega
        have q4 : cut.tmod (L : Int) = m := by rw [← em]; exact Int.tmod_eq_emod_of_nonneg hc0
        have q5 : IntKind.i64.wrap (m : Int) = m := by rw [IntKind.wrap_i64]; omega
        have q6 : ¬ (m : Int) < 0 := by omega
        have q7 : (m : Int) ≤ (L : Int) := by omega
        obtain ⟨at1, hrun⟩ := CR.out m hm
        have RUN := hide hrun
        have hLm : L ≤ 20000 := by omega
        clear h0 hles hnum hhs hwd CR hL1 hL0 hL00 eJ eL em ees hrun hl
        go_wp2_with fail
        refine (KB.out _ B2.out).mono ?_
        rintro e w3 ⟨v3, rfl, hO, hb3⟩
        obtain ⟨a3, c3, rfl, hI, hc3⟩ := hO.ints (by rw [EL.out]; omega)
        rw [EL.out] at hI hc3 ⊢
        have I3 := hide hI
        have B3 := hide (bl_trans B2.out hb3)
        have q8 : (m : Int) ≤ (c3 : Int) := by omega
        have KR := hide (fun W (hb : Below w3.heap.size w3 W) => KR.out a3 m c3 (J.take m) (.error (5, at1)) W (bl_trans B3.out hb) ((ints_pre I3.out m (by omega)).below hb) (by omega) (by omega) (by omega) RUN.out)
        clear hO hI hb3
        go_wp2_with fail
        refine wp_region_held_drew (S := Below w3.heap.size w3) hmx (bl_drew (Below.refl _ _)) (fun hS => ?_)
        refine wpAnyH_takeD (i := 0) (d := some 26) (v := (.slice a3 L c3)) rfl rfl (by kernel_rfl) (by kernel_rfl) (by kernel_rfl) (fun _ _ _ h => h) (Or.inl ⟨by rfl, ?_⟩) (by assumption) ?_
        · intro X hX; go_simp
        simp only [Act.put, List.setIfInBounds_toArray, List.set_cons_zero, List.set_cons_succ]
        refine wpAnyH_takeD (i := 1) (d := some 27) (v := (.int .u8 cut)) rfl rfl (by kernel_rfl) (by kernel_rfl) (by kernel_rfl) (fun _ _ _ h => h) (Or.inl ⟨by rfl, ?_⟩) (by assumption) ?_
        · intro X hX; go_simp
        simp only [Act.put, List.setIfInBounds_toArray, List.set_cons_zero, List.set_cons_succ]
        refine wpAnyH_takeD (i := 2) (d := some 28) (v := (.int .i64 cut)) rfl rfl (by kernel_rfl) (by kernel_rfl) (by kernel_rfl) (fun _ _ _ h => h) (Or.inl ⟨by rfl, ?_⟩) (by assumption) ?_
        · intro X hX; go_simp
        simp only [Act.put, List.setIfInBounds_toArray, List.set_cons_zero, List.set_cons_succ]
        refine wpAnyH_takeD (i := 3) (d := some 29) (v := (.slice a3 L c3)) rfl rfl (by kernel_rfl) (by kernel_rfl) (by kernel_rfl) (fun _ _ _ h => h) (Or.inl ⟨by rfl, ?_⟩) (by assumption) ?_
        · intro X hX; go_simp
        simp only [Act.put, List.setIfInBounds_toArray, List.set_cons_zero, List.set_cons_succ]
        refine wpAnyH_takeD (i := 4) (d := some 30) (v := (.int .i64 L)) rfl rfl (by kernel_rfl) (by kernel_rfl) (by kernel_rfl) (fun _ _ _ h => h) (Or.inl ⟨by rfl, ?_⟩) (by assumption) ?_
        · intro X hX; go_simp
        simp only [Act.put, List.setIfInBounds_toArray, List.set_cons_zero, List.set_cons_succ]
        refine wpAnyH_takeD (i := 5) (d := some 31) (v := (.int .i64 m)) rfl rfl (by kernel_rfl) (by kernel_rfl) (by kernel_rfl) (fun _ _ _ h => h) (Or.inl ⟨by rfl, ?_⟩) (by assumption) ?_
        · intro X hX; go_simp
        simp only [Act.put, List.setIfInBounds_toArray, List.set_cons_zero, List.set_cons_succ]
        refine wpAnyH_takeD (i := 6) (d := some 32) (v := (.slice a3 m c3)) rfl rfl (by kernel_rfl) (by kernel_rfl) (by kernel_rfl) (fun _ _ _ h => h) (Or.inl ⟨by rfl, ?_⟩) (by assumption) ?_
        · intro X hX; go_simp
        simp only [Act.put, List.setIfInBounds_toArray, List.set_cons_zero, List.set_cons_succ]
        refine wpAnyH_ready (rs := [7]) (by kernel_rfl) (by simp) ?_
        refine AllReadyH.cons (o := _) rfl (fun K hK => ?_) AllReadyH.nil
        go_simp
        refine (unlimited_any _).mono ?_
        rintro e wq ⟨rfl, hb⟩
        have hS := bl_trans hS hb
        clear hb
        go_simp
        refine hK.out _ _ hS (fun _ => ?_)
        clear hK K
        refine wpAnyH_ready (rs := [8]) (by kernel_rfl) (by simp) ?_
        refine AllReadyH.cons (o := _) rfl (fun K hK => ?_) AllReadyH.nil
        go_simp
        refine (KR.out _ hS).mono ?_
        rintro e wq ⟨hb, rfl⟩
        have hS := bl_trans hS hb
        clear hb
        go_simp
        refine hK.out _ _ hS (fun _ => ?_)
        clear hK K
        refine wpAnyH_takeD (i := 9) (d := some 25) (v := (.tuple #[.slice none 0 0, .int .i64 0, .iface 85 (.agg #[.int .i64 5, .int .i64 at1])])) rfl rfl (by kernel_rfl) (by kernel_rfl) (by kernel_rfl) (fun _ _ _ h => h) (Or.inl ⟨by rfl, ?_⟩) (by assumption) ?_
        · intro X hX; go_simp
        simp only [Act.put, List.setIfInBounds_toArray, List.set_cons_zero, List.set_cons_succ]
        refine wpAnyH_takeD (i := 10) (d := some 35) (v := (.slice none 0 0)) rfl rfl (by kernel_rfl) (by kernel_rfl) (by kernel_rfl) (fun _ _ _ h => h) (Or.inl ⟨by rfl, ?_⟩) (by assumption) ?_
        · intro X hX; go_simp
        simp only [Act.put, List.setIfInBounds_toArray, List.set_cons_zero, List.set_cons_succ]
        refine wpAnyH_takeD (i := 11) (d := some 36) (v := (.int .i64 0)) rfl rfl (by kernel_rfl) (by kernel_rfl) (by kernel_rfl) (fun _ _ _ h => h) (Or.inl ⟨by rfl, ?_⟩) (by assumption) ?_
        · intro X hX; go_simp
        simp only [Act.put, List.setIfInBounds_toArray, List.set_cons_zero, List.set_cons_succ]
        refine wpAnyH_takeD (i := 12) (d := some 37) (v := (.iface 85 (.agg #[.int .i64 5, .int .i64 at1]))) rfl rfl (by kernel_rfl) (by kernel_rfl) (by kernel_rfl) (fun _ _ _ h => h) (Or.inl ⟨by rfl, ?_⟩) (by assumption) ?_
        · intro X hX; go_simp
        simp only [Act.put, List.setIfInBounds_toArray, List.set_cons_zero, List.set_cons_succ]
        refine wpAnyH_takeD (i := 13) (d := some 6) (v := (.slice none 0 0)) rfl rfl (by kernel_rfl) (by kernel_rfl) (by kernel_rfl) (fun _ _ _ h => h) (Or.inl ⟨by rfl, ?_⟩) (by assumption) ?_
        · intro X hX; go_simp
        simp only [Act.put, List.setIfInBounds_toArray, List.set_cons_zero, List.set_cons_succ]
        refine wpAnyH_takeD (i := 14) (d := some 7) (v := (.int .i64 0)) rfl rfl (by kernel_rfl) (by kernel_rfl) (by kernel_rfl) (fun _ _ _ h => h) (Or.inl ⟨by rfl, ?_⟩) (by assumption) ?_
        · intro X hX; go_simp
        simp only [Act.put, List.setIfInBounds_toArray, List.set_cons_zero, List.set_cons_succ]
        refine wpAnyH_takeD (i := 15) (d := some 8) (v := (.iface 85 (.agg #[.int .i64 5, .int .i64 at1]))) rfl rfl (by kernel_rfl) (by kernel_rfl) (by kernel_rfl) (fun _ _ _ h => h) (Or.inl ⟨by rfl, ?_⟩) (by assumption) ?_
        · intro X hX; go_simp
        simp only [Act.put, List.setIfInBounds_toArray, List.set_cons_zero, List.set_cons_succ]
        refine wpAnyH_done (by kernel_rfl) ?_ _
        have B4 := hide (bl_trans B3.out hS)
        clear hS
        go_wp2_with fail
        refine (alive_any _ (HG.out _ B4.out)).mono ?_
        rintro e w5 ⟨rfl, b5⟩
        have B5 := hide (bl_trans B4.out b5)
        clear b5
        go_wp2_with fail
        refine (code_F 5 at1 _ (HG.out _ B5.out)).mono ?_
        rintro e w6 ⟨rfl, b6⟩
        have B6 := hide (bl_trans B5.out b6)
        clear b6
        go_wp2
        go_ret
        exact ⟨rfl, B6.out⟩
end Go.Proofs.YtbphphmjhcehkaaDoor
