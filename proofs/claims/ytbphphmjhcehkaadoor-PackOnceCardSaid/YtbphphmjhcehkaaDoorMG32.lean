/- Package span over intervals that are apart, package ranges over a correct list: no error. -/
import Derived.Test.YtbphphmjhcehkaaDoorMG17
import Derived.Test.YtbphphmjhcehkaaDoorMG3
import Derived.Test.YtbphphmjhcehkaaDoorMG12
namespace Go.Proofs.YtbphphmjhcehkaaDoor
open Go.RowKit
set_option linter.unusedSimpArgs false

theorem spcheck_ok (lo hi : Int) (h : lo ≤ hi) (w : World) :
    Calls Tryd.prog 91 #[.agg #[.int .u64 lo, .int .u64 hi]] w fun e w' => e = .returned .nilIface ∧ Below w.heap.size w w' := by
  go_enter Tryd.func91, Tryd.ntmps91
  go_wp2
  go_ret
  exact ⟨rfl, bl_alloc (Below.refl _ _) _⟩
set_option maxHeartbeats 800000 in
theorem relate_0 (al ah bl bh : Int) (h1 : Word al) (h2 : Word ah) (h3 : Word bl) (h4 : Word bh) (ha : al ≤ ah) (hb : bl ≤ bh) (hg : ah + 1 < bl) (w : World) :
    Calls Tryd.prog 92 #[.agg #[.int .u64 al, .int .u64 ah], .agg #[.int .u64 bl, .int .u64 bh]] w fun e w' => e = .returned (.int .i64 0) ∧ Below w.heap.size w w' := by
  have K1 := hide (fun W => between_lt ah bl h2 h3 (by omega) W)
  have K2 := hide (fun W => between_ge bh al h4 h1 (by omega) W)
  have g1 : 0 < bl - ah - 1 := by omega
  clear h1 h2 h3 h4 ha hb hg
  go_enter Tryd.func92, Tryd.ntmps92
  go_wp2_with fail
  refine (K1.out _).mono ?_
  rintro e w1 ⟨rfl, rfl⟩
  go_wp2_with fail
  refine (K2.out _).mono ?_
  rintro e w2 ⟨rfl, rfl⟩
  go_wp2
  go_ret
  exact ⟨rfl, bl_alloc (bl_alloc (Below.refl _ _) _) _⟩
/-- Two intervals in memory. -/
structure Two2 (W0 : World) (b o q : Nat) (plo phi lo hi : Int) (W : World) : Prop where
  a0 : W.cell? ⟨b, o, none⟩ = some (.int .u64 plo)
  a1 : W.cell? ⟨b, o + 1, none⟩ = some (.int .u64 phi)
  b0 : W.cell? ⟨q, 0, none⟩ = some (.int .u64 lo)
  b1 : W.cell? ⟨q, 1, none⟩ = some (.int .u64 hi)
  bl : Below W0.heap.size W0 W
theorem kc {X Y : World} {b i : Nat} {v : Value} (hb : Below X.heap.size X Y) (hc : X.cell? ⟨b, i, none⟩ = some v) : Y.cell? ⟨b, i, none⟩ = some v := keep_cell hb (block_lt_of_cell hc) hc
theorem Two2.below {W0 W W' : World} {b o q : Nat} {plo phi lo hi : Int} (h : Two2 W0 b o q plo phi lo hi W) (hb : Below W.heap.size W W') : Two2 W0 b o q plo phi lo hi W' :=
  ⟨kc hb h.a0, kc hb h.a1, kc hb h.b0, kc hb h.b1, bl_trans h.bl hb⟩
theorem Two2.drew {W0 W : World} {b o q : Nat} {plo phi lo hi : Int} (h : Two2 W0 b o q plo phi lo hi W) : Two2 W0 b o q plo phi lo hi W.drew := h.below (bl_drew (Below.refl _ _))
set_option maxRecDepth 100000 in
set_option maxHeartbeats 3200000 in
theorem rgcheck_ok (a : Option Addr) (len cap : Nat) (zs : List Iv) (w : World) (h : Prs w a len zs) (hC : Cor zs) :
    Calls Tryd.prog 84 #[.slice a len cap] w fun e w' => e = .returned .nilIface ∧ Below w.heap.size w w' := by
  have hmx : Tryd.prog.follows .mixedOrders = true := by kernel_rfl
  have hm := h.most
  have hl := hide h.length
  have H := hide h
  have HC := hide hC
  clear h hC
  go_enter Tryd.func84, Tryd.ntmps84
  go_wp2
  go_loopw [8] (fun c wr => ∃ k : Nat, k ≤ len ∧ c = .int .i64 k ∧ Below w.heap.size w wr) (fun c _ => len - (intOf c).toNat)
  case atStart => exact ⟨0, Nat.zero_le _, rfl, Below.refl _ _⟩
  case round =>
    obtain ⟨k, hk, rfl, hb⟩ := hrel
    have HB := hide hb
    have i0 : (0 : Int) ≤ (k : Int) := by omega
    by_cases hlt : k < len
    · obtain ⟨b, off, rfl, hbl, hc1, hc2⟩ := (H.out.below hb).cells k hlt
      have hw := H.out.word hlt
      have hk' := HC.out k (by rw [hl.out]; exact hlt)
      have i1 : (k : Int) < (len : Int) := by omega
      by_cases hk0 : k = 0
      · obtain ⟨lo, elo⟩ : ∃ lo, Lo zs k = lo := ⟨_, rfl⟩
        obtain ⟨hi, ehi⟩ : ∃ hi, Hi zs k = hi := ⟨_, rfl⟩
        rw [elo] at hc1 hk'
        rw [ehi] at hc2 hk'
        have KC := hide (fun W => spcheck_ok lo hi hk'.1 W)
        have n0 : ¬ (0 : Int) < (k : Int) := by omega
        have n1 : decide ((0 : Int) < (k : Int)) = false := decide_eq_false n0
        have n2 : decide (0 < k) = false := decide_eq_false (by omega)
        clear elo ehi hk0 hw hk' hb
        go_wp2_with fail
        refine (KC.out _).mono ?_
        rintro e w1 ⟨rfl, hb1⟩
        have B1 := hide (bl_trans (bl_alloc HB.out _) hb1)
        clear hb1
        go_wp2_with fail
        go_quiet (fail)
        go_wp2
        go_roundw
        case rel => exact ⟨k + 1, by omega, by go_num, bl_drewN B1.out _⟩
        case measure => simp [intOf]; omega
      · obtain ⟨b2, off2, eb, _, d0, d1⟩ := (H.out.below hb).cells (k - 1) (by omega)
        obtain ⟨rfl, rfl⟩ : b = b2 ∧ off = off2 := by simpa using eb
        have hwp := H.out.word (i := k - 1) (by omega)
        have hkp := HC.out (k - 1) (by rw [hl.out]; omega)
        have hgap := hk'.2 (by omega)
        have KR := fun W => relate_0 (Lo zs (k - 1)) (Hi zs (k - 1)) (Lo zs k) (Hi zs k) hwp.1 hwp.2 hw.1 hw.2 hkp.1 hk'.1 hgap W
        have KC := fun W => spcheck_ok (Lo zs k) (Hi zs k) hk'.1 W
        obtain ⟨lo, elo⟩ : ∃ lo, Lo zs k = lo := ⟨_, rfl⟩
        obtain ⟨hi, ehi⟩ : ∃ hi, Hi zs k = hi := ⟨_, rfl⟩
        obtain ⟨plo, eplo⟩ : ∃ lo, Lo zs (k - 1) = lo := ⟨_, rfl⟩
        obtain ⟨phi, ephi⟩ : ∃ hi, Hi zs (k - 1) = hi := ⟨_, rfl⟩
        rw [elo] at hc1 KR KC
        rw [ehi] at hc2 KR KC
        rw [eplo] at d0 KR
        rw [ephi] at d1 KR
        have HR := hide KR
        have KC := hide KC
        have n0 : (0 : Int) < (k : Int) := by omega
        have n1 : (0 : Int) ≤ (k : Int) - 1 := by omega
        have n2 : (k : Int) - 1 < (len : Int) := by omega
        have n3 : IntKind.i64.wrap ((k : Int) - 1) = (k : Int) - 1 := IntWalk.i64_in _ (by omega)
        have n4 : ((k : Int) - 1).toNat = k - 1 := by omega
        have n5 : 0 < k := by omega
        have n6 : 1 ≤ k := by omega
        have n7 : (1 : Int) ≤ (k : Int) := by omega
        have hbs : b ≠ wr.heap.size := by omega
        clear eb elo ehi eplo ephi hk0 hw hk' hwp hkp hgap KR hb
        go_wp2_with fail
        refine (KC.out _).mono ?_
        rintro e w1 ⟨rfl, hb1⟩
        have hb01 := bl_trans (bl_alloc (Below.refl wr.heap.size wr) (.cells #[.int .u64 lo, .int .u64 hi] 68)) hb1
        have TT := hide (Two2.mk (W0 := wr) (kc hb01 d0) (kc hb01 d1) (kc hb1 (show (wr.alloc (.cells #[.int .u64 lo, .int .u64 hi] 68)).cell? ⟨wr.heap.size, 0, none⟩ = some (.int .u64 lo) by simp)) (kc hb1 (show (wr.alloc (.cells #[.int .u64 lo, .int .u64 hi] 68)).cell? ⟨wr.heap.size, 1, none⟩ = some (.int .u64 hi) by simp)) hb01)
        clear hb1 hb01 d0 d1 hc1 hc2
        go_wp2_with fail
        refine wp_region_held_drew (S := Two2 wr b (off + (k - 1) * 2) wr.heap.size plo phi lo hi) hmx TT.out.drew (fun hS => ?_)
        refine wpAnyH_takeD (i := 0) (d := some 21) (v := (.int .i64 k)) rfl rfl (by kernel_rfl) (by kernel_rfl) (by kernel_rfl) (fun _ _ _ h => h) (Or.inl ⟨by rfl, ?_⟩) (by assumption) ?_
        · intro X hX; go_simp
        simp only [Act.put, List.setIfInBounds_toArray, List.set_cons_zero, List.set_cons_succ]
        refine wpAnyH_takeD (i := 1) (d := some 22) (v := (.bool true)) rfl rfl (by kernel_rfl) (by kernel_rfl) (by kernel_rfl) (fun _ _ _ h => h) (Or.inl ⟨by rfl, ?_⟩) (by assumption) ?_
        · intro X hX; go_simp
        simp only [Act.put, List.setIfInBounds_toArray, List.set_cons_zero, List.set_cons_succ]
        refine wpAnyH_takeD (i := 2) (d := some 23) (v := (.bool true)) rfl rfl (by kernel_rfl) (by kernel_rfl) (by kernel_rfl) (fun _ _ _ h => h) (Or.inl ⟨by rfl, ?_⟩) (by assumption) ?_
        · intro X hX; go_simp
        simp only [Act.put, List.setIfInBounds_toArray, List.set_cons_zero, List.set_cons_succ]
        refine wpAnyH_takeD (i := 3) (d := some 24) (v := (.slice (some ⟨b, off, none⟩) len cap)) rfl rfl (by kernel_rfl) (by kernel_rfl) (by kernel_rfl) (fun _ _ _ h => h) (Or.inl ⟨by rfl, ?_⟩) (by assumption) ?_
        · intro X hX; go_simp
        simp only [Act.put, List.setIfInBounds_toArray, List.set_cons_zero, List.set_cons_succ]
        refine wpAnyH_takeD (i := 4) (d := some 25) (v := (.int .i64 k)) rfl rfl (by kernel_rfl) (by kernel_rfl) (by kernel_rfl) (fun _ _ _ h => h) (Or.inl ⟨by rfl, ?_⟩) (by assumption) ?_
        · intro X hX; go_simp
        simp only [Act.put, List.setIfInBounds_toArray, List.set_cons_zero, List.set_cons_succ]
        refine wpAnyH_takeD (i := 5) (d := some 26) (v := (.int .i64 ((k : Int) - 1))) rfl rfl (by kernel_rfl) (by kernel_rfl) (by kernel_rfl) (fun _ _ _ h => h) (Or.inl ⟨by rfl, ?_⟩) (by assumption) ?_
        · intro X hX; go_simp
        simp only [Act.put, List.setIfInBounds_toArray, List.set_cons_zero, List.set_cons_succ]
        refine wpAnyH_takeD (i := 6) (d := some 27) (v := (.pointer (some ⟨b, off + (k - 1) * 2, none⟩))) rfl rfl (by kernel_rfl) (by kernel_rfl) (by kernel_rfl) (fun _ _ _ h => h) (Or.inl ⟨by rfl, ?_⟩) (by assumption) ?_
        · intro X hX; go_simp
        simp only [Act.put, List.setIfInBounds_toArray, List.set_cons_zero, List.set_cons_succ]
        refine wpAnyH_takeD (i := 7) (d := some 28) (v := (.agg #[.int .u64 plo, .int .u64 phi])) rfl rfl (by kernel_rfl) (by kernel_rfl) (by kernel_rfl) (fun _ _ _ h => h) (Or.inl ⟨by rfl, ?_⟩) (by assumption) ?_
        · intro X hX; obtain ⟨x0, x1, x2, x3, x4⟩ := hX; go_simp
        simp only [Act.put, List.setIfInBounds_toArray, List.set_cons_zero, List.set_cons_succ]
        refine wpAnyH_takeD (i := 8) (d := some 29) (v := (.agg #[.int .u64 lo, .int .u64 hi])) rfl rfl (by kernel_rfl) (by kernel_rfl) (by kernel_rfl) (fun _ _ _ h => h) (Or.inl ⟨by rfl, ?_⟩) (by assumption) ?_
        · intro X hX; obtain ⟨x0, x1, x2, x3, x4⟩ := hX; go_simp
        simp only [Act.put, List.setIfInBounds_toArray, List.set_cons_zero, List.set_cons_succ]
        refine wpAnyH_ready (rs := [9]) (by kernel_rfl) (by simp) ?_
        refine AllReadyH.cons (o := _) rfl (fun K hK => ?_) AllReadyH.nil
        go_simp
        refine (HR.out _).mono ?_
        rintro e wq ⟨rfl, hb⟩
        have hS := hS.below hb
        clear hb
        go_simp
        refine hK.out _ _ hS (fun _ => ?_)
        clear hK K
        refine wpAnyH_takeD (i := 10) (d := some 31) (v := (.bool false)) rfl rfl (by kernel_rfl) (by kernel_rfl) (by kernel_rfl) (fun _ _ _ h => h) (Or.inl ⟨by rfl, ?_⟩) (by assumption) ?_
        · intro X hX; go_simp
        simp only [Act.put, List.setIfInBounds_toArray, List.set_cons_zero, List.set_cons_succ]
        refine wpAnyH_takeD (i := 11) (d := some 32) (v := (.bool false)) rfl rfl (by kernel_rfl) (by kernel_rfl) (by kernel_rfl) (fun _ _ _ h => h) (Or.inl ⟨by rfl, ?_⟩) (by assumption) ?_
        · intro X hX; go_simp
        simp only [Act.put, List.setIfInBounds_toArray, List.set_cons_zero, List.set_cons_succ]
        refine wpAnyH_done (by kernel_rfl) ?_ _
        have BB := hide (bl_trans HB.out hS.bl)
        clear hS
        go_wp2
        go_roundw
        case rel => exact ⟨k + 1, by omega, by go_num, BB.out⟩
        case measure => simp [intOf]; omega
    · obtain rfl : k = len := by omega
      go_wp2
      go_ret
      exact ⟨rfl, HB.out⟩
end Go.Proofs.YtbphphmjhcehkaaDoor
