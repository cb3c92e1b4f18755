/- The contract of measure.Count: how many numbers are in a list. -/
import Derived.Test.YtccaeocnecfmaaaRanks
import Derived.Shelf.Abstract
import Derived.Stop.RegionWithIn
import Derived.RegionIn
namespace Go.Proofs.Ytccaeocnecfmaaa
open Go.RowKit
attribute [local go_sem] Oper.semAt_some

theorem ranks_any (a : Option Addr) (len cap : Nat) (w : World) :
    Calls Try.prog 28 #[.slice a len cap] w fun e w' => e = .returned (.func (.func 36) #[] #[.pointer (some ⟨w.heap.size, 0, none⟩)]) ∧ w' = w.alloc (.cells #[.slice a len cap] 23) := by
  go_enter Try.func28, Try.ntmps28
  go_wp2
  go_ret
  exact ⟨rfl, rfl⟩

set_option maxRecDepth 100000 in
set_option maxHeartbeats 2000000 in
theorem count_any (a : Option Addr) (len cap : Nat) (zs : List Iv) (w : World) (h : Prs w a len zs) :
    Calls Try.prog 12 #[.slice a len cap] w fun e w' => e = .returned (.agg #[.int .u64 (hi64 (cntTo zs len)), .int .u64 (lo64 (cntTo zs len))]) ∧ Below w.heap.size w w' := by
  have H := hide h
  clear h
  refine (callsIn_wide (n := 6)).1 ?_
  refine callsIn_of_wp_marks Try.func12 rfl trivial ?_ rfl
  simp only [Try.ntmps12, List.size_toArray, List.length_cons, List.length_nil, Nat.reduceAdd, Nat.reduceSub, Array.replicate_succ, Array.replicate_zero, List.push_toArray, List.append_toArray, List.nil_append, List.cons_append]
  gi_wp2_with (refine ⟨trivial, ?_⟩; gi_at_call 28; refine (callsIn_wide.2 (ranks_any a len cap _)).mono ?_; rintro e w' ⟨rfl, rfl⟩)
  have hB : (((w.alloc (.cells #[.int .u64 0, .int .u64 0] 30)).alloc (.cells #[.int .u64 0, .int .u64 0] 30)).alloc (.cells #[.slice a len cap] 23)).heap.size = w.heap.size + 3 := by simp
  have bel : Below w.heap.size w (((w.alloc (.cells #[.int .u64 0, .int .u64 0] 30)).alloc (.cells #[.int .u64 0, .int .u64 0] 30)).alloc (.cells #[.slice a len cap] 23)) := bl_alloc (bl_alloc (bl_alloc (Below.refl _ _) _) _) _
  have p0 : (((w.alloc (.cells #[.int .u64 0, .int .u64 0] 30)).alloc (.cells #[.int .u64 0, .int .u64 0] 30)).alloc (.cells #[.slice a len cap] 23)).heap[w.heap.size]? = some (.cells #[.int .u64 0, .int .u64 0] 30 (0, 0)) := heap_old_at _ _ (by simp; omega) (heap_old_at _ _ (by simp) (heap_new_at _ _ rfl))
  have p1 : (((w.alloc (.cells #[.int .u64 0, .int .u64 0] 30)).alloc (.cells #[.int .u64 0, .int .u64 0] 30)).alloc (.cells #[.slice a len cap] 23)).heap[w.heap.size + 1]? = some (.cells #[.int .u64 0, .int .u64 0] 30 (0, 0)) := heap_old_at _ _ (by simp) (heap_new_at _ _ (by simp))
  have p2 : (((w.alloc (.cells #[.int .u64 0, .int .u64 0] 30)).alloc (.cells #[.int .u64 0, .int .u64 0] 30)).alloc (.cells #[.slice a len cap] 23)).heap[w.heap.size + 2]? = some (.cells #[.slice a len cap] 23 (0, 0)) := heap_new_at _ _ (by simp)
  obtain ⟨V, hV⟩ : ∃ V, (((w.alloc (.cells #[.int .u64 0, .int .u64 0] 30)).alloc (.cells #[.int .u64 0, .int .u64 0] 30)).alloc (.cells #[.slice a len cap] 23)) = V := ⟨_, rfl⟩
  rw [hV] at hB bel p0 p1 p2 ⊢
  clear hV
  have HV := hide (H.out.below bel)
  refine wpIn_rangeFunc_box (gf := 36) (lb := #[.pointer (some ⟨w.heap.size + 2, 0, none⟩)]) rfl (by omega) rfl trivial (enters_of Try.func36 (by kernel_rfl) rfl)
    (ranks1_box _ (by omega) (w.heap.size + 2) a len cap zs V (fun b => b = w.heap.size + 1) (by simp [World.cell?, p2]) (by omega) HV.out ?hMb ?hMk) (Below.refl _ _) (fun _ => rfl) ?hM
    (fun k W => W.heap[w.heap.size]? = some (.cells #[.int .u64 0, .int .u64 0] 30 (0, 0)) ∧ W.heap[w.heap.size + 1]? = some (.cells #[.int .u64 (hi64 (cntTo zs k)), .int .u64 (lo64 (cntTo zs k))] 30 (0, 0)) ∧ Below w.heap.size w W)
    (fun _ _ _ => False) ?hI (fun _ _ _ _ h _ => h) ⟨p0, p1, bel⟩
    (fun k a₁ W => ∃ Bn Bs, V.heap.size + 3 ≤ Bn ∧ V.heap.size + 3 ≤ Bs ∧ W.heap[Bn]? = some (.cells #[.int .u64 (hi64 (cntTo zs k)), .int .u64 (lo64 (cntTo zs k))] 30 (0, 0)) ∧ W.heap[Bs]? = some (.cells #[.int .u64 (Lo zs k), .int .u64 (Hi zs k)] 39 (0, 0)) ∧
      W.heap[w.heap.size]? = some (.cells #[.int .u64 0, .int .u64 0] 30 (0, 0)) ∧ W.heap[w.heap.size + 1]? = some (.cells #[.int .u64 (hi64 (cntTo zs k)), .int .u64 (lo64 (cntTo zs k))] 30 (0, 0)) ∧ Below w.heap.size w W ∧
      a₁ = { tmps := #[.slice a len cap, undef, .pointer (some ⟨w.heap.size, 0, none⟩), .pointer (some ⟨w.heap.size + 1, 0, none⟩), .pointer (some ⟨Bn, 0, none⟩), .pointer (some ⟨Bs, 0, none⟩), .slice a len cap, .func (.func 36) #[] #[.pointer (some ⟨w.heap.size + 2, 0, none⟩)],
        .agg #[.int .u64 (hi64 (cntTo zs k)), .int .u64 (lo64 (cntTo zs k))], .agg #[.int .u64 (Lo zs k), .int .u64 (Hi zs k)], undef, undef, undef, undef, undef, undef, undef, undef], defers := [] })
    ?hAx ?assign ?body ?done (fun _ _ _ _ _ _ h _ => h.elim)
  case hMb =>
    rintro hl b off rfl h
    obtain ⟨b', off', e, hb, _⟩ := H.out.cells 0 hl
    simp only [Option.some.injEq, Addr.mk.injEq] at e
    omega
  case hMk => intro k hk; omega
  case hM => intro k hk; omega
  case hI =>
    rintro k A B ⟨h1, h2, h3⟩ ho
    exact ⟨ho.obj (fun h => by omega) h1, ho.obj (fun h => by omega) h2, h3.trans (ho.below (n := w.heap.size) h3.size (fun k hk => by omega))⟩
  case hAx =>
    rintro k a₁ A B ⟨Bn, Bs, g1, g2, c1, c2, c3, c4, c5, e⟩ ho
    exact ⟨Bn, Bs, g1, g2, ho.obj (fun h => by omega) c1, ho.obj (fun h => by omega) c2, ho.obj (fun h => by omega) c3, ho.obj (fun h => by omega) c4, c5.trans (ho.below (n := w.heap.size) c5.size (fun k hk => by omega)), e⟩
  case assign =>
    rintro l k W hlt ⟨h1, h2, h3⟩ hk
    simp only [encR]
    gi_wp2
    have k0 := Blk_lt h1
    have k1 := Blk_lt h2
    exact ⟨((Only.refl _ _).alloc _).alloc _, W.heap.size, W.heap.size + 1, hlt, by omega, heap_old_at _ _ (by simp) (heap_new_at _ _ rfl), heap_new_at _ _ (by simp), heap_old_at _ _ (by simp; omega) (heap_old_at _ _ k0 h1), heap_old_at _ _ (by simp; omega) (heap_old_at _ _ k1 h2), bl_alloc (bl_alloc h3 _) _, rfl⟩
  case body =>
    rintro l k a₁ W hlt ⟨Bn, Bs, g1, g2, c1, c2, c3, c4, c5, rfl⟩ hk
    obtain ⟨ch, ech⟩ : ∃ x, x = hi64 (cntTo zs k) := ⟨_, rfl⟩
    obtain ⟨cl, ecl⟩ : ∃ x, x = lo64 (cntTo zs k) := ⟨_, rfl⟩
    obtain ⟨lo, elo⟩ : ∃ x, x = Lo zs k := ⟨_, rfl⟩
    obtain ⟨hi, ehi⟩ : ∃ x, x = Hi zs k := ⟨_, rfl⟩
    rw [← ech, ← ecl] at c1 c4 ⊢
    rw [← elo, ← ehi] at c2 ⊢
    have hw := HV.out.word hk
    rw [← elo, ← ehi] at hw
    have n0 : W.cell? ⟨Bn, 0, none⟩ = some (.int .u64 ch) := by simp [World.cell?, c1]
    have n1 : W.cell? ⟨Bn, 1, none⟩ = some (.int .u64 cl) := by simp [World.cell?, c1]
    have t0 : W.cell? ⟨Bs, 0, none⟩ = some (.int .u64 lo) := by simp [World.cell?, c2]
    have t1 : W.cell? ⟨Bs, 1, none⟩ = some (.int .u64 hi) := by simp [World.cell?, c2]
    have f0 : W.frozen? ⟨w.heap.size + 1, 0, none⟩ = false := frozen_of_row W _ 0 _ _ c4
    have f1 : W.frozen? ⟨w.heap.size + 1, 1, none⟩ = false := frozen_of_row W _ 1 _ _ c4
    have u0 : W.cell? ⟨w.heap.size + 1, 0, none⟩ = some (.int .u64 ch) := by simp [World.cell?, c4]
    have u1 : W.cell? ⟨w.heap.size + 1, 1, none⟩ = some (.int .u64 cl) := by simp [World.cell?, c4]
    have qn := Blk_lt c1
    have qs := Blk_lt c2
    have qa := Blk_lt c4
    have ECH := hide ech; have ECL := hide ecl; have ELO := hide elo; have EHI := hide ehi
    clear ech ecl elo ehi
    have HWD : Hid (∀ X : World, Calls Try.prog 29 #[.int .u64 lo, .int .u64 hi] X fun e w' => e = .returned (.agg #[.int .u64 (hi64 (wd lo hi)), .int .u64 (lo64 (wd lo hi))]) ∧ Below X.heap.size X w') := width_any lo hi hw.1 hw.2
    have HPL : Hid (∀ X : World, Calls Try.prog 17 #[.agg #[.int .u64 ch, .int .u64 cl], .agg #[.int .u64 (hi64 (wd lo hi)), .int .u64 (lo64 (wd lo hi))]] X fun e w' =>
        e = .returned (.agg #[.int .u64 (hi64 (cntTo zs (k + 1))), .int .u64 (lo64 (cntTo zs (k + 1)))]) ∧ Below X.heap.size X w') := by
      have e : cntTo zs (k + 1) = val ch cl + val (hi64 (wd lo hi)) (lo64 (wd lo hi)) := by
        rw [ECH.out, ECL.out, val_hilo (cntTo_long H.out (by omega)), val_hilo (wd_long hw.1 hw.2), ELO.out, EHI.out]
        rfl
      rw [e]
      exact plus_any ch cl _ _ (by rw [ECH.out]; exact word_hi _) (by rw [ECL.out]; exact word_lo _) (word_hi _) (word_lo _)
    have hmx : Try.prog.follows .mixedOrders = true := by kernel_rfl
    gi_wp2
    gi_region_with (first
      | (refine ⟨trivial, ?_⟩; gi_at_call 29; refine (CallsIn.inRound l (callsIn_wide.2 (HWD.out _))).mono ?_; rintro e w3 ⟨rfl, hb3⟩; have r1 : w.heap.size + 1 < w3.heap.size := keep_lt hb3 qa; have rn : Bn < w3.heap.size := keep_lt hb3 qn; have x0 : w3.cell? ⟨w.heap.size + 1, 0, none⟩ = some (.int .u64 ch) := keep_cell hb3 qa u0; have x1 : w3.cell? ⟨w.heap.size + 1, 1, none⟩ = some (.int .u64 cl) := keep_cell hb3 qa u1; have y0 : w3.cell? ⟨Bn, 0, none⟩ = some (.int .u64 ch) := keep_cell hb3 qn n0; have y1 : w3.cell? ⟨Bn, 1, none⟩ = some (.int .u64 cl) := keep_cell hb3 qn n1)
      | (refine ⟨trivial, ?_⟩; gi_at_call 17; refine (CallsIn.inRound l (callsIn_wide.2 (HPL.out _))).mono ?_; rintro e w4 ⟨rfl, hb4⟩; have v0 : w4.cell? ⟨w.heap.size + 1, 0, none⟩ = some (.int .u64 ch) := keep_cell hb4 r1 x0; have v1 : w4.cell? ⟨w.heap.size + 1, 1, none⟩ = some (.int .u64 cl) := keep_cell hb4 r1 x1; have g0 : w4.frozen? ⟨w.heap.size + 1, 0, none⟩ = false := (hb4.frozen r1).trans ((hb3.frozen qa).trans f0); have g1 : w4.frozen? ⟨w.heap.size + 1, 1, none⟩ = false := (hb4.frozen r1).trans ((hb3.frozen qa).trans f1)))
    all_goals
      gi_wp2
      have ho := ((((Only.refl (fun b => b = w.heap.size + 1) W).drew.call hb3).call hb4).setCell (p := ⟨w.heap.size + 1, 0, none⟩) (.inl rfl) (.int .u64 (hi64 (cntTo zs (k + 1))))).setCell (p := ⟨w.heap.size + 1, 1, none⟩) (.inl rfl) (.int .u64 (lo64 (cntTo zs (k + 1))))
      have e4 := (hb4.block _ r1).trans ((hb3.block _ qa).trans c4)
      exact ⟨ho, ho.obj (fun h => by omega) c3, heap_setCell_same _ _ 1 _ _ _ (heap_setCell_same _ _ 0 _ _ _ e4), c5.trans (ho.below (n := w.heap.size) c5.size (fun k hk => by omega))⟩
  case done =>
    rintro D W hD ⟨h1, h2, h3⟩ hK
    have q0 : W.cell? ⟨w.heap.size + 1, 0, none⟩ = some (.int .u64 (hi64 (cntTo zs len))) := by simp [World.cell?, h2]
    have q1 : W.cell? ⟨w.heap.size + 1, 1, none⟩ = some (.int .u64 (lo64 (cntTo zs len))) := by simp [World.cell?, h2]
    have f0 : W.frozen? ⟨w.heap.size, 0, none⟩ = false := frozen_of_row W _ 0 _ _ h1
    have f1 : W.frozen? ⟨w.heap.size, 1, none⟩ = false := frozen_of_row W _ 1 _ _ h1
    have s0 : w.heap.size < W.heap.size := Blk_lt h1
    have z0 : W.cell? ⟨w.heap.size, 0, none⟩ = some (.int .u64 0) := by simp [World.cell?, h1]
    have z1 : W.cell? ⟨w.heap.size, 1, none⟩ = some (.int .u64 0) := by simp [World.cell?, h1]
    gi_wp2
    refine ⟨by simp, .inl ⟨_, _, rfl, run_takeDeferred ((Below.heap_setCell _ _ _ D (by show D ≠ w.heap.size; omega)).trans ((Below.heap_setCell _ _ _ D (by show D ≠ w.heap.size; omega)).trans hK)), ?_⟩⟩
    have e := (World.putObj_heap_other (o := .deferred none) (show w.heap.size ≠ D by omega)).trans (heap_setCell_same _ _ 1 _ _ (.int .u64 (lo64 (cntTo zs len))) (heap_setCell_same _ _ 0 _ _ (.int .u64 (hi64 (cntTo zs len))) h1))
    refine ⟨.agg #[.int .u64 (hi64 (cntTo zs len)), .int .u64 (lo64 (cntTo zs len))], ?_, rfl, ?_⟩
    · simp [results, Try.results12, go_sem, World.cell?, e]
    · exact (bl_set (bl_set h3 (by show _ ≤ w.heap.size; omega) _) (by show _ ≤ w.heap.size; omega) _).trans ((Only.putObj (may := fun x => x = D) _ D (.deferred none) rfl).below (n := w.heap.size) (by have := h3.size; simp; omega) (fun k (hk : k = D) => by omega))
end Go.Proofs.Ytccaeocnecfmaaa
