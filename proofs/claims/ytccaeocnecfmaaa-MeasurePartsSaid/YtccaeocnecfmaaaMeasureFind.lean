/- The contract of measure.find: the interval with a rank, and the number with it, in a correct list. -/
import Derived.Test.YtccaeocnecfmaaaMeasureCount
import Derived.Test.YtccaeocnecfmaaaRoundHeld
namespace Go.Proofs.Ytccaeocnecfmaaa
open Go.RowKit
attribute [local go_sem] Oper.semAt_some

theorem hi64_word {n : Int} (h : Word n) : hi64 n = 0 := by unfold Word at h; unfold hi64; omega
theorem lo64_word {n : Int} (h : Word n) : lo64 n = n := by unfold Word at h; unfold lo64; omega
theorem wrap_word {n : Int} (h : Word n) : IntKind.u64.wrap n = n := by
  unfold Word at h
  show n % 18446744073709551616 = n
  omega
theorem cor_cnt {w : World} {a : Option Addr} {len : Nat} {zs : List Iv} (h : Prs w a len zs) (hc : CorTo zs len) : ∀ k, k < len → 0 ≤ cntTo zs k ∧ cntTo zs k ≤ Lo zs k := by
  intro k
  induction k with
  | zero => intro hk; unfold cntTo; have := (h.word hk).1.1; omega
  | succ k ih =>
    intro hk
    obtain ⟨a1, a2⟩ := ih (by omega)
    have h1 := (hc k (by omega)).1
    have h2 := (hc (k + 1) hk).2 (by omega)
    simp only [Nat.add_sub_cancel] at h2
    unfold cntTo wd
    rw [if_pos h1]
    omega
theorem cnt_succ {zs : List Iv} {len k : Nat} (hc : CorTo zs len) (hk : k < len) : cntTo zs (k + 1) = cntTo zs k + (Hi zs k - Lo zs k + 1) := by
  have h1 := (hc k hk).1
  show cntTo zs k + wd _ _ = _
  unfold wd
  rw [if_pos h1]
/-- The first m intervals hold no number with the rank rk, and the next one does. -/
structure At (zs : List Iv) (rk : Int) (len m : Nat) : Prop where
  le : m ≤ len
  before : ∀ k, k < m → cntTo zs (k + 1) ≤ rk
  at' : m < len → rk < cntTo zs (m + 1)
theorem at_some (zs : List Iv) (rk : Int) (len : Nat) : ∃ m, At zs rk len m := by
  suffices h : ∀ r k, k + r = len → (∀ j, j < k → cntTo zs (j + 1) ≤ rk) → ∃ m, At zs rk len m from h len 0 (by omega) (fun j h => by omega)
  intro r
  induction r with
  | zero => intro k e h; exact ⟨k, by omega, h, fun h => by omega⟩
  | succ r ih =>
    intro k e h
    by_cases hx : rk < cntTo zs (k + 1)
    · exact ⟨k, by omega, h, fun _ => hx⟩
    · refine ih (k + 1) (by omega) (fun j hj => ?_)
      by_cases hk : j = k
      · subst hk; omega
      · exact h j (by omega)
theorem At.base {zs : List Iv} {rk : Int} {len m : Nat} (h : At zs rk len m) (h0 : 0 ≤ rk) {k : Nat} (hk : k ≤ m) : cntTo zs k ≤ rk := by
  cases k with
  | zero => exact h0
  | succ k => exact h.before k (by omega)
/-- The number with the rank, or 0. -/
def fVal (zs : List Iv) (rk : Int) (len m : Nat) : Int := if m < len then Lo zs m + (rk - cntTo zs m) else 0

set_option maxRecDepth 100000 in
set_option maxHeartbeats 2000000 in
theorem find_any (a : Option Addr) (len cap : Nat) (zs : List Iv) (rk : Int) (m : Nat) (w : World) (h : Prs w a len zs) (hc : CorTo zs len) (hx : Word rk) (hm : At zs rk len m) :
    Calls Try.prog 31 #[.slice a len cap, .int .u64 rk] w fun e w' => e = .returned (.tuple #[.int .i64 m, .int .u64 (fVal zs rk len m)]) ∧ Below w.heap.size w w' := by
  have H := hide h
  have HM := hide hm
  have HC := hide hc
  have wx := hide hx
  have hmost := h.most
  clear h hm hc hx
  refine (callsIn_wide (n := 6)).1 ?_
  refine callsIn_of_wp_marks Try.func31 rfl trivial ?_ rfl
  simp only [Try.ntmps31, List.size_toArray, List.length_cons, List.length_nil, Nat.reduceAdd, Nat.reduceSub, Array.replicate_succ, Array.replicate_zero, List.push_toArray, List.append_toArray, List.nil_append, List.cons_append]
  gi_wp2_with (refine ⟨trivial, ?_⟩; gi_at_call 28; refine (callsIn_wide.2 (ranks_any a len cap _)).mono ?_; rintro e w' ⟨rfl, rfl⟩)
  have hB : (((((w.alloc (.cells #[.int .u64 rk] 24)).alloc (.cells #[.int .i64 0] 3)).alloc (.cells #[.int .u64 0] 24)).alloc (.cells #[.int .i64 0] 3)).alloc (.cells #[.slice a len cap] 23)).heap.size = w.heap.size + 5 := by simp
  have bel : Below w.heap.size w (((((w.alloc (.cells #[.int .u64 rk] 24)).alloc (.cells #[.int .i64 0] 3)).alloc (.cells #[.int .u64 0] 24)).alloc (.cells #[.int .i64 0] 3)).alloc (.cells #[.slice a len cap] 23)) := bl_alloc (bl_alloc (bl_alloc (bl_alloc (bl_alloc (Below.refl _ _) _) _) _) _) _
  have p0 : (((((w.alloc (.cells #[.int .u64 rk] 24)).alloc (.cells #[.int .i64 0] 3)).alloc (.cells #[.int .u64 0] 24)).alloc (.cells #[.int .i64 0] 3)).alloc (.cells #[.slice a len cap] 23)).heap[w.heap.size]? = some (.cells #[.int .u64 rk] 24 (0, 0)) := heap_old_at _ _ (by simp only [World.size_alloc]; omega) (heap_old_at _ _ (by simp only [World.size_alloc]; omega) (heap_old_at _ _ (by simp only [World.size_alloc]; omega) (heap_old_at _ _ (by simp only [World.size_alloc]; omega) (heap_new_at _ _ (by simp)))))
  have p1 : (((((w.alloc (.cells #[.int .u64 rk] 24)).alloc (.cells #[.int .i64 0] 3)).alloc (.cells #[.int .u64 0] 24)).alloc (.cells #[.int .i64 0] 3)).alloc (.cells #[.slice a len cap] 23)).heap[w.heap.size + 1]? = some (.cells #[.int .i64 0] 3 (0, 0)) := heap_old_at _ _ (by simp only [World.size_alloc]; omega) (heap_old_at _ _ (by simp only [World.size_alloc]; omega) (heap_old_at _ _ (by simp only [World.size_alloc]; omega) (heap_new_at _ _ (by simp))))
  have p2 : (((((w.alloc (.cells #[.int .u64 rk] 24)).alloc (.cells #[.int .i64 0] 3)).alloc (.cells #[.int .u64 0] 24)).alloc (.cells #[.int .i64 0] 3)).alloc (.cells #[.slice a len cap] 23)).heap[w.heap.size + 2]? = some (.cells #[.int .u64 0] 24 (0, 0)) := heap_old_at _ _ (by simp only [World.size_alloc]; omega) (heap_old_at _ _ (by simp only [World.size_alloc]; omega) (heap_new_at _ _ (by simp)))
  have p3 : (((((w.alloc (.cells #[.int .u64 rk] 24)).alloc (.cells #[.int .i64 0] 3)).alloc (.cells #[.int .u64 0] 24)).alloc (.cells #[.int .i64 0] 3)).alloc (.cells #[.slice a len cap] 23)).heap[w.heap.size + 3]? = some (.cells #[.int .i64 0] 3 (0, 0)) := heap_old_at _ _ (by simp only [World.size_alloc]; omega) (heap_new_at _ _ (by simp))
  have p4 : (((((w.alloc (.cells #[.int .u64 rk] 24)).alloc (.cells #[.int .i64 0] 3)).alloc (.cells #[.int .u64 0] 24)).alloc (.cells #[.int .i64 0] 3)).alloc (.cells #[.slice a len cap] 23)).heap[w.heap.size + 4]? = some (.cells #[.slice a len cap] 23 (0, 0)) := heap_new_at _ _ (by simp)
  obtain ⟨V, hV⟩ : ∃ V, (((((w.alloc (.cells #[.int .u64 rk] 24)).alloc (.cells #[.int .i64 0] 3)).alloc (.cells #[.int .u64 0] 24)).alloc (.cells #[.int .i64 0] 3)).alloc (.cells #[.slice a len cap] 23)) = V := ⟨_, rfl⟩
  rw [hV] at hB bel p0 p1 p2 p3 p4 ⊢
  clear hV
  have HV := hide (H.out.below bel)
  refine wpIn_rangeFunc_box (gf := 36) (lb := #[.pointer (some ⟨w.heap.size + 4, 0, none⟩)]) rfl (by omega) rfl trivial (enters_of Try.func36 (by kernel_rfl) rfl)
    (ranks1_box _ (by omega) (w.heap.size + 4) a len cap zs V (fun b => w.heap.size < b ∧ b < w.heap.size + 4) (by simp [World.cell?, p4]) (by omega) HV.out ?hMb ?hMk) (Below.refl _ _) (fun _ => rfl) ?hM
    (fun k W => k ≤ m ∧ W.heap[w.heap.size]? = some (.cells #[.int .u64 rk] 24 (0, 0)) ∧ W.heap[w.heap.size + 1]? = some (.cells #[.int .i64 0] 3 (0, 0)) ∧ W.heap[w.heap.size + 2]? = some (.cells #[.int .u64 0] 24 (0, 0)) ∧ W.heap[w.heap.size + 3]? = some (.cells #[.int .i64 (k : Int)] 3 (0, 0)) ∧ Below w.heap.size w W)
    (fun c s W => c = .ret ∧ s = m + 1 ∧ W.heap[w.heap.size + 1]? = some (.cells #[.int .i64 (m : Int)] 3 (0, 0)) ∧ W.heap[w.heap.size + 2]? = some (.cells #[.int .u64 (fVal zs rk len m)] 24 (0, 0)) ∧ Below w.heap.size w W) ?hI ?hIx ⟨by omega, p0, p1, p2, p3, bel⟩
    (fun k a₁ W => k ≤ m ∧ ∃ Bn Bs, V.heap.size + 3 ≤ Bn ∧ V.heap.size + 3 ≤ Bs ∧ W.heap[Bn]? = some (.cells #[.int .u64 (hi64 (cntTo zs k)), .int .u64 (lo64 (cntTo zs k))] 30 (0, 0)) ∧ W.heap[Bs]? = some (.cells #[.int .u64 (Lo zs k), .int .u64 (Hi zs k)] 39 (0, 0)) ∧ W.heap[w.heap.size]? = some (.cells #[.int .u64 rk] 24 (0, 0)) ∧ W.heap[w.heap.size + 1]? = some (.cells #[.int .i64 0] 3 (0, 0)) ∧ W.heap[w.heap.size + 2]? = some (.cells #[.int .u64 0] 24 (0, 0)) ∧ W.heap[w.heap.size + 3]? = some (.cells #[.int .i64 (k : Int)] 3 (0, 0)) ∧ Below w.heap.size w W ∧
      a₁ = { tmps := #[.slice a len cap, .int .u64 rk, undef, .pointer (some ⟨w.heap.size, 0, none⟩), .pointer (some ⟨w.heap.size + 1, 0, none⟩), .pointer (some ⟨w.heap.size + 2, 0, none⟩), .pointer (some ⟨w.heap.size + 3, 0, none⟩), .pointer (some ⟨Bn, 0, none⟩), .pointer (some ⟨Bs, 0, none⟩), undef, .slice a len cap, .func (.func 36) #[] #[.pointer (some ⟨w.heap.size + 4, 0, none⟩)], (.agg #[.int .u64 (hi64 (cntTo zs k)), .int .u64 (lo64 (cntTo zs k))]), (.agg #[.int .u64 (Lo zs k), .int .u64 (Hi zs k)]), undef, undef, undef, undef, undef, undef, undef, undef, undef, undef, undef, undef, undef, undef, undef, undef, undef, undef, undef, undef, undef, undef, undef, undef], defers := [] })
    ?hAx ?assign ?body ?done ?stop
  case hMb =>
    rintro hl b off rfl h
    obtain ⟨b', off', e, hb, _⟩ := H.out.cells 0 hl
    simp only [Option.some.injEq, Addr.mk.injEq] at e
    omega
  case hMk => intro k hk; omega
  case hM => intro k hk; omega
  case hI =>
    rintro k A B ⟨h0, h1, h2, h3, h4, h5⟩ ho
    exact ⟨h0, ho.obj (fun h => by omega) h1, ho.obj (fun h => by omega) h2, ho.obj (fun h => by omega) h3, ho.obj (fun h => by omega) h4, h5.trans (ho.below (n := w.heap.size) h5.size (fun k hk => by omega))⟩
  case hIx =>
    rintro c s A B ⟨h1, h2, h3, h4, h5⟩ ho
    exact ⟨h1, h2, ho.obj (fun h => by omega) h3, ho.obj (fun h => by omega) h4, h5.trans (ho.below (n := w.heap.size) h5.size (fun k hk => by omega))⟩
  case hAx =>
    rintro k a₁ A B ⟨h0, Bn, Bs, g1, g2, c1, c2, h1, h2, h3, h4, h5, e⟩ ho
    exact ⟨h0, Bn, Bs, g1, g2, ho.obj (fun h => by omega) c1, ho.obj (fun h => by omega) c2, ho.obj (fun h => by omega) h1, ho.obj (fun h => by omega) h2, ho.obj (fun h => by omega) h3, ho.obj (fun h => by omega) h4, h5.trans (ho.below (n := w.heap.size) h5.size (fun k hk => by omega)), e⟩
  case assign =>
    rintro l k W hlt ⟨h0, h1, h2, h3, h4, h5⟩ hk
    simp only [encR]
    gi_wp2
    have k1 := Blk_lt h1
    have k2 := Blk_lt h2
    have k3 := Blk_lt h3
    have k4 := Blk_lt h4
    exact ⟨((Only.refl _ _).alloc _).alloc _, h0, W.heap.size, W.heap.size + 1, hlt, by omega, heap_old_at _ _ (by simp) (heap_new_at _ _ rfl), heap_new_at _ _ (by simp), heap_old_at _ _ (by simp; omega) (heap_old_at _ _ k1 h1), heap_old_at _ _ (by simp; omega) (heap_old_at _ _ k2 h2), heap_old_at _ _ (by simp; omega) (heap_old_at _ _ k3 h3), heap_old_at _ _ (by simp; omega) (heap_old_at _ _ k4 h4), bl_alloc (bl_alloc h5 _) _, rfl⟩
  case body =>
    rintro l k a₁ W hlt ⟨h0, Bn, Bs, g1, g2, c1, c2, h1, h2, h3, h4, h5, rfl⟩ hk
    obtain ⟨b1, b2⟩ := cor_cnt H.out HC.out k hk
    have b3 := HM.out.base wx.out.1 h0
    have b4 := cnt_succ HC.out hk
    have hw := HV.out.word hk
    have hlh := (HC.out k hk).1
    have hcw : Word (cntTo zs k) := ⟨b1, by have := hw.1.2; omega⟩
    have eh : hi64 (cntTo zs k) = 0 := hi64_word hcw
    have el : lo64 (cntTo zs k) = cntTo zs k := lo64_word hcw
    rw [eh, el] at c1 ⊢
    obtain ⟨c, ec⟩ : ∃ x, x = cntTo zs k := ⟨_, rfl⟩
    obtain ⟨lo, elo⟩ : ∃ x, x = Lo zs k := ⟨_, rfl⟩
    obtain ⟨hi, ehi⟩ : ∃ x, x = Hi zs k := ⟨_, rfl⟩
    rw [← ec] at c1 b1 b2 b3 b4 ⊢
    rw [← elo, ← ehi] at c2 hw hlh b4 ⊢
    rw [← elo] at b2
    have w1 := wx.out
    have w2 := hw.1
    have w3 := hw.2
    unfold Word at w1 w2 w3
    have d1 : IntKind.u64.wrap (rk - c) = rk - c := wrap_word ⟨by omega, by omega⟩
    have d2 : IntKind.u64.wrap (hi - lo) = hi - lo := wrap_word ⟨by omega, by omega⟩
    have n0 : W.cell? ⟨Bn, 0, none⟩ = some (.int .u64 0) := by simp [World.cell?, c1]
    have n1 : W.cell? ⟨Bn, 1, none⟩ = some (.int .u64 c) := by simp [World.cell?, c1]
    have s0 : W.cell? ⟨Bs, 0, none⟩ = some (.int .u64 lo) := by simp [World.cell?, c2]
    have s1 : W.cell? ⟨Bs, 1, none⟩ = some (.int .u64 hi) := by simp [World.cell?, c2]
    have r0 : W.cell? ⟨w.heap.size, 0, none⟩ = some (.int .u64 rk) := by simp [World.cell?, h1]
    have x0 : W.cell? ⟨w.heap.size + 1, 0, none⟩ = some (.int .i64 0) := by simp [World.cell?, h2]
    have y0 : W.cell? ⟨w.heap.size + 2, 0, none⟩ = some (.int .u64 0) := by simp [World.cell?, h3]
    have z0 : W.cell? ⟨w.heap.size + 3, 0, none⟩ = some (.int .i64 k) := by simp [World.cell?, h4]
    have f1 : W.frozen? ⟨w.heap.size + 1, 0, none⟩ = false := frozen_of_row W _ 0 _ _ h2
    have f2 : W.frozen? ⟨w.heap.size + 2, 0, none⟩ = false := frozen_of_row W _ 0 _ _ h3
    have f3 : W.frozen? ⟨w.heap.size + 3, 0, none⟩ = false := frozen_of_row W _ 0 _ _ h4
    have HH1 := hide h1; have HH2 := hide h2; have HH3 := hide h3; have HH4 := hide h4
    have EC := hide ec; have ELO := hide elo; have EHI := hide ehi
    clear ec elo ehi c1 c2 h1 h2 h3 h4 eh el
    by_cases hs : rk - c ≤ hi - lo
    · have hkm : k = m := by
        by_cases e : k = m
        · exact e
        · have := HM.out.before k (by omega); omega
      have d3 : IntKind.u64.wrap (lo + (rk - c)) = lo + (rk - c) := wrap_word ⟨by omega, by omega⟩
      subst hkm
      gi_wp2
      refine wpIn_region_roundH (by kernel_rfl) (by rintro ⟨_, _, h⟩; exact h) (by kernel_rfl) (Only (fun b => b = w.heap.size + 1 ∨ b = w.heap.size + 2) W) (Only.refl _ W).drew (fun hS0 => ?_)
      refine wpAnyH_take (i := 0) (v := .int .i64 k) rfl (by kernel_rfl) (by kernel_rfl) (by kernel_rfl) (fun _ _ _ h => h) (Or.inl ⟨by rfl, ?_⟩) (by assumption) ?_
      · intro X hX
        have c0 := hX.cell (fun h => by omega) z0; go_simp
      simp only [Act.put, List.setIfInBounds_toArray]
      refine wpAnyH_take (i := 1) (v := .pointer (some ⟨Bs, 0, none⟩)) rfl (by kernel_rfl) (by kernel_rfl) (by kernel_rfl) (fun _ _ _ h => h) (Or.inl ⟨by rfl, ?_⟩) (by assumption) ?_
      · intro X _
        go_simp
      simp only [Act.put]
      refine wpAnyH_take (i := 2) (v := .int .u64 lo) rfl (by kernel_rfl) (by kernel_rfl) (by kernel_rfl) (fun _ _ _ h => h) (Or.inl ⟨by rfl, ?_⟩) (by assumption) ?_
      · intro X hX
        have c0 := hX.cell (fun h => by omega) s0; go_simp
      simp only [Act.put]
      refine wpAnyH_take (i := 3) (v := .int .u64 (rk - c)) rfl (by kernel_rfl) (by kernel_rfl) (by kernel_rfl) (fun _ _ _ h => h) (Or.inl ⟨by rfl, ?_⟩) (by assumption) ?_
      · intro X _
        go_simp
      simp only [Act.put]
      refine wpAnyH_take (i := 4) (v := .int .u64 (lo + (rk - c))) rfl (by kernel_rfl) (by kernel_rfl) (by kernel_rfl) (fun _ _ _ h => h) (Or.inl ⟨by rfl, ?_⟩) (by assumption) ?_
      · intro X _
        go_simp
      simp only [Act.put]
      have ho1 := (Only.refl (fun b => b = w.heap.size + 1 ∨ b = w.heap.size + 2) W).drew.setCell (p := ⟨w.heap.size + 1, 0, none⟩) (.inl (.inl rfl)) (.int .i64 (k : Int))
      have ho2 := ho1.setCell (p := ⟨w.heap.size + 2, 0, none⟩) (.inl (.inr rfl)) (.int .u64 (lo + (rk - c)))
      refine wpAnyH_ready (rs := [5]) (by kernel_rfl) (by simp) ?_
      refine AllReadyH.cons (o := _) rfl (fun K hK => ?_) AllReadyH.nil
      go_simp
      refine hK.out _ _ (ho1) (fun hS1 => ?_)
      clear hK K
      refine wpAnyH_ready (rs := [6]) (by kernel_rfl) (by simp) ?_
      refine AllReadyH.cons (o := _) rfl (fun K hK => ?_) AllReadyH.nil
      go_simp
      refine hK.out _ _ (ho2) (fun hS2 => ?_)
      clear hK K
      refine wpAnyH_done (by kernel_rfl) ?_ _
      gi_wp2
      have e0 : fVal zs rk len k = lo + (rk - c) := by unfold fVal; rw [if_pos hk, ELO.out, EC.out]
      refine ⟨ho2.wide (fun b h => by omega), rfl, rfl, (Below.heap_setCell _ _ _ _ (by show w.heap.size + 1 ≠ w.heap.size + 2; omega)).trans (heap_setCell_same _ _ 0 _ _ (.int .i64 (k : Int)) HH2.out), ?_, h5.trans (ho2.below (n := w.heap.size) h5.size (fun k hk => by omega))⟩
      rw [e0]
      exact heap_setCell_same _ _ 0 _ _ _ ((Below.heap_setCell _ _ _ _ (by show w.heap.size + 2 ≠ w.heap.size + 1; omega)).trans HH3.out)
    · have hkm : k + 1 ≤ m := by
        by_cases e : k = m
        · have := HM.out.at' (by omega); rw [← e] at this; omega
        · omega
      have d3 : IntKind.i64.wrap ((k : Int) + 1) = (k : Int) + 1 := IntWalk.i64_in _ (by omega)
      gi_wp2
      have ho := (Only.refl (fun b => w.heap.size < b ∧ b < w.heap.size + 4) W).setCell (p := ⟨w.heap.size + 3, 0, none⟩) (.inl ⟨by show _ < w.heap.size + 3; omega, by show w.heap.size + 3 < _; omega⟩) (.int .i64 ((k : Int) + 1))
      exact ⟨ho, hkm, ho.obj (fun h => by omega) HH1.out, (Below.heap_setCell _ _ _ _ (by show w.heap.size + 1 ≠ w.heap.size + 3; omega)).trans HH2.out, (Below.heap_setCell _ _ _ _ (by show w.heap.size + 2 ≠ w.heap.size + 3; omega)).trans HH3.out, heap_setCell_same _ _ 0 _ _ _ HH4.out, h5.trans (ho.below (n := w.heap.size) h5.size (fun k hk => by omega))⟩
  case done =>
    rintro D W hD ⟨h0, h1, h2, h3, h4, h5⟩ hK
    have hkm := hide (show len = m by have := HM.out.le; omega)
    have x0 : W.cell? ⟨w.heap.size + 1, 0, none⟩ = some (.int .i64 0) := by simp [World.cell?, h2]
    have y0 : W.cell? ⟨w.heap.size + 2, 0, none⟩ = some (.int .u64 0) := by simp [World.cell?, h3]
    have z0 : W.cell? ⟨w.heap.size + 3, 0, none⟩ = some (.int .i64 len) := by simp [World.cell?, h4]
    have f1 : W.frozen? ⟨w.heap.size + 1, 0, none⟩ = false := frozen_of_row W _ 0 _ _ h2
    have f2 : W.frozen? ⟨w.heap.size + 2, 0, none⟩ = false := frozen_of_row W _ 0 _ _ h3
    have HH2 := hide h2; have HH3 := hide h3
    clear h1 h2 h3 h4
    have k2 := Blk_lt HH2.out
    gi_wp2
    refine ⟨by simp, .inl ⟨_, _, rfl, run_takeDeferred ((Below.heap_setCell _ _ _ D (by show D ≠ w.heap.size + 2; omega)).trans ((Below.heap_setCell _ _ _ D (by show D ≠ w.heap.size + 1; omega)).trans hK)), ?_⟩⟩
    have e1 := (World.putObj_heap_other (o := .deferred none) (show w.heap.size + 1 ≠ D by omega)).trans ((Below.heap_setCell (W.setCell ⟨w.heap.size + 1, 0, none⟩ (.int .i64 (len : Int))) ⟨w.heap.size + 2, 0, none⟩ (.int .u64 0) _ (by show w.heap.size + 1 ≠ w.heap.size + 2; omega)).trans (heap_setCell_same _ _ 0 _ _ (.int .i64 (len : Int)) HH2.out))
    have e2 := (World.putObj_heap_other (o := .deferred none) (show w.heap.size + 2 ≠ D by omega)).trans (heap_setCell_same _ _ 0 _ _ (.int .u64 0) ((Below.heap_setCell W ⟨w.heap.size + 1, 0, none⟩ (.int .i64 (len : Int)) _ (by show w.heap.size + 2 ≠ w.heap.size + 1; omega)).trans HH3.out))
    have e0 : fVal zs rk len m = 0 := by unfold fVal; rw [if_neg (by have := hkm.out; omega)]
    refine ⟨.tuple #[.int .i64 len, .int .u64 0], ?_, by rw [e0, hkm.out], ?_⟩
    · simp [results, Try.results31, go_sem, World.cell?, e1, e2]
    · exact (bl_set (bl_set h5 (by show _ ≤ w.heap.size + 1; omega) _) (by show _ ≤ w.heap.size + 2; omega) _).trans ((Only.putObj (may := fun x => x = D) _ D (.deferred none) rfl).below (n := w.heap.size) (by have := h5.size; simp; omega) (fun k (hk : k = D) => by omega))
  case stop =>
    rintro D c k W hD hk ⟨rfl, hkm, h1, h2, h5⟩ hK
    gi_wp2
    refine ⟨by simp, .inl ⟨_, _, rfl, run_takeDeferred hK, ?_⟩⟩
    have e1 := (World.putObj_heap_other (o := .deferred none) (show w.heap.size + 1 ≠ D by omega)).trans h1
    have e2 := (World.putObj_heap_other (o := .deferred none) (show w.heap.size + 2 ≠ D by omega)).trans h2
    refine ⟨.tuple #[.int .i64 m, .int .u64 (fVal zs rk len m)], ?_, rfl, ?_⟩
    · simp [results, Try.results31, go_sem, World.cell?, e1, e2]
    · exact h5.trans ((Only.putObj (may := fun x => x = D) _ D (.deferred none) rfl).below (n := w.heap.size) (by have := h5.size; omega) (fun k (hk : k = D) => by omega))
end Go.Proofs.Ytccaeocnecfmaaa
