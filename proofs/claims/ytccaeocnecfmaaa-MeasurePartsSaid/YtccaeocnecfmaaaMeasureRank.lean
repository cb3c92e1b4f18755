/- The contract of measure.Rank: how many numbers of a list are less than a number. -/
import Derived.Test.YtccaeocnecfmaaaMeasureCount
import Derived.Test.YtccaeocnecfmaaaRoundHeld
namespace Go.Proofs.Ytccaeocnecfmaaa
open Go.RowKit
attribute [local go_sem] Oper.semAt_some

/-- What Rank holds behind k rounds. -/
def outK (zs : List Iv) (x : Int) : Nat → Int
  | 0 => 0
  | k + 1 => cntTo zs k + wd (Lo zs k) (if x - 1 < Hi zs k then x - 1 else Hi zs k)
/-- The first m intervals begin in front of x, and the next one does not. -/
structure Stop (zs : List Iv) (x : Int) (len m : Nat) : Prop where
  le : m ≤ len
  before : ∀ k, k < m → Lo zs k < x
  at' : m < len → x ≤ Lo zs m
theorem stop_some (zs : List Iv) (x : Int) (len : Nat) : ∃ m, Stop zs x len m := by
  suffices h : ∀ r k, k + r = len → (∀ j, j < k → Lo zs j < x) → ∃ m, Stop zs x len m from h len 0 (by omega) (fun j h => by omega)
  intro r
  induction r with
  | zero => intro k e h; exact ⟨k, by omega, h, fun h => by omega⟩
  | succ r ih =>
    intro k e h
    by_cases hx : x ≤ Lo zs k
    · exact ⟨k, by omega, h, fun _ => hx⟩
    · refine ih (k + 1) (by omega) (fun j hj => ?_)
      by_cases hk : j = k
      · subst hk; omega
      · exact h j (by omega)

set_option maxRecDepth 100000 in
set_option maxHeartbeats 2000000 in
theorem rank_any (a : Option Addr) (len cap : Nat) (zs : List Iv) (x : Int) (m : Nat) (w : World) (h : Prs w a len zs) (hx : Word x) (hm : Stop zs x len m) :
    Calls Try.prog 13 #[.slice a len cap, .int .u64 x] w fun e w' => e = .returned (.agg #[.int .u64 (hi64 (outK zs x m)), .int .u64 (lo64 (outK zs x m))]) ∧ Below w.heap.size w w' := by
  have H := hide h
  have HM := hide hm
  clear h hm
  obtain ⟨pv, epv⟩ : ∃ v, v = prevV x := ⟨_, rfl⟩
  obtain ⟨pb, epb⟩ : ∃ v, v = prevB x := ⟨_, rfl⟩
  have HP := prev_any x hx
  rw [← epv, ← epb] at HP
  have HPH := hide HP
  clear HP
  have EPV := hide epv; have EPB := hide epb
  clear epv epb
  have wx := hide hx
  clear hx
  refine (callsIn_wide (n := 6)).1 ?_
  refine callsIn_of_wp_marks Try.func13 rfl trivial ?_ rfl
  simp only [Try.ntmps13, List.size_toArray, List.length_cons, List.length_nil, Nat.reduceAdd, Nat.reduceSub, Array.replicate_succ, Array.replicate_zero, List.push_toArray, List.append_toArray, List.nil_append, List.cons_append]
  gi_wp2_with (first
    | (refine ⟨trivial, ?_⟩; gi_at_call 30; refine (callsIn_wide.2 (HPH.out _)).mono ?_; rintro e w' ⟨rfl, rfl⟩)
    | (refine ⟨trivial, ?_⟩; gi_at_call 28; refine (callsIn_wide.2 (ranks_any a len cap _)).mono ?_; rintro e w' ⟨rfl, rfl⟩))
  have hB : (((((w.alloc (.cells #[.int .u64 0, .int .u64 0] 30)).alloc (.cells #[.int .u64 0, .int .u64 0] 30)).alloc (.cells #[.int .u64 pv] 24)).alloc (.cells #[.bool pb] 4)).alloc (.cells #[.slice a len cap] 23)).heap.size = w.heap.size + 5 := by simp
  have bel : Below w.heap.size w (((((w.alloc (.cells #[.int .u64 0, .int .u64 0] 30)).alloc (.cells #[.int .u64 0, .int .u64 0] 30)).alloc (.cells #[.int .u64 pv] 24)).alloc (.cells #[.bool pb] 4)).alloc (.cells #[.slice a len cap] 23)) := bl_alloc (bl_alloc (bl_alloc (bl_alloc (bl_alloc (Below.refl _ _) _) _) _) _) _
  have p0 : (((((w.alloc (.cells #[.int .u64 0, .int .u64 0] 30)).alloc (.cells #[.int .u64 0, .int .u64 0] 30)).alloc (.cells #[.int .u64 pv] 24)).alloc (.cells #[.bool pb] 4)).alloc (.cells #[.slice a len cap] 23)).heap[w.heap.size]? = some (.cells #[.int .u64 0, .int .u64 0] 30 (0, 0)) := heap_old_at _ _ (by simp only [World.size_alloc]; omega) (heap_old_at _ _ (by simp only [World.size_alloc]; omega) (heap_old_at _ _ (by simp only [World.size_alloc]; omega) (heap_old_at _ _ (by simp only [World.size_alloc]; omega) (heap_new_at _ _ (by simp)))))
  have p1 : (((((w.alloc (.cells #[.int .u64 0, .int .u64 0] 30)).alloc (.cells #[.int .u64 0, .int .u64 0] 30)).alloc (.cells #[.int .u64 pv] 24)).alloc (.cells #[.bool pb] 4)).alloc (.cells #[.slice a len cap] 23)).heap[w.heap.size + 1]? = some (.cells #[.int .u64 0, .int .u64 0] 30 (0, 0)) := heap_old_at _ _ (by simp only [World.size_alloc]; omega) (heap_old_at _ _ (by simp only [World.size_alloc]; omega) (heap_old_at _ _ (by simp only [World.size_alloc]; omega) (heap_new_at _ _ (by simp))))
  have p2 : (((((w.alloc (.cells #[.int .u64 0, .int .u64 0] 30)).alloc (.cells #[.int .u64 0, .int .u64 0] 30)).alloc (.cells #[.int .u64 pv] 24)).alloc (.cells #[.bool pb] 4)).alloc (.cells #[.slice a len cap] 23)).heap[w.heap.size + 2]? = some (.cells #[.int .u64 pv] 24 (0, 0)) := heap_old_at _ _ (by simp only [World.size_alloc]; omega) (heap_old_at _ _ (by simp only [World.size_alloc]; omega) (heap_new_at _ _ (by simp)))
  have p3 : (((((w.alloc (.cells #[.int .u64 0, .int .u64 0] 30)).alloc (.cells #[.int .u64 0, .int .u64 0] 30)).alloc (.cells #[.int .u64 pv] 24)).alloc (.cells #[.bool pb] 4)).alloc (.cells #[.slice a len cap] 23)).heap[w.heap.size + 3]? = some (.cells #[.bool pb] 4 (0, 0)) := heap_old_at _ _ (by simp only [World.size_alloc]; omega) (heap_new_at _ _ (by simp))
  have p4 : (((((w.alloc (.cells #[.int .u64 0, .int .u64 0] 30)).alloc (.cells #[.int .u64 0, .int .u64 0] 30)).alloc (.cells #[.int .u64 pv] 24)).alloc (.cells #[.bool pb] 4)).alloc (.cells #[.slice a len cap] 23)).heap[w.heap.size + 4]? = some (.cells #[.slice a len cap] 23 (0, 0)) := heap_new_at _ _ (by simp)
  obtain ⟨V, hV⟩ : ∃ V, (((((w.alloc (.cells #[.int .u64 0, .int .u64 0] 30)).alloc (.cells #[.int .u64 0, .int .u64 0] 30)).alloc (.cells #[.int .u64 pv] 24)).alloc (.cells #[.bool pb] 4)).alloc (.cells #[.slice a len cap] 23)) = V := ⟨_, rfl⟩
  rw [hV] at hB bel p0 p1 p2 p3 p4 ⊢
  clear hV
  have HV := hide (H.out.below bel)
  refine wpIn_rangeFunc_box (gf := 36) (lb := #[.pointer (some ⟨w.heap.size + 4, 0, none⟩)]) rfl (by omega) rfl trivial (enters_of Try.func36 (by kernel_rfl) rfl)
    (ranks1_box _ (by omega) (w.heap.size + 4) a len cap zs V (fun b => b = w.heap.size ∨ b = w.heap.size + 1) (by simp [World.cell?, p4]) (by omega) HV.out ?hMb ?hMk) (Below.refl _ _) (fun _ => rfl) ?hM
    (fun k W => k ≤ m ∧ W.heap[w.heap.size]? = some (.cells #[.int .u64 0, .int .u64 0] 30 (0, 0)) ∧ W.heap[w.heap.size + 1]? = some (.cells #[.int .u64 (hi64 (outK zs x k)), .int .u64 (lo64 (outK zs x k))] 30 (0, 0)) ∧ W.heap[w.heap.size + 2]? = some (.cells #[.int .u64 pv] 24 (0, 0)) ∧ W.heap[w.heap.size + 3]? = some (.cells #[.bool pb] 4 (0, 0)) ∧ Below w.heap.size w W)
    (fun c s W => c = .ret ∧ s = m + 1 ∧ W.heap[w.heap.size]? = some (.cells #[.int .u64 (hi64 (outK zs x m)), .int .u64 (lo64 (outK zs x m))] 30 (0, 0)) ∧ Below w.heap.size w W) ?hI ?hIx ⟨by omega, p0, p1, p2, p3, bel⟩
    (fun k a₁ W => k ≤ m ∧ ∃ Bn Bs, V.heap.size + 3 ≤ Bn ∧ V.heap.size + 3 ≤ Bs ∧ W.heap[Bn]? = some (.cells #[.int .u64 (hi64 (cntTo zs k)), .int .u64 (lo64 (cntTo zs k))] 30 (0, 0)) ∧ W.heap[Bs]? = some (.cells #[.int .u64 (Lo zs k), .int .u64 (Hi zs k)] 39 (0, 0)) ∧ W.heap[w.heap.size]? = some (.cells #[.int .u64 0, .int .u64 0] 30 (0, 0)) ∧ W.heap[w.heap.size + 1]? = some (.cells #[.int .u64 (hi64 (outK zs x k)), .int .u64 (lo64 (outK zs x k))] 30 (0, 0)) ∧ W.heap[w.heap.size + 2]? = some (.cells #[.int .u64 pv] 24 (0, 0)) ∧ W.heap[w.heap.size + 3]? = some (.cells #[.bool pb] 4 (0, 0)) ∧ Below w.heap.size w W ∧
      a₁ = { tmps := #[.slice a len cap, .int .u64 x, undef, undef, .pointer (some ⟨w.heap.size, 0, none⟩), .pointer (some ⟨w.heap.size + 1, 0, none⟩), .pointer (some ⟨w.heap.size + 2, 0, none⟩), .pointer (some ⟨w.heap.size + 3, 0, none⟩), .pointer (some ⟨Bn, 0, none⟩), .pointer (some ⟨Bs, 0, none⟩), .tuple #[.int .u64 pv, .bool pb], .int .u64 x, .tuple #[.int .u64 pv, .bool pb], .int .u64 pv, .bool pb, .slice a len cap, .func (.func 36) #[] #[.pointer (some ⟨w.heap.size + 4, 0, none⟩)], (.agg #[.int .u64 (hi64 (cntTo zs k)), .int .u64 (lo64 (cntTo zs k))]), (.agg #[.int .u64 (Lo zs k), .int .u64 (Hi zs k)]), undef, undef, undef, undef, undef, undef, undef, undef, undef, undef, undef, undef, undef, undef, undef, undef, undef, undef, undef], defers := [] })
    ?hAx ?assign ?body ?done ?stop
  case hMb =>
    rintro hl b off rfl h
    obtain ⟨b', off', e, hb, _⟩ := H.out.cells 0 hl
    simp only [Option.some.injEq, Addr.mk.injEq] at e
    omega
  case hMk => intro k hk; omega
  case hM => intro k hk; omega
  case hI =>
    rintro k A B ⟨h0, h1, h2, h3, h4, h5⟩ ho
    exact ⟨h0, ho.obj (fun h => by omega) h1, ho.obj (fun h => by omega) h2, ho.obj (fun h => by omega) h3, ho.obj (fun h => by omega) h4, h5.trans (ho.below (n := w.heap.size) h5.size (fun k hk => by omega))⟩
  case hIx =>
    rintro c s A B ⟨h1, h2, h3, h4⟩ ho
    exact ⟨h1, h2, ho.obj (fun h => by omega) h3, h4.trans (ho.below (n := w.heap.size) h4.size (fun k hk => by omega))⟩
  case hAx =>
    rintro k a₁ A B ⟨h0, Bn, Bs, g1, g2, c1, c2, h1, h2, h3, h4, h5, e⟩ ho
    exact ⟨h0, Bn, Bs, g1, g2, ho.obj (fun h => by omega) c1, ho.obj (fun h => by omega) c2, ho.obj (fun h => by omega) h1, ho.obj (fun h => by omega) h2, ho.obj (fun h => by omega) h3, ho.obj (fun h => by omega) h4, h5.trans (ho.below (n := w.heap.size) h5.size (fun k hk => by omega)), e⟩
  case assign =>
    rintro l k W hlt ⟨h0, h1, h2, h3, h4, h5⟩ hk
    simp only [encR]
    gi_wp2
    have k1 := Blk_lt h1
    have k2 := Blk_lt h2
    have k3 := Blk_lt h3
    have k4 := Blk_lt h4
    exact ⟨((Only.refl _ _).alloc _).alloc _, h0, W.heap.size, W.heap.size + 1, hlt, by omega, heap_old_at _ _ (by simp) (heap_new_at _ _ rfl), heap_new_at _ _ (by simp), heap_old_at _ _ (by simp; omega) (heap_old_at _ _ k1 h1), heap_old_at _ _ (by simp; omega) (heap_old_at _ _ k2 h2), heap_old_at _ _ (by simp; omega) (heap_old_at _ _ k3 h3), heap_old_at _ _ (by simp; omega) (heap_old_at _ _ k4 h4), bl_alloc (bl_alloc h5 _) _, rfl⟩
  case body =>
    rintro l k a₁ W hlt ⟨h0, Bn, Bs, g1, g2, c1, c2, h1, h2, h3, h4, h5, rfl⟩ hk
    obtain ⟨ch, ech⟩ : ∃ x, x = hi64 (cntTo zs k) := ⟨_, rfl⟩
    obtain ⟨cl, ecl⟩ : ∃ x, x = lo64 (cntTo zs k) := ⟨_, rfl⟩
    obtain ⟨oh, eoh⟩ : ∃ y, y = hi64 (outK zs x k) := ⟨_, rfl⟩
    obtain ⟨ol, eol⟩ : ∃ y, y = lo64 (outK zs x k) := ⟨_, rfl⟩
    obtain ⟨lo, elo⟩ : ∃ x, x = Lo zs k := ⟨_, rfl⟩
    obtain ⟨hi, ehi⟩ : ∃ x, x = Hi zs k := ⟨_, rfl⟩
    have hw := HV.out.word hk
    rw [← ech, ← ecl] at c1 ⊢
    rw [← elo, ← ehi] at c2 hw ⊢
    rw [← eoh, ← eol] at h2
    have n0 : W.cell? ⟨Bn, 0, none⟩ = some (.int .u64 ch) := by simp [World.cell?, c1]
    have n1 : W.cell? ⟨Bn, 1, none⟩ = some (.int .u64 cl) := by simp [World.cell?, c1]
    have s0 : W.cell? ⟨Bs, 0, none⟩ = some (.int .u64 lo) := by simp [World.cell?, c2]
    have s1 : W.cell? ⟨Bs, 1, none⟩ = some (.int .u64 hi) := by simp [World.cell?, c2]
    have u0 : W.cell? ⟨w.heap.size + 1, 0, none⟩ = some (.int .u64 oh) := by simp [World.cell?, h2]
    have u1 : W.cell? ⟨w.heap.size + 1, 1, none⟩ = some (.int .u64 ol) := by simp [World.cell?, h2]
    have z0 : W.cell? ⟨w.heap.size, 0, none⟩ = some (.int .u64 0) := by simp [World.cell?, h1]
    have z1 : W.cell? ⟨w.heap.size, 1, none⟩ = some (.int .u64 0) := by simp [World.cell?, h1]
    have y0 : W.cell? ⟨w.heap.size + 2, 0, none⟩ = some (.int .u64 pv) := by simp [World.cell?, h3]
    have b0 : W.cell? ⟨w.heap.size + 3, 0, none⟩ = some (.bool pb) := by simp [World.cell?, h4]
    have f0 : W.frozen? ⟨w.heap.size, 0, none⟩ = false := frozen_of_row W _ 0 _ _ h1
    have f1 : W.frozen? ⟨w.heap.size, 1, none⟩ = false := frozen_of_row W _ 1 _ _ h1
    have g0 : W.frozen? ⟨w.heap.size + 1, 0, none⟩ = false := frozen_of_row W _ 0 _ _ h2
    have g1' : W.frozen? ⟨w.heap.size + 1, 1, none⟩ = false := frozen_of_row W _ 1 _ _ h2
    have qn := Blk_lt c1
    have qs := Blk_lt c2
    have q0 := Blk_lt h1
    have q1 := Blk_lt h2
    have q2 := Blk_lt h3
    have HC2 := hide c2; have HC1 := hide c1; have HH1 := hide h1; have HH2 := hide h2; have HH3 := hide h3; have HH4 := hide h4
    have ECH := hide ech; have ECL := hide ecl; have ELO := hide elo; have EHI := hide ehi; have EOH := hide eoh; have EOL := hide eol
    clear ech ecl elo ehi eoh eol c1 c2 h1 h2 h3 h4
    by_cases hs : lo < x
    · have ebt : pb = true := by rw [EPB.out]; unfold prevB; have := hw.1.1; simp; omega
      have epx : pv = x - 1 := by rw [EPV.out]; unfold prevV; have := hw.1.1; rw [if_neg (by omega)]
      subst ebt epx
      have hng : ¬ x - 1 < lo := by omega
      have hkm : k + 1 ≤ m := by
        by_cases e : k = m
        · have := HM.out.at' (by omega); rw [← e, ← ELO.out] at this; omega
        · omega
      gi_wp2
      obtain ⟨mn, emn⟩ : ∃ y, y = (if x - 1 < hi then x - 1 else hi) := ⟨_, rfl⟩
      have wmn : Word mn := by rw [emn]; have h1 := wx.out; have h2 := hw.1.1; have h3 := hw.2; unfold Word at *; split <;> omega
      have HWD : Hid (∀ X : World, Calls Try.prog 29 #[.int .u64 lo, .int .u64 mn] X fun e w' => e = .returned (.agg #[.int .u64 (hi64 (wd lo mn)), .int .u64 (lo64 (wd lo mn))]) ∧ Below X.heap.size X w') := width_any lo mn hw.1 wmn
      have HPL : Hid (∀ X : World, Calls Try.prog 17 #[.agg #[.int .u64 ch, .int .u64 cl], .agg #[.int .u64 (hi64 (wd lo mn)), .int .u64 (lo64 (wd lo mn))]] X fun e w' =>
          e = .returned (.agg #[.int .u64 (hi64 (outK zs x (k + 1))), .int .u64 (lo64 (outK zs x (k + 1)))]) ∧ Below X.heap.size X w') := by
        have e : outK zs x (k + 1) = val ch cl + val (hi64 (wd lo mn)) (lo64 (wd lo mn)) := by
          rw [ECH.out, ECL.out, val_hilo (cntTo_long H.out (by omega)), val_hilo (wd_long hw.1 wmn), emn, ELO.out, EHI.out]
          rfl
        rw [e]
        exact plus_any ch cl _ _ (by rw [ECH.out]; exact word_hi _) (by rw [ECL.out]; exact word_lo _) (word_hi _) (word_lo _)
      have EMN := hide emn.symm
      clear emn
      refine wpIn_region_roundH (by kernel_rfl) (by rintro ⟨_, _, h⟩; exact h) (by kernel_rfl) (Only (fun b => b = w.heap.size + 1) W) (Only.refl _ W).drew (fun hS0 => ?_)
      refine wpAnyH_take (i := 0) (v := .agg #[.int .u64 ch, .int .u64 cl]) rfl (by kernel_rfl) (by kernel_rfl) (by kernel_rfl) (fun _ _ _ h => h) (Or.inl ⟨by rfl, ?_⟩) (by assumption) ?_
      · intro X hX
        have c0 := hX.cell (fun h => by omega) n0; have c1 := hX.cell (fun h => by omega) n1; go_simp
      simp only [Act.put, List.setIfInBounds_toArray]
      refine wpAnyH_take (i := 1) (v := .pointer (some ⟨Bs, 0, none⟩)) rfl (by kernel_rfl) (by kernel_rfl) (by kernel_rfl) (fun _ _ _ h => h) (Or.inl ⟨by rfl, ?_⟩) (by assumption) ?_
      · intro X _
        go_simp
      simp only [Act.put]
      refine wpAnyH_take (i := 2) (v := .int .u64 lo) rfl (by kernel_rfl) (by kernel_rfl) (by kernel_rfl) (fun _ _ _ h => h) (Or.inl ⟨by rfl, ?_⟩) (by assumption) ?_
      · intro X hX
        have c0 := hX.cell (fun h => by omega) s0; go_simp
      simp only [Act.put]
      refine wpAnyH_take (i := 3) (v := .pointer (some ⟨Bs, 1, none⟩)) rfl (by kernel_rfl) (by kernel_rfl) (by kernel_rfl) (fun _ _ _ h => h) (Or.inl ⟨by rfl, ?_⟩) (by assumption) ?_
      · intro X _
        go_simp
      simp only [Act.put]
      refine wpAnyH_take (i := 4) (v := .int .u64 hi) rfl (by kernel_rfl) (by kernel_rfl) (by kernel_rfl) (fun _ _ _ h => h) (Or.inl ⟨by rfl, ?_⟩) (by assumption) ?_
      · intro X hX
        have c0 := hX.cell (fun h => by omega) s1; go_simp
      simp only [Act.put]
      refine wpAnyH_take (i := 5) (v := .int .u64 (x - 1)) rfl (by kernel_rfl) (by kernel_rfl) (by kernel_rfl) (fun _ _ _ h => h) (Or.inl ⟨by rfl, ?_⟩) (by assumption) ?_
      · intro X hX
        have c0 := hX.cell (fun h => by omega) y0; go_simp
      simp only [Act.put]
      refine wpAnyH_ready (rs := [6]) (by kernel_rfl) (by simp) ?_
      refine AllReadyH.cons (o := _) rfl (fun K hK => ?_) AllReadyH.nil
      go_simp
      rw [EMN.out]
      refine hK.out _ _ (hS0) (fun hS1 => ?_)
      clear hK K
      refine wpAnyH_ready (rs := [7]) (by kernel_rfl) (by simp) ?_
      refine AllReadyH.cons (o := _) rfl (fun K hK => ?_) AllReadyH.nil
      go_simp
      go_at_call 29
      refine (HWD.out _).mono ?_
      rintro e w3 ⟨rfl, hb3⟩
      go_wp2_with fail
      refine hK.out _ _ (hS0.call hb3) (fun hS2 => ?_)
      clear hK K
      refine wpAnyH_ready (rs := [8]) (by kernel_rfl) (by simp) ?_
      refine AllReadyH.cons (o := _) rfl (fun K hK => ?_) AllReadyH.nil
      go_simp
      go_at_call 17
      refine (HPL.out _).mono ?_
      rintro e w4 ⟨rfl, hb4⟩
      go_wp2_with fail
      refine hK.out _ _ (hS2.call hb4) (fun hS3 => ?_)
      clear hK K
      have r1 : w.heap.size + 1 < w3.heap.size := keep_lt hb3 q1
      have v0 : w4.cell? ⟨w.heap.size + 1, 0, none⟩ = some (.int .u64 oh) := keep_cell hb4 r1 (keep_cell hb3 q1 u0)
      have v1 : w4.cell? ⟨w.heap.size + 1, 1, none⟩ = some (.int .u64 ol) := keep_cell hb4 r1 (keep_cell hb3 q1 u1)
      have x0 : w4.frozen? ⟨w.heap.size + 1, 0, none⟩ = false := (hb4.frozen r1).trans ((hb3.frozen q1).trans g0)
      have x1 : w4.frozen? ⟨w.heap.size + 1, 1, none⟩ = false := (hb4.frozen r1).trans ((hb3.frozen q1).trans g1')
      have ho := ((((Only.refl (fun b => b = w.heap.size + 1) W).drew.call hb3).call hb4).setCell (p := ⟨w.heap.size + 1, 0, none⟩) (.inl rfl) (.int .u64 (hi64 (outK zs x (k + 1))))).setCell (p := ⟨w.heap.size + 1, 1, none⟩) (.inl rfl) (.int .u64 (lo64 (outK zs x (k + 1))))
      have e4 := (hb4.block _ r1).trans ((hb3.block _ q1).trans HH2.out)
      refine wpAnyH_ready (rs := [9]) (by kernel_rfl) (by simp) ?_
      refine AllReadyH.cons (o := _) rfl (fun K hK => ?_) AllReadyH.nil
      go_simp
      refine hK.out _ _ (ho) (fun hS4 => ?_)
      clear hK K
      refine wpAnyH_done (by kernel_rfl) ?_ _
      exact ⟨ho.wide (fun b h => .inr h), hkm, ho.obj (fun h => by omega) HH1.out, heap_setCell_same _ _ 1 _ _ _ (heap_setCell_same _ _ 0 _ _ _ e4), ho.obj (fun h => by omega) HH3.out, ho.obj (fun h => by omega) HH4.out, h5.trans (ho.below (n := w.heap.size) h5.size (fun k hk => by omega))⟩
    · have hkm : m = k := by
        by_cases e : m = k
        · exact e
        · have := HM.out.before k (by omega); rw [← ELO.out] at this; omega
      by_cases hx0 : 0 < x
      · have ebt : pb = true := by rw [EPB.out]; unfold prevB; simp; omega
        have epx : pv = x - 1 := by rw [EPV.out]; unfold prevV; rw [if_neg (by omega)]
        subst ebt epx hkm
        have hng : x - 1 < lo := by omega
        gi_wp2
        have ho := ((Only.refl (fun b => b = w.heap.size ∨ b = w.heap.size + 1) W).setCell (p := ⟨w.heap.size, 0, none⟩) (.inl (.inl rfl)) (.int .u64 oh)).setCell (p := ⟨w.heap.size, 1, none⟩) (.inl (.inl rfl)) (.int .u64 ol)
        have e := heap_setCell_same _ _ 1 _ _ (.int .u64 ol) (heap_setCell_same _ _ 0 _ _ (.int .u64 oh) HH1.out)
        exact ⟨ho, rfl, rfl, by rw [← EOH.out, ← EOL.out]; exact e, h5.trans (ho.below (n := w.heap.size) h5.size (fun k hk => by omega))⟩
      · have ebt : pb = false := by rw [EPB.out]; unfold prevB; simp; omega
        subst ebt hkm
        gi_wp2
        have ho := ((Only.refl (fun b => b = w.heap.size ∨ b = w.heap.size + 1) W).setCell (p := ⟨w.heap.size, 0, none⟩) (.inl (.inl rfl)) (.int .u64 oh)).setCell (p := ⟨w.heap.size, 1, none⟩) (.inl (.inl rfl)) (.int .u64 ol)
        have e := heap_setCell_same _ _ 1 _ _ (.int .u64 ol) (heap_setCell_same _ _ 0 _ _ (.int .u64 oh) HH1.out)
        exact ⟨ho, rfl, rfl, by rw [← EOH.out, ← EOL.out]; exact e, h5.trans (ho.below (n := w.heap.size) h5.size (fun k hk => by omega))⟩
  case done =>
    rintro D W hD ⟨h0, h1, h2, h3, h4, h5⟩ hK
    have hkm := hide (show len = m by have := HM.out.le; omega)
    have q0 : W.cell? ⟨w.heap.size + 1, 0, none⟩ = some (.int .u64 (hi64 (outK zs x len))) := by simp [World.cell?, h2]
    have q1 : W.cell? ⟨w.heap.size + 1, 1, none⟩ = some (.int .u64 (lo64 (outK zs x len))) := by simp [World.cell?, h2]
    have f0 : W.frozen? ⟨w.heap.size, 0, none⟩ = false := frozen_of_row W _ 0 _ _ h1
    have f1 : W.frozen? ⟨w.heap.size, 1, none⟩ = false := frozen_of_row W _ 1 _ _ h1
    have s0 : w.heap.size < W.heap.size := Blk_lt h1
    have z0 : W.cell? ⟨w.heap.size, 0, none⟩ = some (.int .u64 0) := by simp [World.cell?, h1]
    have z1 : W.cell? ⟨w.heap.size, 1, none⟩ = some (.int .u64 0) := by simp [World.cell?, h1]
    gi_wp2
    refine ⟨by simp, .inl ⟨_, _, rfl, run_takeDeferred ((Below.heap_setCell _ _ _ D (by show D ≠ w.heap.size; omega)).trans ((Below.heap_setCell _ _ _ D (by show D ≠ w.heap.size; omega)).trans hK)), ?_⟩⟩
    have e := (World.putObj_heap_other (o := .deferred none) (show w.heap.size ≠ D by omega)).trans (heap_setCell_same _ _ 1 _ _ (.int .u64 (lo64 (outK zs x len))) (heap_setCell_same _ _ 0 _ _ (.int .u64 (hi64 (outK zs x len))) h1))
    refine ⟨.agg #[.int .u64 (hi64 (outK zs x len)), .int .u64 (lo64 (outK zs x len))], ?_, by rw [hkm.out], ?_⟩
    · simp [results, Try.results13, go_sem, World.cell?, e]
    · exact (bl_set (bl_set h5 (by show _ ≤ w.heap.size; omega) _) (by show _ ≤ w.heap.size; omega) _).trans ((Only.putObj (may := fun x => x = D) _ D (.deferred none) rfl).below (n := w.heap.size) (by have := h5.size; simp; omega) (fun k (hk : k = D) => by omega))
  case stop =>
    rintro D c k W hD hk ⟨rfl, hkm, h1, h5⟩ hK
    gi_wp2
    refine ⟨by simp, .inl ⟨_, _, rfl, run_takeDeferred hK, ?_⟩⟩
    have e := (World.putObj_heap_other (o := .deferred none) (show w.heap.size ≠ D by omega)).trans h1
    refine ⟨.agg #[.int .u64 (hi64 (outK zs x m)), .int .u64 (lo64 (outK zs x m))], ?_, rfl, ?_⟩
    · simp [results, Try.results13, go_sem, World.cell?, e]
    · exact h5.trans ((Only.putObj (may := fun x => x = D) _ D (.deferred none) rfl).below (n := w.heap.size) (by have := h5.size; omega) (fun k (hk : k = D) => by omega))
end Go.Proofs.Ytccaeocnecfmaaa
