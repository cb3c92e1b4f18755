/- The law PackSteps. -/
import Derived.Test.YtppeogalaikopaaDoorMG20
import Derived.Test.YtppeogalaikopaaDoorMG28
import Derived.Test.YtppeogalaikopaaDoorMG30
import Derived.Test.YtppeogalaikopaaDoorMG23
namespace Go.Proofs.YtppeogalaikopaaDoor
open Go Go.RowKit
set_option linter.unusedSimpArgs false
set_option linter.unusedVariables false

theorem ints_one {w : World} {b : Nat} {x : Int} (hx : Word x) (h : w.heap[b]? = some (.cells #[.int .u64 x] 51 (0, 0))) : Ints .u64 w (some ⟨b, 0, none⟩) 1 [x] where
  length := rfl
  most := by omega
  wf := fun z hz => by obtain rfl : z = x := by simpa using hz
                       exact wf_of_word hx
  cells := fun i hi => by
    obtain rfl : i = 0 := by omega
    exact ⟨b, 0, rfl, Blk_lt h, by simp [World.cell?, h]⟩
theorem bl_trans' {n m : Nat} {w w1 w2 : World} (h : Below n w w1) (h' : Below n w1 w2) : Below n w w2 := h.trans h'
theorem u8_of {x : Int} (h : (Lit.int .u8 x).wf = true) : 0 ≤ x ∧ x ≤ 255 := byte_of_wf h
/-- The index of number k in the bytes. -/
def posN (xs : List Int) (k : Nat) : Nat := (joinB (xs.take k)).length
theorem posN_0 (xs : List Int) : posN xs 0 = 0 := rfl
theorem posN_all (xs : List Int) : posN xs xs.length = (joinB xs).length := by unfold posN; rw [List.take_length]
theorem take_get {xs : List Int} {k : Nat} (hk : k < xs.length) : xs.take (k + 1) = xs.take k ++ [xs.getD k 0] := by
  rw [List.take_succ_eq_append_getElem hk]
  simp [List.getD, List.getElem?_eq_getElem hk]
theorem posN_succ {xs : List Int} {k : Nat} (hk : k < xs.length) : posN xs (k + 1) = posN xs k + (vb 10 (xs.getD k 0)).length := by
  unfold posN
  rw [take_get hk, joinB_snoc, List.length_append]
theorem rd_at {xs : List Int} (hw : ∀ x ∈ xs, Word x) {k : Nat} (hk : k < xs.length) : Rd (joinB xs) (posN xs k) (.ok (xs.getD k 0, (posN xs (k + 1) : Nat))) := by
  have hx : Word (xs.getD k 0) := by
    have e : xs.getD k 0 = xs[k] := by simp [List.getD, List.getElem?_eq_getElem hk]
    rw [e]; exact hw _ (List.getElem_mem _)
  have h := rd_vb (joinB (xs.take k)) (joinB (xs.drop (k + 1))) (xs.getD k 0) hx
  have e : joinB (xs.take k) ++ vb 10 (xs.getD k 0) ++ joinB (xs.drop (k + 1)) = joinB xs := by
    rw [← joinB_snoc, ← take_get hk, ← joinB_append, List.take_append_drop]
  rw [e] at h
  have e2 : ((joinB (xs.take k)).length : Int) + (vb 10 (xs.getD k 0)).length = (posN xs (k + 1) : Nat) := by rw [posN_succ hk]; unfold posN; omega
  rw [e2] at h
  exact h
theorem rd_end (xs : List Int) : Rd (joinB xs) (posN xs xs.length) (.error 5) := .out (.inr (by rw [posN_all]; omega))
/-- The memory in front of the law's answer at an error. -/
structure StE (w : World) (p r : Nat) (lm : Lim) (c a : Int) (W : World) : Prop where
  cd : W.cell? ⟨p, 3, none⟩ = some (.int .i64 c)
  at' : W.cell? ⟨p, 4, none⟩ = some (.int .i64 a)
  rdx : ∃ v cp en hl, RdR W r lm .nilFunc (.iface 44 (.int .i64 c)) v en hl cp
  bl : Below w.heap.size w W
theorem StE.below {w W W' : World} {p r : Nat} {lm : Lim} {c a : Int} (h : StE w p r lm c a W) (hb : Below W.heap.size W W') : StE w p r lm c a W' :=
  ⟨keep_c hb h.cd, keep_c hb h.at', by obtain ⟨v, cp, en, hl, hR⟩ := h.rdx; exact ⟨v, cp, en, hl, hR.below hb⟩, bl_trans h.bl hb⟩
theorem StE.drew {w W : World} {p r : Nat} {lm : Lim} {c a : Int} (h : StE w p r lm c a W) : StE w p r lm c a W.drew := h.below (bl_drew (Below.refl _ _))
theorem StE.rd {w W : World} {p r : Nat} {lm : Lim} {c a : Int} (h : StE w p r lm c a W) : RdR W r lm .nilFunc (.iface 44 (.int .i64 c)) h.rdx.choose h.rdx.choose_spec.choose_spec.choose h.rdx.choose_spec.choose_spec.choose_spec.choose h.rdx.choose_spec.choose := h.rdx.choose_spec.choose_spec.choose_spec.choose_spec
theorem MemF.at {w : World} {base r : Nat} {lm : Lim} {fn er : Value} {s : St} (h : MemF w base r lm fn er s) : ∃ v cp, RdR w r lm fn er v s.ents s.hls cp := by
  obtain ⟨_, v, cp, h1, _⟩ := h
  exact ⟨v, cp, h1⟩

/-- The loop over the numbers. -/
def SJ (lm : Lim) (zs xs : List Int) (o : Except (Int × Int) (List Ent × Int)) (base r k : Nat) (W : World) : Prop :=
  ∃ s, GoN lm zs o s (posN xs k) ∧ MemF W base r lm (s.ph.fn r) .nilIface s
/-- What the reference left. -/
def RefJ (o : Except (Int × Int) (List Ent × Int)) (p : Nat) (bv wv : Value) (len base : Nat) (W : World) : Prop :=
  (∃ (l : List EV) (n : Nat), o = .ok (l.map (·.1), (n : Int)) ∧ CGo W p bv len n ∧ RowF W base wv l) ∨ (∃ c at', o = .error (c, at') ∧ CErr W p bv len c at' ∧ wv = .slice none 0 0)
theorem RefJ.below {o : Except (Int × Int) (List Ent × Int)} {p : Nat} {bv wv : Value} {len base : Nat} {W W' : World} (h : RefJ o p bv wv len base W) (hb : Below W.heap.size W W') : RefJ o p bv wv len base W' :=
  h.elim (fun ⟨l, n, h1, h2, h3⟩ => .inl ⟨l, n, h1, CurC.below h2 hb, h3.below hb⟩) (fun ⟨c, a, h1, ⟨h2, nx, h3⟩, h4⟩ => .inr ⟨c, a, h1, ⟨h2, nx, CurC.below h3 hb⟩, h4⟩)

set_option maxRecDepth 100000 in
set_option maxHeartbeats 16000000 in
theorem packSteps_walk (a : Option Addr) (len cap : Nat) (l : List EV) (lm : Lim) (s0 s1 : Int) (w : World) (h : EntsAt w a len l) (hL : LimW lm) (h0 : (Lit.int .u8 s0).wf = true) (h1 : (Lit.int .u8 s1).wf = true) (hg : Laid w) :
    Calls Tryd.prog 5 #[.slice a len cap, .agg #[.int .i64 lm.f, .int .i64 lm.ve, .int .i64 lm.en, .int .i64 lm.ho, .int .i64 lm.se], .agg #[.int .u8 s0, .int .u8 s1]] w fun e w' => e = .returned (.bool true) ∧ Below w.heap.size w w' := by
  have hmx : Tryd.prog.follows .mixedOrders = true := by kernel_rfl
  have HG := hide (fun W (hb : Below w.heap.size w W) => hg.below hb)
  have E := hide h
  have HL := hide hL
  have hl := h.length
  obtain ⟨hs0, hs0'⟩ := u8_of h0
  obtain ⟨hs1, hs1'⟩ := u8_of h1
  clear h h0 h1 hg hL
  go_enter Tryd.func5, Tryd.ntmps5
  go_wp2_with fail
  have hb0 : Below w.heap.size w ((w.alloc (.cells #[.int .i64 lm.f, .int .i64 lm.ve, .int .i64 lm.en, .int .i64 lm.ho, .int .i64 lm.se] 36)).alloc (.cells #[.int .u8 s0, .int .u8 s1] 48)) := bl_alloc (bl_alloc (Below.refl _ _) _) _
  refine (few_any a len cap l _ (E.out.below hb0)).mono ?_
  rintro e w1 ⟨⟨b, rfl, hF⟩, hb1⟩
  have X1 := hide (show w1.heap[w.heap.size]? = some (.cells #[.int .i64 lm.f, .int .i64 lm.ve, .int .i64 lm.en, .int .i64 lm.ho, .int .i64 lm.se] 36 (0, 0)) from (hb1.block _ (by simp; omega)).trans (heap_old_at _ _ (by simp) (heap_new_at _ _ rfl)))
  have Y1 := hide (show w1.heap[w.heap.size + 1]? = some (.cells #[.int .u8 s0, .int .u8 s1] 48 (0, 0)) from (hb1.block _ (by simp)).trans (heap_new_at _ _ (by simp)))
  have B1 := hide (bl_trans hb0 hb1)
  clear hb1 hb0
  cases b with
  | false =>
    clear hF
    go_wp2_with fail
    refine (alive_any _ (HG.out _ B1.out)).mono ?_
    rintro e w2 ⟨rfl, b2⟩
    go_wp2
    go_ret
    exact ⟨rfl, bl_trans B1.out b2⟩
  | true =>
    have FEW := hide (hF rfl)
    clear hF
    go_wp2_with fail
    refine (r9canon_any a len cap l _ (E.out.below B1.out)).mono ?_
    rintro e w2 ⟨⟨b, rfl, hF⟩, hb2⟩
    have X2 := hide ((hb2.block _ (Blk_lt X1.out)).trans X1.out)
    have Y2 := hide ((hb2.block _ (Blk_lt Y1.out)).trans Y1.out)
    have B2 := hide (bl_trans B1.out hb2)
    clear hb2
    cases b with
    | false =>
      clear hF
      go_wp2_with fail
      refine (alive_any _ (HG.out _ B2.out)).mono ?_
      rintro e w3 ⟨rfl, b3⟩
      go_wp2
      go_ret
      exact ⟨rfl, bl_trans B2.out b3⟩
    | true =>
      have CAN := hide (hF rfl)
      clear hF
      by_cases hz : len = 0
      · have n0 : ((len : Int) == 0) = true := by simp; omega
        clear hz
        go_wp2_with fail
        refine (alive_any _ (HG.out _ B2.out)).mono ?_
        rintro e w3 ⟨rfl, b3⟩
        go_wp2
        go_ret
        exact ⟨rfl, bl_trans B2.out b3⟩
      · have n0 : ((len : Int) == 0) = false := by simp; omega
        obtain ⟨es, ees⟩ : ∃ es, l.map (·.1) = es := ⟨_, rfl⟩
        rw [ees] at FEW CAN
        have hles : es.length = len := by rw [← ees, List.length_map, hl]
        have hnum := few_nums FEW.out
        have hhs := few_hs FEW.out
        have h20 := FEW.out.1
        have hwd : ∀ e ∈ es, EntW e := fun e he => by
          rw [← ees] at he
          obtain ⟨q, hq, rfl⟩ := List.mem_map.1 he
          exact E.out.words q hq
        have NW := hide (numsTo_words CAN.out hwd (fun e he => by have := hhs e he; omega) (by omega) es.length (Nat.le_refl _))
        have KN := hide (fun W (hb : Below w.heap.size w W) => rnumbers_any a len cap l es W (E.out.below hb) ees CAN.out (fun e he => by have := hhs e he; omega) (by omega))
        have hN0 : 0 < (numsV es).length := by
          have : ∀ k, 0 < (numsTo es k).length := fun k => by
            induction k with
            | zero => simp [numsTo]
            | succ k ih => rw [show numsTo es (k + 1) = numsTo es k ++ numE (repN es k) (es.getD k Ent.z) from rfl, List.length_append]; omega
          exact this es.length
        obtain ⟨ns, ens⟩ : ∃ ns, numsV es = ns := ⟨_, rfl⟩
        have NW := hide (show ∀ x ∈ ns, Word x from by rw [← ens]; exact NW.out)
        rw [ens] at KN hN0 hnum
        obtain ⟨N, eN⟩ : ∃ N, ns.length = N := ⟨_, rfl⟩
        rw [eN] at hN0 hnum
        have EN := hide eN
        have q1 : IntKind.i64.wrap s0 = s0 := by rw [IntKind.wrap_i64]; omega
        have q3 : ¬ ((N : Int) = 0) := by omega
        have q3' : ((N : Int) == 0) = false := by simp; omega
        have q3n : ¬ N = 0 := by omega
        obtain ⟨i, ei⟩ : ∃ i : Nat, s0 % (N : Int) = i := ⟨(s0 % (N : Int)).toNat, by have := Int.emod_nonneg s0 q3; omega⟩
        have hi : i < N := by have := Int.emod_lt_of_pos s0 (show (0 : Int) < (N : Int) by omega); omega
        have q4 : s0.tmod (N : Int) = i := by rw [← ei]; exact Int.tmod_eq_emod_of_nonneg hs0
        have q5 : IntKind.i64.wrap (i : Int) = i := by rw [IntKind.wrap_i64]; omega
        have q6 : (0 : Int) ≤ (i : Int) := by omega
        have q7 : (i : Int) < (N : Int) := by omega
        have q8 : IntKind.u64.wrap s1 = s1 := by rw [IntKind.wrap_u64]; omega
        obtain ⟨xi, exi⟩ : ∃ x, ns.getD i 0 = x := ⟨_, rfl⟩
        obtain ⟨y, ey⟩ : ∃ y, IntKind.u64.wrap (xi + s1) = y := ⟨_, rfl⟩
        have WY := hide (show Word y from by rw [← ey]; exact wrap_is_word _)
        have EXI := hide exi
        clear hz hles hhs h20 hwd ens eN ei q3 ees hl exi
        go_wp2_with fail
        refine (KN.out _ B2.out).mono ?_
        rintro e w3 ⟨v3, rfl, hO3, hb3⟩
        have X3 := hide ((hb3.block _ (Blk_lt X2.out)).trans X2.out)
        have Y3 := hide ((hb3.block _ (Blk_lt Y2.out)).trans Y2.out)
        have B3 := hide (bl_trans B2.out hb3)
        have B23 := hide hb3
        obtain ⟨g, c3, hv3, hbg, hgl⟩ := hO3.row.form (by rw [EN.out]; exact hN0)
        rw [EN.out] at hv3
        subst hv3
        have O3 := hide hO3
        have hr : w3.ownsRow w2.heap.size 51 1 (.slice (some ⟨g, 0, none⟩) N c3) N (ns.map (Value.int .u64)) := by have := hO3.row; rw [EN.out] at this; exact this
        have gc : w3.cell? ⟨g, i, none⟩ = some (.int .u64 xi) := (hr.cellAt i (by omega)).trans (by
          have hin : i < ns.length := by rw [EN.out]; exact hi
          rw [List.getElem?_map, List.getElem?_eq_getElem hin, ← EXI.out]
          simp [List.getD, List.getElem?_eq_getElem hin])
        have gf := hr.frozenAt
        have HR3 := hide hr
        have y0 : w3.cell? ⟨w.heap.size + 1, 0, none⟩ = some (.int .u8 s0) := by simp [World.cell?, Y3.out]
        have y1 : w3.cell? ⟨w.heap.size + 1, 1, none⟩ = some (.int .u8 s1) := by simp [World.cell?, Y3.out]
        have hgy : g ≠ w.heap.size + 1 := by have := Blk_lt Y2.out; omega
        have hgx : g ≠ w.heap.size := by have := Blk_lt X2.out; omega
        clear hb3 hO3 hr
        go_wp2_with fail
        go_region
        go_goals
        have hr5 := own_only (HR3.out.stored i (.int .u64 y)).1 (Only.of_below (may := fun _ => False) (bl_drew (Below.refl (w3.setCell ⟨g, i, none⟩ (.int .u64 y)).heap.size (w3.setCell ⟨g, i, none⟩ (.int .u64 y))))) (fun _ _ h => h.elim)
        have ho5 : Only (fun b => b = g) w3 (w3.setCell ⟨g, i, none⟩ (.int .u64 y)).drew := ((Only.refl (fun b => b = g) w3).setCell (p := ⟨g, i, none⟩) (.inl rfl) (.int .u64 y)).drew
        have hb5 : Below w.heap.size w (w3.setCell ⟨g, i, none⟩ (.int .u64 y)).drew := bl_drew (bl_set B3.out (p := ⟨g, i, none⟩) (Nat.le_trans B2.out.size hbg) (.int .u64 y))
        obtain ⟨xs, exs⟩ : ∃ xs, ns.set i y = xs := ⟨_, rfl⟩
        have O5 := hide (show OwnI (w3.setCell ⟨g, i, none⟩ (.int .u64 y)).drew w2.heap.size (.slice (some ⟨g, 0, none⟩) N c3) xs from by
          rw [← exs]
          refine ⟨by rw [List.length_set, List.map_set, EN.out]; exact hr5, fun z hz => ?_⟩
          rcases List.mem_or_eq_of_mem_set hz with hz | rfl
          · exact NW.out z hz
          · exact WY.out)
        have EXL := hide (show xs.length = N from by rw [← exs, List.length_set, EN.out])
        have X5 := hide (ho5.obj (show ¬ w.heap.size = g from fun e => hgx e.symm) X3.out)
        have B5 := hide hb5
        obtain ⟨W5, eW5⟩ : ∃ W, (w3.setCell ⟨g, i, none⟩ (.int .u64 y)).drew = W := ⟨_, rfl⟩
        rw [eW5] at O5 X5 B5 ⊢
        have XW := hide O5.out.words
        clear hr5 ho5 hb5 exs eW5 gc gf y0 y1 O3 HR3 X3 Y3 EXI NW WY ey
        obtain ⟨a5, c5, ea5, hI5, _⟩ := O5.out.ints (by rw [EXL.out]; omega)
        obtain ⟨rfl, -, rfl⟩ : some ⟨g, 0, none⟩ = a5 ∧ N = xs.length ∧ c3 = c5 := by simpa using ea5
        rw [EXL.out] at hI5
        have I5 := hide hI5
        clear ea5 hI5
        go_wp2_with fail
        refine (rjoin_any _ N c3 xs _ I5.out (by omega)).mono ?_
        rintro e w6 ⟨v6, rfl, hO6, hb6⟩
        have hJm := joinB_most xs
        rw [EXL.out] at hJm
        obtain ⟨L, eL⟩ : ∃ L, (joinB xs).length = L := ⟨_, rfl⟩
        have EL := hide eL
        rw [eL] at hJm
        obtain ⟨a6, c6, rfl, hI6, _⟩ := hO6.ints (by rw [eL]; omega)
        rw [eL] at hI6 ⊢
        have I6 := hide hI6
        have X6 := hide ((hb6.block _ (Blk_lt X5.out)).trans X5.out)
        have B6 := hide (bl_trans B5.out hb6)
        have I56 := hide (I5.out.below hb6)
        obtain ⟨o, ho⟩ := run_some lm (joinB xs) _ St0 (0 : Nat) (Nat.le_refl _)
        have RUN := hide ho
        have hL2 : L ≤ 20000 := by omega
        have KV := hide (fun p W (hp : w6.heap.size ≤ p) (hb : Below w6.heap.size w6 W) (hG : CGo W p (.slice a6 L c6) L 0) => vector_go (o := o) (lm := lm) (wb := w6) I6.out (by omega) HL.out hp (a := 0) (by omega) W hb hG ho)
        clear hO6 hI6 hb6 eL ho hJm
        have z0 : w6.cell? ⟨w.heap.size, 0, none⟩ = some (.int .i64 lm.f) := by simp [World.cell?, X6.out]
        have z1 : w6.cell? ⟨w.heap.size, 1, none⟩ = some (.int .i64 lm.ve) := by simp [World.cell?, X6.out]
        have z2 : w6.cell? ⟨w.heap.size, 2, none⟩ = some (.int .i64 lm.en) := by simp [World.cell?, X6.out]
        have z3 : w6.cell? ⟨w.heap.size, 3, none⟩ = some (.int .i64 lm.ho) := by simp [World.cell?, X6.out]
        have z4 : w6.cell? ⟨w.heap.size, 4, none⟩ = some (.int .i64 lm.se) := by simp [World.cell?, X6.out]
        have hzl := Blk_lt X6.out
        have hzn : w.heap.size ≠ w6.heap.size := by omega
        go_wp2_with fail
        have hb7 : Below w6.heap.size w6 (w6.alloc (.cells #[.slice a6 L c6, .int .i64 0, .int .i64 L, .int .i64 0, .int .i64 0, .bool false] 42)) := bl_alloc (Below.refl _ _) _
        refine (KV.out w6.heap.size _ (Nat.le_refl _) hb7 (heap_new_at _ _ rfl)).mono ?_
        rintro e w8 ⟨hO8, hor⟩
        have hb68 : Below w6.heap.size w6 w8 := hb7.trans (hO8.below hb7.size (fun k hk => by subst hk; exact Nat.le_refl _))
        obtain ⟨wv, rfl, hRJ⟩ : ∃ wv, e = .returned wv ∧ RefJ o w6.heap.size (.slice a6 L c6) wv L (w6.alloc (.cells #[.slice a6 L c6, .int .i64 0, .int .i64 L, .int .i64 0, .int .i64 0, .bool false] 42)).heap.size w8 := by
          rcases hor with ⟨l', n, v, h1, h2, h3, h4⟩ | ⟨c, at', h1, h2, h3⟩
          · exact ⟨v, h3, .inl ⟨l', n, h1, h2, h4⟩⟩
          · exact ⟨_, h3, .inr ⟨c, at', h1, h2, rfl⟩⟩
        obtain ⟨bz, ebz⟩ : ∃ bz, (w6.alloc (.cells #[.slice a6 L c6, .int .i64 0, .int .i64 L, .int .i64 0, .int .i64 0, .bool false] 42)).heap.size = bz := ⟨_, rfl⟩
        rw [ebz] at hRJ
        have RJ8 := hide hRJ
        have X8 := hide ((hb68.block _ (Blk_lt X6.out)).trans X6.out)
        have B8 := hide (bl_trans B6.out hb68)
        have I8 := hide (I56.out.below hb68)
        obtain ⟨p, ep⟩ : ∃ p, w6.heap.size = p := ⟨_, rfl⟩
        rw [ep] at RJ8
        have hp8 : Hid (p < w8.heap.size) := hide (by rw [← ep]; have := hO8.size; simp at this; omega)
        clear hor hRJ hO8 hb7 hb68 z0 z1 z2 z3 z4 ebz KV
        have z0 : w8.cell? ⟨w.heap.size, 0, none⟩ = some (.int .i64 lm.f) := by simp [World.cell?, X8.out]
        have z1 : w8.cell? ⟨w.heap.size, 1, none⟩ = some (.int .i64 lm.ve) := by simp [World.cell?, X8.out]
        have z2 : w8.cell? ⟨w.heap.size, 2, none⟩ = some (.int .i64 lm.en) := by simp [World.cell?, X8.out]
        have z3 : w8.cell? ⟨w.heap.size, 3, none⟩ = some (.int .i64 lm.ho) := by simp [World.cell?, X8.out]
        have z4 : w8.cell? ⟨w.heap.size, 4, none⟩ = some (.int .i64 lm.se) := by simp [World.cell?, X8.out]
        rw [ep]
        clear ep hzn hzl
        go_wp2_with fail
        refine (begin_any lm w8.heap.size w8 (Nat.le_refl _)).mono ?_
        rintro e w9 ⟨r, rfl, hr9, hm9, hb9⟩
        have M9 := hide hm9
        have B9 := hide hb9
        clear hr9 hm9 hb9 z0 z1 z2 z3 z4
        have N18 := hide (show N ≤ 1300 from by omega)
        clear hnum q1 q3' q3n q4 q5 q6 q7 q8 n0 hi hs0 hs0' hs1 hs1' FEW CAN KN
        go_wp2_with fail
        go_loopw [13, 71] (fun rs c wr => ∃ (k : Nat) (s : St), k ≤ N ∧ c = .int .i64 k ∧ rs = .int .i64 ((L : Int) - (posN xs k : Nat)) ∧ GoN lm (joinB xs) o s (posN xs k) ∧ MemF wr w8.heap.size r lm (s.ph.fn r) .nilIface s ∧ Below w8.heap.size w8 wr)
          (fun _ c _ => N - (intOf c).toNat)
        case atStart => exact ⟨0, St0, Nat.zero_le _, rfl, by rw [posN_0]; simp, ⟨RUN.out, stI_0 _ (by omega), by simp [posN_0]⟩, M9.out, B9.out⟩
        case round =>
          obtain ⟨k, s, hk, rfl, rfl, hG, hM, hb⟩ := hrel
          have GG := hide hG
          have HM := hide hM
          have HB := hide hb
          have BR := hide (bl_trans B8.out hb)
          have I9 := hide (I8.out.below hb)
          clear hG hM hb M9 B9
          have i0 : (0 : Int) ≤ (k : Int) := by omega
          by_cases hlt : k < N
          · have i1 : (k : Int) < (N : Int) := by omega
            have hkx : k < xs.length := by rw [EXL.out]; exact hlt
            obtain ⟨b, off, hbo, hbl, hc⟩ := I9.out.cells k hlt
            obtain ⟨rfl, rfl⟩ : g = b ∧ 0 = off := by simpa using hbo
            have hx : Word (xs.getD k 0) := word_of_wf (I9.out.getD_wf hlt)
            have hrd := rd_at XW.out hkx
            obtain ⟨_, hP1, hP2, _⟩ := rd_ok hrd
            have hsz := posN_succ hkx
            have HRD := hide hrd
            have JL := hide (show (joinB xs).length = L from EL.out)
            rw [JL.out] at hP2
            obtain ⟨x, ex⟩ : ∃ x, xs.getD k 0 = x := ⟨_, rfl⟩
            rw [ex] at hc hx hsz
            rw [Nat.zero_add] at hc
            obtain ⟨P0, eP0⟩ : ∃ P, posN xs k = P := ⟨_, rfl⟩
            obtain ⟨P1, eP1⟩ : ∃ P, posN xs (k + 1) = P := ⟨_, rfl⟩
            rw [eP0, eP1] at hsz
            rw [eP1] at hP2
            rw [eP0] at GG
            have HRD := hide (show Rd (joinB xs) P0 (.ok (x, (P1 : Nat))) from by have := HRD.out; rw [eP0, eP1, ex] at this; exact this)
            obtain ⟨sz, esz⟩ : ∃ z, (vb 10 x).length = z := ⟨_, rfl⟩
            rw [esz] at hsz
            have ESZ := hide (show (joinB [x]).length = sz from by rw [joinB_cons, joinB_nil, List.append_nil]; exact esz)
            have hP2' : P1 ≤ L := by omega
            have hsz' : sz ≤ 20000 := by omega
            obtain ⟨R, eR⟩ : ∃ R : Int, (L : Int) - (P0 : Nat) = R := ⟨_, rfl⟩
            obtain ⟨R1, eR1⟩ : ∃ R : Int, (L : Int) - (P1 : Nat) = R := ⟨_, rfl⟩
            have w1' : IntKind.i64.wrap ((L : Int) - R) = (P0 : Nat) := by rw [IntKind.wrap_i64]; omega
            have w2' : IntKind.i64.wrap (R - (sz : Nat)) = R1 := by rw [IntKind.wrap_i64]; omega
            have w3' : IntKind.i64.wrap ((P0 : Nat) + (sz : Nat) : Int) = (P1 : Nat) := by rw [IntKind.wrap_i64]; omega
            have HXW := hide hx
            have hR1 : -9223372036854775808 ≤ R1 ∧ R1 ≤ 9223372036854775807 := by omega
            have ha6 : (P0 : Int) ≤ 1000000 := by omega
            obtain ⟨q, hq⟩ : ∃ q, stepS lm s x R1 = q := ⟨_, rfl⟩
            have KP := hide (fun W hM' => rput_eq lm HL.out w8.heap.size r s x R1 (P0 : Nat) q hq W hM' GG.out.inv ha6 HXW.out hR1)
            have hq2 : stepS lm s x ((joinB xs).length - (P1 : Nat)) = q := by rw [JL.out, eR1]; exact hq
            rw [eP0, eR]
            have QQ := hide (And.intro hq2 (And.intro eP0 (And.intro eP1 eR1)))
            clear ex eP0 eP1 hsz esz eR eR1 hq hq2 hP1 hP2 hx hrd hbo hR1 ha6
            go_wp2_with fail
            refine (rjoin_any (some ⟨wr.heap.size, 0, none⟩) 1 1 [x] _ (ints_one HXW.out (heap_new_at _ _ rfl)) (by omega)).mono ?_
            rintro e w10 ⟨v10, rfl, hO10, hb10⟩
            obtain ⟨a10, c10, rfl, hI10, _⟩ := hO10.ints (by rw [ESZ.out]; omega)
            rw [ESZ.out] at hI10 ⊢
            have hba := (bl_alloc (Below.refl wr.heap.size wr) (.cells #[.int .u64 x] 51)).trans (below_of hb10 (by simp))
            have HM10 := hide (HM.out.below hba)
            have B10 := hide (bl_trans BR.out hba)
            have B810 := hide (bl_trans HB.out hba)
            clear hb10 hba hO10 hI10 hc
            go_wp2_with fail
            refine (KP.out _ HM10.out).mono ?_
            rintro e w11 hp
            cases q with
            | error c =>
              have hc0 : c ≠ 0 := by rcases step_err QQ.out.1 with g | g | g | g <;> omega
              obtain ⟨rfl, vv, cp, en, hll, hRd⟩ := hp.bad c rfl
              have hb11 := hp.below
              have ho := goN_stop GG.out HRD.out QQ.out.1
              subst ho
              have B811 := hide (B810.out.trans hb11)
              have B11 := hide (bl_trans B8.out B811.out)
              have ER := hide (show CErr w11 p (.slice a6 L c6) L c (P0 : Nat) from by
                rcases RJ8.out.below B811.out with ⟨l', n', h1, _⟩ | ⟨c', a', h1, h2, h3⟩
                · cases h1
                · cases h1; exact h2)
              have RR := hide hRd
              clear hp hRd hb11
              go_wp2_with fail
              refine (rput_over_err lm r c 0 100 _ _ _ _ _ RR.out).mono ?_
              rintro e w12 ⟨rfl, hb12⟩
              have B12 := hide (bl_trans B11.out hb12)
              have ER12 := hide ((cerr_loc p _ _ _ _).below (Blk_lt ER.out.2.choose_spec) hb12 ER.out)
              have RR12 := hide (RR.out.below hb12)
              clear hb12
              go_wp2_with fail
              refine (code_E c _ (HG.out _ B12.out)).mono ?_
              rintro e w13 ⟨rfl, hb13⟩
              have B13 := hide (bl_trans B12.out hb13)
              have ER13 := hide ((cerr_loc p _ _ _ _).below (Blk_lt ER12.out.2.choose_spec) hb13 ER12.out)
              have RR13 := hide (RR12.out.below hb13)
              clear hb13
              go_wp2_with fail
              refine (code_E c _ (HG.out _ B13.out)).mono ?_
              rintro e w14 ⟨rfl, hb14⟩
              have B14 := hide (bl_trans B13.out hb14)
              have ER14 := hide ((cerr_loc p _ _ _ _).below (Blk_lt ER13.out.2.choose_spec) hb14 ER13.out)
              have RR14 := hide (RR13.out.below hb14)
              clear hb14
              obtain ⟨_, nx, hCC⟩ := ER14.out
              obtain ⟨_, _, _, c3', c4', _, _⟩ := CurC.cells hCC
              obtain ⟨a, ea⟩ : ∃ a : Int, ((P0 : Nat) : Int) = a := ⟨_, rfl⟩
              rw [ea] at c4' w1'
              have hE := StE.mk (w := w) (p := p) (r := r) (lm := lm) (c := c) (a := a) (W := w14) c3' c4' ⟨_, _, _, _, RR14.out⟩ B14.out
              have HE := hide hE
              clear hE c3' c4' hCC
              rw [ea]
              clear ea
              go_wp2_with fail
              refine wp_region_held_drew (S := StE w p r lm c a) hmx HE.out.drew (fun hS => ?_)
              refine wpAnyH_ready (rs := [0]) (by kernel_rfl) (by simp) ?_
              refine AllReadyH.cons (o := _) rfl (fun K hK => ?_) AllReadyH.nil
              go_simp
              refine (alive_any _ (HG.out _ hS.bl)).mono ?_
              rintro e wq ⟨rfl, hb⟩
              have hS := hS.below hb
              clear hb
              go_simp
              refine hK.out _ _ hS (fun _ => ?_)
              clear hK K
              refine wpAnyH_takeD (i := 1) (d := some 120) (v := (.bool true)) rfl rfl (by kernel_rfl) (by kernel_rfl) (by kernel_rfl) (fun _ _ _ h => h) (Or.inl ⟨by rfl, ?_⟩) (by assumption) ?_
              · intro X hX; go_simp
              simp only [Act.put, List.setIfInBounds_toArray, List.set_cons_zero, List.set_cons_succ]
              refine wpAnyH_takeD (i := 2) (d := some 121) (v := (.pointer (some ⟨p, 0, none⟩))) rfl rfl (by kernel_rfl) (by kernel_rfl) (by kernel_rfl) (fun _ _ _ h => h) (Or.inl ⟨by rfl, ?_⟩) (by assumption) ?_
              · intro X hX; go_simp
              simp only [Act.put, List.setIfInBounds_toArray, List.set_cons_zero, List.set_cons_succ]
              refine wpAnyH_takeD (i := 3) (d := some 122) (v := (.pointer (some ⟨p, 0, none⟩))) rfl rfl (by kernel_rfl) (by kernel_rfl) (by kernel_rfl) (fun _ _ _ h => h) (Or.inl ⟨by rfl, ?_⟩) (by assumption) ?_
              · intro X hX; go_simp
              simp only [Act.put, List.setIfInBounds_toArray, List.set_cons_zero, List.set_cons_succ]
              refine wpAnyH_takeD (i := 4) (d := some 123) (v := (.pointer (some ⟨p, 3, none⟩))) rfl rfl (by kernel_rfl) (by kernel_rfl) (by kernel_rfl) (fun _ _ _ h => h) (Or.inl ⟨by rfl, ?_⟩) (by assumption) ?_
              · intro X hX; go_simp
              simp only [Act.put, List.setIfInBounds_toArray, List.set_cons_zero, List.set_cons_succ]
              refine wpAnyH_takeD (i := 5) (d := some 124) (v := (.int .i64 c)) rfl rfl (by kernel_rfl) (by kernel_rfl) (by kernel_rfl) (fun _ _ _ h => h) (Or.inl ⟨by rfl, ?_⟩) (by assumption) ?_
              · intro X hX; obtain ⟨x0, x1, x2, x3⟩ := hX; go_simp
              simp only [Act.put, List.setIfInBounds_toArray, List.set_cons_zero, List.set_cons_succ]
              refine wpAnyH_takeD (i := 6) (d := some 125) (v := (.iface 44 (.int .i64 c))) rfl rfl (by kernel_rfl) (by kernel_rfl) (by kernel_rfl) (fun _ _ _ h => h) (Or.inl ⟨by rfl, ?_⟩) (by assumption) ?_
              · intro X hX; go_simp
              simp only [Act.put, List.setIfInBounds_toArray, List.set_cons_zero, List.set_cons_succ]
              refine wpAnyH_ready (rs := [7]) (by kernel_rfl) (by simp) ?_
              refine AllReadyH.cons (o := _) rfl (fun K hK => ?_) AllReadyH.nil
              go_simp
              refine (code_E c _ (HG.out _ hS.bl)).mono ?_
              rintro e wq ⟨rfl, hb⟩
              have hS := hS.below hb
              clear hb
              go_simp
              refine hK.out _ _ hS (fun _ => ?_)
              clear hK K
              refine wpAnyH_takeD (i := 8) (d := some 127) (v := (.bool true)) rfl rfl (by kernel_rfl) (by kernel_rfl) (by kernel_rfl) (fun _ _ _ h => h) (Or.inl ⟨by rfl, ?_⟩) (by assumption) ?_
              · intro X hX; go_simp
              simp only [Act.put, List.setIfInBounds_toArray, List.set_cons_zero, List.set_cons_succ]
              refine wpAnyH_takeD (i := 9) (d := some 128) (v := (.bool true)) rfl rfl (by kernel_rfl) (by kernel_rfl) (by kernel_rfl) (fun _ _ _ h => h) (Or.inl ⟨by rfl, ?_⟩) (by assumption) ?_
              · intro X hX; go_simp
              simp only [Act.put, List.setIfInBounds_toArray, List.set_cons_zero, List.set_cons_succ]
              refine wpAnyH_takeD (i := 10) (d := some 129) (v := (.bool true)) rfl rfl (by kernel_rfl) (by kernel_rfl) (by kernel_rfl) (fun _ _ _ h => h) (Or.inl ⟨by rfl, ?_⟩) (by assumption) ?_
              · intro X hX; go_simp
              simp only [Act.put, List.setIfInBounds_toArray, List.set_cons_zero, List.set_cons_succ]
              refine wpAnyH_takeD (i := 11) (d := some 130) (v := (.pointer (some ⟨p, 0, none⟩))) rfl rfl (by kernel_rfl) (by kernel_rfl) (by kernel_rfl) (fun _ _ _ h => h) (Or.inl ⟨by rfl, ?_⟩) (by assumption) ?_
              · intro X hX; go_simp
              simp only [Act.put, List.setIfInBounds_toArray, List.set_cons_zero, List.set_cons_succ]
              refine wpAnyH_takeD (i := 12) (d := some 131) (v := (.pointer (some ⟨p, 0, none⟩))) rfl rfl (by kernel_rfl) (by kernel_rfl) (by kernel_rfl) (fun _ _ _ h => h) (Or.inl ⟨by rfl, ?_⟩) (by assumption) ?_
              · intro X hX; go_simp
              simp only [Act.put, List.setIfInBounds_toArray, List.set_cons_zero, List.set_cons_succ]
              refine wpAnyH_takeD (i := 13) (d := some 132) (v := (.pointer (some ⟨p, 4, none⟩))) rfl rfl (by kernel_rfl) (by kernel_rfl) (by kernel_rfl) (fun _ _ _ h => h) (Or.inl ⟨by rfl, ?_⟩) (by assumption) ?_
              · intro X hX; go_simp
              simp only [Act.put, List.setIfInBounds_toArray, List.set_cons_zero, List.set_cons_succ]
              refine wpAnyH_takeD (i := 14) (d := some 133) (v := (.int .i64 a)) rfl rfl (by kernel_rfl) (by kernel_rfl) (by kernel_rfl) (fun _ _ _ h => h) (Or.inl ⟨by rfl, ?_⟩) (by assumption) ?_
              · intro X hX; obtain ⟨x0, x1, x2, x3⟩ := hX; go_simp
              simp only [Act.put, List.setIfInBounds_toArray, List.set_cons_zero, List.set_cons_succ]
              refine wpAnyH_takeD (i := 15) (d := some 134) (v := (.int .i64 a)) rfl rfl (by kernel_rfl) (by kernel_rfl) (by kernel_rfl) (fun _ _ _ h => h) (Or.inl ⟨by rfl, ?_⟩) (by assumption) ?_
              · intro X hX; go_simp
              simp only [Act.put, List.setIfInBounds_toArray, List.set_cons_zero, List.set_cons_succ]
              refine wpAnyH_takeD (i := 16) (d := some 135) (v := (.bool true)) rfl rfl (by kernel_rfl) (by kernel_rfl) (by kernel_rfl) (fun _ _ _ h => h) (Or.inl ⟨by rfl, ?_⟩) (by assumption) ?_
              · intro X hX; go_simp
              simp only [Act.put, List.setIfInBounds_toArray, List.set_cons_zero, List.set_cons_succ]
              refine wpAnyH_takeD (i := 17) (d := some 136) (v := (.bool true)) rfl rfl (by kernel_rfl) (by kernel_rfl) (by kernel_rfl) (fun _ _ _ h => h) (Or.inl ⟨by rfl, ?_⟩) (by assumption) ?_
              · intro X hX; go_simp
              simp only [Act.put, List.setIfInBounds_toArray, List.set_cons_zero, List.set_cons_succ]
              refine wpAnyH_takeD (i := 18) (d := some 137) (v := (.bool true)) rfl rfl (by kernel_rfl) (by kernel_rfl) (by kernel_rfl) (fun _ _ _ h => h) (Or.inl ⟨by rfl, ?_⟩) (by assumption) ?_
              · intro X hX; go_simp
              simp only [Act.put, List.setIfInBounds_toArray, List.set_cons_zero, List.set_cons_succ]
              refine wpAnyH_takeD (i := 19) (d := some 138) (v := (.pointer (some ⟨r, 0, none⟩))) rfl rfl (by kernel_rfl) (by kernel_rfl) (by kernel_rfl) (fun _ _ _ h => h) (Or.inl ⟨by rfl, ?_⟩) (by assumption) ?_
              · intro X hX; go_simp
              simp only [Act.put, List.setIfInBounds_toArray, List.set_cons_zero, List.set_cons_succ]
              refine wpAnyH_ready (rs := [20]) (by kernel_rfl) (by simp) ?_
              refine AllReadyH.cons (o := _) rfl (fun K hK => ?_) AllReadyH.nil
              go_simp
              refine (vector_err lm r c _ _ _ _ _ hS.rd).mono ?_
              rintro e wq ⟨rfl, hb⟩
              have hS := hS.below hb
              clear hb
              go_simp
              refine hK.out _ _ hS (fun _ => ?_)
              clear hK K
              refine wpAnyH_takeD (i := 21) (d := some 140) (v := (.int .i64 0)) rfl rfl (by kernel_rfl) (by kernel_rfl) (by kernel_rfl) (fun _ _ _ h => h) (Or.inl ⟨by rfl, ?_⟩) (by assumption) ?_
              · intro X hX; go_simp
              simp only [Act.put, List.setIfInBounds_toArray, List.set_cons_zero, List.set_cons_succ]
              refine wpAnyH_takeD (i := 22) (d := some 141) (v := (.bool true)) rfl rfl (by kernel_rfl) (by kernel_rfl) (by kernel_rfl) (fun _ _ _ h => h) (Or.inl ⟨by rfl, ?_⟩) (by assumption) ?_
              · intro X hX; go_simp
              simp only [Act.put, List.setIfInBounds_toArray, List.set_cons_zero, List.set_cons_succ]
              refine wpAnyH_takeD (i := 23) (d := some 142) (v := (.bool true)) rfl rfl (by kernel_rfl) (by kernel_rfl) (by kernel_rfl) (fun _ _ _ h => h) (Or.inl ⟨by rfl, ?_⟩) (by assumption) ?_
              · intro X hX; go_simp
              simp only [Act.put, List.setIfInBounds_toArray, List.set_cons_zero, List.set_cons_succ]
              refine wpAnyH_takeD (i := 24) (d := some 6) (v := (.bool true)) rfl rfl (by kernel_rfl) (by kernel_rfl) (by kernel_rfl) (fun _ _ _ h => h) (Or.inl ⟨by rfl, ?_⟩) (by assumption) ?_
              · intro X hX; go_simp
              simp only [Act.put, List.setIfInBounds_toArray, List.set_cons_zero, List.set_cons_succ]
              refine wpAnyH_done (by kernel_rfl) ?_ _
              have BB := hide hS.bl
              clear hS
              go_wp2
              go_ret
              exact ⟨rfl, BB.out⟩
            | ok s' =>
              obtain ⟨he, hm11⟩ := hp.good s' rfl
              have hb11 := hp.below
              have haft := goN_step GG.out HRD.out QQ.out.1
              have B811 := hide (B810.out.trans hb11)
              have B11 := hide (bl_trans B8.out B811.out)
              cases hf : s'.ph.isFin with
              | true =>
                rw [hf] at he
                subst he
                rw [fn_fin r hf] at hm11
                obtain ⟨ho, _⟩ := haft.fin hf
                subst ho
                obtain ⟨v3, cp3, l3, hR3, hl3, hF3⟩ := memF_fin hm11 hf
                obtain ⟨l', n', h1, h2, h3⟩ : ∃ (l : List EV) (n : Nat), l.map (·.1) = s'.es ∧ CGo w11 p (.slice a6 L c6) L P1 ∧ RowF w11 bz wv l := by
                  rcases RJ8.out.below B811.out with ⟨l', n', h1, h2, h3⟩ | ⟨c', a', h1, _⟩
                  · injection h1 with h1
                    injection h1 with h4 h5
                    obtain rfl : P1 = n' := by omega
                    exact ⟨l', P1, h4.symm, h2, h3⟩
                  · cases h1
                have SV := hide (show sameV l3 l' = true from decide_eq_true (hl3.trans h1.symm))
                obtain ⟨a3, c3', rfl, hE3, _⟩ := hF3.ents
                obtain ⟨a4, c4', rfl, hE4, _⟩ := h3.ents
                have HR3 := hide hR3
                have E3 := hide hE3
                have E4 := hide hE4
                have CG := hide h2
                clear hp hm11 hb11 haft hR3 hl3 hF3 h1 h2 h3 hE3 hE4
                go_wp2_with fail
                refine (rput_over_fin lm r 0 100 _ _ _ _ _ HR3.out).mono ?_
                rintro e w12 ⟨rfl, hb12⟩
                have B12 := hide (bl_trans B11.out hb12)
                have HR12 := hide (HR3.out.below hb12)
                have E312 := hide (E3.out.below hb12)
                have E412 := hide (E4.out.below hb12)
                have CG12 := hide (CurC.below CG.out hb12)
                clear hb12 HR3 E3 E4 CG
                go_wp2_with fail
                refine (code_nil _).mono ?_
                rintro e w13 ⟨rfl, hb13⟩
                have B13 := hide (bl_trans B12.out hb13)
                have HR13 := hide (HR12.out.below hb13)
                have E313 := hide (E312.out.below hb13)
                have E413 := hide (E412.out.below hb13)
                have CG13 := hide (CurC.below CG12.out hb13)
                clear hb13 HR12 E312 E412 CG12
                go_wp2_with fail
                refine (code_nil _).mono ?_
                rintro e w14 ⟨rfl, hb14⟩
                have B14 := hide (bl_trans B13.out hb14)
                have HR14 := hide (HR13.out.below hb14)
                have E314 := hide (E313.out.below hb14)
                have E414 := hide (E413.out.below hb14)
                have CG14 := hide (CurC.below CG13.out hb14)
                clear hb14 HR13 E313 E413 CG13
                go_wp2_with fail
                refine (alive_any _ (HG.out _ B14.out)).mono ?_
                rintro e w15 ⟨rfl, hb15⟩
                have B15 := hide (bl_trans B14.out hb15)
                have HR15 := hide (HR14.out.below hb15)
                have E315 := hide (E314.out.below hb15)
                have E415 := hide (E414.out.below hb15)
                obtain ⟨_, k1, _, k3, _, _, _⟩ := CurC.cells (CurC.below CG14.out hb15)
                clear hb15 HR14 E314 E414 CG14
                go_wp2_with fail
                refine (vector_fin lm r _ _ _ _ _ HR15.out).mono ?_
                rintro e w16 ⟨rfl, hb16⟩
                have B16 := hide (bl_trans B15.out hb16)
                have E316 := hide (E315.out.below hb16)
                have E416 := hide (E415.out.below hb16)
                clear hb16 HR15 E315 E415 k1 k3
                go_wp2_with fail
                refine (vsame_any _ _ _ _ _ _ l3 l' _ E316.out E416.out).mono ?_
                rintro e w17 ⟨rfl, hb17⟩
                rw [SV.out]
                have B17 := hide (bl_trans B16.out hb17)
                clear hb17
                go_wp2
                go_ret
                exact ⟨rfl, B17.out⟩
              | false =>
                rw [hf] at he
                subst he
                rw [fn_fid r hf] at hm11
                obtain ⟨v3, cp3, hR3⟩ := hm11.at
                rw [← fn_fid r hf] at hm11
                have HM11 := hide hm11
                have HR3 := hide hR3
                have AFT := hide (haft.go hf)
                clear hp hm11 hb11 haft hR3
                go_wp2_with fail
                refine (vector_open lm r _ _ _ _ _ _ _ HR3.out).mono ?_
                rintro e w12 ⟨rfl, hb12⟩
                have M12 := hide (HM11.out.below hb12)
                have B812 := hide (bl_trans B811.out hb12)
                clear hb12 HR3 HM11
                go_wp2
                have hN18 := N18.out
                have hwk : wrap64 ((k : Int) + 1) = ((k + 1 : Nat) : Int) := by unfold wrap64; omega
                rw [hwk]
                go_roundw
                case rel =>
                  clear hwk
                  exact ⟨k + 1, s', by omega, rfl, by rw [QQ.out.2.2.1, QQ.out.2.2.2], by rw [QQ.out.2.2.1]; exact AFT.out, M12.out, B812.out⟩
                case measure =>
                  clear hwk
                  show N - (((k + 1 : Nat) : Int)).toNat < N - ((k : Int)).toNat
                  rw [Int.toNat_natCast, Int.toNat_natCast]
                  omega
          · obtain rfl : k = N := by omega
            have hre := rd_end xs
            rw [EXL.out] at hre
            have hpl : posN xs k = L := by rw [← EXL.out, posN_all]; exact EL.out
            have ho := goN_err GG.out hre
            rw [hpl] at ho
            subst ho
            obtain ⟨c3', c4', hc34⟩ : ∃ c3 c4, wr.cell? ⟨p, 3, none⟩ = some c3 ∧ wr.cell? ⟨p, 4, none⟩ = some c4 ∧ c3 = .int .i64 5 ∧ c4 = .int .i64 L ∧ CErr wr p (.slice a6 L c6) L 5 (L : Nat) := by
              rcases RJ8.out.below HB.out with ⟨l', n', h1, _⟩ | ⟨c', a', h1, h2, h3⟩
              · cases h1
              · cases h1
                obtain ⟨_, nx, hCC⟩ := id h2
                obtain ⟨_, _, _, c3', c4', _, _⟩ := CurC.cells hCC
                exact ⟨_, _, c3', c4', rfl, rfl, h2⟩
            obtain ⟨_, _, rfl, rfl, hE⟩ := hc34
            have ER := hide hE
            clear hE hre hpl RJ8 GG HM
            go_wp2_with fail
            refine (alive_any _ (HG.out _ BR.out)).mono ?_
            rintro e w15 ⟨rfl, hb15⟩
            have B15 := hide (bl_trans BR.out hb15)
            obtain ⟨_, nx, hCC⟩ := (cerr_loc p _ _ _ _).below (Blk_lt ER.out.2.choose_spec) hb15 ER.out
            obtain ⟨_, _, _, k3, k4, _, _⟩ := CurC.cells hCC
            clear hb15 hCC
            go_wp2
            go_ret
            exact ⟨rfl, B15.out⟩
end Go.Proofs.YtppeogalaikopaaDoor
