/- The walk of the law MeasureParts: for every list and number the law returns true and changes nothing that was there. -/
import Derived.Test.YtccaeocnecfmaaaMeasureSplitsWalk
import Derived.Test.YtccaeocnecfmaaaMeasurePartsPlain
import Derived.Test.YtccaeocnecfmaaaTake
import Derived.Test.YtccaeocnecfmaaaAppendGen
namespace Go.Proofs.Ytccaeocnecfmaaa
open Go.RowKit

/-- A list of the call's own, as the functions read it. -/
theorem OwnL.prs2 {w : World} {base : Nat} {t : TypeId} {v : Value} {zs : List Iv} (h : OwnL w base t v zs) : ∃ a cap, v = .slice a zs.length cap ∧ Prs w a zs.length zs ∧ zs.length ≤ cap ∧ cap ≤ 9223372036854775807 ∧ (a = none → cap = 0) := by
  obtain ⟨a, cap, hv, hP, hle, hn⟩ := h.prs
  refine ⟨a, cap, hv, hP, hle, ?_, hn⟩
  rcases h.row.2 with ⟨hv', _⟩ | ⟨g, cap', cur, hv', _, _, _, hm, _⟩
  · rw [hv] at hv'
    simp at hv'
    omega
  · rw [hv] at hv'
    simp at hv'
    unfold maxLen at hm
    omega

theorem row_keep {X Y : World} {b : Nat} {o : Obj} (hb : Below X.heap.size X Y) (h : X.heap[b]? = some o) : Y.heap[b]? = some o := (hb.block _ (Blk_lt h)).trans h
/-- A list of the call's own: where it lies. -/
theorem OwnL.addr {w : World} {base : Nat} {t : TypeId} {aa : Option Addr} {n ca : Nat} {zs : List Iv} (h : OwnL w base t (.slice aa n ca) zs) : ∀ b o, aa = some ⟨b, o, none⟩ → base ≤ b ∧ b < w.heap.size ∧ (Value.slice aa n ca).ownBlock = some b := by
  intro b o e
  rcases h.row.2 with ⟨hv, _⟩ | ⟨g, cap', cur, hv, hg, hc, _⟩
  · simp at hv
    rw [hv.1] at e
    cases e
  · simp at hv
    obtain ⟨e', _⟩ := hv
    rw [e] at e'
    simp at e'
    obtain ⟨rfl, rfl⟩ := e'
    subst e
    exact ⟨hg, Blk_lt hc, rfl⟩
theorem OwnL.at {w : World} {base : Nat} {t : TypeId} {aa : Option Addr} {ca : Nat} {zs : List Iv} (h : OwnL w base t (.slice aa zs.length ca) zs) : ∀ i, i < zs.length → ∃ g, aa = some ⟨g, 0, none⟩ ∧ g < w.heap.size ∧ w.cell? ⟨g, i * 2, none⟩ = some (.int .u64 (Lo zs i)) ∧ w.cell? ⟨g, i * 2 + 1, none⟩ = some (.int .u64 (Hi zs i)) ∧ (∀ j, w.frozen? ⟨g, j, none⟩ = false) := by
  intro i hi
  obtain ⟨g, c, hv, _, hlt, hf⟩ := h.shape (by omega)
  simp at hv
  obtain ⟨rfl, rfl⟩ := hv
  obtain ⟨a', c', hv, hP, _⟩ := h.prs
  simp at hv
  obtain ⟨rfl, rfl⟩ := hv
  obtain ⟨b, off, e, _, h1, h2⟩ := hP.cells i hi
  simp at e
  obtain ⟨rfl, rfl⟩ := e
  rw [Nat.zero_add] at h1 h2
  exact ⟨g, rfl, hlt, h1, h2, hf⟩

/-- Behind a loop that wrote only into a row of the call's own. -/
theorem below_only {w2 A B : World} {aa : Option Addr} {n : Nat} (h : Below w2.heap.size w2 A) (hn : ∀ b o, aa = some ⟨b, o, none⟩ → w2.heap.size ≤ b ∧ b < n) (hO : Only (fun b => ∃ o, aa = some ⟨b, o, none⟩) A B) : Below w2.heap.size w2 B :=
  h.trans (hO.below h.size (fun k ⟨o, e⟩ => (hn k o e).1))
theorem Only.frozen {may : Nat → Prop} {A B : World} {b : Nat} (h : Only may A B) (hb : ¬ may b) (hlt : b < A.heap.size) (j : Nat) : B.frozen? ⟨b, j, none⟩ = A.frozen? ⟨b, j, none⟩ :=
  World.frozen?_of_block (w := A) (h.block b hlt hb)

/-- The sum's row, in every world of the last region. -/
structure HeldP (w2 : World) (s : Nat) (u v : Int) (W : World) : Prop where
  c0 : W.cell? ⟨s, 0, none⟩ = some (.int .u64 u)
  c1 : W.cell? ⟨s, 1, none⟩ = some (.int .u64 v)
  bl : Below w2.heap.size w2 W
theorem keep_cs {X Y : World} {b i : Nat} {v : Value} (hb : Below X.heap.size X Y) (hc : X.cell? ⟨b, i, none⟩ = some v) : Y.cell? ⟨b, i, none⟩ = some v := by
  refine keep_cell hb ?_ hc
  rcases Nat.lt_or_ge b X.heap.size with hlt | hge
  · exact hlt
  · have e : X.heap[b]? = none := by simp; omega
    simp [World.cell?, e] at hc
theorem HeldP.below {w2 W W' : World} {s : Nat} {u v : Int} (h : HeldP w2 s u v W) (hb : Below W.heap.size W W') : HeldP w2 s u v W' := ⟨keep_cs hb h.c0, keep_cs hb h.c1, bl_trans h.bl hb⟩
theorem HeldP.drew {w2 W : World} {s : Nat} {u v : Int} (h : HeldP w2 s u v W) : HeldP w2 s u v W.drew := ⟨h.c0, h.c1, bl_drew h.bl⟩
theorem cells_two' {w : World} {b : Nat} {x y : Value} {t : TypeId} (h : w.heap[b]? = some (.cells #[x, y] t (0, 0))) :
    w.cell? ⟨b, 0, none⟩ = some x ∧ w.cell? ⟨b, 1, none⟩ = some y ∧ (∀ j, w.frozen? ⟨b, j, none⟩ = false) ∧ b < w.heap.size :=
  ⟨by simp [World.cell?, h], by simp [World.cell?, h], by intro j; simp [World.frozen?, h], Blk_lt h⟩

set_option maxHeartbeats 3200000 in
theorem measureParts_walk (a : Option Addr) (len cap : Nat) (zs : List Iv) (x : Int) (w : World) (h : Prs w a len zs) (hn : a = none → cap = 0) (hx : Word x) :
    Calls Try.prog 8 #[.slice a len cap, .int .u64 x] w fun e w' => e = .returned (.bool true) ∧ Below w.heap.size w w' := by
  have H := hide h
  by_cases hR : Cor zs ∧ len ≤ 60
  · obtain ⟨i0, hi, hz0, hz1, hz2⟩ := info_parts info_iv
    have hz := h.length
    have hl6 := hR.2
    have hc : CorTo zs len := by have := hR.1; unfold Cor at this; rw [hz] at this; exact this
    obtain ⟨m, hm⟩ := at_some zs x len
    have hw := hide h.words
    have HR := hide hR
    have HC := hide hc
    have HM := hide hm
    have HX := hide hx
    have P1 := hide (parts_cnt hc hz hx.1 hm)
    have P2 := hide (fun hl hA => parts_lt hc hz hx.1 hm hl hA)
    have P3 := hide (parts_is hz hx.1 hm)
    have P4 := hide (cntTo_all zs)
    rw [hz] at P4
    obtain ⟨xs, exs⟩ : ∃ xs, xs = loS zs (fVal zs x len m) m := ⟨_, rfl⟩
    obtain ⟨ys, eys⟩ : ∃ ys, ys = hiS zs (fVal zs x len m) m := ⟨_, rfl⟩
    rw [← exs, ← eys] at P1 P2
    rw [← eys] at P3
    have HS := hide (fun W v base (hO : OwnL W base 39 v zs) => show Calls Try.prog 21 #[v, .int .u64 x] W fun e w' => ∃ va vb, e = .returned (.tuple #[va, vb]) ∧ Two W w' va vb xs ys by
      obtain ⟨a', c', rfl, hP, k1, k2, k3⟩ := hO.prs2
      rw [hz] at hP k1 ⊢
      rw [exs, eys]
      exact split_any a' len c' zs x m W hP hc hx hm hR.2 k3 k1 k2)
    clear h hR hc hm hx exs eys
    go_enter Try.func8, Try.ntmps8
    go_wp2_with fail
    refine (right_yes a len cap zs _ H.out HR.out.1 HR.out.2).mono ?_
    rintro e w1 ⟨rfl, b1⟩
    have hmade := World.ownsRow_made w1 (base := w1.heap.size) (e := 39) (size := 2) #[] 0 (Nat.le_refl _) (by decide) rfl
    go_wp2_with (at_builtin; refine wpList_append_gen rfl _ _ 23 rfl w1.heap.size 39 i0 (.agg #[.int .u64 0, .int .u64 0]) 16 Try.underlying23 hi hz0 hz1 hz2 rfl _ _ _ rfl hmade a len cap zs rfl ((H.out.below b1).below (bl_alloc (Below.refl _ _) _)) hn ?c4 ?c5 ?c6 ?_)
    case c4 => unfold maxLen; omega
    case c5 => omega
    case c6 => simp
    intro v' w2 hown' hb2
    have b2 := (bl_alloc (Below.refl w1.heap.size w1) (.cells #[] 39)).trans hb2
    have hO : OwnL w2 w1.heap.size 39 v' zs := ⟨by rw [hz]; simpa using hown', hw.out⟩
    clear hown' hb2 hmade hi hz0 hz1 hz2 i0 hl6 hn
    have c2 := bl_trans b1 b2
    go_wp2_with fail
    refine (HS.out _ _ _ hO).mono ?_
    rintro e w3 ⟨va, vb, rfl, hA, hB, hne, b3⟩
    obtain ⟨ao, co, rfl, PO, _⟩ := hO.prs
    rw [hz] at PO ⊢
    have PO := hide PO
    obtain ⟨aa, ca, rfl, PA, _⟩ := hA.prs
    obtain ⟨ab, cb, rfl, PB, _⟩ := hB.prs
    have KA := hide (fun W hb => count_any aa xs.length ca xs W (PA.below (w1 := W) hb))
    have KB := hide (fun W hb => count_any ab ys.length cb ys W (PB.below (w1 := W) hb))
    have KL := hide (fun W hb => last_any aa xs.length ca xs W (PA.below (w1 := W) hb))
    have KF := hide (fun W hb => first_any ab ys.length cb ys W (PB.below (w1 := W) hb))
    have mA := PA.most
    have mB := PB.most
    have LA := hide (cntTo_long PA (Nat.le_refl _))
    have LB := hide (cntTo_long PB (Nat.le_refl _))
    go_wp2_with fail
    refine (KA.out _ (Below.refl _ _)).mono ?_
    rintro e w4 ⟨rfl, b4⟩
    go_wp2_with fail
    refine (KB.out _ b4).mono ?_
    rintro e w5 ⟨rfl, b5⟩
    have d5 := bl_trans b4 b5
    go_wp2_with fail
    have eT : val (hi64 (cntTo xs xs.length)) (lo64 (cntTo xs xs.length)) + val (hi64 (cntTo ys ys.length)) (lo64 (cntTo ys ys.length)) = cntTo zs len := by
      rw [val_hilo LA.out, val_hilo LB.out, cntTo_all, cntTo_all, P4.out, P1.out]
    have KP := plus_any (hi64 (cntTo xs xs.length)) (lo64 (cntTo xs xs.length)) (hi64 (cntTo ys ys.length)) (lo64 (cntTo ys ys.length)) (word_hi _) (word_lo _) (word_hi _) (word_lo _) w5
    rw [eT] at KP
    obtain ⟨T, hT⟩ : ∃ T, T = cntTo zs len := ⟨_, rfl⟩
    rw [← hT] at KP
    have CT := hide hT
    refine KP.mono ?_
    clear KP eT hT
    rintro e w6 ⟨rfl, b6⟩
    have d6 := bl_trans d5 b6
    have d6' := bl_alloc d6 (.cells #[.int .u64 (hi64 T), .int .u64 (lo64 T)] 30)
    have R6 := heap_new_at w6 (.cells #[.int .u64 (hi64 T), .int .u64 (lo64 T)] 30) rfl
    go_wp2_with fail
    refine (KL.out _ d6').mono ?_
    rintro e w7 ⟨rfl, b7⟩
    have d7 := bl_trans d6' b7
    have R7 := row_keep b7 R6
    go_wp2_with fail
    refine (KF.out _ d7).mono ?_
    rintro e w8 ⟨rfl, b8⟩
    have d8 := bl_trans d7 b8
    have R8 := row_keep b8 R7
    have hs3 : w3.heap.size ≤ w6.heap.size := d6.size
    have AA := hide hA.addr
    have AB := hide hB.addr
    have NE := hide hne
    have FA := hide ((hA.below d8).at)
    have FB := hide ((hB.below d8).at)
    have R8 := hide R8
    have D8 := hide d8
    have B3 := hide b3
    have C2 := hide c2
    clear b4 b5 b6 b7 b8 d5 d6 d6' d7 d8 R6 R7 hA hB hne KA KB KL KF LA LB PA PB HS hO b1 b2 b3 c2 hw P1 P4
    go_wp2_with fail
    go_loopw [45] (fun c wr => ∃ k : Nat, k ≤ xs.length ∧ c = .int .i64 k ∧ (∀ i, k ≤ i → i < xs.length → ∃ g, aa = some ⟨g, 0, none⟩ ∧ g < wr.heap.size ∧ wr.cell? ⟨g, i * 2 + 1, none⟩ = some (.int .u64 (Hi xs i)) ∧ (∀ j, wr.frozen? ⟨g, j, none⟩ = false)) ∧ Only (fun b => ∃ o, aa = some ⟨b, o, none⟩) w8 wr)
      (fun c _ => xs.length - (intOf c).toNat)
    case atStart => exact ⟨0, Nat.zero_le _, rfl, fun i _ hi => let ⟨g, h1, h2, _, h4, h5⟩ := FA.out i hi; ⟨g, h1, h2, h4, h5⟩, Only.refl _ _⟩
    case round =>
      obtain ⟨k, hk, rfl, hF, hO1⟩ := hrel
      by_cases hlt : k < xs.length
      · obtain ⟨g, rfl, hg, hc1, hf1⟩ := hF k (Nat.le_refl _) hlt
        have HF := hide hF
        have HO1 := hide hO1
        clear hF hO1
        go_wp2
        go_roundw
        case rel =>
          refine ⟨k + 1, by omega, by go_num, fun i hi hl => ?_, HO1.out.setCell (p := ⟨g, k * 2 + 1, none⟩) (.inl ⟨0, rfl⟩) _⟩
          obtain ⟨g', e', h2, h3, h4⟩ := HF.out i (by omega) hl
          simp at e'
          subst e'
          refine ⟨g, rfl, by simpa using h2, ?_, by intro j; simpa using h4 j⟩
          rw [World.cell?_setCell_other _ _ _ _ (by first | (simp; done) | (simp; omega))]
          exact h3
        case measure => simp [intOf]; omega
      · have : k = xs.length := by omega
        subst this
        clear hF
        have NO : ∀ b o, aa = some ⟨b, o, none⟩ → w2.heap.size ≤ b ∧ b < w3.heap.size := fun b o e => ⟨(AA.out b o e).1, (AA.out b o e).2.1⟩
        have E8 := below_only (bl_trans B3.out D8.out) NO hO1
        have R9 := hide (hO1.obj (b := w6.heap.size) (fun ⟨o, e⟩ => by have := (NO _ _ e).2; omega) R8.out)
        have FB' : ∀ i, i < ys.length → ∃ g, ab = some ⟨g, 0, none⟩ ∧ g < wr.heap.size ∧ wr.cell? ⟨g, i * 2, none⟩ = some (.int .u64 (Lo ys i)) ∧ (∀ j, wr.frozen? ⟨g, j, none⟩ = false) := fun i hi => by
          obtain ⟨g, h1, h2, h3, _, h5⟩ := FB.out i hi
          have hnot : ¬ ∃ o, aa = some ⟨g, o, none⟩ := fun ⟨o, e⟩ => NE.out g (AA.out _ _ e).2.2 (AB.out _ _ h1).2.2
          exact ⟨g, h1, Nat.lt_of_lt_of_le h2 hO1.size, hO1.cell hnot h3, fun j => (hO1.frozen hnot h2 j).trans (h5 j)⟩
        have FB := hide FB'
        clear FB'
        have E8 := hide E8
        clear hO1 FA R8 D8 NO
        go_wp2_with fail
        go_loopw [59] (fun c wz => ∃ k : Nat, k ≤ ys.length ∧ c = .int .i64 k ∧ (∀ i, k ≤ i → i < ys.length → ∃ g, ab = some ⟨g, 0, none⟩ ∧ g < wz.heap.size ∧ wz.cell? ⟨g, i * 2, none⟩ = some (.int .u64 (Lo ys i)) ∧ (∀ j, wz.frozen? ⟨g, j, none⟩ = false)) ∧ Only (fun b => ∃ o, ab = some ⟨b, o, none⟩) wr wz)
          (fun c _ => ys.length - (intOf c).toNat)
        case atStart => exact ⟨0, Nat.zero_le _, rfl, fun i _ hi => FB.out i hi, Only.refl _ _⟩
        case round =>
          obtain ⟨k, hk, rfl, hF, hO2⟩ := hrel
          by_cases hlt : k < ys.length
          · obtain ⟨g, rfl, hg, hc1, hf1⟩ := hF k (Nat.le_refl _) hlt
            have HF := hide hF
            have HO1 := hide hO2
            clear hF hO2
            go_wp2
            go_roundw
            case rel =>
              refine ⟨k + 1, by omega, by go_num, fun i hi hl => ?_, HO1.out.setCell (p := ⟨g, k * 2, none⟩) (.inl ⟨0, rfl⟩) _⟩
              obtain ⟨g', e', h2, h3, h4⟩ := HF.out i (by omega) hl
              simp at e'
              subst e'
              refine ⟨g, rfl, by simpa using h2, ?_, by intro j; simpa using h4 j⟩
              rw [World.cell?_setCell_other _ _ _ _ (by first | (simp; done) | (simp; omega))]
              exact h3
            case measure => simp [intOf]; omega
          · have : k = ys.length := by omega
            subst this
            clear hF
            have NO : ∀ b o, ab = some ⟨b, o, none⟩ → w2.heap.size ≤ b ∧ b < w3.heap.size := fun b o e => ⟨(AB.out b o e).1, (AB.out b o e).2.1⟩
            have E9 := hide (below_only E8.out NO hO2)
            have R9 := hide (hO2.obj (b := w6.heap.size) (fun ⟨o, e⟩ => by have := (NO _ _ e).2; omega) R9.out)
            clear hO2 NO E8 FB AA AB NE mA mB hs3
            go_wp2_with fail
            rename_i W
            obtain ⟨s, es⟩ : ∃ y, y = w6.heap.size := ⟨_, rfl⟩
            rw [← es] at R9 ⊢
            obtain ⟨q0, q1, _, _⟩ := cells_two' R9.out
            have hS : HeldP w2 s (hi64 T) (lo64 T) _ := ⟨q0, q1, E9.out⟩
            have KZ := fun W (hb : Below w2.heap.size w2 W) => count_any a len cap zs W (H.out.below (bl_trans C2.out hb))
            rw [← CT.out] at KZ
            have KZ := hide KZ
            have KS := hide (fun W (hb : Below w2.heap.size w2 W) => (same_any ao a len co len cap zs zs W (PO.out.below hb) (H.out.below (bl_trans C2.out hb))).mono (fun _ _ h => (⟨h.1.trans (ret_bool (decide_eq_true rfl)), h.2⟩ : _ = Ending.returned (.bool true) ∧ Below W.heap.size W _)))
            have KC := fun W => compare_any (hi64 T) (lo64 T) 0 x (word_hi _) (word_lo _) ⟨by decide, by decide⟩ HX.out W
            have hLT : Long T := by rw [CT.out]; exact cntTo_long H.out (Nat.le_refl _)
            rw [val_hilo hLT, val_zero] at KC
            have hP3 := P3.out
            rw [← CT.out] at hP3
            have hd : decide (0 < cmpI T x) = decide (0 < ys.length) := by
              rw [decide_eq_decide]
              unfold cmpI
              have e1 := hP3.1
              have e2 := hP3.2
              split
              · omega
              · split <;> omega
            obtain ⟨c, ec⟩ : ∃ y, y = cmpI T x := ⟨_, rfl⟩
            rw [← ec] at KC hd
            have KC := hide KC
            have Q1 : decide (0 < xs.length) = true → decide (0 < ys.length) = true → endV xs.length (Hi xs (xs.length - 1)) < endV ys.length (Lo ys 0) := fun h1 h2 => by
              have g1 := of_decide_eq_true h1
              have g2 := of_decide_eq_true h2
              unfold endV
              rw [if_neg (by omega), if_neg (by omega)]
              exact P2.out (hP3.1.1 g2) g1
            obtain ⟨hv, ehv⟩ : ∃ y, y = endV xs.length (Hi xs (xs.length - 1)) := ⟨_, rfl⟩
            obtain ⟨lv, elv⟩ : ∃ y, y = endV ys.length (Lo ys 0) := ⟨_, rfl⟩
            obtain ⟨ok, eok⟩ : ∃ y, y = decide (0 < xs.length) := ⟨_, rfl⟩
            obtain ⟨is, eis⟩ : ∃ y, y = decide (0 < ys.length) := ⟨_, rfl⟩
            rw [← ehv, ← elv, ← eok, ← eis] at Q1
            rw [← eis] at hd
            rw [← ehv, ← elv, ← eok, ← eis]
            have hmx : Try.prog.follows .mixedOrders = true := by kernel_rfl
            clear ehv elv eok eis ec hP3 hLT R9 q0 q1 es P3 P2 HR HC HM HX E9 CT hz
            cases ok with
            | true =>
              cases is with
              | true =>
                have hcp : 0 < c := of_decide_eq_true hd
                have hhl := Q1 rfl rfl
                clear Q1 hd
                refine wp_region_held_drew (S := HeldP w2 s (hi64 T) (lo64 T)) hmx hS.drew (fun hS => ?_)
                refine wpAnyH_ready (rs := [0]) (by kernel_rfl) (by simp) ?_
                refine AllReadyH.cons (o := _) rfl (fun K hK => ?_) AllReadyH.nil
                go_simp
                refine (alive_any _).mono ?_
                rintro e wq ⟨rfl, hb⟩
                have hS := hS.below hb
                clear hb
                go_simp
                refine hK.out _ _ hS (fun _ => ?_)
                clear hK K
                refine wpAnyH_takeD (i := 1) (d := some 72) (v := (.bool true)) rfl rfl (by kernel_rfl) (by kernel_rfl) (by kernel_rfl) (fun _ _ _ h => h) (Or.inl ⟨by rfl, ?_⟩) (by assumption) ?_
                · intro X hX; obtain ⟨c0, c1, hb0⟩ := hX; go_simp
                simp only [Act.put, List.setIfInBounds_toArray, List.set_cons_zero, List.set_cons_succ]
                refine wpAnyH_takeD (i := 2) (d := some 73) (v := (.agg #[.int .u64 (hi64 T), .int .u64 (lo64 T)])) rfl rfl (by kernel_rfl) (by kernel_rfl) (by kernel_rfl) (fun _ _ _ h => h) (Or.inl ⟨by rfl, ?_⟩) (by assumption) ?_
                · intro X hX; obtain ⟨c0, c1, hb0⟩ := hX; go_simp
                simp only [Act.put, List.setIfInBounds_toArray, List.set_cons_zero, List.set_cons_succ]
                refine wpAnyH_takeD (i := 3) (d := some 74) (v := (.slice a len cap)) rfl rfl (by kernel_rfl) (by kernel_rfl) (by kernel_rfl) (fun _ _ _ h => h) (Or.inl ⟨by rfl, ?_⟩) (by assumption) ?_
                · intro X hX; obtain ⟨c0, c1, hb0⟩ := hX; go_simp
                simp only [Act.put, List.setIfInBounds_toArray, List.set_cons_zero, List.set_cons_succ]
                refine wpAnyH_ready (rs := [4]) (by kernel_rfl) (by simp) ?_
                refine AllReadyH.cons (o := _) rfl (fun K hK => ?_) AllReadyH.nil
                go_simp
                refine (KZ.out _ hS.bl).mono ?_
                rintro e wq ⟨rfl, hb⟩
                have hS := hS.below hb
                clear hb
                go_simp
                refine hK.out _ _ hS (fun _ => ?_)
                clear hK K
                refine wpAnyH_takeD (i := 5) (d := some 76) (v := (.bool true)) rfl rfl (by kernel_rfl) (by kernel_rfl) (by kernel_rfl) (fun _ _ _ h => h) (Or.inl ⟨by rfl, ?_⟩) (by assumption) ?_
                · intro X hX; obtain ⟨c0, c1, hb0⟩ := hX; go_simp
                simp only [Act.put, List.setIfInBounds_toArray, List.set_cons_zero, List.set_cons_succ]
                refine wpAnyH_takeD (i := 6) (d := some 77) (v := (.bool true)) rfl rfl (by kernel_rfl) (by kernel_rfl) (by kernel_rfl) (fun _ _ _ h => h) (Or.inl ⟨by rfl, ?_⟩) (by assumption) ?_
                · intro X hX; obtain ⟨c0, c1, hb0⟩ := hX; go_simp
                simp only [Act.put, List.setIfInBounds_toArray, List.set_cons_zero, List.set_cons_succ]
                refine wpAnyH_takeD (i := 7) (d := some 78) (v := (.bool true)) rfl rfl (by kernel_rfl) (by kernel_rfl) (by kernel_rfl) (fun _ _ _ h => h) (Or.inl ⟨by rfl, ?_⟩) (by assumption) ?_
                · intro X hX; obtain ⟨c0, c1, hb0⟩ := hX; go_simp
                simp only [Act.put, List.setIfInBounds_toArray, List.set_cons_zero, List.set_cons_succ]
                refine wpAnyH_takeD (i := 8) (d := some 79) (v := (.bool true)) rfl rfl (by kernel_rfl) (by kernel_rfl) (by kernel_rfl) (fun _ _ _ h => h) (Or.inl ⟨by rfl, ?_⟩) (by assumption) ?_
                · intro X hX; obtain ⟨c0, c1, hb0⟩ := hX; go_simp
                simp only [Act.put, List.setIfInBounds_toArray, List.set_cons_zero, List.set_cons_succ]
                refine wpAnyH_takeD (i := 9) (d := some 80) (v := (.bool false)) rfl rfl (by kernel_rfl) (by kernel_rfl) (by kernel_rfl) (fun _ _ _ h => h) (Or.inl ⟨by rfl, ?_⟩) (by assumption) ?_
                · intro X hX; obtain ⟨c0, c1, hb0⟩ := hX; go_simp
                simp only [Act.put, List.setIfInBounds_toArray, List.set_cons_zero, List.set_cons_succ]
                refine wpAnyH_takeD (i := 10) (d := some 81) (v := (.bool false)) rfl rfl (by kernel_rfl) (by kernel_rfl) (by kernel_rfl) (fun _ _ _ h => h) (Or.inl ⟨by rfl, ?_⟩) (by assumption) ?_
                · intro X hX; obtain ⟨c0, c1, hb0⟩ := hX; go_simp
                simp only [Act.put, List.setIfInBounds_toArray, List.set_cons_zero, List.set_cons_succ]
                refine wpAnyH_takeD (i := 11) (d := some 82) (v := (.bool true)) rfl rfl (by kernel_rfl) (by kernel_rfl) (by kernel_rfl) (fun _ _ _ h => h) (Or.inl ⟨by rfl, ?_⟩) (by assumption) ?_
                · intro X hX; obtain ⟨c0, c1, hb0⟩ := hX; go_simp
                simp only [Act.put, List.setIfInBounds_toArray, List.set_cons_zero, List.set_cons_succ]
                refine wpAnyH_takeD (i := 12) (d := some 83) (v := (.bool false)) rfl rfl (by kernel_rfl) (by kernel_rfl) (by kernel_rfl) (fun _ _ _ h => h) (Or.inl ⟨by rfl, ?_⟩) (by assumption) ?_
                · intro X hX; obtain ⟨c0, c1, hb0⟩ := hX; go_simp
                simp only [Act.put, List.setIfInBounds_toArray, List.set_cons_zero, List.set_cons_succ]
                refine wpAnyH_takeD (i := 13) (d := some 84) (v := (.bool false)) rfl rfl (by kernel_rfl) (by kernel_rfl) (by kernel_rfl) (fun _ _ _ h => h) (Or.inl ⟨by rfl, ?_⟩) (by assumption) ?_
                · intro X hX; obtain ⟨c0, c1, hb0⟩ := hX; go_simp
                simp only [Act.put, List.setIfInBounds_toArray, List.set_cons_zero, List.set_cons_succ]
                refine wpAnyH_takeD (i := 14) (d := some 85) (v := (.bool false)) rfl rfl (by kernel_rfl) (by kernel_rfl) (by kernel_rfl) (fun _ _ _ h => h) (Or.inl ⟨by rfl, ?_⟩) (by assumption) ?_
                · intro X hX; obtain ⟨c0, c1, hb0⟩ := hX; go_simp
                simp only [Act.put, List.setIfInBounds_toArray, List.set_cons_zero, List.set_cons_succ]
                refine wpAnyH_takeD (i := 15) (d := some 86) (v := (.int .u64 hv)) rfl rfl (by kernel_rfl) (by kernel_rfl) (by kernel_rfl) (fun _ _ _ h => h) (Or.inl ⟨by rfl, ?_⟩) (by assumption) ?_
                · intro X hX; obtain ⟨c0, c1, hb0⟩ := hX; go_simp
                simp only [Act.put, List.setIfInBounds_toArray, List.set_cons_zero, List.set_cons_succ]
                refine wpAnyH_takeD (i := 16) (d := some 87) (v := (.int .u64 lv)) rfl rfl (by kernel_rfl) (by kernel_rfl) (by kernel_rfl) (fun _ _ _ h => h) (Or.inl ⟨by rfl, ?_⟩) (by assumption) ?_
                · intro X hX; obtain ⟨c0, c1, hb0⟩ := hX; go_simp
                simp only [Act.put, List.setIfInBounds_toArray, List.set_cons_zero, List.set_cons_succ]
                refine wpAnyH_takeD (i := 17) (d := some 88) (v := (.bool true)) rfl rfl (by kernel_rfl) (by kernel_rfl) (by kernel_rfl) (fun _ _ _ h => h) (Or.inl ⟨by rfl, ?_⟩) (by assumption) ?_
                · intro X hX; obtain ⟨c0, c1, hb0⟩ := hX; go_simp
                simp only [Act.put, List.setIfInBounds_toArray, List.set_cons_zero, List.set_cons_succ]
                refine wpAnyH_takeD (i := 18) (d := some 89) (v := (.bool true)) rfl rfl (by kernel_rfl) (by kernel_rfl) (by kernel_rfl) (fun _ _ _ h => h) (Or.inl ⟨by rfl, ?_⟩) (by assumption) ?_
                · intro X hX; obtain ⟨c0, c1, hb0⟩ := hX; go_simp
                simp only [Act.put, List.setIfInBounds_toArray, List.set_cons_zero, List.set_cons_succ]
                refine wpAnyH_takeD (i := 19) (d := some 90) (v := (.bool true)) rfl rfl (by kernel_rfl) (by kernel_rfl) (by kernel_rfl) (fun _ _ _ h => h) (Or.inl ⟨by rfl, ?_⟩) (by assumption) ?_
                · intro X hX; obtain ⟨c0, c1, hb0⟩ := hX; go_simp
                simp only [Act.put, List.setIfInBounds_toArray, List.set_cons_zero, List.set_cons_succ]
                refine wpAnyH_takeD (i := 20) (d := some 91) (v := (.bool true)) rfl rfl (by kernel_rfl) (by kernel_rfl) (by kernel_rfl) (fun _ _ _ h => h) (Or.inl ⟨by rfl, ?_⟩) (by assumption) ?_
                · intro X hX; obtain ⟨c0, c1, hb0⟩ := hX; go_simp
                simp only [Act.put, List.setIfInBounds_toArray, List.set_cons_zero, List.set_cons_succ]
                refine wpAnyH_takeD (i := 21) (d := some 92) (v := (.slice ao len co)) rfl rfl (by kernel_rfl) (by kernel_rfl) (by kernel_rfl) (fun _ _ _ h => h) (Or.inl ⟨by rfl, ?_⟩) (by assumption) ?_
                · intro X hX; obtain ⟨c0, c1, hb0⟩ := hX; go_simp
                simp only [Act.put, List.setIfInBounds_toArray, List.set_cons_zero, List.set_cons_succ]
                refine wpAnyH_takeD (i := 22) (d := some 93) (v := (.slice a len cap)) rfl rfl (by kernel_rfl) (by kernel_rfl) (by kernel_rfl) (fun _ _ _ h => h) (Or.inl ⟨by rfl, ?_⟩) (by assumption) ?_
                · intro X hX; obtain ⟨c0, c1, hb0⟩ := hX; go_simp
                simp only [Act.put, List.setIfInBounds_toArray, List.set_cons_zero, List.set_cons_succ]
                refine wpAnyH_ready (rs := [23]) (by kernel_rfl) (by simp) ?_
                refine AllReadyH.cons (o := _) rfl (fun K hK => ?_) AllReadyH.nil
                go_simp
                refine (KS.out _ hS.bl).mono ?_
                rintro e wq ⟨rfl, hb⟩
                have hS := hS.below hb
                clear hb
                go_simp
                refine hK.out _ _ hS (fun _ => ?_)
                clear hK K
                refine wpAnyH_takeD (i := 24) (d := some 95) (v := (.bool true)) rfl rfl (by kernel_rfl) (by kernel_rfl) (by kernel_rfl) (fun _ _ _ h => h) (Or.inl ⟨by rfl, ?_⟩) (by assumption) ?_
                · intro X hX; obtain ⟨c0, c1, hb0⟩ := hX; go_simp
                simp only [Act.put, List.setIfInBounds_toArray, List.set_cons_zero, List.set_cons_succ]
                refine wpAnyH_takeD (i := 25) (d := some 96) (v := (.bool true)) rfl rfl (by kernel_rfl) (by kernel_rfl) (by kernel_rfl) (fun _ _ _ h => h) (Or.inl ⟨by rfl, ?_⟩) (by assumption) ?_
                · intro X hX; obtain ⟨c0, c1, hb0⟩ := hX; go_simp
                simp only [Act.put, List.setIfInBounds_toArray, List.set_cons_zero, List.set_cons_succ]
                refine wpAnyH_takeD (i := 26) (d := some 97) (v := (.bool true)) rfl rfl (by kernel_rfl) (by kernel_rfl) (by kernel_rfl) (fun _ _ _ h => h) (Or.inl ⟨by rfl, ?_⟩) (by assumption) ?_
                · intro X hX; obtain ⟨c0, c1, hb0⟩ := hX; go_simp
                simp only [Act.put, List.setIfInBounds_toArray, List.set_cons_zero, List.set_cons_succ]
                refine wpAnyH_takeD (i := 27) (d := some 98) (v := (.slice a len cap)) rfl rfl (by kernel_rfl) (by kernel_rfl) (by kernel_rfl) (fun _ _ _ h => h) (Or.inl ⟨by rfl, ?_⟩) (by assumption) ?_
                · intro X hX; obtain ⟨c0, c1, hb0⟩ := hX; go_simp
                simp only [Act.put, List.setIfInBounds_toArray, List.set_cons_zero, List.set_cons_succ]
                refine wpAnyH_takeD (i := 29) (d := some 100) (v := (.int .u64 x)) rfl rfl (by kernel_rfl) (by kernel_rfl) (by kernel_rfl) (fun _ _ _ h => h) (Or.inl ⟨by rfl, ?_⟩) (by assumption) ?_
                · intro X hX; obtain ⟨c0, c1, hb0⟩ := hX; go_simp
                simp only [Act.put, List.setIfInBounds_toArray, List.set_cons_zero, List.set_cons_succ]
                refine wpAnyH_takeD (i := 30) (d := some 101) (v := (.agg #[.int .u64 0, .int .u64 x])) rfl rfl (by kernel_rfl) (by kernel_rfl) (by kernel_rfl) (fun _ _ _ h => h) (Or.inl ⟨by rfl, ?_⟩) (by assumption) ?_
                · intro X hX; obtain ⟨c0, c1, hb0⟩ := hX; go_simp
                simp only [Act.put, List.setIfInBounds_toArray, List.set_cons_zero, List.set_cons_succ]
                refine wpAnyH_ready (rs := [28]) (by kernel_rfl) (by simp) ?_
                refine AllReadyH.cons (o := _) rfl (fun K hK => ?_) AllReadyH.nil
                go_simp
                refine (KZ.out _ hS.bl).mono ?_
                rintro e wq ⟨rfl, hb⟩
                have hS := hS.below hb
                clear hb
                go_simp
                refine hK.out _ _ hS (fun _ => ?_)
                clear hK K
                refine wpAnyH_ready (rs := [31]) (by kernel_rfl) (by simp) ?_
                refine AllReadyH.cons (o := _) rfl (fun K hK => ?_) AllReadyH.nil
                go_simp
                refine (KC.out _).mono ?_
                rintro e wq ⟨rfl, hb⟩
                have hS := hS.below hb
                clear hb
                go_simp
                refine hK.out _ _ hS (fun _ => ?_)
                clear hK K
                refine wpAnyH_takeD (i := 32) (d := some 103) (v := (.bool true)) rfl rfl (by kernel_rfl) (by kernel_rfl) (by kernel_rfl) (fun _ _ _ h => h) (Or.inl ⟨by rfl, ?_⟩) (by assumption) ?_
                · intro X hX; obtain ⟨c0, c1, hb0⟩ := hX; go_simp
                simp only [Act.put, List.setIfInBounds_toArray, List.set_cons_zero, List.set_cons_succ]
                refine wpAnyH_takeD (i := 33) (d := some 104) (v := (.bool true)) rfl rfl (by kernel_rfl) (by kernel_rfl) (by kernel_rfl) (fun _ _ _ h => h) (Or.inl ⟨by rfl, ?_⟩) (by assumption) ?_
                · intro X hX; obtain ⟨c0, c1, hb0⟩ := hX; go_simp
                simp only [Act.put, List.setIfInBounds_toArray, List.set_cons_zero, List.set_cons_succ]
                refine wpAnyH_takeD (i := 34) (d := some 105) (v := (.bool true)) rfl rfl (by kernel_rfl) (by kernel_rfl) (by kernel_rfl) (fun _ _ _ h => h) (Or.inl ⟨by rfl, ?_⟩) (by assumption) ?_
                · intro X hX; obtain ⟨c0, c1, hb0⟩ := hX; go_simp
                simp only [Act.put, List.setIfInBounds_toArray, List.set_cons_zero, List.set_cons_succ]
                refine wpAnyH_takeD (i := 35) (d := some 4) (v := (.bool true)) rfl rfl (by kernel_rfl) (by kernel_rfl) (by kernel_rfl) (fun _ _ _ h => h) (Or.inl ⟨by rfl, ?_⟩) (by assumption) ?_
                · intro X hX; obtain ⟨c0, c1, hb0⟩ := hX; go_simp
                simp only [Act.put, List.setIfInBounds_toArray, List.set_cons_zero, List.set_cons_succ]
                refine wpAnyH_done (by kernel_rfl) ?_ _
                go_wp2
                go_ret
                exact ⟨rfl, bl_trans C2.out hS.bl⟩
              | false =>
                have hcp : c ≤ 0 := Int.not_lt.1 (of_decide_eq_false hd)
                clear Q1 hd
                refine wp_region_held_drew (S := HeldP w2 s (hi64 T) (lo64 T)) hmx hS.drew (fun hS => ?_)
                refine wpAnyH_ready (rs := [0]) (by kernel_rfl) (by simp) ?_
                refine AllReadyH.cons (o := _) rfl (fun K hK => ?_) AllReadyH.nil
                go_simp
                refine (alive_any _).mono ?_
                rintro e wq ⟨rfl, hb⟩
                have hS := hS.below hb
                clear hb
                go_simp
                refine hK.out _ _ hS (fun _ => ?_)
                clear hK K
                refine wpAnyH_takeD (i := 1) (d := some 72) (v := (.bool true)) rfl rfl (by kernel_rfl) (by kernel_rfl) (by kernel_rfl) (fun _ _ _ h => h) (Or.inl ⟨by rfl, ?_⟩) (by assumption) ?_
                · intro X hX; obtain ⟨c0, c1, hb0⟩ := hX; go_simp
                simp only [Act.put, List.setIfInBounds_toArray, List.set_cons_zero, List.set_cons_succ]
                refine wpAnyH_takeD (i := 2) (d := some 73) (v := (.agg #[.int .u64 (hi64 T), .int .u64 (lo64 T)])) rfl rfl (by kernel_rfl) (by kernel_rfl) (by kernel_rfl) (fun _ _ _ h => h) (Or.inl ⟨by rfl, ?_⟩) (by assumption) ?_
                · intro X hX; obtain ⟨c0, c1, hb0⟩ := hX; go_simp
                simp only [Act.put, List.setIfInBounds_toArray, List.set_cons_zero, List.set_cons_succ]
                refine wpAnyH_takeD (i := 3) (d := some 74) (v := (.slice a len cap)) rfl rfl (by kernel_rfl) (by kernel_rfl) (by kernel_rfl) (fun _ _ _ h => h) (Or.inl ⟨by rfl, ?_⟩) (by assumption) ?_
                · intro X hX; obtain ⟨c0, c1, hb0⟩ := hX; go_simp
                simp only [Act.put, List.setIfInBounds_toArray, List.set_cons_zero, List.set_cons_succ]
                refine wpAnyH_ready (rs := [4]) (by kernel_rfl) (by simp) ?_
                refine AllReadyH.cons (o := _) rfl (fun K hK => ?_) AllReadyH.nil
                go_simp
                refine (KZ.out _ hS.bl).mono ?_
                rintro e wq ⟨rfl, hb⟩
                have hS := hS.below hb
                clear hb
                go_simp
                refine hK.out _ _ hS (fun _ => ?_)
                clear hK K
                refine wpAnyH_takeD (i := 5) (d := some 76) (v := (.bool true)) rfl rfl (by kernel_rfl) (by kernel_rfl) (by kernel_rfl) (fun _ _ _ h => h) (Or.inl ⟨by rfl, ?_⟩) (by assumption) ?_
                · intro X hX; obtain ⟨c0, c1, hb0⟩ := hX; go_simp
                simp only [Act.put, List.setIfInBounds_toArray, List.set_cons_zero, List.set_cons_succ]
                refine wpAnyH_takeD (i := 6) (d := some 77) (v := (.bool true)) rfl rfl (by kernel_rfl) (by kernel_rfl) (by kernel_rfl) (fun _ _ _ h => h) (Or.inl ⟨by rfl, ?_⟩) (by assumption) ?_
                · intro X hX; obtain ⟨c0, c1, hb0⟩ := hX; go_simp
                simp only [Act.put, List.setIfInBounds_toArray, List.set_cons_zero, List.set_cons_succ]
                refine wpAnyH_takeD (i := 7) (d := some 78) (v := (.bool true)) rfl rfl (by kernel_rfl) (by kernel_rfl) (by kernel_rfl) (fun _ _ _ h => h) (Or.inl ⟨by rfl, ?_⟩) (by assumption) ?_
                · intro X hX; obtain ⟨c0, c1, hb0⟩ := hX; go_simp
                simp only [Act.put, List.setIfInBounds_toArray, List.set_cons_zero, List.set_cons_succ]
                refine wpAnyH_takeD (i := 8) (d := some 79) (v := (.bool true)) rfl rfl (by kernel_rfl) (by kernel_rfl) (by kernel_rfl) (fun _ _ _ h => h) (Or.inl ⟨by rfl, ?_⟩) (by assumption) ?_
                · intro X hX; obtain ⟨c0, c1, hb0⟩ := hX; go_simp
                simp only [Act.put, List.setIfInBounds_toArray, List.set_cons_zero, List.set_cons_succ]
                refine wpAnyH_takeD (i := 9) (d := some 80) (v := (.bool false)) rfl rfl (by kernel_rfl) (by kernel_rfl) (by kernel_rfl) (fun _ _ _ h => h) (Or.inl ⟨by rfl, ?_⟩) (by assumption) ?_
                · intro X hX; obtain ⟨c0, c1, hb0⟩ := hX; go_simp
                simp only [Act.put, List.setIfInBounds_toArray, List.set_cons_zero, List.set_cons_succ]
                refine wpAnyH_takeD (i := 10) (d := some 81) (v := (.bool false)) rfl rfl (by kernel_rfl) (by kernel_rfl) (by kernel_rfl) (fun _ _ _ h => h) (Or.inl ⟨by rfl, ?_⟩) (by assumption) ?_
                · intro X hX; obtain ⟨c0, c1, hb0⟩ := hX; go_simp
                simp only [Act.put, List.setIfInBounds_toArray, List.set_cons_zero, List.set_cons_succ]
                refine wpAnyH_takeD (i := 11) (d := some 82) (v := (.bool false)) rfl rfl (by kernel_rfl) (by kernel_rfl) (by kernel_rfl) (fun _ _ _ h => h) (Or.inl ⟨by rfl, ?_⟩) (by assumption) ?_
                · intro X hX; obtain ⟨c0, c1, hb0⟩ := hX; go_simp
                simp only [Act.put, List.setIfInBounds_toArray, List.set_cons_zero, List.set_cons_succ]
                refine wpAnyH_takeD (i := 12) (d := some 83) (v := (.bool true)) rfl rfl (by kernel_rfl) (by kernel_rfl) (by kernel_rfl) (fun _ _ _ h => h) (Or.inl ⟨by rfl, ?_⟩) (by assumption) ?_
                · intro X hX; obtain ⟨c0, c1, hb0⟩ := hX; go_simp
                simp only [Act.put, List.setIfInBounds_toArray, List.set_cons_zero, List.set_cons_succ]
                refine wpAnyH_takeD (i := 13) (d := some 84) (v := (.bool true)) rfl rfl (by kernel_rfl) (by kernel_rfl) (by kernel_rfl) (fun _ _ _ h => h) (Or.inl ⟨by rfl, ?_⟩) (by assumption) ?_
                · intro X hX; obtain ⟨c0, c1, hb0⟩ := hX; go_simp
                simp only [Act.put, List.setIfInBounds_toArray, List.set_cons_zero, List.set_cons_succ]
                refine wpAnyH_takeD (i := 14) (d := some 85) (v := (.bool true)) rfl rfl (by kernel_rfl) (by kernel_rfl) (by kernel_rfl) (fun _ _ _ h => h) (Or.inl ⟨by rfl, ?_⟩) (by assumption) ?_
                · intro X hX; obtain ⟨c0, c1, hb0⟩ := hX; go_simp
                simp only [Act.put, List.setIfInBounds_toArray, List.set_cons_zero, List.set_cons_succ]
                refine wpAnyH_takeD (i := 15) (d := some 86) (v := undef) rfl rfl (by kernel_rfl) (by kernel_rfl) (by kernel_rfl) (fun _ _ _ h => h) (Or.inr ⟨by rfl, rfl⟩) (by assumption) ?_
                simp only [Act.put, List.setIfInBounds_toArray, List.set_cons_zero, List.set_cons_succ]
                refine wpAnyH_takeD (i := 16) (d := some 87) (v := undef) rfl rfl (by kernel_rfl) (by kernel_rfl) (by kernel_rfl) (fun _ _ _ h => h) (Or.inr ⟨by rfl, rfl⟩) (by assumption) ?_
                simp only [Act.put, List.setIfInBounds_toArray, List.set_cons_zero, List.set_cons_succ]
                refine wpAnyH_takeD (i := 17) (d := some 88) (v := undef) rfl rfl (by kernel_rfl) (by kernel_rfl) (by kernel_rfl) (fun _ _ _ h => h) (Or.inr ⟨by rfl, rfl⟩) (by assumption) ?_
                simp only [Act.put, List.setIfInBounds_toArray, List.set_cons_zero, List.set_cons_succ]
                refine wpAnyH_takeD (i := 18) (d := some 89) (v := (.bool true)) rfl rfl (by kernel_rfl) (by kernel_rfl) (by kernel_rfl) (fun _ _ _ h => h) (Or.inl ⟨by rfl, ?_⟩) (by assumption) ?_
                · intro X hX; obtain ⟨c0, c1, hb0⟩ := hX; go_simp
                simp only [Act.put, List.setIfInBounds_toArray, List.set_cons_zero, List.set_cons_succ]
                refine wpAnyH_takeD (i := 19) (d := some 90) (v := (.bool true)) rfl rfl (by kernel_rfl) (by kernel_rfl) (by kernel_rfl) (fun _ _ _ h => h) (Or.inl ⟨by rfl, ?_⟩) (by assumption) ?_
                · intro X hX; obtain ⟨c0, c1, hb0⟩ := hX; go_simp
                simp only [Act.put, List.setIfInBounds_toArray, List.set_cons_zero, List.set_cons_succ]
                refine wpAnyH_takeD (i := 20) (d := some 91) (v := (.bool true)) rfl rfl (by kernel_rfl) (by kernel_rfl) (by kernel_rfl) (fun _ _ _ h => h) (Or.inl ⟨by rfl, ?_⟩) (by assumption) ?_
                · intro X hX; obtain ⟨c0, c1, hb0⟩ := hX; go_simp
                simp only [Act.put, List.setIfInBounds_toArray, List.set_cons_zero, List.set_cons_succ]
                refine wpAnyH_takeD (i := 21) (d := some 92) (v := (.slice ao len co)) rfl rfl (by kernel_rfl) (by kernel_rfl) (by kernel_rfl) (fun _ _ _ h => h) (Or.inl ⟨by rfl, ?_⟩) (by assumption) ?_
                · intro X hX; obtain ⟨c0, c1, hb0⟩ := hX; go_simp
                simp only [Act.put, List.setIfInBounds_toArray, List.set_cons_zero, List.set_cons_succ]
                refine wpAnyH_takeD (i := 22) (d := some 93) (v := (.slice a len cap)) rfl rfl (by kernel_rfl) (by kernel_rfl) (by kernel_rfl) (fun _ _ _ h => h) (Or.inl ⟨by rfl, ?_⟩) (by assumption) ?_
                · intro X hX; obtain ⟨c0, c1, hb0⟩ := hX; go_simp
                simp only [Act.put, List.setIfInBounds_toArray, List.set_cons_zero, List.set_cons_succ]
                refine wpAnyH_ready (rs := [23]) (by kernel_rfl) (by simp) ?_
                refine AllReadyH.cons (o := _) rfl (fun K hK => ?_) AllReadyH.nil
                go_simp
                refine (KS.out _ hS.bl).mono ?_
                rintro e wq ⟨rfl, hb⟩
                have hS := hS.below hb
                clear hb
                go_simp
                refine hK.out _ _ hS (fun _ => ?_)
                clear hK K
                refine wpAnyH_takeD (i := 24) (d := some 95) (v := (.bool true)) rfl rfl (by kernel_rfl) (by kernel_rfl) (by kernel_rfl) (fun _ _ _ h => h) (Or.inl ⟨by rfl, ?_⟩) (by assumption) ?_
                · intro X hX; obtain ⟨c0, c1, hb0⟩ := hX; go_simp
                simp only [Act.put, List.setIfInBounds_toArray, List.set_cons_zero, List.set_cons_succ]
                refine wpAnyH_takeD (i := 25) (d := some 96) (v := (.bool true)) rfl rfl (by kernel_rfl) (by kernel_rfl) (by kernel_rfl) (fun _ _ _ h => h) (Or.inl ⟨by rfl, ?_⟩) (by assumption) ?_
                · intro X hX; obtain ⟨c0, c1, hb0⟩ := hX; go_simp
                simp only [Act.put, List.setIfInBounds_toArray, List.set_cons_zero, List.set_cons_succ]
                refine wpAnyH_takeD (i := 26) (d := some 97) (v := (.bool false)) rfl rfl (by kernel_rfl) (by kernel_rfl) (by kernel_rfl) (fun _ _ _ h => h) (Or.inl ⟨by rfl, ?_⟩) (by assumption) ?_
                · intro X hX; obtain ⟨c0, c1, hb0⟩ := hX; go_simp
                simp only [Act.put, List.setIfInBounds_toArray, List.set_cons_zero, List.set_cons_succ]
                refine wpAnyH_takeD (i := 27) (d := some 98) (v := (.slice a len cap)) rfl rfl (by kernel_rfl) (by kernel_rfl) (by kernel_rfl) (fun _ _ _ h => h) (Or.inl ⟨by rfl, ?_⟩) (by assumption) ?_
                · intro X hX; obtain ⟨c0, c1, hb0⟩ := hX; go_simp
                simp only [Act.put, List.setIfInBounds_toArray, List.set_cons_zero, List.set_cons_succ]
                refine wpAnyH_takeD (i := 29) (d := some 100) (v := (.int .u64 x)) rfl rfl (by kernel_rfl) (by kernel_rfl) (by kernel_rfl) (fun _ _ _ h => h) (Or.inl ⟨by rfl, ?_⟩) (by assumption) ?_
                · intro X hX; obtain ⟨c0, c1, hb0⟩ := hX; go_simp
                simp only [Act.put, List.setIfInBounds_toArray, List.set_cons_zero, List.set_cons_succ]
                refine wpAnyH_takeD (i := 30) (d := some 101) (v := (.agg #[.int .u64 0, .int .u64 x])) rfl rfl (by kernel_rfl) (by kernel_rfl) (by kernel_rfl) (fun _ _ _ h => h) (Or.inl ⟨by rfl, ?_⟩) (by assumption) ?_
                · intro X hX; obtain ⟨c0, c1, hb0⟩ := hX; go_simp
                simp only [Act.put, List.setIfInBounds_toArray, List.set_cons_zero, List.set_cons_succ]
                refine wpAnyH_ready (rs := [28]) (by kernel_rfl) (by simp) ?_
                refine AllReadyH.cons (o := _) rfl (fun K hK => ?_) AllReadyH.nil
                go_simp
                refine (KZ.out _ hS.bl).mono ?_
                rintro e wq ⟨rfl, hb⟩
                have hS := hS.below hb
                clear hb
                go_simp
                refine hK.out _ _ hS (fun _ => ?_)
                clear hK K
                refine wpAnyH_ready (rs := [31]) (by kernel_rfl) (by simp) ?_
                refine AllReadyH.cons (o := _) rfl (fun K hK => ?_) AllReadyH.nil
                go_simp
                refine (KC.out _).mono ?_
                rintro e wq ⟨rfl, hb⟩
                have hS := hS.below hb
                clear hb
                go_simp
                refine hK.out _ _ hS (fun _ => ?_)
                clear hK K
                refine wpAnyH_takeD (i := 32) (d := some 103) (v := (.bool false)) rfl rfl (by kernel_rfl) (by kernel_rfl) (by kernel_rfl) (fun _ _ _ h => h) (Or.inl ⟨by rfl, ?_⟩) (by assumption) ?_
                · intro X hX; obtain ⟨c0, c1, hb0⟩ := hX; go_simp
                simp only [Act.put, List.setIfInBounds_toArray, List.set_cons_zero, List.set_cons_succ]
                refine wpAnyH_takeD (i := 33) (d := some 104) (v := (.bool true)) rfl rfl (by kernel_rfl) (by kernel_rfl) (by kernel_rfl) (fun _ _ _ h => h) (Or.inl ⟨by rfl, ?_⟩) (by assumption) ?_
                · intro X hX; obtain ⟨c0, c1, hb0⟩ := hX; go_simp
                simp only [Act.put, List.setIfInBounds_toArray, List.set_cons_zero, List.set_cons_succ]
                refine wpAnyH_takeD (i := 34) (d := some 105) (v := (.bool true)) rfl rfl (by kernel_rfl) (by kernel_rfl) (by kernel_rfl) (fun _ _ _ h => h) (Or.inl ⟨by rfl, ?_⟩) (by assumption) ?_
                · intro X hX; obtain ⟨c0, c1, hb0⟩ := hX; go_simp
                simp only [Act.put, List.setIfInBounds_toArray, List.set_cons_zero, List.set_cons_succ]
                refine wpAnyH_takeD (i := 35) (d := some 4) (v := (.bool true)) rfl rfl (by kernel_rfl) (by kernel_rfl) (by kernel_rfl) (fun _ _ _ h => h) (Or.inl ⟨by rfl, ?_⟩) (by assumption) ?_
                · intro X hX; obtain ⟨c0, c1, hb0⟩ := hX; go_simp
                simp only [Act.put, List.setIfInBounds_toArray, List.set_cons_zero, List.set_cons_succ]
                refine wpAnyH_done (by kernel_rfl) ?_ _
                go_wp2
                go_ret
                exact ⟨rfl, bl_trans C2.out hS.bl⟩
            | false =>
              cases is with
              | true =>
                have hcp : 0 < c := of_decide_eq_true hd
                clear Q1 hd
                refine wp_region_held_drew (S := HeldP w2 s (hi64 T) (lo64 T)) hmx hS.drew (fun hS => ?_)
                refine wpAnyH_ready (rs := [0]) (by kernel_rfl) (by simp) ?_
                refine AllReadyH.cons (o := _) rfl (fun K hK => ?_) AllReadyH.nil
                go_simp
                refine (alive_any _).mono ?_
                rintro e wq ⟨rfl, hb⟩
                have hS := hS.below hb
                clear hb
                go_simp
                refine hK.out _ _ hS (fun _ => ?_)
                clear hK K
                refine wpAnyH_takeD (i := 1) (d := some 72) (v := (.bool true)) rfl rfl (by kernel_rfl) (by kernel_rfl) (by kernel_rfl) (fun _ _ _ h => h) (Or.inl ⟨by rfl, ?_⟩) (by assumption) ?_
                · intro X hX; obtain ⟨c0, c1, hb0⟩ := hX; go_simp
                simp only [Act.put, List.setIfInBounds_toArray, List.set_cons_zero, List.set_cons_succ]
                refine wpAnyH_takeD (i := 2) (d := some 73) (v := (.agg #[.int .u64 (hi64 T), .int .u64 (lo64 T)])) rfl rfl (by kernel_rfl) (by kernel_rfl) (by kernel_rfl) (fun _ _ _ h => h) (Or.inl ⟨by rfl, ?_⟩) (by assumption) ?_
                · intro X hX; obtain ⟨c0, c1, hb0⟩ := hX; go_simp
                simp only [Act.put, List.setIfInBounds_toArray, List.set_cons_zero, List.set_cons_succ]
                refine wpAnyH_takeD (i := 3) (d := some 74) (v := (.slice a len cap)) rfl rfl (by kernel_rfl) (by kernel_rfl) (by kernel_rfl) (fun _ _ _ h => h) (Or.inl ⟨by rfl, ?_⟩) (by assumption) ?_
                · intro X hX; obtain ⟨c0, c1, hb0⟩ := hX; go_simp
                simp only [Act.put, List.setIfInBounds_toArray, List.set_cons_zero, List.set_cons_succ]
                refine wpAnyH_ready (rs := [4]) (by kernel_rfl) (by simp) ?_
                refine AllReadyH.cons (o := _) rfl (fun K hK => ?_) AllReadyH.nil
                go_simp
                refine (KZ.out _ hS.bl).mono ?_
                rintro e wq ⟨rfl, hb⟩
                have hS := hS.below hb
                clear hb
                go_simp
                refine hK.out _ _ hS (fun _ => ?_)
                clear hK K
                refine wpAnyH_takeD (i := 5) (d := some 76) (v := (.bool true)) rfl rfl (by kernel_rfl) (by kernel_rfl) (by kernel_rfl) (fun _ _ _ h => h) (Or.inl ⟨by rfl, ?_⟩) (by assumption) ?_
                · intro X hX; obtain ⟨c0, c1, hb0⟩ := hX; go_simp
                simp only [Act.put, List.setIfInBounds_toArray, List.set_cons_zero, List.set_cons_succ]
                refine wpAnyH_takeD (i := 6) (d := some 77) (v := (.bool true)) rfl rfl (by kernel_rfl) (by kernel_rfl) (by kernel_rfl) (fun _ _ _ h => h) (Or.inl ⟨by rfl, ?_⟩) (by assumption) ?_
                · intro X hX; obtain ⟨c0, c1, hb0⟩ := hX; go_simp
                simp only [Act.put, List.setIfInBounds_toArray, List.set_cons_zero, List.set_cons_succ]
                refine wpAnyH_takeD (i := 7) (d := some 78) (v := (.bool true)) rfl rfl (by kernel_rfl) (by kernel_rfl) (by kernel_rfl) (fun _ _ _ h => h) (Or.inl ⟨by rfl, ?_⟩) (by assumption) ?_
                · intro X hX; obtain ⟨c0, c1, hb0⟩ := hX; go_simp
                simp only [Act.put, List.setIfInBounds_toArray, List.set_cons_zero, List.set_cons_succ]
                refine wpAnyH_takeD (i := 8) (d := some 79) (v := (.bool false)) rfl rfl (by kernel_rfl) (by kernel_rfl) (by kernel_rfl) (fun _ _ _ h => h) (Or.inl ⟨by rfl, ?_⟩) (by assumption) ?_
                · intro X hX; obtain ⟨c0, c1, hb0⟩ := hX; go_simp
                simp only [Act.put, List.setIfInBounds_toArray, List.set_cons_zero, List.set_cons_succ]
                refine wpAnyH_takeD (i := 9) (d := some 80) (v := (.bool true)) rfl rfl (by kernel_rfl) (by kernel_rfl) (by kernel_rfl) (fun _ _ _ h => h) (Or.inl ⟨by rfl, ?_⟩) (by assumption) ?_
                · intro X hX; obtain ⟨c0, c1, hb0⟩ := hX; go_simp
                simp only [Act.put, List.setIfInBounds_toArray, List.set_cons_zero, List.set_cons_succ]
                refine wpAnyH_takeD (i := 10) (d := some 81) (v := (.bool true)) rfl rfl (by kernel_rfl) (by kernel_rfl) (by kernel_rfl) (fun _ _ _ h => h) (Or.inl ⟨by rfl, ?_⟩) (by assumption) ?_
                · intro X hX; obtain ⟨c0, c1, hb0⟩ := hX; go_simp
                simp only [Act.put, List.setIfInBounds_toArray, List.set_cons_zero, List.set_cons_succ]
                refine wpAnyH_takeD (i := 11) (d := some 82) (v := undef) rfl rfl (by kernel_rfl) (by kernel_rfl) (by kernel_rfl) (fun _ _ _ h => h) (Or.inr ⟨by rfl, rfl⟩) (by assumption) ?_
                simp only [Act.put, List.setIfInBounds_toArray, List.set_cons_zero, List.set_cons_succ]
                refine wpAnyH_takeD (i := 12) (d := some 83) (v := undef) rfl rfl (by kernel_rfl) (by kernel_rfl) (by kernel_rfl) (fun _ _ _ h => h) (Or.inr ⟨by rfl, rfl⟩) (by assumption) ?_
                simp only [Act.put, List.setIfInBounds_toArray, List.set_cons_zero, List.set_cons_succ]
                refine wpAnyH_takeD (i := 13) (d := some 84) (v := (.bool true)) rfl rfl (by kernel_rfl) (by kernel_rfl) (by kernel_rfl) (fun _ _ _ h => h) (Or.inl ⟨by rfl, ?_⟩) (by assumption) ?_
                · intro X hX; obtain ⟨c0, c1, hb0⟩ := hX; go_simp
                simp only [Act.put, List.setIfInBounds_toArray, List.set_cons_zero, List.set_cons_succ]
                refine wpAnyH_takeD (i := 14) (d := some 85) (v := (.bool true)) rfl rfl (by kernel_rfl) (by kernel_rfl) (by kernel_rfl) (fun _ _ _ h => h) (Or.inl ⟨by rfl, ?_⟩) (by assumption) ?_
                · intro X hX; obtain ⟨c0, c1, hb0⟩ := hX; go_simp
                simp only [Act.put, List.setIfInBounds_toArray, List.set_cons_zero, List.set_cons_succ]
                refine wpAnyH_takeD (i := 15) (d := some 86) (v := undef) rfl rfl (by kernel_rfl) (by kernel_rfl) (by kernel_rfl) (fun _ _ _ h => h) (Or.inr ⟨by rfl, rfl⟩) (by assumption) ?_
                simp only [Act.put, List.setIfInBounds_toArray, List.set_cons_zero, List.set_cons_succ]
                refine wpAnyH_takeD (i := 16) (d := some 87) (v := undef) rfl rfl (by kernel_rfl) (by kernel_rfl) (by kernel_rfl) (fun _ _ _ h => h) (Or.inr ⟨by rfl, rfl⟩) (by assumption) ?_
                simp only [Act.put, List.setIfInBounds_toArray, List.set_cons_zero, List.set_cons_succ]
                refine wpAnyH_takeD (i := 17) (d := some 88) (v := undef) rfl rfl (by kernel_rfl) (by kernel_rfl) (by kernel_rfl) (fun _ _ _ h => h) (Or.inr ⟨by rfl, rfl⟩) (by assumption) ?_
                simp only [Act.put, List.setIfInBounds_toArray, List.set_cons_zero, List.set_cons_succ]
                refine wpAnyH_takeD (i := 18) (d := some 89) (v := (.bool true)) rfl rfl (by kernel_rfl) (by kernel_rfl) (by kernel_rfl) (fun _ _ _ h => h) (Or.inl ⟨by rfl, ?_⟩) (by assumption) ?_
                · intro X hX; obtain ⟨c0, c1, hb0⟩ := hX; go_simp
                simp only [Act.put, List.setIfInBounds_toArray, List.set_cons_zero, List.set_cons_succ]
                refine wpAnyH_takeD (i := 19) (d := some 90) (v := (.bool true)) rfl rfl (by kernel_rfl) (by kernel_rfl) (by kernel_rfl) (fun _ _ _ h => h) (Or.inl ⟨by rfl, ?_⟩) (by assumption) ?_
                · intro X hX; obtain ⟨c0, c1, hb0⟩ := hX; go_simp
                simp only [Act.put, List.setIfInBounds_toArray, List.set_cons_zero, List.set_cons_succ]
                refine wpAnyH_takeD (i := 20) (d := some 91) (v := (.bool true)) rfl rfl (by kernel_rfl) (by kernel_rfl) (by kernel_rfl) (fun _ _ _ h => h) (Or.inl ⟨by rfl, ?_⟩) (by assumption) ?_
                · intro X hX; obtain ⟨c0, c1, hb0⟩ := hX; go_simp
                simp only [Act.put, List.setIfInBounds_toArray, List.set_cons_zero, List.set_cons_succ]
                refine wpAnyH_takeD (i := 21) (d := some 92) (v := (.slice ao len co)) rfl rfl (by kernel_rfl) (by kernel_rfl) (by kernel_rfl) (fun _ _ _ h => h) (Or.inl ⟨by rfl, ?_⟩) (by assumption) ?_
                · intro X hX; obtain ⟨c0, c1, hb0⟩ := hX; go_simp
                simp only [Act.put, List.setIfInBounds_toArray, List.set_cons_zero, List.set_cons_succ]
                refine wpAnyH_takeD (i := 22) (d := some 93) (v := (.slice a len cap)) rfl rfl (by kernel_rfl) (by kernel_rfl) (by kernel_rfl) (fun _ _ _ h => h) (Or.inl ⟨by rfl, ?_⟩) (by assumption) ?_
                · intro X hX; obtain ⟨c0, c1, hb0⟩ := hX; go_simp
                simp only [Act.put, List.setIfInBounds_toArray, List.set_cons_zero, List.set_cons_succ]
                refine wpAnyH_ready (rs := [23]) (by kernel_rfl) (by simp) ?_
                refine AllReadyH.cons (o := _) rfl (fun K hK => ?_) AllReadyH.nil
                go_simp
                refine (KS.out _ hS.bl).mono ?_
                rintro e wq ⟨rfl, hb⟩
                have hS := hS.below hb
                clear hb
                go_simp
                refine hK.out _ _ hS (fun _ => ?_)
                clear hK K
                refine wpAnyH_takeD (i := 24) (d := some 95) (v := (.bool true)) rfl rfl (by kernel_rfl) (by kernel_rfl) (by kernel_rfl) (fun _ _ _ h => h) (Or.inl ⟨by rfl, ?_⟩) (by assumption) ?_
                · intro X hX; obtain ⟨c0, c1, hb0⟩ := hX; go_simp
                simp only [Act.put, List.setIfInBounds_toArray, List.set_cons_zero, List.set_cons_succ]
                refine wpAnyH_takeD (i := 25) (d := some 96) (v := (.bool true)) rfl rfl (by kernel_rfl) (by kernel_rfl) (by kernel_rfl) (fun _ _ _ h => h) (Or.inl ⟨by rfl, ?_⟩) (by assumption) ?_
                · intro X hX; obtain ⟨c0, c1, hb0⟩ := hX; go_simp
                simp only [Act.put, List.setIfInBounds_toArray, List.set_cons_zero, List.set_cons_succ]
                refine wpAnyH_takeD (i := 26) (d := some 97) (v := (.bool true)) rfl rfl (by kernel_rfl) (by kernel_rfl) (by kernel_rfl) (fun _ _ _ h => h) (Or.inl ⟨by rfl, ?_⟩) (by assumption) ?_
                · intro X hX; obtain ⟨c0, c1, hb0⟩ := hX; go_simp
                simp only [Act.put, List.setIfInBounds_toArray, List.set_cons_zero, List.set_cons_succ]
                refine wpAnyH_takeD (i := 27) (d := some 98) (v := (.slice a len cap)) rfl rfl (by kernel_rfl) (by kernel_rfl) (by kernel_rfl) (fun _ _ _ h => h) (Or.inl ⟨by rfl, ?_⟩) (by assumption) ?_
                · intro X hX; obtain ⟨c0, c1, hb0⟩ := hX; go_simp
                simp only [Act.put, List.setIfInBounds_toArray, List.set_cons_zero, List.set_cons_succ]
                refine wpAnyH_takeD (i := 29) (d := some 100) (v := (.int .u64 x)) rfl rfl (by kernel_rfl) (by kernel_rfl) (by kernel_rfl) (fun _ _ _ h => h) (Or.inl ⟨by rfl, ?_⟩) (by assumption) ?_
                · intro X hX; obtain ⟨c0, c1, hb0⟩ := hX; go_simp
                simp only [Act.put, List.setIfInBounds_toArray, List.set_cons_zero, List.set_cons_succ]
                refine wpAnyH_takeD (i := 30) (d := some 101) (v := (.agg #[.int .u64 0, .int .u64 x])) rfl rfl (by kernel_rfl) (by kernel_rfl) (by kernel_rfl) (fun _ _ _ h => h) (Or.inl ⟨by rfl, ?_⟩) (by assumption) ?_
                · intro X hX; obtain ⟨c0, c1, hb0⟩ := hX; go_simp
                simp only [Act.put, List.setIfInBounds_toArray, List.set_cons_zero, List.set_cons_succ]
                refine wpAnyH_ready (rs := [28]) (by kernel_rfl) (by simp) ?_
                refine AllReadyH.cons (o := _) rfl (fun K hK => ?_) AllReadyH.nil
                go_simp
                refine (KZ.out _ hS.bl).mono ?_
                rintro e wq ⟨rfl, hb⟩
                have hS := hS.below hb
                clear hb
                go_simp
                refine hK.out _ _ hS (fun _ => ?_)
                clear hK K
                refine wpAnyH_ready (rs := [31]) (by kernel_rfl) (by simp) ?_
                refine AllReadyH.cons (o := _) rfl (fun K hK => ?_) AllReadyH.nil
                go_simp
                refine (KC.out _).mono ?_
                rintro e wq ⟨rfl, hb⟩
                have hS := hS.below hb
                clear hb
                go_simp
                refine hK.out _ _ hS (fun _ => ?_)
                clear hK K
                refine wpAnyH_takeD (i := 32) (d := some 103) (v := (.bool true)) rfl rfl (by kernel_rfl) (by kernel_rfl) (by kernel_rfl) (fun _ _ _ h => h) (Or.inl ⟨by rfl, ?_⟩) (by assumption) ?_
                · intro X hX; obtain ⟨c0, c1, hb0⟩ := hX; go_simp
                simp only [Act.put, List.setIfInBounds_toArray, List.set_cons_zero, List.set_cons_succ]
                refine wpAnyH_takeD (i := 33) (d := some 104) (v := (.bool true)) rfl rfl (by kernel_rfl) (by kernel_rfl) (by kernel_rfl) (fun _ _ _ h => h) (Or.inl ⟨by rfl, ?_⟩) (by assumption) ?_
                · intro X hX; obtain ⟨c0, c1, hb0⟩ := hX; go_simp
                simp only [Act.put, List.setIfInBounds_toArray, List.set_cons_zero, List.set_cons_succ]
                refine wpAnyH_takeD (i := 34) (d := some 105) (v := (.bool true)) rfl rfl (by kernel_rfl) (by kernel_rfl) (by kernel_rfl) (fun _ _ _ h => h) (Or.inl ⟨by rfl, ?_⟩) (by assumption) ?_
                · intro X hX; obtain ⟨c0, c1, hb0⟩ := hX; go_simp
                simp only [Act.put, List.setIfInBounds_toArray, List.set_cons_zero, List.set_cons_succ]
                refine wpAnyH_takeD (i := 35) (d := some 4) (v := (.bool true)) rfl rfl (by kernel_rfl) (by kernel_rfl) (by kernel_rfl) (fun _ _ _ h => h) (Or.inl ⟨by rfl, ?_⟩) (by assumption) ?_
                · intro X hX; obtain ⟨c0, c1, hb0⟩ := hX; go_simp
                simp only [Act.put, List.setIfInBounds_toArray, List.set_cons_zero, List.set_cons_succ]
                refine wpAnyH_done (by kernel_rfl) ?_ _
                go_wp2
                go_ret
                exact ⟨rfl, bl_trans C2.out hS.bl⟩
              | false =>
                have hcp : c ≤ 0 := Int.not_lt.1 (of_decide_eq_false hd)
                clear Q1 hd
                refine wp_region_held_drew (S := HeldP w2 s (hi64 T) (lo64 T)) hmx hS.drew (fun hS => ?_)
                refine wpAnyH_ready (rs := [0]) (by kernel_rfl) (by simp) ?_
                refine AllReadyH.cons (o := _) rfl (fun K hK => ?_) AllReadyH.nil
                go_simp
                refine (alive_any _).mono ?_
                rintro e wq ⟨rfl, hb⟩
                have hS := hS.below hb
                clear hb
                go_simp
                refine hK.out _ _ hS (fun _ => ?_)
                clear hK K
                refine wpAnyH_takeD (i := 1) (d := some 72) (v := (.bool true)) rfl rfl (by kernel_rfl) (by kernel_rfl) (by kernel_rfl) (fun _ _ _ h => h) (Or.inl ⟨by rfl, ?_⟩) (by assumption) ?_
                · intro X hX; obtain ⟨c0, c1, hb0⟩ := hX; go_simp
                simp only [Act.put, List.setIfInBounds_toArray, List.set_cons_zero, List.set_cons_succ]
                refine wpAnyH_takeD (i := 2) (d := some 73) (v := (.agg #[.int .u64 (hi64 T), .int .u64 (lo64 T)])) rfl rfl (by kernel_rfl) (by kernel_rfl) (by kernel_rfl) (fun _ _ _ h => h) (Or.inl ⟨by rfl, ?_⟩) (by assumption) ?_
                · intro X hX; obtain ⟨c0, c1, hb0⟩ := hX; go_simp
                simp only [Act.put, List.setIfInBounds_toArray, List.set_cons_zero, List.set_cons_succ]
                refine wpAnyH_takeD (i := 3) (d := some 74) (v := (.slice a len cap)) rfl rfl (by kernel_rfl) (by kernel_rfl) (by kernel_rfl) (fun _ _ _ h => h) (Or.inl ⟨by rfl, ?_⟩) (by assumption) ?_
                · intro X hX; obtain ⟨c0, c1, hb0⟩ := hX; go_simp
                simp only [Act.put, List.setIfInBounds_toArray, List.set_cons_zero, List.set_cons_succ]
                refine wpAnyH_ready (rs := [4]) (by kernel_rfl) (by simp) ?_
                refine AllReadyH.cons (o := _) rfl (fun K hK => ?_) AllReadyH.nil
                go_simp
                refine (KZ.out _ hS.bl).mono ?_
                rintro e wq ⟨rfl, hb⟩
                have hS := hS.below hb
                clear hb
                go_simp
                refine hK.out _ _ hS (fun _ => ?_)
                clear hK K
                refine wpAnyH_takeD (i := 5) (d := some 76) (v := (.bool true)) rfl rfl (by kernel_rfl) (by kernel_rfl) (by kernel_rfl) (fun _ _ _ h => h) (Or.inl ⟨by rfl, ?_⟩) (by assumption) ?_
                · intro X hX; obtain ⟨c0, c1, hb0⟩ := hX; go_simp
                simp only [Act.put, List.setIfInBounds_toArray, List.set_cons_zero, List.set_cons_succ]
                refine wpAnyH_takeD (i := 6) (d := some 77) (v := (.bool true)) rfl rfl (by kernel_rfl) (by kernel_rfl) (by kernel_rfl) (fun _ _ _ h => h) (Or.inl ⟨by rfl, ?_⟩) (by assumption) ?_
                · intro X hX; obtain ⟨c0, c1, hb0⟩ := hX; go_simp
                simp only [Act.put, List.setIfInBounds_toArray, List.set_cons_zero, List.set_cons_succ]
                refine wpAnyH_takeD (i := 7) (d := some 78) (v := (.bool true)) rfl rfl (by kernel_rfl) (by kernel_rfl) (by kernel_rfl) (fun _ _ _ h => h) (Or.inl ⟨by rfl, ?_⟩) (by assumption) ?_
                · intro X hX; obtain ⟨c0, c1, hb0⟩ := hX; go_simp
                simp only [Act.put, List.setIfInBounds_toArray, List.set_cons_zero, List.set_cons_succ]
                refine wpAnyH_takeD (i := 8) (d := some 79) (v := (.bool false)) rfl rfl (by kernel_rfl) (by kernel_rfl) (by kernel_rfl) (fun _ _ _ h => h) (Or.inl ⟨by rfl, ?_⟩) (by assumption) ?_
                · intro X hX; obtain ⟨c0, c1, hb0⟩ := hX; go_simp
                simp only [Act.put, List.setIfInBounds_toArray, List.set_cons_zero, List.set_cons_succ]
                refine wpAnyH_takeD (i := 9) (d := some 80) (v := (.bool true)) rfl rfl (by kernel_rfl) (by kernel_rfl) (by kernel_rfl) (fun _ _ _ h => h) (Or.inl ⟨by rfl, ?_⟩) (by assumption) ?_
                · intro X hX; obtain ⟨c0, c1, hb0⟩ := hX; go_simp
                simp only [Act.put, List.setIfInBounds_toArray, List.set_cons_zero, List.set_cons_succ]
                refine wpAnyH_takeD (i := 10) (d := some 81) (v := (.bool true)) rfl rfl (by kernel_rfl) (by kernel_rfl) (by kernel_rfl) (fun _ _ _ h => h) (Or.inl ⟨by rfl, ?_⟩) (by assumption) ?_
                · intro X hX; obtain ⟨c0, c1, hb0⟩ := hX; go_simp
                simp only [Act.put, List.setIfInBounds_toArray, List.set_cons_zero, List.set_cons_succ]
                refine wpAnyH_takeD (i := 11) (d := some 82) (v := undef) rfl rfl (by kernel_rfl) (by kernel_rfl) (by kernel_rfl) (fun _ _ _ h => h) (Or.inr ⟨by rfl, rfl⟩) (by assumption) ?_
                simp only [Act.put, List.setIfInBounds_toArray, List.set_cons_zero, List.set_cons_succ]
                refine wpAnyH_takeD (i := 12) (d := some 83) (v := undef) rfl rfl (by kernel_rfl) (by kernel_rfl) (by kernel_rfl) (fun _ _ _ h => h) (Or.inr ⟨by rfl, rfl⟩) (by assumption) ?_
                simp only [Act.put, List.setIfInBounds_toArray, List.set_cons_zero, List.set_cons_succ]
                refine wpAnyH_takeD (i := 13) (d := some 84) (v := (.bool true)) rfl rfl (by kernel_rfl) (by kernel_rfl) (by kernel_rfl) (fun _ _ _ h => h) (Or.inl ⟨by rfl, ?_⟩) (by assumption) ?_
                · intro X hX; obtain ⟨c0, c1, hb0⟩ := hX; go_simp
                simp only [Act.put, List.setIfInBounds_toArray, List.set_cons_zero, List.set_cons_succ]
                refine wpAnyH_takeD (i := 14) (d := some 85) (v := (.bool true)) rfl rfl (by kernel_rfl) (by kernel_rfl) (by kernel_rfl) (fun _ _ _ h => h) (Or.inl ⟨by rfl, ?_⟩) (by assumption) ?_
                · intro X hX; obtain ⟨c0, c1, hb0⟩ := hX; go_simp
                simp only [Act.put, List.setIfInBounds_toArray, List.set_cons_zero, List.set_cons_succ]
                refine wpAnyH_takeD (i := 15) (d := some 86) (v := undef) rfl rfl (by kernel_rfl) (by kernel_rfl) (by kernel_rfl) (fun _ _ _ h => h) (Or.inr ⟨by rfl, rfl⟩) (by assumption) ?_
                simp only [Act.put, List.setIfInBounds_toArray, List.set_cons_zero, List.set_cons_succ]
                refine wpAnyH_takeD (i := 16) (d := some 87) (v := undef) rfl rfl (by kernel_rfl) (by kernel_rfl) (by kernel_rfl) (fun _ _ _ h => h) (Or.inr ⟨by rfl, rfl⟩) (by assumption) ?_
                simp only [Act.put, List.setIfInBounds_toArray, List.set_cons_zero, List.set_cons_succ]
                refine wpAnyH_takeD (i := 17) (d := some 88) (v := undef) rfl rfl (by kernel_rfl) (by kernel_rfl) (by kernel_rfl) (fun _ _ _ h => h) (Or.inr ⟨by rfl, rfl⟩) (by assumption) ?_
                simp only [Act.put, List.setIfInBounds_toArray, List.set_cons_zero, List.set_cons_succ]
                refine wpAnyH_takeD (i := 18) (d := some 89) (v := (.bool true)) rfl rfl (by kernel_rfl) (by kernel_rfl) (by kernel_rfl) (fun _ _ _ h => h) (Or.inl ⟨by rfl, ?_⟩) (by assumption) ?_
                · intro X hX; obtain ⟨c0, c1, hb0⟩ := hX; go_simp
                simp only [Act.put, List.setIfInBounds_toArray, List.set_cons_zero, List.set_cons_succ]
                refine wpAnyH_takeD (i := 19) (d := some 90) (v := (.bool true)) rfl rfl (by kernel_rfl) (by kernel_rfl) (by kernel_rfl) (fun _ _ _ h => h) (Or.inl ⟨by rfl, ?_⟩) (by assumption) ?_
                · intro X hX; obtain ⟨c0, c1, hb0⟩ := hX; go_simp
                simp only [Act.put, List.setIfInBounds_toArray, List.set_cons_zero, List.set_cons_succ]
                refine wpAnyH_takeD (i := 20) (d := some 91) (v := (.bool true)) rfl rfl (by kernel_rfl) (by kernel_rfl) (by kernel_rfl) (fun _ _ _ h => h) (Or.inl ⟨by rfl, ?_⟩) (by assumption) ?_
                · intro X hX; obtain ⟨c0, c1, hb0⟩ := hX; go_simp
                simp only [Act.put, List.setIfInBounds_toArray, List.set_cons_zero, List.set_cons_succ]
                refine wpAnyH_takeD (i := 21) (d := some 92) (v := (.slice ao len co)) rfl rfl (by kernel_rfl) (by kernel_rfl) (by kernel_rfl) (fun _ _ _ h => h) (Or.inl ⟨by rfl, ?_⟩) (by assumption) ?_
                · intro X hX; obtain ⟨c0, c1, hb0⟩ := hX; go_simp
                simp only [Act.put, List.setIfInBounds_toArray, List.set_cons_zero, List.set_cons_succ]
                refine wpAnyH_takeD (i := 22) (d := some 93) (v := (.slice a len cap)) rfl rfl (by kernel_rfl) (by kernel_rfl) (by kernel_rfl) (fun _ _ _ h => h) (Or.inl ⟨by rfl, ?_⟩) (by assumption) ?_
                · intro X hX; obtain ⟨c0, c1, hb0⟩ := hX; go_simp
                simp only [Act.put, List.setIfInBounds_toArray, List.set_cons_zero, List.set_cons_succ]
                refine wpAnyH_ready (rs := [23]) (by kernel_rfl) (by simp) ?_
                refine AllReadyH.cons (o := _) rfl (fun K hK => ?_) AllReadyH.nil
                go_simp
                refine (KS.out _ hS.bl).mono ?_
                rintro e wq ⟨rfl, hb⟩
                have hS := hS.below hb
                clear hb
                go_simp
                refine hK.out _ _ hS (fun _ => ?_)
                clear hK K
                refine wpAnyH_takeD (i := 24) (d := some 95) (v := (.bool true)) rfl rfl (by kernel_rfl) (by kernel_rfl) (by kernel_rfl) (fun _ _ _ h => h) (Or.inl ⟨by rfl, ?_⟩) (by assumption) ?_
                · intro X hX; obtain ⟨c0, c1, hb0⟩ := hX; go_simp
                simp only [Act.put, List.setIfInBounds_toArray, List.set_cons_zero, List.set_cons_succ]
                refine wpAnyH_takeD (i := 25) (d := some 96) (v := (.bool true)) rfl rfl (by kernel_rfl) (by kernel_rfl) (by kernel_rfl) (fun _ _ _ h => h) (Or.inl ⟨by rfl, ?_⟩) (by assumption) ?_
                · intro X hX; obtain ⟨c0, c1, hb0⟩ := hX; go_simp
                simp only [Act.put, List.setIfInBounds_toArray, List.set_cons_zero, List.set_cons_succ]
                refine wpAnyH_takeD (i := 26) (d := some 97) (v := (.bool false)) rfl rfl (by kernel_rfl) (by kernel_rfl) (by kernel_rfl) (fun _ _ _ h => h) (Or.inl ⟨by rfl, ?_⟩) (by assumption) ?_
                · intro X hX; obtain ⟨c0, c1, hb0⟩ := hX; go_simp
                simp only [Act.put, List.setIfInBounds_toArray, List.set_cons_zero, List.set_cons_succ]
                refine wpAnyH_takeD (i := 27) (d := some 98) (v := (.slice a len cap)) rfl rfl (by kernel_rfl) (by kernel_rfl) (by kernel_rfl) (fun _ _ _ h => h) (Or.inl ⟨by rfl, ?_⟩) (by assumption) ?_
                · intro X hX; obtain ⟨c0, c1, hb0⟩ := hX; go_simp
                simp only [Act.put, List.setIfInBounds_toArray, List.set_cons_zero, List.set_cons_succ]
                refine wpAnyH_takeD (i := 29) (d := some 100) (v := (.int .u64 x)) rfl rfl (by kernel_rfl) (by kernel_rfl) (by kernel_rfl) (fun _ _ _ h => h) (Or.inl ⟨by rfl, ?_⟩) (by assumption) ?_
                · intro X hX; obtain ⟨c0, c1, hb0⟩ := hX; go_simp
                simp only [Act.put, List.setIfInBounds_toArray, List.set_cons_zero, List.set_cons_succ]
                refine wpAnyH_takeD (i := 30) (d := some 101) (v := (.agg #[.int .u64 0, .int .u64 x])) rfl rfl (by kernel_rfl) (by kernel_rfl) (by kernel_rfl) (fun _ _ _ h => h) (Or.inl ⟨by rfl, ?_⟩) (by assumption) ?_
                · intro X hX; obtain ⟨c0, c1, hb0⟩ := hX; go_simp
                simp only [Act.put, List.setIfInBounds_toArray, List.set_cons_zero, List.set_cons_succ]
                refine wpAnyH_ready (rs := [28]) (by kernel_rfl) (by simp) ?_
                refine AllReadyH.cons (o := _) rfl (fun K hK => ?_) AllReadyH.nil
                go_simp
                refine (KZ.out _ hS.bl).mono ?_
                rintro e wq ⟨rfl, hb⟩
                have hS := hS.below hb
                clear hb
                go_simp
                refine hK.out _ _ hS (fun _ => ?_)
                clear hK K
                refine wpAnyH_ready (rs := [31]) (by kernel_rfl) (by simp) ?_
                refine AllReadyH.cons (o := _) rfl (fun K hK => ?_) AllReadyH.nil
                go_simp
                refine (KC.out _).mono ?_
                rintro e wq ⟨rfl, hb⟩
                have hS := hS.below hb
                clear hb
                go_simp
                refine hK.out _ _ hS (fun _ => ?_)
                clear hK K
                refine wpAnyH_takeD (i := 32) (d := some 103) (v := (.bool false)) rfl rfl (by kernel_rfl) (by kernel_rfl) (by kernel_rfl) (fun _ _ _ h => h) (Or.inl ⟨by rfl, ?_⟩) (by assumption) ?_
                · intro X hX; obtain ⟨c0, c1, hb0⟩ := hX; go_simp
                simp only [Act.put, List.setIfInBounds_toArray, List.set_cons_zero, List.set_cons_succ]
                refine wpAnyH_takeD (i := 33) (d := some 104) (v := (.bool true)) rfl rfl (by kernel_rfl) (by kernel_rfl) (by kernel_rfl) (fun _ _ _ h => h) (Or.inl ⟨by rfl, ?_⟩) (by assumption) ?_
                · intro X hX; obtain ⟨c0, c1, hb0⟩ := hX; go_simp
                simp only [Act.put, List.setIfInBounds_toArray, List.set_cons_zero, List.set_cons_succ]
                refine wpAnyH_takeD (i := 34) (d := some 105) (v := (.bool true)) rfl rfl (by kernel_rfl) (by kernel_rfl) (by kernel_rfl) (fun _ _ _ h => h) (Or.inl ⟨by rfl, ?_⟩) (by assumption) ?_
                · intro X hX; obtain ⟨c0, c1, hb0⟩ := hX; go_simp
                simp only [Act.put, List.setIfInBounds_toArray, List.set_cons_zero, List.set_cons_succ]
                refine wpAnyH_takeD (i := 35) (d := some 4) (v := (.bool true)) rfl rfl (by kernel_rfl) (by kernel_rfl) (by kernel_rfl) (fun _ _ _ h => h) (Or.inl ⟨by rfl, ?_⟩) (by assumption) ?_
                · intro X hX; obtain ⟨c0, c1, hb0⟩ := hX; go_simp
                simp only [Act.put, List.setIfInBounds_toArray, List.set_cons_zero, List.set_cons_succ]
                refine wpAnyH_done (by kernel_rfl) ?_ _
                go_wp2
                go_ret
                exact ⟨rfl, bl_trans C2.out hS.bl⟩
  · have HR := hide hR
    clear h hx hR hn
    go_enter Try.func8, Try.ntmps8
    go_wp2_with fail
    refine (right_no a len cap zs _ H.out HR.out).mono ?_
    rintro e w1 ⟨rfl, b1⟩
    go_wp2_with fail
    refine (alive_any _).mono ?_
    rintro e w2 ⟨rfl, b2⟩
    go_wp2_with fail
    go_ret
    exact ⟨rfl, bl_trans b1 b2⟩
end Go.Proofs.Ytccaeocnecfmaaa
