/- Contracts of the reference of layer 17: Lo, Sums. -/
import Derived.Test.YtpoodkihngnhpaaDeltaSums
namespace Go.Proofs.Ytpoodkihngnhpaa
open Go.RowKit

theorem rsum_yes (a : Option Addr) (len cap : Nat) (zs : List Int) (s : Int) (w : World) (h : Ints .u64 w a len zs) (es : zs.sum = s) (hs : s < 18446744073709551616) :
    Calls Try.prog 20 #[.slice a len cap] w fun e w' => e = .returned (.tuple #[.int .u64 s, .bool true]) ∧ Below w.heap.size w w' :=
  (rsum_any a len cap zs w h).mono fun _ _ ⟨he, hb⟩ => ⟨he.trans (ret_ib (by unfold sumV; rw [es, if_pos hs]) (by unfold sumB; rw [es, decide_eq_true hs])), hb⟩
theorem rsum_no (a : Option Addr) (len cap : Nat) (zs : List Int) (w : World) (h : Ints .u64 w a len zs) (hs : ¬ zs.sum < 18446744073709551616) :
    Calls Try.prog 20 #[.slice a len cap] w fun e w' => e = .returned (.tuple #[.int .u64 0, .bool false]) ∧ Below w.heap.size w w' :=
  (rsum_any a len cap zs w h).mono fun _ _ ⟨he, hb⟩ => ⟨he.trans (ret_ib (by unfold sumV; rw [if_neg hs]) (by unfold sumB; rw [decide_eq_false hs])), hb⟩
theorem rlo_first (hi ap d : Int) (w : World) :
    Calls Try.prog 22 #[.bool true, .int .u64 hi, .int .u64 ap, .int .u64 d] w fun e w' => e = .returned (.tuple #[.int .u64 d, .bool true]) ∧ Below w.heap.size w w' := by
  go_enter Try.func22, Try.ntmps22
  go_wp2
  go_ret2
  exact ⟨rfl, Below.refl _ _⟩
theorem rlo_later (hi ap d : Int) (w : World) (ha : Word ap) (hh : Word hi) (hd : Word d) :
    Calls Try.prog 22 #[.bool false, .int .u64 hi, .int .u64 ap, .int .u64 d] w fun e w' => e = .returned (.tuple #[.int .u64 (sumV [hi, 1, ap, d]), .bool (sumB [hi, 1, ap, d])]) ∧ Below w.heap.size w w' := by
  have HS := hide (fun (W : World) (b : Nat) (hW : W.heap[b]? = some (.cells #[.int .u64 hi, .int .u64 1, .int .u64 ap, .int .u64 d] 24 (0, 0))) => rsum_any (some ⟨b, 0, none⟩) 4 4 [hi, 1, ap, d] W (ints4 hh one_word ha hd hW))
  go_enter Try.func22, Try.ntmps22
  go_wp2_with fail
  refine (HS.out _ _ (heap_new_at _ _ rfl)).mono ?_
  rintro e w1 ⟨rfl, b1⟩
  go_wp2
  go_ret2
  exact ⟨rfl, bl_trans (bl_alloc (Below.refl _ _) _) b1⟩
theorem rlo_yes (hi ap d : Int) (w : World) (ha : Word ap) (hh : Word hi) (hd : Word d) (hs : hi + 1 + ap + d < 18446744073709551616) :
    Calls Try.prog 22 #[.bool false, .int .u64 hi, .int .u64 ap, .int .u64 d] w fun e w' => e = .returned (.tuple #[.int .u64 (hi + 1 + ap + d), .bool true]) ∧ Below w.heap.size w w' :=
  (rlo_later hi ap d w ha hh hd).mono fun _ _ ⟨he, hb⟩ => ⟨he.trans (ret_ib (by rw [sumV_four, if_pos hs]) (by rw [sumB_four, decide_eq_true hs])), hb⟩
theorem rlo_no (hi ap d : Int) (w : World) (ha : Word ap) (hh : Word hi) (hd : Word d) (hs : ¬ hi + 1 + ap + d < 18446744073709551616) :
    Calls Try.prog 22 #[.bool false, .int .u64 hi, .int .u64 ap, .int .u64 d] w fun e w' => e = .returned (.tuple #[.int .u64 0, .bool false]) ∧ Below w.heap.size w w' :=
  (rlo_later hi ap d w ha hh hd).mono fun _ _ ⟨he, hb⟩ => ⟨he.trans (ret_ib (by rw [sumV_four, if_neg hs]) (by rw [sumB_four, decide_eq_false hs])), hb⟩

theorem OwnL.keep {w w' : World} {base : Nat} {t : TypeId} {v : Value} {zs : List Iv} (h : OwnL w base t v zs) (hb : Below w.heap.size w w') : OwnL w' base t v zs := h.only (may := fun _ => False) (Only.of_below hb) (fun _ h => h.elim)
/-- A list of the call's own that is not empty: its row, and the last Hi. -/
theorem OwnL.ended {w : World} {base : Nat} {t : TypeId} {v : Value} {zs : List Iv} {n : Nat} (h : OwnL w base t v zs) (hz : zs.length = n) (hn : 0 < n) :
    ∃ g c, v = .slice (some ⟨g, 0, none⟩) n c ∧ g < w.heap.size ∧ w.cell? ⟨g, (n - 1) * 2 + 1, none⟩ = some (.int .u64 (Hi zs (n - 1))) := by
  obtain ⟨a, c, hv, hP, _, _⟩ := h.prs
  rw [hz] at hv
  obtain ⟨g, off, ea, hlt, _, h2⟩ := hP.cells (n - 1) (by omega)
  rcases h.row.2 with ⟨_, hn'⟩ | ⟨g', cap, cur, hv', hg, hc, _⟩
  · rw [hn'] at hz; have : n = 0 := hz.symm; omega
  · rw [hv, ea] at hv'
    simp at hv'
    obtain ⟨⟨rfl, rfl⟩, _⟩ := hv'
    exact ⟨g, c, by rw [hv, ea], hlt, by simpa using h2⟩

/-- What the reference's step returns: the Lo of the next interval. -/
def lastH (ds : List Int) (ap : Int) : Nat → Int
  | 0 => 0
  | j + 1 => hiN ds ap j
theorem rlo_st (ds : List Int) (ap : Int) (j : Nat) (w : World) (ha : Word ap) (hd : ∀ i, Word (ds.getD i 0)) (hok : OkTo ds ap (2 * j)) (hs : loN ds ap j < 18446744073709551616) :
    Calls Try.prog 22 #[.bool (decide (j = 0)), .int .u64 (lastH ds ap j), .int .u64 ap, .int .u64 (ds.getD (2 * j) 0)] w fun e w' => e = .returned (.tuple #[.int .u64 (loN ds ap j), .bool true]) ∧ Below w.heap.size w w' := by
  cases j with
  | zero => exact rlo_first _ _ _ w
  | succ i =>
    have wh : Word (hiN ds ap i) := ⟨(hiN_range ha.1 (fun i => (hd i).1) i).2, hok.2 i (by omega)⟩
    exact rlo_yes _ _ _ w ha wh (hd _) hs
theorem rlo_st_no (ds : List Int) (ap : Int) (j : Nat) (w : World) (ha : Word ap) (hd : ∀ i, Word (ds.getD i 0)) (hok : OkTo ds ap (2 * j)) (hs : ¬ loN ds ap j < 18446744073709551616) :
    Calls Try.prog 22 #[.bool (decide (j = 0)), .int .u64 (lastH ds ap j), .int .u64 ap, .int .u64 (ds.getD (2 * j) 0)] w fun e w' => e = .returned (.tuple #[.int .u64 0, .bool false]) ∧ Below w.heap.size w w' := by
  cases j with
  | zero => exact absurd (hd 0).2 hs
  | succ i =>
    have wh : Word (hiN ds ap i) := ⟨(hiN_range ha.1 (fun i => (hd i).1) i).2, hok.2 i (by omega)⟩
    exact rlo_no _ _ _ w ha wh (hd _) hs

set_option maxHeartbeats 3200000 in
theorem rsums_any (a : Option Addr) (len cap : Nat) (ds : List Int) (ap : Int) (w : World) (h : Ints .u64 w a len ds) (ha : Word ap) (hs : len ≤ 1000) :
    Calls Try.prog 16 #[.slice a len cap, .int .u64 ap] w (SumsPost w ds ap) := by
  obtain ⟨i0', hi0, hz0, hz1, hz2⟩ := info_parts info_iv
  have H := hide h
  have HA := hide ha
  have HL := hide h.length
  have HD := hide (ints_get h)
  clear h ha
  by_cases hp : len % 2 = 1
  · have t0 : ((len : Int) % 2 == 1) = true := by simp; omega
    have NO := hide (show ¬ SumsOk ds ap from fun hh => by have := hh.1; rw [HL.out] at this; omega)
    clear hp
    go_enter Try.func16, Try.ntmps16
    go_wp2
    go_ret2
    exact ⟨Below.refl _ _, .inr ⟨NO.out, rfl⟩⟩
  · have t0 : ((len : Int) % 2 == 1) = false := by simp; omega
    have HP := hide hp
    clear hp
    go_enter Try.func16, Try.ntmps16
    go_wp2
    go_loopw [6, 7] (fun o c wr => ∃ j : Nat, 2 * j ≤ len ∧ c = .int .i64 (2 * j : Nat) ∧ OwnL wr w.heap.size 44 o (ivs ds ap j) ∧ OkTo ds ap (2 * j) ∧ Below w.heap.size w wr)
      (fun _ c _ => len - (intOf c).toNat)
    case atStart => exact ⟨0, Nat.zero_le _, rfl, OwnL.nil _ _ _, OkTo.zero _ _, Below.refl _ _⟩
    case round =>
      obtain ⟨j, hk, rfl, hO, hT, hb⟩ := hrel
      have HO := hide hO; have HT := hide hT; have HB := hide hb
      have hsz := hb.size
      clear hO hT hb
      by_cases hlt : 2 * j < len
      · obtain ⟨b, off, rfl, hbl, hc1⟩ := (H.out.below HB.out).cells (2 * j) hlt
        obtain ⟨b2, off2, eb, _, hc2⟩ := (H.out.below HB.out).cells (2 * j + 1) (by have := HP.out; omega)
        obtain ⟨rfl, rfl⟩ : b = b2 ∧ off = off2 := by simpa using eb
        have i1 : (2 : Int) * (j : Int) < (len : Int) := by omega
        have i2 : (2 : Int) * (j : Int) + 1 < (len : Int) := by have := HP.out; omega
        have i3 : 2 * j + 1 < len := by have := HP.out; omega
        have HI := hide (fun (h : SumsOk ds ap) => h.2.1 j (by rw [HL.out]; exact hlt))
        have HI2 := hide (fun (h : SumsOk ds ap) => h.2.2 j (by rw [HL.out]; exact i3))
        have EI := hide (ivs_succ ds ap j)
        have hil := hide (ivs_length ds ap j)
        have WX := hide (HD.out (2 * j)); have WY := hide (HD.out (2 * j + 1))
        have ehN := hiN_eq ds ap j
        have wl0 := (hiN_range HA.out.1 (fun i => (HD.out i).1) j)
        have HS := hide (fun W => rlo_st ds ap j W HA.out HD.out HT.out)
        have HN := hide (fun W => rlo_st_no ds ap j W HA.out HD.out HT.out)
        have HT2 := hide (fun h => HT.out.lo (j := j) h)
        have HT3 := hide (fun h => (HT2.out h).hi)
        obtain ⟨x, ex⟩ : ∃ x, x = ds.getD (2 * j) 0 := ⟨_, rfl⟩
        obtain ⟨y, ey⟩ : ∃ y, y = ds.getD (2 * j + 1) 0 := ⟨_, rfl⟩
        obtain ⟨lo, elo⟩ : ∃ lo, lo = loN ds ap j := ⟨_, rfl⟩
        obtain ⟨hi, ehi⟩ : ∃ hi, hi = hiN ds ap j := ⟨_, rfl⟩
        rw [← ex] at hc1 HS HN WX
        rw [← ey] at hc2 ehN WY
        rw [← elo] at HS HN EI HI HT2 HT3 ehN wl0
        rw [← ehi] at EI HI2 HT3 ehN wl0
        clear ex ey elo ehi eb
        have ej : decide (j = 0) = ((2 : Int) * (j : Int) == 0) := by
          by_cases h : j = 0
          · subst h; rfl
          · rw [decide_eq_false h]; symm; simp; omega
        rw [ej] at HS HN
        by_cases hj : j = 0
        · have elh : lastH ds ap j = 0 := by rw [hj]; rfl
          rw [elh] at HS HN
          have j1 : ¬ (0 : Int) < 2 * (j : Int) := by omega
          have j2 : ¬ 0 < j := by omega
          have hjl : j ≤ 1000 := by omega
          clear hj ej elh
          by_cases hs2 : lo < 18446744073709551616
          · have WL := hide (show Word lo from ⟨wl0.1, hs2⟩)
            by_cases hs3 : hi < 18446744073709551616
            · have WH := hide (show Word hi from ⟨wl0.2, hs3⟩)
              have HT4 := hide (HT3.out hs2 hs3)
              have EH := hide ehN
              have HS2 := hide (fun W => HS.out W hs2)
              clear HT3 HT2 HI HI2 HN wl0 ehN
              go_wp2_with fail
              refine (HS2.out _).mono ?_
              rintro e w2 ⟨rfl, b2⟩
              have hc3 := keep_cell b2 hbl hc2
              have HO2 := hide (HO.out.keep b2)
              go_wp2_with fail
              refine (rsum_yes (some ⟨w2.heap.size, 0, none⟩) 2 2 [lo, y] hi _ (ints2 WL.out WY.out (heap_new_at _ _ rfl)) (by simp; exact EH.out.symm) hs3).mono ?_
              rintro e w3 ⟨rfl, b3⟩
              have b4 := hide (bl_trans (bl_alloc (bl_trans HB.out b2) (.cells #[.int .u64 lo, .int .u64 y] 24)) b3)
              have HO3 := hide ((HO2.out.keep (bl_alloc (Below.refl _ _) _)).keep b3)
              go_wp2_with (at_builtin; refine wpList_append_own_at _ rfl _ _ 23 rfl w.heap.size 44 i0' (.agg #[.int .u64 0, .int .u64 0]) 2 16 Try.underlying23 hi0 hz0 hz1 hz2 rfl (by decide) _ _ _ rfl (HO3.out.row.alloc _) ⟨w3.heap.size, 0, none⟩ 1 1 [.int .u64 lo, .int .u64 hi] rfl rfl ?s1 ?s2 ?s3 ?s4 ?s5 ?_)
              case s1 => exact cell_two_new w3 _ _ _
              case s2 => exact two_one _ _
              case s3 => rw [hil.out]; unfold maxLen; omega
              case s4 => rw [hil.out]; omega
              case s5 => have := b4.out.size; simp; omega
              intro v' w5 hown hgrow _ _
              have b5 := (bl_alloc b4.out _).grown hgrow (by have := b4.out.size; simp; omega) (fun g hg => (HO3.out.row.lt g hg).1)
              have HO4 := hide (ownL_snoc EI.out HO3.out hown WL.out WH.out)
              clear hown hgrow
              go_wp2
              go_roundw
              case rel => exact ⟨j + 1, by omega, by go_num, HO4.out, HT4.out, b5⟩
              case measure => simp [intOf]; omega
            · have NO := hide (show ¬ SumsOk ds ap from fun h => hs3 (HI2.out h))
              have EH := hide ehN
              have HS2 := hide (fun W => HS.out W hs2)
              have hs3' := hide (show ¬ [lo, y].sum < 18446744073709551616 by simp; omega)
              clear HT3 HT2 HI HI2 HN wl0 ehN hs3
              go_wp2_with fail
              refine (HS2.out _).mono ?_
              rintro e w2 ⟨rfl, b2⟩
              have hc3 := keep_cell b2 hbl hc2
              go_wp2_with fail
              refine (rsum_no (some ⟨w2.heap.size, 0, none⟩) 2 2 [lo, y] _ (ints2 WL.out WY.out (heap_new_at _ _ rfl)) (Int.not_lt.2 hs3'.out)).mono ?_
              rintro e w3 ⟨rfl, b3⟩
              go_wp2
              go_ret2
              exact ⟨bl_trans (bl_alloc (bl_trans HB.out b2) (.cells #[.int .u64 lo, .int .u64 y] 24)) b3, .inr ⟨NO.out, rfl⟩⟩
          · have NO := hide (show ¬ SumsOk ds ap from fun h => hs2 (HI.out h))
            have HN2 := hide (fun W => HN.out W hs2)
            clear HT3 HT2 HI HI2 HS wl0 ehN hs2
            go_wp2_with fail
            refine (HN2.out _).mono ?_
            rintro e w2 ⟨rfl, b2⟩
            have hc3 := keep_cell b2 hbl hc2
            go_wp2_with fail
            refine (rsum_yes (some ⟨w2.heap.size, 0, none⟩) 2 2 [0, y] y _ (ints2 zero_word WY.out (heap_new_at _ _ rfl)) (by simp) WY.out.2).mono ?_
            rintro e w3 ⟨rfl, b3⟩
            go_wp2
            go_ret2
            exact ⟨bl_trans (bl_alloc (bl_trans HB.out b2) (.cells #[.int .u64 0, .int .u64 y] 24)) b3, .inr ⟨NO.out, rfl⟩⟩
        · obtain ⟨g, gc, rfl, hgl, hcg⟩ := HO.out.ended hil.out (by omega)
          have el : Hi (ivs ds ap j) (j - 1) = lastH ds ap j := by
            obtain ⟨i, rfl⟩ : ∃ i, j = i + 1 := ⟨j - 1, by omega⟩
            rw [Nat.add_sub_cancel, ivs_hi (by omega)]; rfl
          rw [el] at hcg
          obtain ⟨lh, elh⟩ : ∃ lh, lh = lastH ds ap j := ⟨_, rfl⟩
          rw [← elh] at hcg HS HN
          have j1 : (1 : Int) ≤ (j : Int) := by omega
          have j2 : (0 : Int) ≤ (j : Int) - 1 := by omega
          have j3 : ((j : Int) - 1).toNat = j - 1 := by omega
          have j4 : 1 ≤ j := by omega
          have j5 : ¬ (j : Int) = 0 := by omega
          clear elh el ej
          by_cases hs2 : lo < 18446744073709551616
          · have WL := hide (show Word lo from ⟨wl0.1, hs2⟩)
            by_cases hs3 : hi < 18446744073709551616
            · have WH := hide (show Word hi from ⟨wl0.2, hs3⟩)
              have HT4 := hide (HT3.out hs2 hs3)
              have EH := hide ehN
              have HS2 := hide (fun W => HS.out W hs2)
              clear HT3 HT2 HI HI2 HN wl0 ehN
              go_wp2_with fail
              refine (HS2.out _).mono ?_
              rintro e w2 ⟨rfl, b2⟩
              have hc3 := keep_cell b2 hbl hc2
              have HO2 := hide (HO.out.keep b2)
              go_wp2_with fail
              refine (rsum_yes (some ⟨w2.heap.size, 0, none⟩) 2 2 [lo, y] hi _ (ints2 WL.out WY.out (heap_new_at _ _ rfl)) (by simp; exact EH.out.symm) hs3).mono ?_
              rintro e w3 ⟨rfl, b3⟩
              have b4 := hide (bl_trans (bl_alloc (bl_trans HB.out b2) (.cells #[.int .u64 lo, .int .u64 y] 24)) b3)
              have HO3 := hide ((HO2.out.keep (bl_alloc (Below.refl _ _) _)).keep b3)
              go_wp2_with (at_builtin; refine wpList_append_own_at _ rfl _ _ 23 rfl w.heap.size 44 i0' (.agg #[.int .u64 0, .int .u64 0]) 2 16 Try.underlying23 hi0 hz0 hz1 hz2 rfl (by decide) _ _ _ rfl (HO3.out.row.alloc _) ⟨w3.heap.size, 0, none⟩ 1 1 [.int .u64 lo, .int .u64 hi] rfl rfl ?u1 ?u2 ?u3 ?u4 ?u5 ?_)
              case u1 => exact cell_two_new w3 _ _ _
              case u2 => exact two_one _ _
              case u3 => rw [hil.out]; unfold maxLen; omega
              case u4 => rw [hil.out]; omega
              case u5 => have := b4.out.size; simp; omega
              intro v' w5 hown hgrow _ _
              have b5 := (bl_alloc b4.out _).grown hgrow (by have := b4.out.size; simp; omega) (fun g hg => (HO3.out.row.lt g hg).1)
              have HO4 := hide (ownL_snoc EI.out HO3.out hown WL.out WH.out)
              clear hown hgrow
              go_wp2
              go_roundw
              case rel => exact ⟨j + 1, by omega, by go_num, HO4.out, HT4.out, b5⟩
              case measure => simp [intOf]; omega
            · have NO := hide (show ¬ SumsOk ds ap from fun h => hs3 (HI2.out h))
              have EH := hide ehN
              have HS2 := hide (fun W => HS.out W hs2)
              have hs3' := hide (show ¬ [lo, y].sum < 18446744073709551616 by simp; omega)
              clear HT3 HT2 HI HI2 HN wl0 ehN hs3
              go_wp2_with fail
              refine (HS2.out _).mono ?_
              rintro e w2 ⟨rfl, b2⟩
              have hc3 := keep_cell b2 hbl hc2
              go_wp2_with fail
              refine (rsum_no (some ⟨w2.heap.size, 0, none⟩) 2 2 [lo, y] _ (ints2 WL.out WY.out (heap_new_at _ _ rfl)) (Int.not_lt.2 hs3'.out)).mono ?_
              rintro e w3 ⟨rfl, b3⟩
              go_wp2
              go_ret2
              exact ⟨bl_trans (bl_alloc (bl_trans HB.out b2) (.cells #[.int .u64 lo, .int .u64 y] 24)) b3, .inr ⟨NO.out, rfl⟩⟩
          · have NO := hide (show ¬ SumsOk ds ap from fun h => hs2 (HI.out h))
            have HN2 := hide (fun W => HN.out W hs2)
            clear HT3 HT2 HI HI2 HS wl0 ehN hs2
            go_wp2_with fail
            refine (HN2.out _).mono ?_
            rintro e w2 ⟨rfl, b2⟩
            have hc3 := keep_cell b2 hbl hc2
            go_wp2_with fail
            refine (rsum_yes (some ⟨w2.heap.size, 0, none⟩) 2 2 [0, y] y _ (ints2 zero_word WY.out (heap_new_at _ _ rfl)) (by simp) WY.out.2).mono ?_
            rintro e w3 ⟨rfl, b3⟩
            go_wp2
            go_ret2
            exact ⟨bl_trans (bl_alloc (bl_trans HB.out b2) (.cells #[.int .u64 0, .int .u64 y] 24)) b3, .inr ⟨NO.out, rfl⟩⟩
      · obtain rfl : 2 * j = len := by have := HP.out; omega
        have YES := hide (show SumsOk ds ap from ⟨by rw [HL.out]; omega, by rw [HL.out]; exact HT.out⟩)
        go_wp2
        go_ret2
        exact ⟨HB.out, .inl ⟨YES.out, _, rfl, by rw [HL.out, show 2 * j / 2 = j by omega]; exact HO.out⟩⟩
end Go.Proofs.Ytpoodkihngnhpaa
