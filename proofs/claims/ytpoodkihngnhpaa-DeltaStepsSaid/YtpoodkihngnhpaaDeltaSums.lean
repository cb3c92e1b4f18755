/- The contract of delta.Sums. -/
import Derived.Test.YtpoodkihngnhpaaDeltaDiffs
import Derived.Test.YtpoodkihngnhpaaOwnList
namespace Go.Proofs.Ytpoodkihngnhpaa
open Go.RowKit

/-- The cursor behind k differences. -/
def CurSt (ds : List Int) (ap : Int) (p k : Nat) (w : World) : Prop :=
  ∃ lo llo lhi sm f, CurAt w p ap lo llo lhi sm (decide (k % 2 = 1)) f ∧ (k % 2 = 1 → lo = loN ds ap (k / 2)) ∧
    (k % 2 = 0 → (k = 0 ∧ sm = false ∧ f = 27) ∨ (0 < k ∧ lhi = hiN ds ap (k / 2 - 1) ∧ f = 30))
theorem CurSt.lt {ds : List Int} {ap : Int} {p k : Nat} {w : World} (h : CurSt ds ap p k w) : p < w.heap.size := by
  obtain ⟨_, _, _, _, _, h, _⟩ := h; exact h.lt
theorem CurSt.below {ds : List Int} {ap : Int} {p k : Nat} {w w' : World} (h : CurSt ds ap p k w) (hb : Below w.heap.size w w') : CurSt ds ap p k w' := by
  obtain ⟨a, b, c, d, e, h, r⟩ := h; exact ⟨a, b, c, d, e, h.below hb, r⟩
theorem CurSt.only {ds : List Int} {ap : Int} {p k : Nat} {w w' : World} {may : Nat → Prop} (h : CurSt ds ap p k w) (hb : Only may w w') (hm : ¬ may p) : CurSt ds ap p k w' := by
  obtain ⟨a, b, c, d, e, h, r⟩ := h; exact ⟨a, b, c, d, e, hb.obj hm h, r⟩
theorem CurSt.same {ds : List Int} {ap : Int} {p k : Nat} {w w' : World} (h : CurSt ds ap p k w) (hb : w'.heap[p]? = w.heap[p]?) : CurSt ds ap p k w' := by
  obtain ⟨a, b, c, d, e, h, r⟩ := h; exact ⟨a, b, c, d, e, hb.trans h, r⟩
theorem hiN_range {ds : List Int} {ap : Int} (ha : 0 ≤ ap) (hd : ∀ i, 0 ≤ ds.getD i 0) : ∀ j, 0 ≤ loN ds ap j ∧ 0 ≤ hiN ds ap j := by
  intro j
  induction j with
  | zero =>
    have h0 := hd 0
    have e : loN ds ap 0 = ds.getD 0 0 := rfl
    have := loN_le (ap := ap) hd 0
    omega
  | succ j ih =>
    have h0 := hd (2 * (j + 1))
    have e : loN ds ap (j + 1) = hiN ds ap j + 1 + ap + ds.getD (2 * (j + 1)) 0 := rfl
    have := loN_le (ap := ap) hd (j + 1)
    omega

section
variable {ds : List Int} {ap : Int} {p j : Nat} {w : World}
theorem lo_st (h : CurSt ds ap p (2 * j) w) (ha : Word ap) (hd : ∀ i, Word (ds.getD i 0)) (hok : OkTo ds ap (2 * j)) (hs : loN ds ap j < 18446744073709551616) :
    Calls Try.prog 19 #[.pointer (some ⟨p, 0, none⟩), .int .u64 (ds.getD (2 * j) 0)] w fun e w' => e = .returned (.tuple #[.int .u64 (loN ds ap j), .bool true]) ∧ CurSt ds ap p (2 * j + 1) w' ∧ Only (fun b => b = p) w w' := by
  obtain ⟨lo, llo, lhi, sm, f, hC, _, hE⟩ := h
  have e0 : decide (2 * j % 2 = 1) = false := decide_eq_false (by omega)
  have e1 : decide ((2 * j + 1) % 2 = 1) = true := decide_eq_true (by omega)
  rw [e0] at hC
  rcases hE (by omega) with ⟨hj, rfl, rfl⟩ | ⟨hj, rfl, rfl⟩
  · obtain rfl : j = 0 := by omega
    refine (lo_first p _ ap lo llo lhi w hC).mono ?_
    rintro e w' ⟨rfl, hC', hO⟩
    refine ⟨rfl, ⟨ds.getD (2 * 0) 0, llo, lhi, false, 27, ?_, fun _ => ?_, fun h => absurd h (by omega)⟩, hO⟩
    · rw [e1]; exact hC'
    · rfl
  · obtain ⟨i, rfl⟩ : ∃ i, j = i + 1 := ⟨j - 1, by omega⟩
    have ej : 2 * (i + 1) / 2 - 1 = i := by omega
    rw [ej] at hC
    have wh : Word (hiN ds ap i) := ⟨(hiN_range ha.1 (fun i => (hd i).1) i).2, hok.2 i (by omega)⟩
    have es : hiN ds ap i + 1 + ap + ds.getD (2 * (i + 1)) 0 = loN ds ap (i + 1) := rfl
    refine (lo_later p _ ap lo llo _ sm w hC ha wh (hd _) (by rw [es]; exact hs)).mono ?_
    rintro e w' ⟨rfl, hC', hO⟩
    refine ⟨rfl, ⟨hiN ds ap i + 1 + ap + ds.getD (2 * (i + 1)) 0, llo, hiN ds ap i, sm, 30, ?_, fun _ => ?_, fun h => absurd h (by omega)⟩, hO⟩
    · rw [e1]; exact hC'
    · rw [es, show (2 * (i + 1) + 1) / 2 = i + 1 by omega]
theorem lo_st_no (h : CurSt ds ap p (2 * j) w) (ha : Word ap) (hd : ∀ i, Word (ds.getD i 0)) (hok : OkTo ds ap (2 * j)) (hs : ¬ loN ds ap j < 18446744073709551616) :
    Calls Try.prog 19 #[.pointer (some ⟨p, 0, none⟩), .int .u64 (ds.getD (2 * j) 0)] w fun e w' => e = .returned (.tuple #[.int .u64 0, .bool false]) ∧ Below w.heap.size w w' := by
  obtain ⟨lo, llo, lhi, sm, f, hC, _, hE⟩ := h
  have e0 : decide (2 * j % 2 = 1) = false := decide_eq_false (by omega)
  rw [e0] at hC
  rcases hE (by omega) with ⟨hj, rfl, rfl⟩ | ⟨hj, rfl, rfl⟩
  · obtain rfl : j = 0 := by omega
    exact absurd (hd 0).2 hs
  · obtain ⟨i, rfl⟩ : ∃ i, j = i + 1 := ⟨j - 1, by omega⟩
    have ej : 2 * (i + 1) / 2 - 1 = i := by omega
    rw [ej] at hC
    have wh : Word (hiN ds ap i) := ⟨(hiN_range ha.1 (fun i => (hd i).1) i).2, hok.2 i (by omega)⟩
    have es : hiN ds ap i + 1 + ap + ds.getD (2 * (i + 1)) 0 = loN ds ap (i + 1) := rfl
    exact lo_later_no p _ ap lo llo _ sm w hC ha wh (hd _) (by rw [es]; exact hs)
theorem hi_st (h : CurSt ds ap p (2 * j + 1) w) (ha : Word ap) (hd : ∀ i, Word (ds.getD i 0)) (hok : OkTo ds ap (2 * j + 1)) (hs : hiN ds ap j < 18446744073709551616) :
    Calls Try.prog 21 #[.pointer (some ⟨p, 0, none⟩), .int .u64 (ds.getD (2 * j + 1) 0)] w fun e w' => e = .returned (.tuple #[.agg #[.int .u64 (loN ds ap j), .int .u64 (hiN ds ap j)], .bool true]) ∧ CurSt ds ap p (2 * j + 2) w' ∧ Only (fun b => b = p) w w' := by
  obtain ⟨lo, llo, lhi, sm, f, hC, hE, _⟩ := h
  have e0 : decide ((2 * j + 1) % 2 = 1) = true := decide_eq_true (by omega)
  have e1 : decide ((2 * j + 2) % 2 = 1) = false := decide_eq_false (by omega)
  rw [e0] at hC
  obtain rfl := hE (by omega)
  rw [show (2 * j + 1) / 2 = j by omega] at hC
  have wl : Word (loN ds ap j) := ⟨(hiN_range ha.1 (fun i => (hd i).1) j).1, hok.1 j (by omega)⟩
  have es := hiN_eq ds ap j
  refine (hi_yes p _ ap _ llo lhi sm f w hC wl (hd _) (by rw [← es]; exact hs)).mono ?_
  rintro e w' ⟨rfl, hC', hO⟩
  rw [← es] at hC' ⊢
  refine ⟨rfl, ⟨loN ds ap j, loN ds ap j, hiN ds ap j, true, 30, ?_, fun h => absurd h (by omega), fun _ => .inr ⟨by omega, ?_, rfl⟩⟩, hO⟩
  · rw [e1]; exact hC'
  · rw [show (2 * j + 2) / 2 - 1 = j by omega]
theorem hi_st_no (h : CurSt ds ap p (2 * j + 1) w) (ha : Word ap) (hd : ∀ i, Word (ds.getD i 0)) (hok : OkTo ds ap (2 * j + 1)) (hs : ¬ hiN ds ap j < 18446744073709551616) :
    Calls Try.prog 21 #[.pointer (some ⟨p, 0, none⟩), .int .u64 (ds.getD (2 * j + 1) 0)] w fun e w' => e = .returned (.tuple #[.agg #[.int .u64 0, .int .u64 0], .bool false]) ∧ Below w.heap.size w w' := by
  obtain ⟨lo, llo, lhi, sm, f, hC, hE, _⟩ := h
  have e0 : decide ((2 * j + 1) % 2 = 1) = true := decide_eq_true (by omega)
  rw [e0] at hC
  obtain rfl := hE (by omega)
  rw [show (2 * j + 1) / 2 = j by omega] at hC
  have wl : Word (loN ds ap j) := ⟨(hiN_range ha.1 (fun i => (hd i).1) j).1, hok.1 j (by omega)⟩
  have es := hiN_eq ds ap j
  exact hi_no p _ ap _ llo lhi sm f w hC wl (hd _) (by rw [← es]; exact hs)
end

theorem row_only {w w' : World} {base n s : Nat} {t : TypeId} {v : Value} {xs : List Value} {may : Nat → Prop} (h : w.ownsRow base t s v n xs) (hb : Only may w w') (hm : ∀ k, may k → k < base) : w'.ownsRow base t s v n xs := by
  refine ⟨h.1, ?_⟩
  rcases h.2 with hn | ⟨g, cap, cur, hv, hg, hc, rest⟩
  · exact .inl hn
  · exact .inr ⟨g, cap, cur, hv, hg, hb.obj (fun hk => by have := hm g hk; omega) hc, rest⟩
theorem OwnL.only {w w' : World} {base : Nat} {t : TypeId} {v : Value} {zs : List Iv} {may : Nat → Prop} (h : OwnL w base t v zs) (hb : Only may w w') (hm : ∀ k, may k → k < base) : OwnL w' base t v zs := ⟨row_only h.row hb hm, h.words⟩
theorem lrow_base {w : World} {base base' n s : Nat} {t : TypeId} {v : Value} {xs : List Value} (h : w.ownsRow base t s v n xs) (hb : base' ≤ base) : w.ownsRow base' t s v n xs := by
  refine ⟨h.1, ?_⟩
  rcases h.2 with hn | ⟨g, cap, cur, hv, hg, rest⟩
  · exact .inl hn
  · exact .inr ⟨g, cap, cur, hv, by omega, rest⟩
theorem OwnL.lower {w : World} {base base' : Nat} {t : TypeId} {v : Value} {zs : List Iv} (h : OwnL w base t v zs) (hb : base' ≤ base) : OwnL w base' t v zs := ⟨lrow_base h.row hb, h.words⟩
theorem OwnL.nil (w : World) (base : Nat) (t : TypeId) : OwnL w base t (.slice none 0 0) [] := ⟨World.ownsRow_nil _ _ _ _, by simp⟩
theorem ownL_snoc {w w' : World} {base : Nat} {t : TypeId} {v v' : Value} {zs ys : List Iv} {x y : Int} (e : ys = zs ++ [(x, y)]) (h : OwnL w base t v zs) (hr : w'.ownsRow base t 2 v' (zs.length + 1) (cellsL zs ++ [.int .u64 x, .int .u64 y])) (wx : Word x) (wy : Word y) : OwnL w' base t v' ys := by
  subst e
  refine ⟨by rw [← cellsL_snoc]; simpa using hr, fun z hz => ?_⟩
  simp at hz
  rcases hz with hz | rfl
  · exact h.words z hz
  · exact ⟨wx, wy⟩
theorem info_iv : (Try.prog.info? 44).map (fun i => (i.zero, i.size, i.bytes)) = some (some (.agg #[.int .u64 0, .int .u64 0]), 2, 16) := by kernel_rfl
theorem ints_get {w : World} {a : Option Addr} {len : Nat} {ds : List Int} (h : Ints .u64 w a len ds) (i : Nat) : Word (ds.getD i 0) := by
  by_cases hi : i < len
  · exact word_of_wf (h.getD_wf hi)
  · have hl := h.length
    rw [show ds.getD i 0 = 0 by simp [List.getD, List.getElem?_eq_none (show ds.length ≤ i by omega)]]
    exact zero_word

/-- What Sums returns. -/
def SumsPost (w : World) (ds : List Int) (ap : Int) (e : Ending) (w' : World) : Prop :=
  Below w.heap.size w w' ∧ ((SumsOk ds ap ∧ ∃ v, e = .returned (.tuple #[v, .bool true]) ∧ OwnL w' w.heap.size 44 v (ivs ds ap (ds.length / 2))) ∨ (¬ SumsOk ds ap ∧ e = .returned (.tuple #[.slice none 0 0, .bool false])))

set_option maxHeartbeats 1600000 in
theorem sums_any (a : Option Addr) (len cap : Nat) (ds : List Int) (ap : Int) (w : World) (h : Ints .u64 w a len ds) (ha : Word ap) (hs : len ≤ 1000) :
    Calls Try.prog 12 #[.slice a len cap, .int .u64 ap] w (SumsPost w ds ap) := by
  obtain ⟨i0', hi0, hz0, hz1, hz2⟩ := info_parts info_iv
  have H := hide h
  have HA := hide ha
  have HL := hide h.length
  have HD := hide (ints_get h)
  clear h ha
  go_enter Try.func12, Try.ntmps12
  go_wp2_with fail
  refine (start_any ap w).mono ?_
  rintro e w1 ⟨rfl, hC, b1⟩
  have hlt1 := hide hC.lt
  have HC := hide hC
  clear hC
  go_wp2_with fail
  go_loopw [7, 18] (fun o c wr => ∃ k : Nat, k ≤ len ∧ c = .int .i64 k ∧ OwnL wr (w.heap.size + 1) 44 o (ivs ds ap (k / 2)) ∧ OkTo ds ap k ∧ CurSt ds ap w.heap.size k wr ∧ Below w.heap.size w wr)
    (fun _ c _ => len - (intOf c).toNat)
  case atStart => exact ⟨0, Nat.zero_le _, rfl, OwnL.nil _ _ _, OkTo.zero _ _, ⟨_, _, _, _, _, HC.out, fun h => absurd h (by decide), fun _ => .inl ⟨rfl, rfl, rfl⟩⟩, b1⟩
  case round =>
    obtain ⟨k, hk, rfl, hO, hT, hS, hb⟩ := hrel
    have HO := hide hO; have HT := hide hT; have HS := hide hS; have HB := hide hb
    have i0 : (0 : Int) ≤ (k : Int) := by omega
    have hsz := hb.size
    clear hO hT hS hb hlt1 HC b1
    by_cases hlt : k < len
    · obtain ⟨b, off, rfl, hbl, hc1⟩ := (H.out.below HB.out).cells k hlt
      have i1 : (k : Int) < (len : Int) := by omega
      by_cases hp : k % 2 = 0
      · obtain ⟨j, rfl⟩ : ∃ j, k = 2 * j := ⟨k / 2, by omega⟩
        have t0 : (((2 * j : Nat) : Int) % 2 == 0) = true := by simp
        by_cases hs2 : loN ds ap j < 18446744073709551616
        · have HX := hide (lo_st HS.out HA.out HD.out HT.out hs2)
          have HT2 := hide (HT.out.lo hs2)
          obtain ⟨x, ex⟩ : ∃ x, x = ds.getD (2 * j) 0 := ⟨_, rfl⟩
          rw [← ex] at hc1 HX
          clear ex hp hs2
          go_wp2_with fail
          refine HX.out.mono ?_
          rintro e w2 ⟨rfl, hC2, hO2⟩
          have b2 := hide (HB.out.trans (hO2.below hsz (fun k hk => by omega)))
          have HO2 := hide (HO.out.only hO2 (fun k hk => by omega))
          have HC2 := hide hC2
          clear hO2 hC2
          go_wp2_with fail
          go_roundw
          case rel => exact ⟨2 * j + 1, by omega, by go_num, by rw [show (2 * j + 1) / 2 = 2 * j / 2 by omega]; exact HO2.out, HT2.out, HC2.out, b2.out⟩
          case measure => simp [intOf]; omega
        · have HX := hide (lo_st_no HS.out HA.out HD.out HT.out hs2)
          have NO := hide (show ¬ SumsOk ds ap from fun hh => hs2 (hh.2.1 j (by rw [HL.out]; exact hlt)))
          obtain ⟨x, ex⟩ : ∃ x, x = ds.getD (2 * j) 0 := ⟨_, rfl⟩
          rw [← ex] at hc1 HX
          clear ex hp hs2
          go_wp2_with fail
          refine HX.out.mono ?_
          rintro e w2 ⟨rfl, b2⟩
          go_wp2
          go_ret2
          exact ⟨bl_trans HB.out b2, .inr ⟨NO.out, rfl⟩⟩
      · obtain ⟨j, rfl⟩ : ∃ j, k = 2 * j + 1 := ⟨k / 2, by omega⟩
        have t0 : (((2 * j + 1 : Nat) : Int) % 2 == 0) = false := by simp
        by_cases hs2 : hiN ds ap j < 18446744073709551616
        · have HX := hide (hi_st HS.out HA.out HD.out HT.out hs2)
          have HT2 := hide (HT.out.hi hs2)
          have WL := hide (show Word (loN ds ap j) from ⟨(hiN_range HA.out.1 (fun i => (HD.out i).1) j).1, HT.out.1 j (by omega)⟩)
          have WH := hide (show Word (hiN ds ap j) from ⟨(hiN_range HA.out.1 (fun i => (HD.out i).1) j).2, hs2⟩)
          have EI := hide (ivs_succ ds ap j)
          have ej : (2 * j + 1) / 2 = j := by omega
          rw [ej] at HO
          have hil := hide (ivs_length ds ap j)
          obtain ⟨x, ex⟩ : ∃ x, x = ds.getD (2 * j + 1) 0 := ⟨_, rfl⟩
          obtain ⟨lo, elo⟩ : ∃ lo, lo = loN ds ap j := ⟨_, rfl⟩
          obtain ⟨hi, ehi⟩ : ∃ hi, hi = hiN ds ap j := ⟨_, rfl⟩
          rw [← ex] at hc1 HX
          rw [← elo, ← ehi] at HX EI
          rw [← elo] at WL
          rw [← ehi] at WH
          clear ex hp hs2 elo ehi ej
          go_wp2_with fail
          refine HX.out.mono ?_
          rintro e w2 ⟨rfl, hC2, hO2⟩
          have b2 := hide (HB.out.trans (hO2.below hsz (fun k hk => by omega)))
          have HO2 := hide (HO.out.only hO2 (fun k hk => by omega))
          have HC2 := hide hC2
          have hlt2 := hide hC2.lt
          clear hO2 hC2
          go_wp2_with (at_builtin; refine wpList_append_own_at _ rfl _ _ 23 rfl (w.heap.size + 1) 44 i0' (.agg #[.int .u64 0, .int .u64 0]) 2 16 Try.underlying23 hi0 hz0 hz1 hz2 rfl (by decide) _ _ _ rfl ((HO2.out.row.alloc _).alloc _) ⟨w2.heap.size + 1, 0, none⟩ 1 1 [.int .u64 lo, .int .u64 hi] rfl rfl ?s1 ?s2 ?s3 ?s4 ?s5 ?_)
          case s1 => simpa using cell_two_new (w2.alloc (.cells #[.int .u64 lo, .int .u64 hi] 44)) _ _ 44
          case s2 => exact two_one _ _
          case s3 => rw [hil.out]; unfold maxLen; omega
          case s4 => rw [hil.out]; omega
          case s5 => have := hlt2.out; simp; omega
          intro v' w4 hown hgrow _ _
          have b4 := (bl_alloc (bl_alloc b2.out _) _).grown hgrow (by have := hlt2.out; simp; omega) (fun g hg => by have := (HO2.out.row.lt g hg).1; omega)
          have HO4 := hide (ownL_snoc EI.out HO2.out hown WL.out WH.out)
          have HC4 := hide (HC2.out.same ((hgrow.block w.heap.size (by have := hlt2.out; simp; omega) (fun h => by have := (HO2.out.row.lt _ h.symm).1; omega)).trans ((Below.heap_alloc _ _ _ (by have := hlt2.out; simp; omega)).trans (Below.heap_alloc _ _ _ hlt2.out))))
          clear hown hgrow
          go_wp2
          go_roundw
          case rel => exact ⟨2 * j + 2, by omega, by go_num, by rw [show (2 * j + 2) / 2 = j + 1 by omega]; exact HO4.out, HT2.out, HC4.out, b4⟩
          case measure => simp [intOf]; omega
        · have HX := hide (hi_st_no HS.out HA.out HD.out HT.out hs2)
          have NO := hide (show ¬ SumsOk ds ap from fun hh => hs2 (hh.2.2 j (by rw [HL.out]; exact hlt)))
          obtain ⟨x, ex⟩ : ∃ x, x = ds.getD (2 * j + 1) 0 := ⟨_, rfl⟩
          rw [← ex] at hc1 HX
          clear ex hp hs2
          go_wp2_with fail
          refine HX.out.mono ?_
          rintro e w2 ⟨rfl, b2⟩
          go_wp2
          go_ret2
          exact ⟨bl_alloc (bl_trans HB.out b2) _, .inr ⟨NO.out, rfl⟩⟩
    · obtain rfl : k = len := by omega
      by_cases hp : k % 2 = 1
      · have t0 : ((k : Int) % 2 == 1) = true := by simp; omega
        have NO := hide (show ¬ SumsOk ds ap from fun hh => by have := hh.1; rw [HL.out] at this; omega)
        clear hp
        go_wp2
        go_ret2
        exact ⟨HB.out, .inr ⟨NO.out, rfl⟩⟩
      · have t0 : ((k : Int) % 2 == 1) = false := by simp; omega
        have YES := hide (show SumsOk ds ap from ⟨by rw [HL.out]; omega, by rw [HL.out]; exact HT.out⟩)
        clear hp
        go_wp2
        go_ret2
        exact ⟨HB.out, .inl ⟨YES.out, _, rfl, by rw [HL.out]; exact HO.out.lower (by omega)⟩⟩
end Go.Proofs.Ytpoodkihngnhpaa
