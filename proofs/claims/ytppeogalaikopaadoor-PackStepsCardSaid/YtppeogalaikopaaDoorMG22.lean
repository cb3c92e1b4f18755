/- The contract of delta.Sums. Contracts of the reference of layer 17: Lo, Sums. -/
import Derived.Test.YtppeogalaikopaaDoorMG19
import Derived.Test.YtppeogalaikopaaDoorMG2
namespace Go.Proofs.YtppeogalaikopaaDoor
open Go.RowKit

/-- The cursor behind k differences. -/
def CurSt (ds : List Int) (ap : Int) (p k : Nat) (w : World) : Prop :=
  ∃ lo llo lhi sm f, CurAt w p ap lo llo lhi sm (decide (k % 2 = 1)) f ∧ (k % 2 = 1 → lo = loN ds ap (k / 2)) ∧
    (k % 2 = 0 → (k = 0 ∧ sm = false ∧ f = 101) ∨ (0 < k ∧ lhi = hiN ds ap (k / 2 - 1) ∧ f = 106))
theorem CurSt.lt {ds : List Int} {ap : Int} {p k : Nat} {w : World} (h : CurSt ds ap p k w) : p < w.heap.size := by
  obtain ⟨_, _, _, _, _, h, _⟩ := h; exact h.lt
theorem CurSt.below {ds : List Int} {ap : Int} {p k : Nat} {w w' : World} (h : CurSt ds ap p k w) (hb : Below w.heap.size w w') : CurSt ds ap p k w' := by
  obtain ⟨a, b, c, d, e, h, r⟩ := h; exact ⟨a, b, c, d, e, h.below hb, r⟩
theorem CurSt.only {ds : List Int} {ap : Int} {p k : Nat} {w w' : World} {may : Nat → Prop} (h : CurSt ds ap p k w) (hb : Only may w w') (hm : ¬ may p) : CurSt ds ap p k w' := by
  obtain ⟨a, b, c, d, e, h, r⟩ := h; exact ⟨a, b, c, d, e, hb.obj hm h, r⟩
theorem CurSt.same {ds : List Int} {ap : Int} {p k : Nat} {w w' : World} (h : CurSt ds ap p k w) (hb : w'.heap[p]? = w.heap[p]?) : CurSt ds ap p k w' := by
  obtain ⟨a, b, c, d, e, h, r⟩ := h; exact ⟨a, b, c, d, e, hb.trans h, r⟩
theorem hiN_range {ds : List Int} {ap : Int} (ha : 0 ≤ ap) (hd : ∀ i, 0 ≤ ds.getD i 0) : ∀ j, 0 ≤ loN ds ap j ∧ 0 ≤ hiN ds ap j := by
  intro j
  induction j with
  | zero =>
    have h0 := hd 0
    have e : loN ds ap 0 = ds.getD 0 0 := rfl
    have := loN_le (ap := ap) hd 0
    omega
  | succ j ih =>
    have h0 := hd (2 * (j + 1))
    have e : loN ds ap (j + 1) = hiN ds ap j + 1 + ap + ds.getD (2 * (j + 1)) 0 := rfl
    have := loN_le (ap := ap) hd (j + 1)
    omega

section
variable {ds : List Int} {ap : Int} {p j : Nat} {w : World}
theorem lo_st (h : CurSt ds ap p (2 * j) w) (ha : Word ap) (hd : ∀ i, Word (ds.getD i 0)) (hok : OkTo ds ap (2 * j)) (hs : loN ds ap j < 18446744073709551616) :
    Calls Tryd.prog 103 #[.pointer (some ⟨p, 0, none⟩), .int .u64 (ds.getD (2 * j) 0)] w fun e w' => e = .returned (.tuple #[.int .u64 (loN ds ap j), .bool true]) ∧ CurSt ds ap p (2 * j + 1) w' ∧ Only (fun b => b = p) w w' := by
  obtain ⟨lo, llo, lhi, sm, f, hC, _, hE⟩ := h
  have e0 : decide (2 * j % 2 = 1) = false := decide_eq_false (by omega)
  have e1 : decide ((2 * j + 1) % 2 = 1) = true := decide_eq_true (by omega)
  rw [e0] at hC
  rcases hE (by omega) with ⟨hj, rfl, rfl⟩ | ⟨hj, rfl, rfl⟩
  · obtain rfl : j = 0 := by omega
    refine (lo_first p _ ap lo llo lhi w hC).mono ?_
    rintro e w' ⟨rfl, hC', hO⟩
    refine ⟨rfl, ⟨ds.getD (2 * 0) 0, llo, lhi, false, 101, ?_, fun _ => ?_, fun h => absurd h (by omega)⟩, hO⟩
    · rw [e1]; exact hC'
    · rfl
  · obtain ⟨i, rfl⟩ : ∃ i, j = i + 1 := ⟨j - 1, by omega⟩
    have ej : 2 * (i + 1) / 2 - 1 = i := by omega
    rw [ej] at hC
    have wh : Word (hiN ds ap i) := ⟨(hiN_range ha.1 (fun i => (hd i).1) i).2, hok.2 i (by omega)⟩
    have es : hiN ds ap i + 1 + ap + ds.getD (2 * (i + 1)) 0 = loN ds ap (i + 1) := rfl
    refine (lo_later p _ ap lo llo _ sm w hC ha wh (hd _) (by rw [es]; exact hs)).mono ?_
    rintro e w' ⟨rfl, hC', hO⟩
    refine ⟨rfl, ⟨hiN ds ap i + 1 + ap + ds.getD (2 * (i + 1)) 0, llo, hiN ds ap i, sm, 106, ?_, fun _ => ?_, fun h => absurd h (by omega)⟩, hO⟩
    · rw [e1]; exact hC'
    · rw [es, show (2 * (i + 1) + 1) / 2 = i + 1 by omega]
theorem lo_st_no (h : CurSt ds ap p (2 * j) w) (ha : Word ap) (hd : ∀ i, Word (ds.getD i 0)) (hok : OkTo ds ap (2 * j)) (hs : ¬ loN ds ap j < 18446744073709551616) :
    Calls Tryd.prog 103 #[.pointer (some ⟨p, 0, none⟩), .int .u64 (ds.getD (2 * j) 0)] w fun e w' => e = .returned (.tuple #[.int .u64 0, .bool false]) ∧ Below w.heap.size w w' := by
  obtain ⟨lo, llo, lhi, sm, f, hC, _, hE⟩ := h
  have e0 : decide (2 * j % 2 = 1) = false := decide_eq_false (by omega)
  rw [e0] at hC
  rcases hE (by omega) with ⟨hj, rfl, rfl⟩ | ⟨hj, rfl, rfl⟩
  · obtain rfl : j = 0 := by omega
    exact absurd (hd 0).2 hs
  · obtain ⟨i, rfl⟩ : ∃ i, j = i + 1 := ⟨j - 1, by omega⟩
    have ej : 2 * (i + 1) / 2 - 1 = i := by omega
    rw [ej] at hC
    have wh : Word (hiN ds ap i) := ⟨(hiN_range ha.1 (fun i => (hd i).1) i).2, hok.2 i (by omega)⟩
    have es : hiN ds ap i + 1 + ap + ds.getD (2 * (i + 1)) 0 = loN ds ap (i + 1) := rfl
    exact lo_later_no p _ ap lo llo _ sm w hC ha wh (hd _) (by rw [es]; exact hs)
theorem hi_st (h : CurSt ds ap p (2 * j + 1) w) (ha : Word ap) (hd : ∀ i, Word (ds.getD i 0)) (hok : OkTo ds ap (2 * j + 1)) (hs : hiN ds ap j < 18446744073709551616) :
    Calls Tryd.prog 105 #[.pointer (some ⟨p, 0, none⟩), .int .u64 (ds.getD (2 * j + 1) 0)] w fun e w' => e = .returned (.tuple #[.agg #[.int .u64 (loN ds ap j), .int .u64 (hiN ds ap j)], .bool true]) ∧ CurSt ds ap p (2 * j + 2) w' ∧ Only (fun b => b = p) w w' := by
  obtain ⟨lo, llo, lhi, sm, f, hC, hE, _⟩ := h
  have e0 : decide ((2 * j + 1) % 2 = 1) = true := decide_eq_true (by omega)
  have e1 : decide ((2 * j + 2) % 2 = 1) = false := decide_eq_false (by omega)
  rw [e0] at hC
  obtain rfl := hE (by omega)
  rw [show (2 * j + 1) / 2 = j by omega] at hC
  have wl : Word (loN ds ap j) := ⟨(hiN_range ha.1 (fun i => (hd i).1) j).1, hok.1 j (by omega)⟩
  have es := hiN_eq ds ap j
  refine (hi_yes p _ ap _ llo lhi sm f w hC wl (hd _) (by rw [← es]; exact hs)).mono ?_
  rintro e w' ⟨rfl, hC', hO⟩
  rw [← es] at hC' ⊢
  refine ⟨rfl, ⟨loN ds ap j, loN ds ap j, hiN ds ap j, true, 106, ?_, fun h => absurd h (by omega), fun _ => .inr ⟨by omega, ?_, rfl⟩⟩, hO⟩
  · rw [e1]; exact hC'
  · rw [show (2 * j + 2) / 2 - 1 = j by omega]
theorem hi_st_no (h : CurSt ds ap p (2 * j + 1) w) (ha : Word ap) (hd : ∀ i, Word (ds.getD i 0)) (hok : OkTo ds ap (2 * j + 1)) (hs : ¬ hiN ds ap j < 18446744073709551616) :
    Calls Tryd.prog 105 #[.pointer (some ⟨p, 0, none⟩), .int .u64 (ds.getD (2 * j + 1) 0)] w fun e w' => e = .returned (.tuple #[.agg #[.int .u64 0, .int .u64 0], .bool false]) ∧ Below w.heap.size w w' := by
  obtain ⟨lo, llo, lhi, sm, f, hC, hE, _⟩ := h
  have e0 : decide ((2 * j + 1) % 2 = 1) = true := decide_eq_true (by omega)
  rw [e0] at hC
  obtain rfl := hE (by omega)
  rw [show (2 * j + 1) / 2 = j by omega] at hC
  have wl : Word (loN ds ap j) := ⟨(hiN_range ha.1 (fun i => (hd i).1) j).1, hok.1 j (by omega)⟩
  have es := hiN_eq ds ap j
  exact hi_no p _ ap _ llo lhi sm f w hC wl (hd _) (by rw [← es]; exact hs)
end

theorem row_only {w w' : World} {base n s : Nat} {t : TypeId} {v : Value} {xs : List Value} {may : Nat → Prop} (h : w.ownsRow base t s v n xs) (hb : Only may w w') (hm : ∀ k, may k → k < base) : w'.ownsRow base t s v n xs := by
  refine ⟨h.1, ?_⟩
  rcases h.2 with hn | ⟨g, cap, cur, hv, hg, hc, rest⟩
  · exact .inl hn
  · exact .inr ⟨g, cap, cur, hv, hg, hb.obj (fun hk => by have := hm g hk; omega) hc, rest⟩
theorem OwnL.only {w w' : World} {base : Nat} {t : TypeId} {v : Value} {zs : List Iv} {may : Nat → Prop} (h : OwnL w base t v zs) (hb : Only may w w') (hm : ∀ k, may k → k < base) : OwnL w' base t v zs := ⟨row_only h.row hb hm, h.words⟩
theorem lrow_base {w : World} {base base' n s : Nat} {t : TypeId} {v : Value} {xs : List Value} (h : w.ownsRow base t s v n xs) (hb : base' ≤ base) : w.ownsRow base' t s v n xs := by
  refine ⟨h.1, ?_⟩
  rcases h.2 with hn | ⟨g, cap, cur, hv, hg, rest⟩
  · exact .inl hn
  · exact .inr ⟨g, cap, cur, hv, by omega, rest⟩
theorem OwnL.lower {w : World} {base base' : Nat} {t : TypeId} {v : Value} {zs : List Iv} (h : OwnL w base t v zs) (hb : base' ≤ base) : OwnL w base' t v zs := ⟨lrow_base h.row hb, h.words⟩
theorem OwnL.nil (w : World) (base : Nat) (t : TypeId) : OwnL w base t (.slice none 0 0) [] := ⟨World.ownsRow_nil _ _ _ _, by simp⟩
theorem ownL_snoc {w w' : World} {base : Nat} {t : TypeId} {v v' : Value} {zs ys : List Iv} {x y : Int} (e : ys = zs ++ [(x, y)]) (h : OwnL w base t v zs) (hr : w'.ownsRow base t 2 v' (zs.length + 1) (cellsL zs ++ [.int .u64 x, .int .u64 y])) (wx : Word x) (wy : Word y) : OwnL w' base t v' ys := by
  subst e
  refine ⟨by rw [← cellsL_snoc]; simpa using hr, fun z hz => ?_⟩
  simp at hz
  rcases hz with hz | rfl
  · exact h.words z hz
  · exact ⟨wx, wy⟩
theorem info_iv : (Tryd.prog.info? 68).map (fun i => (i.zero, i.size, i.bytes)) = some (some (.agg #[.int .u64 0, .int .u64 0]), 2, 16) := by kernel_rfl
theorem ints_get {w : World} {a : Option Addr} {len : Nat} {ds : List Int} (h : Ints .u64 w a len ds) (i : Nat) : Word (ds.getD i 0) := by
  by_cases hi : i < len
  · exact word_of_wf (h.getD_wf hi)
  · have hl := h.length
    rw [show ds.getD i 0 = 0 by simp [List.getD, List.getElem?_eq_none (show ds.length ≤ i by omega)]]
    exact zero_word

end Go.Proofs.YtppeogalaikopaaDoor
namespace Go.Proofs.YtppeogalaikopaaDoor
open Go.RowKit

theorem rsum_yes (a : Option Addr) (len cap : Nat) (zs : List Int) (s : Int) (w : World) (h : Ints .u64 w a len zs) (es : zs.sum = s) (hs : s < 18446744073709551616) :
    Calls Tryd.prog 63 #[.slice a len cap] w fun e w' => e = .returned (.tuple #[.int .u64 s, .bool true]) ∧ Below w.heap.size w w' :=
  (rsum_any a len cap zs w h).mono fun _ _ ⟨he, hb⟩ => ⟨he.trans (ret_ib (by unfold sumV; rw [es, if_pos hs]) (by unfold sumB; rw [es, decide_eq_true hs])), hb⟩
theorem rsum_no (a : Option Addr) (len cap : Nat) (zs : List Int) (w : World) (h : Ints .u64 w a len zs) (hs : ¬ zs.sum < 18446744073709551616) :
    Calls Tryd.prog 63 #[.slice a len cap] w fun e w' => e = .returned (.tuple #[.int .u64 0, .bool false]) ∧ Below w.heap.size w w' :=
  (rsum_any a len cap zs w h).mono fun _ _ ⟨he, hb⟩ => ⟨he.trans (ret_ib (by unfold sumV; rw [if_neg hs]) (by unfold sumB; rw [decide_eq_false hs])), hb⟩
theorem rlo_first (hi ap d : Int) (w : World) :
    Calls Tryd.prog 79 #[.bool true, .int .u64 hi, .int .u64 ap, .int .u64 d] w fun e w' => e = .returned (.tuple #[.int .u64 d, .bool true]) ∧ Below w.heap.size w w' := by
  go_enter Tryd.func79, Tryd.ntmps79
  go_wp2
  go_ret2
  exact ⟨rfl, Below.refl _ _⟩
theorem rlo_later (hi ap d : Int) (w : World) (ha : Word ap) (hh : Word hi) (hd : Word d) :
    Calls Tryd.prog 79 #[.bool false, .int .u64 hi, .int .u64 ap, .int .u64 d] w fun e w' => e = .returned (.tuple #[.int .u64 (sumV [hi, 1, ap, d]), .bool (sumB [hi, 1, ap, d])]) ∧ Below w.heap.size w w' := by
  have HS := hide (fun (W : World) (b : Nat) (hW : W.heap[b]? = some (.cells #[.int .u64 hi, .int .u64 1, .int .u64 ap, .int .u64 d] 51 (0, 0))) => rsum_any (some ⟨b, 0, none⟩) 4 4 [hi, 1, ap, d] W (ints4 hh one_word ha hd hW))
  go_enter Tryd.func79, Tryd.ntmps79
  go_wp2_with fail
  refine (HS.out _ _ (heap_new_at _ _ rfl)).mono ?_
  rintro e w1 ⟨rfl, b1⟩
  go_wp2
  go_ret2
  exact ⟨rfl, bl_trans (bl_alloc (Below.refl _ _) _) b1⟩
theorem rlo_yes (hi ap d : Int) (w : World) (ha : Word ap) (hh : Word hi) (hd : Word d) (hs : hi + 1 + ap + d < 18446744073709551616) :
    Calls Tryd.prog 79 #[.bool false, .int .u64 hi, .int .u64 ap, .int .u64 d] w fun e w' => e = .returned (.tuple #[.int .u64 (hi + 1 + ap + d), .bool true]) ∧ Below w.heap.size w w' :=
  (rlo_later hi ap d w ha hh hd).mono fun _ _ ⟨he, hb⟩ => ⟨he.trans (ret_ib (by rw [sumV_four, if_pos hs]) (by rw [sumB_four, decide_eq_true hs])), hb⟩
theorem rlo_no (hi ap d : Int) (w : World) (ha : Word ap) (hh : Word hi) (hd : Word d) (hs : ¬ hi + 1 + ap + d < 18446744073709551616) :
    Calls Tryd.prog 79 #[.bool false, .int .u64 hi, .int .u64 ap, .int .u64 d] w fun e w' => e = .returned (.tuple #[.int .u64 0, .bool false]) ∧ Below w.heap.size w w' :=
  (rlo_later hi ap d w ha hh hd).mono fun _ _ ⟨he, hb⟩ => ⟨he.trans (ret_ib (by rw [sumV_four, if_neg hs]) (by rw [sumB_four, decide_eq_false hs])), hb⟩

theorem OwnL.keep {w w' : World} {base : Nat} {t : TypeId} {v : Value} {zs : List Iv} (h : OwnL w base t v zs) (hb : Below w.heap.size w w') : OwnL w' base t v zs := h.only (may := fun _ => False) (Only.of_below hb) (fun _ h => h.elim)
/-- A list of the call's own that is not empty: its row, and the last Hi. -/
theorem OwnL.ended {w : World} {base : Nat} {t : TypeId} {v : Value} {zs : List Iv} {n : Nat} (h : OwnL w base t v zs) (hz : zs.length = n) (hn : 0 < n) :
    ∃ g c, v = .slice (some ⟨g, 0, none⟩) n c ∧ g < w.heap.size ∧ w.cell? ⟨g, (n - 1) * 2 + 1, none⟩ = some (.int .u64 (Hi zs (n - 1))) := by
  obtain ⟨a, c, hv, hP, _, _⟩ := h.prs
  rw [hz] at hv
  obtain ⟨g, off, ea, hlt, _, h2⟩ := hP.cells (n - 1) (by omega)
  rcases h.row.2 with ⟨_, hn'⟩ | ⟨g', cap, cur, hv', hg, hc, _⟩
  · rw [hn'] at hz; have : n = 0 := hz.symm; omega
  · rw [hv, ea] at hv'
    simp at hv'
    obtain ⟨⟨rfl, rfl⟩, _⟩ := hv'
    exact ⟨g, c, by rw [hv, ea], hlt, by simpa using h2⟩

/-- What the reference's step returns: the Lo of the next interval. -/
def lastH (ds : List Int) (ap : Int) : Nat → Int
  | 0 => 0
  | j + 1 => hiN ds ap j
theorem rlo_st (ds : List Int) (ap : Int) (j : Nat) (w : World) (ha : Word ap) (hd : ∀ i, Word (ds.getD i 0)) (hok : OkTo ds ap (2 * j)) (hs : loN ds ap j < 18446744073709551616) :
    Calls Tryd.prog 79 #[.bool (decide (j = 0)), .int .u64 (lastH ds ap j), .int .u64 ap, .int .u64 (ds.getD (2 * j) 0)] w fun e w' => e = .returned (.tuple #[.int .u64 (loN ds ap j), .bool true]) ∧ Below w.heap.size w w' := by
  cases j with
  | zero => exact rlo_first _ _ _ w
  | succ i =>
    have wh : Word (hiN ds ap i) := ⟨(hiN_range ha.1 (fun i => (hd i).1) i).2, hok.2 i (by omega)⟩
    exact rlo_yes _ _ _ w ha wh (hd _) hs
theorem rlo_st_no (ds : List Int) (ap : Int) (j : Nat) (w : World) (ha : Word ap) (hd : ∀ i, Word (ds.getD i 0)) (hok : OkTo ds ap (2 * j)) (hs : ¬ loN ds ap j < 18446744073709551616) :
    Calls Tryd.prog 79 #[.bool (decide (j = 0)), .int .u64 (lastH ds ap j), .int .u64 ap, .int .u64 (ds.getD (2 * j) 0)] w fun e w' => e = .returned (.tuple #[.int .u64 0, .bool false]) ∧ Below w.heap.size w w' := by
  cases j with
  | zero => exact absurd (hd 0).2 hs
  | succ i =>
    have wh : Word (hiN ds ap i) := ⟨(hiN_range ha.1 (fun i => (hd i).1) i).2, hok.2 i (by omega)⟩
    exact rlo_no _ _ _ w ha wh (hd _) hs

end Go.Proofs.YtppeogalaikopaaDoor
