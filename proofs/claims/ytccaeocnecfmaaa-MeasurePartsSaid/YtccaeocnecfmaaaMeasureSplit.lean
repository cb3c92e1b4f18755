/- The contract of measure.Split over a correct list. -/
import Derived.Test.YtccaeocnecfmaaaClone
import Derived.Test.YtccaeocnecfmaaaMeasureFind
import Derived.Test.YtccaeocnecfmaaaSplitPlain
import Derived.ArgAppend
import Derived.Deep.RegionWith
namespace Go.Proofs.Ytccaeocnecfmaaa
open Go.RowKit

/-- A list from the interval k on. -/
theorem Prs.drop {w : World} {b off len : Nat} {zs : List Iv} (h : Prs w (some ⟨b, off, none⟩) len zs) (k : Nat) (hk : k ≤ len) : Prs w (some ⟨b, off + k * 2, none⟩) (len - k) (zs.drop k) := by
  have hl := h.length
  refine ⟨by simp [hl], by have := h.most; omega, fun z hz => h.words z (List.mem_of_mem_drop hz), fun i hi => ?_⟩
  obtain ⟨b', off', e, hb, h1, h2⟩ := h.cells (k + i) (by omega)
  simp only [Option.some.injEq, Addr.mk.injEq] at e
  obtain ⟨rfl, rfl, _⟩ := e
  have eg : (zs.drop k).getD i (0, 0) = zs.getD (k + i) (0, 0) := by simp [List.getD, List.getElem?_drop]
  refine ⟨b, _, rfl, hb, ?_, ?_⟩
  · unfold Lo; rw [eg, show off + k * 2 + i * 2 = off + (k + i) * 2 by omega]; exact h1
  · unfold Hi; rw [eg, show off + k * 2 + i * 2 + 1 = off + (k + i) * 2 + 1 by omega]; exact h2
/-- The first k intervals. -/
theorem Prs.take {w : World} {a : Option Addr} {len : Nat} {zs : List Iv} (h : Prs w a len zs) (k : Nat) (hk : k ≤ len) : Prs w a k (zs.take k) := by
  have hl := h.length
  refine ⟨by simp [hl]; omega, by have := h.most; omega, fun z hz => h.words z (List.mem_of_mem_take hz), fun i hi => ?_⟩
  have eg : (zs.take k).getD i (0, 0) = zs.getD i (0, 0) := by simp [List.getD, hi]
  obtain ⟨b, off, e, hb, h1, h2⟩ := h.cells i (by omega)
  refine ⟨b, off, e, hb, ?_, ?_⟩
  · unfold Lo; rw [eg]; exact h1
  · unfold Hi; rw [eg]; exact h2

theorem row_below {w w' : World} {base n : Nat} {t : TypeId} {v : Value} {xs : List Value} (h : w.ownsRow base t 2 v n xs) (hb : Below w.heap.size w w') : w'.ownsRow base t 2 v n xs := by
  refine ⟨h.1, ?_⟩
  rcases h.2 with hn | ⟨g, cap, cur, hv, hg, hc, rest⟩
  · exact .inl hn
  · exact .inr ⟨g, cap, cur, hv, hg, (hb.block g (Array.getElem?_eq_some_iff.1 hc).1).trans hc, rest⟩
theorem OwnL.below {w w' : World} {base : Nat} {t : TypeId} {v : Value} {zs : List Iv} (h : OwnL w base t v zs) (hb : Below w.heap.size w w') : OwnL w' base t v zs := ⟨row_below h.row hb, h.words⟩

theorem row_first {w : World} {base : Nat} {t : TypeId} {g n cap : Nat} {x0 u : Value} {xs : List Value} (h : w.ownsRow base t 2 (.slice (some ⟨g, 0, none⟩) n cap) n (x0 :: xs)) : (w.setCell ⟨g, 0, none⟩ u).ownsRow base t 2 (.slice (some ⟨g, 0, none⟩) n cap) n (u :: xs) := by
  refine ⟨by have := h.1; simpa using this, ?_⟩
  rcases h.2 with ⟨hn, _⟩ | ⟨g', cap', cur, hv, hg, hc, h1, h2, h3, h4⟩
  · cases hn
  · obtain ⟨rfl, rfl⟩ : g = g' ∧ cap = cap' := by simpa using hv
    refine .inr ⟨g, cap, cur.setIfInBounds 0 u, rfl, hg, heap_setCell_same _ _ 0 _ _ _ hc, h1, h2, by simpa using h3, ?_⟩
    rw [Array.toList_setIfInBounds, List.take_set, h4]
    rfl

theorem row_base {w : World} {base base' n : Nat} {t : TypeId} {v : Value} {xs : List Value} (h : w.ownsRow base t 2 v n xs) (hb : base' ≤ base) : w.ownsRow base' t 2 v n xs := by
  refine ⟨h.1, ?_⟩
  rcases h.2 with hn | ⟨g, cap, cur, hv, hg, rest⟩
  · exact .inl hn
  · exact .inr ⟨g, cap, cur, hv, by omega, rest⟩
theorem OwnL.base {w : World} {base base' : Nat} {t : TypeId} {v : Value} {zs : List Iv} (h : OwnL w base t v zs) (hb : base' ≤ base) : OwnL w base' t v zs := ⟨row_base h.row hb, h.words⟩
/-- A list of the call's own that is not empty. -/
theorem OwnL.shape {w : World} {base : Nat} {t : TypeId} {v : Value} {zs : List Iv} (h : OwnL w base t v zs) (hz : 0 < zs.length) :
    ∃ g c, v = .slice (some ⟨g, 0, none⟩) zs.length c ∧ base ≤ g ∧ g < w.heap.size ∧ (∀ j, w.frozen? ⟨g, j, none⟩ = false) := by
  rcases h.row.2 with ⟨_, hn⟩ | ⟨g, cap, cur, rfl, hg, hc, _⟩
  · rw [hn] at hz; simp at hz
  · exact ⟨g, cap, rfl, hg, Blk_lt hc, fun j => by simp [World.frozen?, hc]⟩
theorem clone_some (a : Option Addr) (len cap : Nat) (zs : List Iv) (w : World) (h : Prs w a len zs) (hn : a = none → cap = 0) (hs : len ≤ 1000) (h0 : 0 < len) :
    Calls Try.prog 33 #[.slice a len cap] w fun e w' => ∃ g c, e = .returned (.slice (some ⟨g, 0, none⟩) len c) ∧ OwnL w' w.heap.size 39 (.slice (some ⟨g, 0, none⟩) len c) zs ∧ Below w.heap.size w w' := by
  refine (clone_any a len cap zs w h hn hs).mono ?_
  rintro e w' ⟨v, rfl, hO, hb⟩
  have hl := h.length
  obtain ⟨g, c, hv, _⟩ := hO.shape (by omega)
  rw [hl] at hv
  subst hv
  exact ⟨g, c, rfl, hO, hb⟩
/-- What Split leaves: two lists of its own, in two rows. -/
def Two (w w' : World) (va vb : Value) (xs ys : List Iv) : Prop :=
  OwnL w' w.heap.size 39 va xs ∧ OwnL w' w.heap.size 39 vb ys ∧ (∀ g, va.ownBlock = some g → vb.ownBlock ≠ some g) ∧ Below w.heap.size w w'
/-- The second list was made behind the first. -/
theorem two_of {w w1 w2 w3 : World} {va vb : Value} {xs ys : List Iv} (h1 : Below w.heap.size w w1) (hB : OwnL w2 w1.heap.size 39 vb ys) (h2 : Below w1.heap.size w1 w2) (hA : OwnL w3 w2.heap.size 39 va xs) (h3 : Below w2.heap.size w2 w3) : Two w w3 va vb xs ys :=
  ⟨hA.base (Nat.le_trans h1.size h2.size), (hB.below h3).base h1.size, fun g hg hk => by
    have := (hA.row.lt g hg).1
    have := (hB.row.lt g hk).2
    omega, bl_trans (bl_trans h1 h2) h3⟩

set_option maxHeartbeats 1600000 in
theorem split_end (b off len cap : Nat) (zs : List Iv) (rk : Int) (w : World) (h : Prs w (some ⟨b, off, none⟩) len zs) (hc : CorTo zs len) (hx : Word rk) (hm : At zs rk len len) (hs : len ≤ 60) (hcap : len ≤ cap) (hcap2 : cap ≤ 9223372036854775807) :
    Calls Try.prog 21 #[.slice (some ⟨b, off, none⟩) len cap, .int .u64 rk] w fun e w' => ∃ va vb, e = .returned (.tuple #[va, vb]) ∧ Two w w' va vb zs [] := by
  have hzl := h.length
  have hpl := h.drop len (Nat.le_refl _)
  rw [show zs.drop len = [] by rw [← hzl]; simp, Nat.sub_self] at hpl
  have HF := hide (find_any (some ⟨b, off, none⟩) len cap zs rk len w h hc hx hm)
  have H := hide h
  have HD := hide (fun W (hW : Below w.heap.size w W) o c => clone_any (some ⟨b, o, none⟩) 0 c [] W ⟨rfl, by omega, by simp, fun i hi => absurd hi (by omega)⟩ (fun e => by cases e) (by omega))
  have HA := hide (fun W (hW : Below w.heap.size w W) => clone_any (some ⟨b, off, none⟩) len len zs W (H.out.below hW) (fun e => by cases e) (by omega))
  have i0 : (0 : Int) ≤ (len : Int) := by omega
  have i2 : (len : Int) ≤ (cap : Int) := by omega
  have hmx : Try.prog.follows .mixedOrders = true := by kernel_rfl
  obtain ⟨x, ex⟩ : ∃ x, x = fVal zs rk len len := ⟨_, rfl⟩
  rw [← ex] at HF
  clear h hc hx hm hpl ex hzl
  by_cases hmc : len = cap
  · subst hmc
    go_enter Try.func21, Try.ntmps21
    go_wp2_with fail
    refine HF.out.mono ?_
    rintro e w1 ⟨rfl, b1⟩
    go_wp2_with fail
    have b2 := hide (bl_drew b1)
    go_region_with (go_at_call 33; refine (HD.out _ b2.out _ _).mono ?_; rintro e w2 ⟨vb, rfl, hO, hb2⟩)
    go_wp2_with fail
    refine (HA.out _ (bl_trans b2.out hb2)).mono ?_
    rintro e w3 ⟨va, rfl, hO3, hb3⟩
    go_wp2
    go_ret2
    exact ⟨va, vb, rfl, two_of b2.out hO hb2 hO3 hb3⟩
  · have hmc' : ¬ cap = len := fun e => hmc e.symm
    go_enter Try.func21, Try.ntmps21
    go_wp2_with fail
    refine HF.out.mono ?_
    rintro e w1 ⟨rfl, b1⟩
    go_wp2_with fail
    have b2 := hide (bl_drew b1)
    go_region_with (go_at_call 33; refine (HD.out _ b2.out _ _).mono ?_; rintro e w2 ⟨vb, rfl, hO, hb2⟩)
    go_wp2_with fail
    refine (HA.out _ (bl_trans b2.out hb2)).mono ?_
    rintro e w3 ⟨va, rfl, hO3, hb3⟩
    go_wp2
    go_ret2
    exact ⟨va, vb, rfl, two_of b2.out hO hb2 hO3 hb3⟩

set_option maxHeartbeats 1600000 in
theorem split_in (b off len cap : Nat) (zs : List Iv) (rk : Int) (m : Nat) (w : World) (h : Prs w (some ⟨b, off, none⟩) len zs) (hc : CorTo zs len) (hx : Word rk) (hm : At zs rk len m) (hl : m < len) (hs : len ≤ 60) (hcap : len ≤ cap) (hcap2 : cap ≤ 9223372036854775807) :
    Calls Try.prog 21 #[.slice (some ⟨b, off, none⟩) len cap, .int .u64 rk] w fun e w' => ∃ va vb, e = .returned (.tuple #[va, vb]) ∧ Two w w' va vb (loS zs (fVal zs rk len m) m) (hiS zs (fVal zs rk len m) m) := by
  obtain ⟨i0', hi0, hz0, hz1, hz2⟩ := info_parts info_iv
  have hzl := h.length
  have HF := hide (find_any (some ⟨b, off, none⟩) len cap zs rk m w h hc hx hm)
  have H := hide h
  obtain ⟨b', off', ea, hbl, hc1, hc2⟩ := h.cells m hl
  obtain ⟨rfl, rfl⟩ : b = b' ∧ off = off' := by simpa using ea
  have HD := hide (fun W (hW : Below w.heap.size w W) => clone_some (some ⟨b, off + m * 2, none⟩) (len - m) (cap - m) (zs.drop m) W ((H.out.below hW).drop m (by omega)) (fun e => by cases e) (by omega) (by omega))
  have HA := hide (fun W (hW : Below w.heap.size w W) => clone_any (some ⟨b, off, none⟩) m m (zs.take m) W ((H.out.below hW).take m (by omega)) (fun e => by cases e) (by omega))
  have i0 : (0 : Int) ≤ (m : Int) := by omega
  have i1 : (m : Int) < (len : Int) := by omega
  have i2 : (m : Int) ≤ (cap : Int) := by omega
  have i3 : ¬ (m : Int) = (cap : Int) := by omega
  have hmc : ¬ cap = m := by omega
  have hmc2 : ¬ m = cap := by omega
  have hmx : Try.prog.follows .mixedOrders = true := by kernel_rfl
  obtain ⟨hv1, hv2⟩ := fval_between hc hx.1 hm hl
  have hwm := (h.word hl)
  have eD := drop_iv (show m < zs.length by omega)
  have eL : loS zs (fVal zs rk len m) m = if Lo zs m < fVal zs rk len m then zs.take m ++ [(Lo zs m, fVal zs rk len m - 1)] else zs.take m := by
    unfold loS; by_cases e : Lo zs m < fVal zs rk len m
    · rw [if_pos e, if_pos ⟨by omega, e⟩]
    · rw [if_neg e, if_neg (fun h => e h.2)]
  have eH : hiS zs (fVal zs rk len m) m = if Lo zs m < fVal zs rk len m then (fVal zs rk len m, Hi zs m) :: zs.drop (m + 1) else zs.drop m := by
    unfold hiS; by_cases e : Lo zs m < fVal zs rk len m
    · rw [if_pos e, if_pos ⟨by omega, e⟩]
    · rw [if_neg e, if_neg (fun h => e h.2)]
  have hwt : ∀ z ∈ zs.drop (m + 1), Word z.1 ∧ Word z.2 := fun z hz => h.words z (List.mem_of_mem_drop hz)
  have hwk : ∀ z ∈ zs.take m, Word z.1 ∧ Word z.2 := fun z hz => h.words z (List.mem_of_mem_take hz)
  have htl : (zs.take m).length = m := by simp; omega
  have hnews := fun W (hW : Below w.heap.size w W) => ((H.out.below hW).take m (by omega)).news
  obtain ⟨x, ex⟩ : ∃ x, x = fVal zs rk len m := ⟨_, rfl⟩
  obtain ⟨lo, elo⟩ : ∃ lo, lo = Lo zs m := ⟨_, rfl⟩
  obtain ⟨hi, ehi⟩ : ∃ hi, hi = Hi zs m := ⟨_, rfl⟩
  rw [← ex] at HF hv1 hv2 eL eH ⊢
  rw [← elo] at hc1 hv1 eD eL eH hwm
  rw [← ehi] at hc2 hv2 eD eH hwm
  rw [eL, eH]
  have HN := hide hnews; have HT := hide htl; have HK := hide hwk; have HW := hide hwt; have HM := hide hwm; have HZ := hide hzl; have ED := hide eD
  clear h hc hx hm ex elo ehi ea eL eH hc2 hnews htl hwk hwt hwm hzl eD
  by_cases hlx : lo < x
  · rw [if_pos hlx, if_pos hlx]
    have hv3 := hide hv2
    have wv : Word x := by have := HM.out; unfold Word at *; omega
    have d1 : IntKind.u64.wrap (x - 1) = x - 1 := wrap_word (by have := HM.out; unfold Word at *; omega)
    have WV := hide wv
    clear wv hv1 hv2
    go_enter Try.func21, Try.ntmps21
    go_wp2_with fail
    refine HF.out.mono ?_
    rintro e w1 ⟨rfl, b1⟩
    go_wp2_with fail
    have b2 := hide (bl_drew b1)
    go_region_with (go_at_call 33; refine (HD.out _ b2.out).mono ?_; rintro e w2 ⟨g, gc, rfl, hO, hb2⟩)
    have b3 := bl_trans b2.out hb2
    have hO2 := hO
    rw [ED.out] at hO2
    have k0 : w2.cell? ⟨b, off + m * 2, none⟩ = some (.int .u64 lo) := keep_cell b3 hbl hc1
    have hG : w1.drew.heap.size ≤ g ∧ g < w2.heap.size ∧ (∀ j, w2.frozen? ⟨g, j, none⟩ = false) := by
      obtain ⟨g', c', eg, hg1, hg2, hfz⟩ := hO2.shape (by simp)
      simp at eg
      obtain ⟨rfl, _⟩ := eg
      exact ⟨hg1, hg2, hfz⟩
    obtain ⟨hg1, hg2, hfz⟩ := hG
    have en : ((lo, hi) :: zs.drop (m + 1)).length = len - m := by simp [HZ.out]; omega
    have hR := hO2.row
    rw [en] at hR
    have cg' : w2.cell? ⟨g, 0, none⟩ = some (.int .u64 lo) := by
      obtain ⟨a', c2, ea, hP, _, _⟩ := hO2.prs
      simp at ea
      obtain ⟨rfl, _⟩ := ea
      obtain ⟨b', off', eb, _, cg, _⟩ := hP.cells 0 (by simp)
      simp at eb
      obtain ⟨rfl, rfl⟩ := eb
      exact cg
    have fg := hfz 0
    have i5 : (0 : Int) < ((len - m : Nat) : Int) := by omega
    have i6 : 0 < len - m := by omega
    have s1 := b1.size
    have hg3 : w.heap.size ≤ g := Nat.le_trans b2.out.size hg1
    have hne : ¬ b = g := by omega
    have hne2 : ¬ g = b := by omega
    have hb3 := hide (bl_set b3 (p := ⟨g, 0, none⟩) hg3 (.int .u64 x))
    have HR := hide (row_first (u := .int .u64 x) (show w2.ownsRow w1.drew.heap.size 39 2 (.slice (some ⟨g, 0, none⟩) (len - m) gc) (len - m) (.int .u64 lo :: .int .u64 hi :: cellsL (zs.drop (m + 1))) from hR))
    have EN := hide en
    clear hO hO2 hfz hR hb2 b1 b3 en
    go_wp2_with (at_builtin; refine wpList_append_grows _ rfl _ _ 23 rfl 39 i0' (.agg #[.int .u64 0, .int .u64 0]) 2 16 Try.underlying23 hi0 hz0 hz1 hz2 rfl (by decide) (some ⟨b, off, none⟩) m m (cellsL (zs.take m)) rfl ?a1 ?a2 ?a3 ⟨w2.heap.size, 0, none⟩ 1 1 [.int .u64 lo, .int .u64 (x - 1)] rfl rfl ?a4 ?a5 ?a6 ?a7 ?a8 ?_)
    case a1 => intro h; cases h
    case a2 => rw [cellsL_length, HT.out]
    case a3 =>
      intro b1 e j u hj
      obtain rfl : (⟨b, off, none⟩ : Addr) = b1 := by simpa using e
      exact HN.out _ (bl_alloc hb3.out _) j u hj
    case a4 => simpa using cell_two_new (w2.setCell ⟨g, 0, none⟩ (.int .u64 x)) (.int .u64 lo) (.int .u64 (x - 1)) 39
    case a5 => exact two_one _ _
    case a6 => omega
    case a7 => unfold maxLen; omega
    case a8 => omega
    intro v' w4 hown hgrow
    have hw2 := b2.out.size
    have hb4 := (bl_alloc hb3.out _).grown hgrow (by simp; omega) (fun g hg => by cases hg)
    have hB4 := (HR.out.alloc _).kept hgrow (.inr (by simp [Value.ownBlock]))
    have hVA : OwnL w4 w.heap.size 39 v' (zs.take m ++ [(lo, x - 1)]) :=
      ⟨row_base (row_snoc (zs := zs.take m) (by rw [HT.out]; exact hown)) (by omega), fun z hz => by
        simp at hz
        rcases hz with hz | rfl
        · exact HK.out z hz
        · have := HM.out; have := WV.out; unfold Word at *; exact ⟨by omega, by simp; omega⟩⟩
    have hVB : OwnL w4 w.heap.size 39 (.slice (some ⟨g, 0, none⟩) (len - m) gc) ((x, hi) :: zs.drop (m + 1)) := by
      have en2 : ((x, hi) :: zs.drop (m + 1)).length = len - m := EN.out
      refine ⟨?_, fun z hz => ?_⟩
      · rw [en2]; exact row_base hB4 hw2
      · simp at hz
        rcases hz with rfl | hz
        · exact ⟨WV.out, HM.out.2⟩
        · exact HW.out z (by simpa using hz)
    have hap : ∀ k, v'.ownBlock = some k → (Value.slice (some ⟨g, 0, none⟩) (len - m) gc).ownBlock ≠ some k := by
      intro k hk hk2
      have h1 := (hown.lt k hk).1
      have h2 : g = k := by simpa [Value.ownBlock] using hk2
      omega
    have FIN := hide (show Two w w4 v' _ _ _ from ⟨hVA, hVB, hap, hb4⟩)
    clear hVA hVB hap hb4 hB4 hown hgrow EN HN HT HK HW HM HZ HR
    go_wp2
    go_ret2
    exact ⟨_, _, rfl, FIN.out⟩
  · rw [if_neg hlx, if_neg hlx]
    have exl : x = lo := by omega
    have hlx2 : ¬ x > lo := by omega
    go_enter Try.func21, Try.ntmps21
    clear exl hlx2 hv1 hv2
    go_wp2_with fail
    refine HF.out.mono ?_
    rintro e w1 ⟨rfl, b1⟩
    go_wp2_with fail
    have b2 := hide (bl_drew b1)
    go_region_with (go_at_call 33; refine (HD.out _ b2.out).mono ?_; rintro e w2 ⟨g, gc, rfl, hO, hb2⟩)
    have k0 : w2.cell? ⟨b, off + m * 2, none⟩ = some (.int .u64 lo) := keep_cell (bl_trans b2.out hb2) hbl hc1
    go_wp2_with fail
    refine (HA.out _ (bl_trans b2.out hb2)).mono ?_
    rintro e w3 ⟨va, rfl, hO3, hb3⟩
    go_wp2
    go_ret2
    exact ⟨va, _, rfl, two_of b2.out hO hb2 hO3 hb3⟩
end Go.Proofs.Ytccaeocnecfmaaa
