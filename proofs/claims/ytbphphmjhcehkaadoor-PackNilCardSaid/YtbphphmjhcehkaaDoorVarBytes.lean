/- The reference's Bytes; slices.Equal over bytes. -/
import Derived.Test.YtbphphmjhcehkaaDoorVarApp
namespace Go.Proofs.YtbphphmjhcehkaaDoor
open Go.RowKit

set_option maxHeartbeats 800000 in
theorem rbytes_any : ∀ (f : Nat) (x : Int) (w : World), Word x → x < 128 ^ f → 0 < f → f ≤ 10 →
    Calls Tryd.prog 43 #[.int .u64 x] w fun e w' => ∃ v', e = .returned v' ∧ OwnB w' w.heap.size v' (vb f x) ∧ Below w.heap.size w w'
  | 0, _, _, _, _, h, _ => absurd h (by omega)
  | f + 1, x, w, hx, hxf, _, hf => by
    obtain ⟨i0, hi, hz0, hz1, hz2⟩ := info_parts info_u8
    obtain ⟨h0, h1⟩ := hx
    by_cases hs : x < 128
    · rw [vb_small f hs]
      clear hxf
      have hr := World.ownsRow_lit (base := w.heap.size) (e := 5) (size := 1) w #[.int .u8 x] 1 (Nat.le_refl _) (by decide) rfl
      go_enter Tryd.func43, Tryd.ntmps43
      go_wp2
      go_ret
      exact ⟨_, rfl, ⟨hr, fun z hz => by simp at hz; omega⟩, bl_alloc (Below.refl _ _) _⟩
    · have hg : 0 < f := by
        rcases Nat.eq_zero_or_pos f with e | e
        · subst e; simp at hxf; omega
        · exact e
      have hp : (128 : Int) ^ (f + 1) = 128 ^ f * 128 := Int.pow_succ ..
      have K := hide (fun W => rbytes_any f (x / 128) W ⟨by omega, by omega⟩ (by omega) hg (by omega))
      have hl1 := vb_len f (x / 128) hg
      have hl2 := vb_most f (x / 128)
      have HB := hide (vb_bytes f (x / 128) (by omega))
      rw [vb_big f (by omega)]
      obtain ⟨l, el⟩ : ∃ l, vb f (x / 128) = l := ⟨_, rfl⟩
      rw [el] at K hl1 hl2 HB ⊢
      clear el hp hxf
      have q : x % 128 + 128 < 256 := by omega
      have hr := hide (World.ownsRow_lit (base := w.heap.size) (e := 5) (size := 1) w #[.int .u8 (x % 128 + 128)] 1 (Nat.le_refl _) (by decide) rfl)
      go_enter Tryd.func43, Tryd.ntmps43
      go_wp2_with fail
      refine (K.out _).mono ?_
      rintro e w1 ⟨v1, rfl, hO, b1⟩
      obtain ⟨g, cap, rfl, hbg, hgl⟩ := hO.row.form hl1
      have HN := hide (hO.row.cells (g := g) rfl)
      have HR := hide (irow_below hr.out b1)
      have hb1 := bl_trans (bl_alloc (Below.refl w.heap.size w) (.cells #[.int .u8 (x % 128 + 128)] 5)) b1
      have HB1 := hide hb1
      have hs1 := hb1.size
      clear hO b1 hb1 hr
      go_wp2_with (at_builtin; refine wpList_append_own_at _ rfl _ _ 22 rfl w.heap.size 5 i0 (.int .u8 0) 1 1 Tryd.underlying22 hi hz0 hz1 hz2 rfl (by decide) _ _ _ rfl HR.out ⟨g, 0, none⟩ l.length cap (l.map (Value.int .u8)) rfl ?z0 HN.out ?z2 ?z3 ?z4 ?z5 ?_)
      case z0 => simp
      case z2 => intro u hu; simp at hu; obtain ⟨_, _, rfl⟩ := hu; rfl
      case z3 => unfold maxLen; omega
      case z4 => omega
      case z5 => omega
      intro v' w3 hown hgrow _ _
      have HW := hide hown
      have HG := hide hgrow
      clear hown hgrow
      go_wp2
      go_ret
      exact ⟨_, rfl, ⟨by simpa [Nat.add_comm] using HW.out, fun z hz => by
          simp at hz
          rcases hz with rfl | hz
          · omega
          · exact HB.out z hz⟩, HB1.out.grown HG.out hs1 (fun q hq => (HR.out.lt q hq).1)⟩

/-- Two lists of numbers are the same. -/
def eqI (xs ys : List Int) : Bool := decide (xs = ys)
theorem getD_ext {xs ys : List Int} (hl : xs.length = ys.length) (h : ∀ i, i < xs.length → xs.getD i 0 = ys.getD i 0) : xs = ys := by
  refine List.ext_getElem hl fun i h1 h2 => ?_
  have := h i h1
  simpa [List.getD, List.getElem?_eq_getElem h1, List.getElem?_eq_getElem h2] using this
set_option maxHeartbeats 800000 in
theorem equal_any (a a' : Option Addr) (len cap len' cap' : Nat) (xs ys : List Int) (w : World) (h : Ints .u8 w a len xs) (h' : Ints .u8 w a' len' ys) :
    Calls Tryd.prog 14 #[.slice a len cap, .slice a' len' cap'] w fun e w' => e = .returned (.bool (eqI xs ys)) ∧ Below w.heap.size w w' := by
  have H := hide h
  have H' := hide h'
  have hl := hide h.length
  have hl' := hide h'.length
  have hm := h.most
  have hm' := h'.most
  clear h h'
  by_cases hn : len = len'
  · subst hn
    go_enter Tryd.func14, Tryd.ntmps14
    go_wp2
    go_loopw [13] (fun c wr => ∃ k : Nat, k ≤ len ∧ c = .int .i64 k ∧ (∀ i, i < k → xs.getD i 0 = ys.getD i 0) ∧ Below w.heap.size w wr)
      (fun c _ => len - (intOf c).toNat)
    case atStart => exact ⟨0, Nat.zero_le _, rfl, (fun i h => absurd h (by omega)), Below.refl _ _⟩
    case round =>
      obtain ⟨k, hk, rfl, hs, hb⟩ := hrel
      have HS := hide hs
      clear hs
      by_cases hlt : k < len
      · obtain ⟨b, off, rfl, hbl, hcell⟩ := (H.out.below hb).cells k hlt
        obtain ⟨b', off', rfl, hbl', hcell'⟩ := (H'.out.below hb).cells k hlt
        have i0 : (0 : Int) ≤ (k : Int) := by omega
        have i1 : (k : Int) < (len : Int) := by omega
        obtain ⟨x, ex⟩ : ∃ x, x = xs.getD k 0 := ⟨_, rfl⟩
        obtain ⟨y, ey⟩ : ∃ y, y = ys.getD k 0 := ⟨_, rfl⟩
        rw [← ex] at hcell
        rw [← ey] at hcell'
        have EX := hide ex; have EY := hide ey
        clear ex ey
        by_cases hxy : x = y
        · subst hxy
          have d1 : ((x : Int) != x) = false := by simp
          go_wp2
          go_quiet (fail)
          go_wp2
          go_roundw
          case rel => exact ⟨k + 1, by omega, by go_num, (fun i hi => by
            by_cases e : i = k
            · subst e; rw [← EX.out, ← EY.out]
            · exact HS.out i (by omega)), bl_drewN hb _⟩
          case measure => simp [intOf]; omega
        · have d1 : ((x : Int) != y) = true := by simp [hxy]
          have BAD := hide (show eqI xs ys = false from decide_eq_false (fun e => hxy (by rw [EX.out, EY.out, e])))
          clear hxy
          go_wp2
          go_quiet (fail)
          go_wp2
          go_ret
          exact ⟨ret_bool BAD.out.symm, bl_drewN hb _⟩
      · obtain rfl : k = len := by omega
        have GOOD := hide (show eqI xs ys = true from decide_eq_true (getD_ext (hl.out.trans hl'.out.symm) (fun i hi => HS.out i (by rw [hl.out] at hi; exact hi))))
        go_wp2
        go_ret
        exact ⟨ret_bool GOOD.out.symm, hb⟩
  · have d1 : ((len : Int) != (len' : Int)) = true := by simp; omega
    have BAD := hide (show eqI xs ys = false from decide_eq_false (fun e => hn (by rw [← hl.out, ← hl'.out, e])))
    go_enter Tryd.func14, Tryd.ntmps14
    go_wp2
    go_ret
    exact ⟨ret_bool BAD.out.symm, Below.refl _ _⟩
end Go.Proofs.YtbphphmjhcehkaaDoor
