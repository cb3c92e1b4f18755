/- Lists of words that the call itself made: a row of its own; delta's join; slices.Equal. -/
import Derived.Test.YtpoodkihngnhpaaCursor
import Derived.Deep.AppendLies
import Derived.ArgAppend
import Derived.Maps.AppendAt
import Derived.BigQuiet
import Derived.Deep.QuietTactic
namespace Go.Proofs.Ytpoodkihngnhpaa
open Go.RowKit

/-- A list of words in a row of the call's own, not in front of base. -/
structure OwnI (w : World) (base : Nat) (v : Value) (zs : List Int) : Prop where
  row : w.ownsRow base 24 1 v zs.length (zs.map (Value.int .u64))
  words : ∀ z ∈ zs, Word z
theorem wf_of_word {x : Int} (h : Word x) : (Lit.int .u64 x).wf = true := by
  unfold Word at h
  simp [Lit.wf, IntKind.min, IntKind.max, IntKind.signed, IntKind.bits]; omega
theorem OwnI.nil (w : World) (base : Nat) : OwnI w base (.slice none 0 0) [] := ⟨World.ownsRow_nil _ _ _ _, by simp⟩
theorem OwnI.ints {w : World} {base : Nat} {v : Value} {zs : List Int} (h : OwnI w base v zs) (hm : zs.length ≤ 9223372036854775807) : ∃ a cap, v = .slice a zs.length cap ∧ Ints .u64 w a zs.length zs ∧ zs.length ≤ cap := by
  obtain ⟨a, cap, hv, h1, _, h3⟩ := ints_of_own h.row hm (fun z hz => wf_of_word (h.words z hz))
  exact ⟨a, cap, hv, h3, h1⟩
theorem irow_below {w w' : World} {base n : Nat} {t : TypeId} {v : Value} {xs : List Value} (h : w.ownsRow base t 1 v n xs) (hb : Below w.heap.size w w') : w'.ownsRow base t 1 v n xs := by
  refine ⟨h.1, ?_⟩
  rcases h.2 with hn | ⟨g, cap, cur, hv, hg, hc, rest⟩
  · exact .inl hn
  · exact .inr ⟨g, cap, cur, hv, hg, (hb.block g (Array.getElem?_eq_some_iff.1 hc).1).trans hc, rest⟩
theorem OwnI.below {w w' : World} {base : Nat} {v : Value} {zs : List Int} (h : OwnI w base v zs) (hb : Below w.heap.size w w') : OwnI w' base v zs := ⟨irow_below h.row hb, h.words⟩

theorem info_u64 : (Try.prog.info? 24).map (fun i => (i.zero, i.size, i.bytes)) = some (some (.int .u64 0), 1, 8) := by kernel_rfl
theorem two_new (w : World) {b : Nat} {x y : Value} {t : TypeId} (h : w.heap[b]? = some (.cells #[x, y] t (0, 0))) : ∀ j u, [x, y][j]? = some u → w.cell? ((⟨b, 0, none⟩ : Addr).add j) = some u := by
  intro j u hj
  have ea : ∀ j, (⟨b, 0, none⟩ : Addr).add j = ⟨b, 0 + j, none⟩ := by
    intro j
    unfold Addr.add; split <;> simp_all
  rw [ea]
  match j, hj with
  | 0, hj => simp at hj; subst hj; simp [World.cell?, h]
  | 1, hj => simp at hj; subst hj; simp [World.cell?, h]

theorem join_any (w0 : World) (v : Value) (zs : List Int) (b : Nat) (x y : Int) (w : World) (h : OwnI w w0.heap.size v zs) (h0 : Below w0.heap.size w0 w) (hx : w.heap[b]? = some (.cells #[.int .u64 x, .int .u64 y] 24 (0, 0))) (wx : Word x) (wy : Word y) (hn : zs.length ≤ 1000000) :
    Calls Try.prog 25 #[v, .slice (some ⟨b, 0, none⟩) 2 2] w fun e w' => ∃ v', e = .returned v' ∧ OwnI w' w0.heap.size v' (zs ++ [x, y]) ∧ Below w0.heap.size w0 w' ∧ w.heap.size ≤ w'.heap.size ∧ w.grownBy w' v.ownBlock := by
  obtain ⟨i0, hi, hz0, hz1, hz2⟩ := info_parts info_u64
  have H := hide h
  have HX := hide hx
  have H0 := hide h0
  have hs := h0.size
  clear h hx h0
  go_enter Try.func25, Try.ntmps25
  go_wp2_with (at_builtin; refine wpList_append_own_at _ rfl _ _ 26 rfl w0.heap.size 24 i0 (.int .u64 0) 1 8 Try.underlying26 hi hz0 hz1 hz2 rfl (by decide) _ _ _ rfl H.out.row ⟨b, 0, none⟩ 2 2 [.int .u64 x, .int .u64 y] rfl rfl ?c1 ?c2 ?c3 ?c4 ?c5 ?_)
  case c1 => exact two_new _ HX.out
  case c2 => intro u hu; simp at hu; rcases hu with rfl | rfl <;> rfl
  case c3 => unfold maxLen; omega
  case c4 => omega
  case c5 => exact hs
  intro v' w1 hown hgrow _ _
  have hb1 := H0.out.grown hgrow hs (fun g hg => (H.out.row.lt g hg).1)
  have hO : OwnI w1 w0.heap.size v' (zs ++ [x, y]) := ⟨by simpa using hown, fun z hz => by
    simp at hz
    rcases hz with hz | rfl | rfl
    · exact H.out.words z hz
    · exact wx
    · exact wy⟩
  have HO := hide hO
  have hg := hgrow.size
  have HG := hide hgrow
  clear hown hgrow hO
  go_wp2
  go_ret
  exact ⟨_, rfl, HO.out, hb1, hg, HG.out⟩

/-- Two lists of words are the same. -/
def eqI (xs ys : List Int) : Bool := decide (xs = ys)
theorem getD_ext {xs ys : List Int} (hl : xs.length = ys.length) (h : ∀ i, i < xs.length → xs.getD i 0 = ys.getD i 0) : xs = ys := by
  refine List.ext_getElem hl fun i h1 h2 => ?_
  have := h i h1
  simpa [List.getD, List.getElem?_eq_getElem h1, List.getElem?_eq_getElem h2] using this
set_option maxHeartbeats 800000 in
theorem equal_any (a a' : Option Addr) (len cap len' cap' : Nat) (xs ys : List Int) (w : World) (h : Ints .u64 w a len xs) (h' : Ints .u64 w a' len' ys) :
    Calls Try.prog 13 #[.slice a len cap, .slice a' len' cap'] w fun e w' => e = .returned (.bool (eqI xs ys)) ∧ Below w.heap.size w w' := by
  have H := hide h
  have H' := hide h'
  have hl := hide h.length
  have hl' := hide h'.length
  have hm := h.most
  have hm' := h'.most
  clear h h'
  by_cases hn : len = len'
  · subst hn
    go_enter Try.func13, Try.ntmps13
    go_wp2
    go_loopw [13] (fun c wr => ∃ k : Nat, k ≤ len ∧ c = .int .i64 k ∧ (∀ i, i < k → xs.getD i 0 = ys.getD i 0) ∧ Below w.heap.size w wr)
      (fun c _ => len - (intOf c).toNat)
    case atStart => exact ⟨0, Nat.zero_le _, rfl, (fun i h => absurd h (by omega)), Below.refl _ _⟩
    case round =>
      obtain ⟨k, hk, rfl, hs, hb⟩ := hrel
      have HS := hide hs
      clear hs
      by_cases hlt : k < len
      · obtain ⟨b, off, rfl, hbl, hcell⟩ := (H.out.below hb).cells k hlt
        obtain ⟨b', off', rfl, hbl', hcell'⟩ := (H'.out.below hb).cells k hlt
        have i0 : (0 : Int) ≤ (k : Int) := by omega
        have i1 : (k : Int) < (len : Int) := by omega
        obtain ⟨x, ex⟩ : ∃ x, x = xs.getD k 0 := ⟨_, rfl⟩
        obtain ⟨y, ey⟩ : ∃ y, y = ys.getD k 0 := ⟨_, rfl⟩
        rw [← ex] at hcell
        rw [← ey] at hcell'
        have EX := hide ex; have EY := hide ey
        clear ex ey
        by_cases hxy : x = y
        · subst hxy
          have d1 : ((x : Int) != x) = false := by simp
          go_wp2
          go_quiet (fail)
          go_wp2
          go_roundw
          case rel => exact ⟨k + 1, by omega, by go_num, (fun i hi => by
            by_cases e : i = k
            · subst e; rw [← EX.out, ← EY.out]
            · exact HS.out i (by omega)), bl_drewN hb _⟩
          case measure => simp [intOf]; omega
        · have d1 : ((x : Int) != y) = true := by simp [hxy]
          have BAD := hide (show eqI xs ys = false from decide_eq_false (fun e => hxy (by rw [EX.out, EY.out, e])))
          clear hxy
          go_wp2
          go_quiet (fail)
          go_wp2
          go_ret
          exact ⟨ret_bool BAD.out.symm, bl_drewN hb _⟩
      · obtain rfl : k = len := by omega
        have GOOD := hide (show eqI xs ys = true from decide_eq_true (getD_ext (hl.out.trans hl'.out.symm) (fun i hi => HS.out i (by rw [hl.out] at hi; exact hi))))
        go_wp2
        go_ret
        exact ⟨ret_bool GOOD.out.symm, hb⟩
  · have d1 : ((len : Int) != (len' : Int)) = true := by simp; omega
    have BAD := hide (show eqI xs ys = false from decide_eq_false (fun e => hn (by rw [← hl.out, ← hl'.out, e])))
    go_enter Try.func13, Try.ntmps13
    go_wp2
    go_ret
    exact ⟨ret_bool BAD.out.symm, Below.refl _ _⟩
end Go.Proofs.Ytpoodkihngnhpaa
