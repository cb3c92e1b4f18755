/- The contract of the reference's Split over a correct list. -/
import Derived.Test.YtccaeocnecfmaaaClone
import Derived.Test.YtccaeocnecfmaaaMeasureRefNth
namespace Go.Proofs.Ytccaeocnecfmaaa
open Go.RowKit

/-- What an interval leaves in the lower and in the upper list. -/
def lowP (x : Int) (z : Iv) : List Iv := if z.2 < x then [z] else if x ≤ z.1 then [] else [(z.1, x - 1)]
def highP (x : Int) (z : Iv) : List Iv := if z.2 < x then [] else if x ≤ z.1 then [z] else [(x, z.2)]
def lowT (zs : List Iv) (x : Int) : Nat → List Iv
  | 0 => []
  | k + 1 => lowT zs x k ++ lowP x (Lo zs k, Hi zs k)
def highT (zs : List Iv) (x : Int) : Nat → List Iv
  | 0 => []
  | k + 1 => highT zs x k ++ highP x (Lo zs k, Hi zs k)
theorem lowT_len (zs : List Iv) (x : Int) : ∀ k, (lowT zs x k).length ≤ k := by
  intro k
  induction k with
  | zero => simp [lowT]
  | succ k ih => unfold lowT lowP; rw [List.length_append]; split <;> (try split) <;> simp <;> omega
theorem highT_len (zs : List Iv) (x : Int) : ∀ k, (highT zs x k).length ≤ k := by
  intro k
  induction k with
  | zero => simp [highT]
  | succ k ih => unfold highT highP; rw [List.length_append]; split <;> (try split) <;> simp <;> omega
theorem row_snoc {w : World} {base : Nat} {t : TypeId} {v : Value} {zs : List Iv} {x y : Int} (h : w.ownsRow base t 2 v (zs.length + 1) (cellsL zs ++ [.int .u64 x, .int .u64 y])) : w.ownsRow base t 2 v (zs ++ [(x, y)]).length (cellsL (zs ++ [(x, y)])) := by
  rw [← cellsL_snoc]; simpa using h

theorem ne_of_apart {va vb : Value} (h : ∀ g, va.ownBlock = some g → vb.ownBlock ≠ some g) : vb.ownBlock = none ∨ vb.ownBlock ≠ va.ownBlock := by
  cases e : vb.ownBlock with
  | none => exact .inl rfl
  | some g => exact .inr fun k => h g k.symm e
theorem apart_symm {va vb : Value} (h : ∀ g, va.ownBlock = some g → vb.ownBlock ≠ some g) : ∀ g, vb.ownBlock = some g → va.ownBlock ≠ some g := fun g h1 h2 => h g h2 h1
theorem apart_new {va vb v' : Value} {n : Nat} (h : ∀ g, va.ownBlock = some g → vb.ownBlock ≠ some g) (hat : v'.ownBlock = va.ownBlock ∨ v'.ownBlock = some n) (hb : ∀ g, vb.ownBlock = some g → g < n) : ∀ g, v'.ownBlock = some g → vb.ownBlock ≠ some g := by
  intro g hg k
  rcases hat with e | e
  · exact h g (e.symm.trans hg) k
  · have := hb g k
    rw [e] at hg
    have : n = g := by simpa using hg
    omega

set_option maxHeartbeats 1600000 in
theorem rsplit_in (a : Option Addr) (len cap : Nat) (zs : List Iv) (rk : Int) (m : Nat) (w : World) (h : Prs w a len zs) (hc : CorTo zs len) (hx : Word rk) (hm : At zs rk len m) (hl : m < len) (hs : len ≤ 60) :
    Calls Try.prog 22 #[.slice a len cap, .int .u64 rk] w fun e w' => ∃ va vb, e = .returned (.tuple #[va, vb]) ∧
      w'.ownsRow w.heap.size 39 2 va (lowT zs (fVal zs rk len m) len).length (cellsL (lowT zs (fVal zs rk len m) len)) ∧
      w'.ownsRow w.heap.size 39 2 vb (highT zs (fVal zs rk len m) len).length (cellsL (highT zs (fVal zs rk len m) len)) ∧ Below w.heap.size w w' := by
  obtain ⟨i0, hi0, hz0, hz1, hz2⟩ := info_parts info_iv
  have H := hide h
  have hN := fun W (hb : Below w.heap.size w W) => rnth_any a len cap zs rk m W (H.out.below hb) hc hx hm
  rw [decide_eq_true hl] at hN
  obtain ⟨x, ex⟩ : ∃ x, x = fVal zs rk len m := ⟨_, rfl⟩
  have wv : Word x := by
    have := (H.out.word hl); have b := hm.base hx.1 (Nat.le_refl m); have n := hm.at' hl; have s := cnt_succ hc hl
    have e : x = Lo zs m + (rk - cntTo zs m) := by rw [ex]; unfold fVal; rw [if_pos hl]
    rw [e]; unfold Word at *; omega
  rw [← ex] at hN ⊢
  have HN := hide hN
  clear h hN hc hx hm hl ex
  go_enter Try.func22, Try.ntmps22
  go_wp2_with fail
  refine (HN.out _ (Below.refl _ _)).mono ?_
  rintro e w1 ⟨rfl, b1⟩
  go_wp2_with fail
  go_loopw [8, 9, 10] (fun va vb c wr => ∃ k : Nat, k ≤ len ∧ c = .int .i64 k ∧ wr.ownsRow w.heap.size 39 2 va (lowT zs x k).length (cellsL (lowT zs x k)) ∧ wr.ownsRow w.heap.size 39 2 vb (highT zs x k).length (cellsL (highT zs x k)) ∧
      (∀ g, va.ownBlock = some g → vb.ownBlock ≠ some g) ∧ Below w.heap.size w wr)
    (fun _ _ c _ => len - (intOf c).toNat)
  case atStart => exact ⟨0, Nat.zero_le _, rfl, World.ownsRow_nil _ _ _ _, World.ownsRow_nil _ _ _ _, (fun g h => by cases h), b1⟩
  case round =>
    obtain ⟨k, hk, rfl, hA, hB, hd, hb⟩ := hrel
    have HA := hide hA; have HB := hide hB; have HD := hide hd
    clear hA hB hd
    by_cases hlt : k < len
    · obtain ⟨b, off, rfl, hbl, hc1, hc2⟩ := (H.out.below hb).cells k hlt
      have hw := H.out.word hlt
      have i0' : (0 : Int) ≤ (k : Int) := by omega
      have i1' : (k : Int) < (len : Int) := by omega
      have la := lowT_len zs x k
      have lb := highT_len zs x k
      have eA : lowT zs x (k + 1) = lowT zs x k ++ lowP x (Lo zs k, Hi zs k) := rfl
      have eB : highT zs x (k + 1) = highT zs x k ++ highP x (Lo zs k, Hi zs k) := rfl
      obtain ⟨lo, elo⟩ : ∃ lo, lo = Lo zs k := ⟨_, rfl⟩
      obtain ⟨hi, ehi⟩ : ∃ hi, hi = Hi zs k := ⟨_, rfl⟩
      rw [← elo] at hc1 hw eA eB
      rw [← ehi] at hc2 hw eA eB
      have hsz := hb.size
      by_cases h1 : hi < x
      · have eA' : lowP x (lo, hi) = [(lo, hi)] := if_pos h1
        have eB' : highP x (lo, hi) = [] := if_pos h1
        rw [eA'] at eA
        rw [eB', List.append_nil] at eB
        have EA := hide eA; have EB := hide eB
        clear eA eB eA' eB' elo ehi
        go_wp2_with (at_builtin; refine wpList_append_own_at _ rfl _ _ 23 rfl w.heap.size 39 i0 (.agg #[.int .u64 0, .int .u64 0]) 2 16 Try.underlying23 hi0 hz0 hz1 hz2 rfl (by decide) _ _ _ rfl ((HA.out.alloc _).alloc _) ⟨wr.heap.size + 1, 0, none⟩ 1 1 [.int .u64 lo, .int .u64 hi] rfl rfl ?a1 ?a2 ?a3 ?a4 ?a5 ?_)
        try case a1 => simpa using cell_two_new (wr.alloc (.cells #[.int .u64 lo, .int .u64 hi] 39)) _ _ 39
        case a2 => first | exact two_one _ _ | exact ⟨rfl, rfl⟩
        case a3 => unfold maxLen; omega
        case a4 => omega
        case a5 => first | omega | (simp; omega)
        intro v' w2 hown' hgrow _ hat
        have hb2 := (bl_alloc (bl_alloc hb _) _).grown hgrow (by simp; omega) (fun g hg => (HA.out.lt g hg).1)
        have hA2 := hide (row_snoc hown')
        have hB2 := hide (((HB.out.alloc _).alloc _).kept hgrow (ne_of_apart HD.out))
        have hD2 := hide (apart_new HD.out hat (fun g hg => by have := (HB.out.lt g hg).2; omega))
        clear hown' hgrow hat
        go_wp2
        go_roundw
        case rel => exact ⟨k + 1, by omega, by go_num, by rw [EA.out]; exact hA2.out, by rw [EB.out]; exact hB2.out, hD2.out, hb2⟩
        case measure => simp [intOf]; omega
      · by_cases h2 : x ≤ lo
        · have eA' : lowP x (lo, hi) = [] := by unfold lowP; rw [if_neg h1, if_pos h2]
          have eB' : highP x (lo, hi) = [(lo, hi)] := by unfold highP; rw [if_neg h1, if_pos h2]
          rw [eA', List.append_nil] at eA
          rw [eB'] at eB
          have EA := hide eA; have EB := hide eB
          clear eA eB eA' eB' elo ehi
          go_wp2_with (at_builtin; refine wpList_append_own_at _ rfl _ _ 23 rfl w.heap.size 39 i0 (.agg #[.int .u64 0, .int .u64 0]) 2 16 Try.underlying23 hi0 hz0 hz1 hz2 rfl (by decide) _ _ _ rfl ((HB.out.alloc _).alloc _) ⟨wr.heap.size + 1, 0, none⟩ 1 1 [.int .u64 lo, .int .u64 hi] rfl rfl ?p1 ?p2 ?p3 ?p4 ?p5 ?_)
          try case p1 => simpa using cell_two_new (wr.alloc (.cells #[.int .u64 lo, .int .u64 hi] 39)) _ _ 39
          case p2 => first | exact two_one _ _ | exact ⟨rfl, rfl⟩
          case p3 => unfold maxLen; omega
          case p4 => omega
          case p5 => first | omega | (simp; omega)
          intro v' w2 hown' hgrow _ hat
          have hb2 := (bl_alloc (bl_alloc hb _) _).grown hgrow (by simp; omega) (fun g hg => (HB.out.lt g hg).1)
          have hB2 := hide (row_snoc hown')
          have hA2 := hide (((HA.out.alloc _).alloc _).kept hgrow (ne_of_apart (apart_symm HD.out)))
          have hD2 := hide (apart_symm (apart_new (apart_symm HD.out) hat (fun g hg => by have := (HA.out.lt g hg).2; omega)))
          clear hown' hgrow hat
          go_wp2
          go_roundw
          case rel => exact ⟨k + 1, by omega, by go_num, by rw [EA.out]; exact hA2.out, by rw [EB.out]; exact hB2.out, hD2.out, hb2⟩
          case measure => simp [intOf]; omega
        · have eA' : lowP x (lo, hi) = [(lo, x - 1)] := by unfold lowP; rw [if_neg h1, if_neg h2]
          have eB' : highP x (lo, hi) = [(x, hi)] := by unfold highP; rw [if_neg h1, if_neg h2]
          rw [eA'] at eA
          rw [eB'] at eB
          have EA := hide eA; have EB := hide eB
          have d1 : IntKind.u64.wrap (x - 1) = x - 1 := wrap_word (by have := hw.1.1; have := wv.2; unfold Word; omega)
          clear eA eB eA' eB' elo ehi
          go_wp2_with (at_builtin; refine wpList_append_own_at _ rfl _ _ 23 rfl w.heap.size 39 i0 (.agg #[.int .u64 0, .int .u64 0]) 2 16 Try.underlying23 hi0 hz0 hz1 hz2 rfl (by decide) _ _ _ rfl ((HA.out.alloc _).alloc _) ⟨wr.heap.size + 1, 0, none⟩ 1 1 [.int .u64 lo, .int .u64 (x - 1)] rfl rfl ?q1 ?q2 ?q3 ?q4 ?q5 ?_)
          try case q1 => simpa using cell_two_new (wr.alloc (.cells #[.int .u64 lo, .int .u64 hi] 39)) _ _ 39
          case q2 => first | exact two_one _ _ | exact ⟨rfl, rfl⟩
          case q3 => unfold maxLen; omega
          case q4 => omega
          case q5 => first | omega | (simp; omega)
          intro v' w2 hown' hgrow _ hat
          have hb2 := (bl_alloc (bl_alloc hb _) _).grown hgrow (by simp; omega) (fun g hg => (HA.out.lt g hg).1)
          have hA2 := hide (row_snoc hown')
          have hB2 := hide (((HB.out.alloc _).alloc _).kept hgrow (ne_of_apart HD.out))
          have hD2 := hide (apart_new HD.out hat (fun g hg => by have := (HB.out.lt g hg).2; omega))
          have k1 : w2.cell? ⟨wr.heap.size, 1, none⟩ = some (.int .u64 hi) := hgrow.cell (by simp) (fun h => by have := (HA.out.lt _ h.symm).2; simp at this)
          have hs2 := hb2.size
          clear hown' hgrow hat
          go_wp2_with (at_builtin; refine wpList_append_own_at _ rfl _ _ 23 rfl w.heap.size 39 i0 (.agg #[.int .u64 0, .int .u64 0]) 2 16 Try.underlying23 hi0 hz0 hz1 hz2 rfl (by decide) _ _ _ rfl (hB2.out.alloc _) ⟨w2.heap.size, 0, none⟩ 1 1 [.int .u64 x, .int .u64 hi] rfl rfl ?r1 ?r2 ?r3 ?r4 ?r5 ?_)
          try case r1 => simpa using cell_two_new (w2) _ _ 39
          case r2 => first | exact two_one _ _ | exact ⟨rfl, rfl⟩
          case r3 => unfold maxLen; omega
          case r4 => omega
          case r5 => first | omega | (simp; omega)
          intro v2 w3 hown' hgrow _ hat
          have hb3 := (bl_alloc hb2 _).grown hgrow (by simp; omega) (fun g hg => (hB2.out.lt g hg).1)
          have hB3 := hide (row_snoc hown')
          have hA3 := hide ((hA2.out.alloc _).kept hgrow (ne_of_apart (apart_symm hD2.out)))
          have hD3 := hide (apart_symm (apart_new (apart_symm hD2.out) hat (fun g hg => by have := (hA2.out.lt g hg).2; omega)))
          clear hown' hgrow hat
          go_wp2
          go_roundw
          case rel => exact ⟨k + 1, by omega, by go_num, by rw [EA.out]; exact hA3.out, by rw [EB.out]; exact hB3.out, hD3.out, hb3⟩
          case measure => simp [intOf]; omega
    · obtain rfl : k = len := by omega
      go_wp2
      go_ret2
      exact ⟨_, _, rfl, HA.out, HB.out, hb⟩
end Go.Proofs.Ytccaeocnecfmaaa
