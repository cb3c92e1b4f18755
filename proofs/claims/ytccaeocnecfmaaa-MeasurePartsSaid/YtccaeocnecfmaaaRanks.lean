/- The contract of the iterator measure.ranks: the intervals of a list, each with the count of the numbers in front of it. -/
import Derived.Test.YtccaeocnecfmaaaWordSmall
import Derived.Test.YtccaeocnecfmaaaIntervals
import Derived.Test.YtccaeocnecfmaaaRangeBox
import Derived.RangeFuncBound
import Derived.RangeFuncNested
import Derived.RangeFuncLeaves
import Derived.OwnWalkIn
import Derived.TacticsInMore
import Derived.LoopNIn
import Derived.LoopIn
import Derived.Deep.RegionHeld3
import Derived.Deep.RegionWith
namespace Go.Proofs.Ytccaeocnecfmaaa
open Go.RowKit
attribute [local go_sem] Oper.semAt_some

/-- How many numbers are in the first k intervals. -/
def cntTo (zs : List Iv) : Nat → Int
  | 0 => 0
  | k + 1 => cntTo zs k + wd (Lo zs k) (Hi zs k)
theorem cntTo_range {w : World} {a : Option Addr} {len : Nat} {zs : List Iv} (h : Prs w a len zs) : ∀ k, k ≤ len → 0 ≤ cntTo zs k ∧ cntTo zs k ≤ 18446744073709551616 * (k : Int) := by
  intro k
  induction k with
  | zero => intro _; unfold cntTo; omega
  | succ k ih =>
    intro hk
    obtain ⟨a1, a2⟩ := ih (by omega)
    obtain ⟨⟨b1, b2⟩, ⟨c1, c2⟩⟩ := h.word (i := k) (by omega)
    unfold cntTo wd
    split <;> omega
theorem cntTo_long {w : World} {a : Option Addr} {len : Nat} {zs : List Iv} (h : Prs w a len zs) {k : Nat} (hk : k ≤ len) : Long (cntTo zs k) := by
  obtain ⟨a1, a2⟩ := cntTo_range h k hk
  have := h.most
  unfold Long
  omega
/-- What the iterator yields in round k. -/
def encR (zs : List Iv) (k : Nat) : Array Value := #[.agg #[.int .u64 (hi64 (cntTo zs k)), .int .u64 (lo64 (cntTo zs k))], .agg #[.int .u64 (Lo zs k), .int .u64 (Hi zs k)]]

set_option maxRecDepth 100000 in
set_option maxHeartbeats 2000000 in
theorem ranks1_box (n : Nat) (hn : 1 ≤ n) (Bl : Nat) (a : Option Addr) (len cap : Nat) (zs : List Iv) (w0 : World) (M : Nat → Prop) (hBl : w0.cell? ⟨Bl, 0, none⟩ = some (.slice a len cap)) (hMl : ¬ M Bl)
    (h : Prs w0 a len zs) (hMb : 0 < len → ∀ b off, a = some ⟨b, off, none⟩ → ¬ M b) (hM : ∀ k, M k → k < w0.heap.size) : SeqBox Fence.wide n Try.prog 36 #[.pointer (some ⟨Bl, 0, none⟩)] (encR zs) M len w0 := by
  intro l J Jx W hW hl0 hl1 hJ hJx hY h0
  have hm := h.most
  have hBlt : Bl < w0.heap.size := block_lt_of_cell hBl
  have hBl' := hide (keep_cell hW hBlt hBl)
  have H := hide (h.below hW)
  have H0 := hide h
  have HJ := hide hJ; have HJx := hide hJx; have HY := hide hY; have HMb := hide hMb; have HMl := hide hMl
  have hsz := hW.size
  clear h hBl hJ hJx hY hMb hMl
  refine callsIn_of_wp Try.func36 rfl trivial ?_ rfl
  simp only [Try.ntmps36, List.size_toArray, List.length_cons, List.length_nil, Nat.reduceAdd, Nat.reduceSub, Array.replicate_succ, Array.replicate_zero, List.push_toArray, List.append_toArray, List.nil_append, List.cons_append]
  have hbl2 : (W.alloc (.cells #[.int .u64 0, .int .u64 0] 30)).cell? ⟨Bl, 0, none⟩ = some (.slice a len cap) := by
    rw [World.cell?_alloc_lt _ _ _ (by show Bl < _; omega)]; exact hBl'.out
  gi_wp2
  gi_loopw [8] (fun c wr => ∃ k : Nat, k ≤ len ∧ c = .int .i64 k ∧ J k wr ∧ wr.heap[W.heap.size]? = some (.cells #[.int .u64 (hi64 (cntTo zs k)), .int .u64 (lo64 (cntTo zs k))] 30 (0, 0)) ∧ Only (fun b => M b ∨ b = l ∨ b = W.heap.size) W wr)
    (fun c _ => len - (intOf c).toNat)
  case atStart => exact ⟨0, Nat.zero_le _, rfl, HJ.out _ _ _ h0 ((Only.refl _ _).alloc _), heap_new_at _ _ rfl, (Only.refl _ _).alloc _⟩
  case round =>
    clear h0 hbl2
    obtain ⟨k, hk, rfl, hJk, hP, ho⟩ := hrel
    have HP := hide hP; have HO := hide ho
    have hltN : W.heap.size < wr.heap.size := Blk_lt hP
    clear hP ho
    by_cases hlt : k < len
    · obtain ⟨b, off, rfl, hb0, _, _⟩ := H0.out.cells k hlt
      obtain ⟨b', off', eb, hbW, hc1, hc2⟩ := H.out.cells k hlt
      obtain ⟨rfl, rfl⟩ : b = b' ∧ off = off' := by simpa using eb
      clear eb
      have hnb : ¬ (M b ∨ b = l ∨ b = W.heap.size) := by
        rintro (h | h | h)
        · exact HMb.out (by omega) _ _ rfl h
        · omega
        · omega
      have hd1 := HO.out.cell hnb hc1
      have hd2 := HO.out.cell hnb hc2
      have hbr : b < wr.heap.size := by omega
      have hw := hide (H.out.word hlt)
      have i0 : (0 : Int) ≤ (k : Int) := by omega
      have i1 : (k : Int) < (len : Int) := by omega
      have n0 : wr.cell? ⟨W.heap.size, 0, none⟩ = some (.int .u64 (hi64 (cntTo zs k))) := by simp [World.cell?, HP.out]
      have n1 : wr.cell? ⟨W.heap.size, 1, none⟩ = some (.int .u64 (lo64 (cntTo zs k))) := by simp [World.cell?, HP.out]
      obtain ⟨fn, tmps, assign, body, hy, hR⟩ := HY.out k (wr.alloc (.cells #[.int .u64 (Lo zs k), .int .u64 (Hi zs k)] 39)) (HJ.out _ _ _ hJk ((Only.refl _ _).alloc _)) hlt (by simp; omega)
      have HR := hide hR
      clear hR hJk hc1 hc2
      dsimp only [encR] at hy
      obtain ⟨lo, elo⟩ : ∃ lo, lo = Lo zs k := ⟨_, rfl⟩
      obtain ⟨hi, ehi⟩ : ∃ hi, hi = Hi zs k := ⟨_, rfl⟩
      rw [← elo] at hd1 hw hy HR
      rw [← ehi] at hd2 hw hy HR
      have ELO := hide elo; have EHI := hide ehi
      clear elo ehi
      obtain ⟨ch, ech⟩ : ∃ x, x = hi64 (cntTo zs k) := ⟨_, rfl⟩
      obtain ⟨cl, ecl⟩ : ∃ x, x = lo64 (cntTo zs k) := ⟨_, rfl⟩
      rw [← ech] at n0 hy HP
      rw [← ecl] at n1 hy HP
      have ECH := hide ech; have ECL := hide ecl
      clear ech ecl
      gi_wp2
      refine HR.out.mono ?_
      rintro e W3 (⟨rfl, hJ3, ho3⟩ | ⟨rfl, hJx3⟩)
      · have HJ3 := hide hJ3; have HO3 := hide ho3
        have hs3 := ho3.size
        simp only [World.size_alloc] at hs3
        have nm1 : ¬ (M W.heap.size ∨ W.heap.size = l) := by
          rintro (h | h)
          · have := hM _ h; omega
          · omega
        have nm2 : ¬ (M wr.heap.size ∨ wr.heap.size = l) := by
          rintro (h | h)
          · have := hM _ h; omega
          · omega
        have m0 : W3.cell? ⟨W.heap.size, 0, none⟩ = some (.int .u64 ch) := ho3.cell nm1 (by rw [World.cell?_alloc_lt _ _ _ (by exact hltN)]; exact n0)
        have m1 : W3.cell? ⟨W.heap.size, 1, none⟩ = some (.int .u64 cl) := ho3.cell nm1 (by rw [World.cell?_alloc_lt _ _ _ (by exact hltN)]; exact n1)
        have t0 : W3.cell? ⟨wr.heap.size, 0, none⟩ = some (.int .u64 lo) := ho3.cell nm2 (by simp)
        have t1 : W3.cell? ⟨wr.heap.size, 1, none⟩ = some (.int .u64 hi) := ho3.cell nm2 (by simp)
        have HP3 := hide (ho3.obj nm1 (heap_old_at _ _ hltN HP.out))
        have f0 : W3.frozen? ⟨W.heap.size, 0, none⟩ = false := frozen_of_row W3 _ 0 _ _ HP3.out
        have f1 : W3.frozen? ⟨W.heap.size, 1, none⟩ = false := frozen_of_row W3 _ 1 _ _ HP3.out
        have q1 : W.heap.size < W3.heap.size := by omega
        have q2 : wr.heap.size < W3.heap.size := by omega
        have HWD : Hid (∀ X : World, Calls Try.prog 29 #[.int .u64 lo, .int .u64 hi] X fun e w' => e = .returned (.agg #[.int .u64 (hi64 (wd lo hi)), .int .u64 (lo64 (wd lo hi))]) ∧ Below X.heap.size X w') := width_any lo hi hw.out.1 hw.out.2
        have HPL : Hid (∀ X : World, Calls Try.prog 17 #[.agg #[.int .u64 ch, .int .u64 cl], .agg #[.int .u64 (hi64 (wd lo hi)), .int .u64 (lo64 (wd lo hi))]] X fun e w' =>
            e = .returned (.agg #[.int .u64 (hi64 (cntTo zs (k + 1))), .int .u64 (lo64 (cntTo zs (k + 1)))]) ∧ Below X.heap.size X w') := by
          have e : cntTo zs (k + 1) = val ch cl + val (hi64 (wd lo hi)) (lo64 (wd lo hi)) := by
            rw [ECH.out, ECL.out, val_hilo (cntTo_long H0.out (by omega)), val_hilo (wd_long hw.out.1 hw.out.2), ELO.out, EHI.out]
            rfl
          rw [e]
          exact plus_any ch cl _ _ (by rw [ECH.out]; exact word_hi _) (by rw [ECL.out]; exact word_lo _) (word_hi _) (word_lo _)
        clear hJ3 ho3 hy n0 n1 hd1 hd2
        gi_wp2
        refine wpIn_wide.2 ?_
        go_region_with (first
          | (go_at_call 29; refine (HWD.out _).mono ?_; rintro e w3 ⟨rfl, hb3⟩; have r1 : W.heap.size < w3.heap.size := keep_lt hb3 q1; have u0 : w3.cell? ⟨W.heap.size, 0, none⟩ = some (.int .u64 ch) := keep_cell hb3 q1 m0; have u1 : w3.cell? ⟨W.heap.size, 1, none⟩ = some (.int .u64 cl) := keep_cell hb3 q1 m1)
          | (go_at_call 17; refine (HPL.out _).mono ?_; rintro e w4 ⟨rfl, hb4⟩; have v0 : w4.cell? ⟨W.heap.size, 0, none⟩ = some (.int .u64 ch) := keep_cell hb4 r1 u0; have v1 : w4.cell? ⟨W.heap.size, 1, none⟩ = some (.int .u64 cl) := keep_cell hb4 r1 u1; have g0 : w4.frozen? ⟨W.heap.size, 0, none⟩ = false := (hb4.frozen r1).trans ((hb3.frozen q1).trans f0); have g1 : w4.frozen? ⟨W.heap.size, 1, none⟩ = false := (hb4.frozen r1).trans ((hb3.frozen q1).trans f1)))
        all_goals
          gi_wp2
          go_roundw
          case rel =>
            have o1 := ((((Only.refl (fun b => b = W.heap.size) W3).drew.call hb3).call hb4).setCell (p := ⟨W.heap.size, 0, none⟩) (.inl rfl) (.int .u64 (hi64 (cntTo zs (k + 1))))).setCell (p := ⟨W.heap.size, 1, none⟩) (.inl rfl) (.int .u64 (lo64 (cntTo zs (k + 1))))
            have e4 := (hb4.block W.heap.size r1).trans ((hb3.block W.heap.size q1).trans HP3.out)
            exact ⟨k + 1, by omega, by go_num, HJ.out _ _ _ HJ3.out o1, heap_setCell_same _ _ 1 _ _ _ (heap_setCell_same _ _ 0 _ _ _ e4),
              ((HO.out.alloc _).trans (HO3.out.wide (fun b hb => hb.elim .inl (fun h => .inr (.inl h))))).trans (o1.wide (fun b hb => .inr (.inr hb)))⟩
          case measure => simp [intOf]; omega
      · gi_wp2
        refine bodyPost_ret (results_none rfl _ _ _) rfl ?_
        exact ⟨⟨_, rfl⟩, .inr ⟨k, hlt, hJx3⟩⟩
    · obtain rfl : k = len := by omega
      gi_wp2
      go_end0
      exact ⟨⟨_, rfl⟩, .inl hJk⟩
end Go.Proofs.Ytccaeocnecfmaaa
