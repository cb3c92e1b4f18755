/- Contracts of Sum, of the package word and of the reference: the sum of a list of words, or false. -/
import Derived.Test.YtppeogalaikopaaDoorMG1
import Derived.Deep.QuietTactic
namespace Go.Proofs.YtppeogalaikopaaDoor
open Go.RowKit

def sumTo (zs : List Int) (k : Nat) : Int := (zs.take k).sum
theorem sumTo_zero (zs : List Int) : sumTo zs 0 = 0 := by simp [sumTo]
theorem sumTo_succ (zs : List Int) (k : Nat) (h : k < zs.length) : sumTo zs (k + 1) = sumTo zs k + zs.getD k 0 := by
  unfold sumTo
  rw [List.take_succ_eq_append_getElem h, List.sum_append]
  simp [List.getD, List.getElem?_eq_getElem h]
theorem sumTo_all (zs : List Int) : sumTo zs zs.length = zs.sum := by simp [sumTo]
theorem sumTo_range {w : World} {a : Option Addr} {len : Nat} {zs : List Int} (h : Ints .u64 w a len zs) : ∀ k, k ≤ len → 0 ≤ sumTo zs k ∧ sumTo zs k ≤ 18446744073709551615 * (k : Int) := by
  intro k
  induction k with
  | zero => intro _; rw [sumTo_zero]; omega
  | succ k ih =>
    intro hk
    have hl := h.length
    rw [sumTo_succ zs k (by omega)]
    obtain ⟨a1, a2⟩ := ih (by omega)
    obtain ⟨b1, b2⟩ := word_of_wf (h.getD_wf (i := k) (by omega))
    omega
theorem sumTo_mono {w : World} {a : Option Addr} {len : Nat} {zs : List Int} (h : Ints .u64 w a len zs) (k : Nat) : ∀ j, k + j ≤ len → sumTo zs k ≤ sumTo zs (k + j) := by
  intro j
  induction j with
  | zero => intro _; exact Int.le_refl _
  | succ j ih =>
    intro hj
    have hl := h.length
    have e := sumTo_succ zs (k + j) (by omega)
    rw [← Nat.add_assoc, e]
    have := ih (by omega)
    obtain ⟨b1, _⟩ := word_of_wf (h.getD_wf (i := k + j) (by omega))
    omega
theorem sumTo_le_sum {w : World} {a : Option Addr} {len : Nat} {zs : List Int} (h : Ints .u64 w a len zs) {k : Nat} (hk : k ≤ len) : sumTo zs k ≤ zs.sum := by
  have hl := h.length
  have := sumTo_mono h k (len - k) (by omega)
  rw [show k + (len - k) = zs.length by omega, sumTo_all] at this
  exact this
theorem sum_long {w : World} {a : Option Addr} {len : Nat} {zs : List Int} (h : Ints .u64 w a len zs) {k : Nat} (hk : k ≤ len) : Long (sumTo zs k) := by
  obtain ⟨a1, a2⟩ := sumTo_range h k hk
  have := h.most
  unfold Long
  omega
/-- What Sum returns. -/
def sumV (zs : List Int) : Int := if zs.sum < 18446744073709551616 then zs.sum else 0
def sumB (zs : List Int) : Bool := decide (zs.sum < 18446744073709551616)

set_option maxHeartbeats 400000 in
theorem sum_any (a : Option Addr) (len cap : Nat) (zs : List Int) (w : World) (h : Ints .u64 w a len zs) :
    Calls Tryd.prog 80 #[.slice a len cap] w fun e w' => e = .returned (.tuple #[.int .u64 (sumV zs), .bool (sumB zs)]) ∧ Below w.heap.size w w' := by
  have hm := h.most
  have H := hide h
  clear h
  go_enter Tryd.func80, Tryd.ntmps80
  go_wp2
  go_loopw [9] (fun c wr => ∃ k : Nat, k ≤ len ∧ c = .int .i64 k ∧ wr.heap[w.heap.size]? = some (.cells #[.int .u64 (hi64 (sumTo zs k)), .int .u64 (lo64 (sumTo zs k))] 159 (0, 0)) ∧ Below w.heap.size w wr)
    (fun c _ => len - (intOf c).toNat)
  case atStart => exact ⟨0, Nat.zero_le _, rfl, heap_new_at _ _ rfl, (Below.refl _ _).alloc (Nat.le_refl _) _⟩
  case round =>
    obtain ⟨k, hk, rfl, hP, hb⟩ := hrel
    have c0 : wr.cell? ⟨w.heap.size, 0, none⟩ = some (.int .u64 (hi64 (sumTo zs k))) := by simp [World.cell?, hP]
    have c1 : wr.cell? ⟨w.heap.size, 1, none⟩ = some (.int .u64 (lo64 (sumTo zs k))) := by simp [World.cell?, hP]
    have fz : ∀ j, wr.frozen? ⟨w.heap.size, j, none⟩ = false := by intro j; simp [World.frozen?, hP]
    have hlt0 : w.heap.size < wr.heap.size := Blk_lt hP
    have HP := hide hP
    clear hP
    by_cases hlt : k < len
    · obtain ⟨b, off, rfl, hbl, hcell⟩ := H.out.cells k hlt
      have hz := word_of_wf (H.out.getD_wf hlt)
      have hs := hide (sumTo_succ zs k (by rw [H.out.length]; exact hlt))
      obtain ⟨z, ez⟩ : ∃ z, z = zs.getD k 0 := ⟨_, rfl⟩
      rw [← ez] at hcell hz hs
      clear ez
      have hcell' : wr.cell? ⟨b, off + k, none⟩ = some (.int .u64 z) := (hb.cell (p := ⟨b, off + k, none⟩) hbl).trans hcell
      clear hcell
      go_wp2_with (go_at_call 88; refine (plus_any _ _ 0 z (word_hi _) (word_lo _) ⟨by decide, by decide⟩ hz _).mono ?_; rintro e w1 ⟨rfl, hb1⟩; obtain ⟨hc, hf⟩ := bcell hb1)
      have e1 : val (hi64 (sumTo zs k)) (lo64 (sumTo zs k)) + val 0 z = sumTo zs (k + 1) := by rw [val_hilo (sum_long H.out hk), val_zero, hs.out]
      rw [e1]
      go_roundw
      case rel =>
        have h0 := (hb1.block w.heap.size hlt0).trans HP.out
        exact ⟨k + 1, by omega, by go_num, heap_setCell_same _ _ 1 _ _ _ (heap_setCell_same _ _ 0 _ _ _ h0), bl_set (bl_set (bl_trans hb hb1) (Nat.le_refl _) _) (Nat.le_refl _) _⟩
      case measure => simp [intOf]; omega
    · have : k = len := by omega
      subst this
      have hl := hide (sum_long H.out (Nat.le_refl k))
      have es := hide (sumTo_all zs)
      have el := hide H.out.length
      go_wp2
      · have hc : 0 < hi64 (sumTo zs k) := by assumption
        go_ret2
        refine ⟨?_, hb⟩
        have e := hl.out
        rw [← el.out, es.out] at hc e
        have hn : ¬ zs.sum < 18446744073709551616 := by unfold Long at e; unfold hi64 at hc; omega
        exact ret_ib (by unfold sumV; rw [if_neg hn]) (by unfold sumB; rw [decide_eq_false hn])
      · have hc : hi64 (sumTo zs k) ≤ 0 := by assumption
        go_ret2
        refine ⟨?_, hb⟩
        have e := hl.out
        rw [← el.out, es.out] at hc e ⊢
        have hn : zs.sum < 18446744073709551616 := by unfold Long at e; unfold hi64 at hc; omega
        exact ret_ib (by unfold sumV; rw [if_pos hn]; unfold lo64; unfold Long at e; omega) (by unfold sumB; rw [decide_eq_true hn])

theorem quiet_left {P : Program} {f : FuncId} {args : Array Value} {w : World} {n : Nat} {v : Value}
    (h : Calls P f args (w.drewN n) fun e w' => e = .returned v ∧ w.drewN n = w') : Calls P f args (w.drewN n) fun e w'' => e = .returned v ∧ ∃ m, w'' = w.drewN m :=
  h.mono fun _ _ ⟨he, hm⟩ => ⟨he, n, hm.symm⟩

set_option maxHeartbeats 400000 in
theorem rsum_any (a : Option Addr) (len cap : Nat) (zs : List Int) (w : World) (h : Ints .u64 w a len zs) :
    Calls Tryd.prog 63 #[.slice a len cap] w fun e w' => e = .returned (.tuple #[.int .u64 (sumV zs), .bool (sumB zs)]) ∧ Below w.heap.size w w' := by
  have hm := h.most
  have H := hide h
  clear h
  go_enter Tryd.func63, Tryd.ntmps63
  go_wp2
  go_loopw [4, 5] (fun n c wr => ∃ k : Nat, k ≤ len ∧ c = .int .i64 k ∧ n = .int .u64 (sumTo zs k) ∧ sumTo zs k < 18446744073709551616 ∧ Below w.heap.size w wr)
    (fun _ c _ => len - (intOf c).toNat)
  case atStart => exact ⟨0, Nat.zero_le _, rfl, by rw [sumTo_zero], by rw [sumTo_zero]; decide, Below.refl _ _⟩
  case round =>
    obtain ⟨k, hk, rfl, rfl, hs, hb⟩ := hrel
    have hs0 := (sumTo_range H.out k hk).1
    by_cases hlt : k < len
    · obtain ⟨b, off, rfl, hbl, hcell⟩ := H.out.cells k hlt
      have hz := word_of_wf (H.out.getD_wf hlt)
      have hsu := hide (sumTo_succ zs k (by rw [H.out.length]; exact hlt))
      have hle := hide (sumTo_le_sum H.out (k := k + 1) hlt)
      obtain ⟨z, ez⟩ : ∃ z, z = zs.getD k 0 := ⟨_, rfl⟩
      rw [← ez] at hcell hz hsu
      clear ez
      obtain ⟨s, es⟩ : ∃ s, s = sumTo zs k := ⟨_, rfl⟩
      rw [← es] at hsu hs hs0 ⊢
      clear es
      have hcell' : wr.cell? ⟨b, off + k, none⟩ = some (.int .u64 z) := (hb.cell (p := ⟨b, off + k, none⟩) hbl).trans hcell
      clear hcell
      obtain ⟨z0, z1⟩ := hz
      have i0 : (0 : Int) ≤ (k : Int) := by omega
      have i1 : (k : Int) < (len : Int) := by omega
      go_wp2
      go_quiet ((go_at_call 78; exact quiet_left (rmax_any _)))
      go_wp2
      · have hc : IntKind.u64.wrap (18446744073709551615 - s) < z := by assumption
        have e := hsu.out
        have l := hle.out
        rw [IntKind.wrap_u64] at hc
        have hn : ¬ zs.sum < 18446744073709551616 := by omega
        go_ret2
        exact ⟨ret_ib (by unfold sumV; rw [if_neg hn]) (by unfold sumB; rw [decide_eq_false hn]), below_drewN hb _⟩
      · have hc : z ≤ IntKind.u64.wrap (18446744073709551615 - s) := by assumption
        have e := hsu.out
        rw [IntKind.wrap_u64] at hc
        have hn : s + z < 18446744073709551616 := by omega
        go_roundw
        case rel => exact ⟨k + 1, by omega, by go_num, by rw [e, IntKind.wrap_u64]; exact congrArg (Value.int .u64) (by omega), by rw [e]; exact hn, below_drewN hb _⟩
        case measure => simp [intOf]; omega
    · have : k = len := by omega
      subst this
      have es := hide (sumTo_all zs)
      have el := hide H.out.length
      go_wp2
      go_ret2
      refine ⟨?_, hb⟩
      rw [← el.out, es.out] at hs ⊢
      exact ret_ib (by unfold sumV; rw [if_pos hs]) (by unfold sumB; rw [decide_eq_true hs])
end Go.Proofs.YtppeogalaikopaaDoor
