/- The contract of the reference's double: the digits of twice a number and a bit. -/
import Derived.Test.YtjadnhibepdemaaBase
import Derived.Test.YtjadnhibepdemaaPlainDec
import Derived.Maps.AppendAt
namespace Go.Proofs.Ytjadnhibepdemaa
open Go.RowKit

theorem info_int : (Try.prog.info? 3).map (fun i => (i.zero, i.size, i.bytes)) = some (some (.int .i64 0), 1, 8) := by kernel_rfl
theorem wf_digit {z : Int} (h : 0 ≤ z ∧ z ≤ 9) : (Lit.int .i64 z).wf = true := WalkArith.wf_i64 (by omega)

set_option maxHeartbeats 400000 in
theorem double_any (a : Option Addr) (cap : Nat) (n b : Nat) (w : World) (hn : n < 10 ^ 39) (hb1 : b ≤ 1) (h : Ints .i64 w a (Dec.len n) (Dec.lowI n (Dec.len n))) :
    Calls Try.prog 25 #[.slice a (Dec.len n) cap, .int .i64 b] w fun e w' =>
      ∃ a' cap', e = .returned (.slice a' (Dec.len (2 * n + b)) cap') ∧ Ints .i64 w' a' (Dec.len (2 * n + b)) (Dec.lowI (2 * n + b) (Dec.len (2 * n + b))) ∧ Below w.heap.size w w' := by
  obtain ⟨i0, hi, hz0, hz1, hz2⟩ := info_parts info_int
  have H := hide h
  have HN := hide hn
  have hlen := Dec.len_le n
  clear h hn
  obtain ⟨L, eL⟩ : ∃ L, L = Dec.len n := ⟨_, rfl⟩
  rw [← eL] at H hlen ⊢
  have EL := hide eL
  clear eL
  go_enter Try.func25, Try.ntmps25
  go_wp2
  go_loopw [1, 5, 6] (fun bit v c wr => ∃ k : Nat, k ≤ L ∧ c = .int .i64 k ∧ bit = .int .i64 (Dec.carry n b k) ∧ wr.ownsRow w.heap.size 3 1 v k ((Dec.lowI (2 * n + b) k).map (Value.int .i64)) ∧ Below w.heap.size w wr)
    (fun _ _ c _ => L - (intOf c).toNat)
  case atStart => exact ⟨0, Nat.zero_le _, rfl, by rw [Dec.carry_zero], World.ownsRow_nil _ _ _ _, Below.refl _ _⟩
  case round =>
    obtain ⟨k, hk, rfl, rfl, hown, hb⟩ := hrel
    have hcl := Dec.carry_le n b k hb1
    by_cases hlt : k < L
    · obtain ⟨bb, off, rfl, hbl, hcell⟩ := H.out.cells k hlt
      rw [Dec.lowI_getD n L k hlt] at hcell
      have hcell' : wr.cell? ⟨bb, off + k, none⟩ = some (.int .i64 ((n / 10 ^ k % 10 : Nat) : Int)) := (hb.cell (p := ⟨bb, off + k, none⟩) hbl).trans hcell
      clear hcell
      have e1 := hide (Dec.carry_succ n b k)
      have e2 := hide (Dec.digit_double n b k)
      have hd := Nat.mod_lt (n / 10 ^ k) (show 10 > 0 by decide)
      obtain ⟨d, ed⟩ : ∃ d, d = n / 10 ^ k % 10 := ⟨_, rfl⟩
      obtain ⟨c, ec⟩ : ∃ c, c = Dec.carry n b k := ⟨_, rfl⟩
      rw [← ed] at e1 e2 hd hcell'
      rw [← ec] at e1 e2 hcl ⊢
      clear ed ec
      have hsz := hb.size
      go_wp2_with (at_builtin; refine wpList_append_own _ rfl _ _ 51 rfl w.heap.size 3 i0 (.int .i64 0) 1 8 Try.underlying51 hi hz0 hz1 hz2 rfl (by decide) _ _ _ rfl (hown.alloc _) ⟨wr.heap.size, 0, none⟩ 1 1 [.int .i64 ((2 * (d : Int) + c) % 10)] rfl rfl ?c1 ?c2 ?c3 ?c4 ?c5 ?_)
      case c1 => exact cell_one_new _ _ _
      case c2 => intro u hu; simp at hu; subst hu; rfl
      case c3 => unfold maxLen; omega
      case c4 => omega
      case c5 => simp; omega
      intro v' w1 hown' hgrow _
      have hb' := (bl_alloc hb (.cells #[.int .i64 ((2 * (d : Int) + c) % 10)] 3)).grown hgrow (by simp; omega) (fun g hg => (hown.lt g hg).1)
      clear hgrow hown
      go_wp2
      go_roundw
      case rel =>
        refine ⟨k + 1, by omega, by go_num, ?_, ?_, hb'⟩
        · rw [e1.out]; exact congrArg (Value.int .i64) (by omega)
        · rw [Dec.lowI_succ, List.map_append, e2.out]
          have e3 : [Value.int IntKind.i64 ((2 * (d : Int) + c) % 10)] = [((2 * d + c) % 10 : Nat)].map (fun x : Nat => Value.int IntKind.i64 (x : Int)) := by simp
          rw [e3] at hown'
          simpa using hown'
      case measure => simp [intOf]; omega
    · have : k = L := by omega
      subst this
      obtain ⟨c, ec⟩ : ∃ c, c = Dec.carry n b k := ⟨_, rfl⟩
      rw [← ec] at hcl ⊢
      have EC := hide ec
      clear ec
      have hsz := hb.size
      by_cases hc : c = 0
      · subst hc
        have ed := Dec.lowI_double0 n b hb1 HN.out (by rw [← EL.out]; exact EC.out.symm)
        have el : Dec.len (2 * n + b) = k := by
          have := congrArg List.length ed
          rw [Dec.lowI_len, Dec.lowI_len, ← EL.out] at this
          exact this
        rw [← EL.out] at ed
        have ED := hide ed; have EL2 := hide el
        clear ed el
        obtain ⟨a', cap', rfl, _, _, hint⟩ := ints_of_own hown (by omega) (fun z hz => wf_digit (Dec.lowI_mem hz))
        have HI := hide hint
        clear hint hown
        go_wp2
        go_ret
        rw [EL2.out]
        refine ⟨a', cap', rfl, ?_, hb⟩
        have e4 := ED.out
        rw [EL2.out] at e4
        exact HI.out
      · obtain rfl : c = 1 := by omega
        have ed := Dec.lowI_double n b hb1 HN.out (by rw [← EL.out, ← EC.out]; decide)
        have el : Dec.len (2 * n + b) = k + 1 := by
          have := congrArg List.length ed
          rw [Dec.lowI_len, List.length_append, Dec.lowI_len, ← EL.out] at this
          exact this
        rw [← EL.out, ← EC.out] at ed
        have ED := hide ed; have EL2 := hide el
        clear ed el hc
        go_wp2_with (at_builtin; refine wpList_append_own _ rfl _ _ 51 rfl w.heap.size 3 i0 (.int .i64 0) 1 8 Try.underlying51 hi hz0 hz1 hz2 rfl (by decide) _ _ _ rfl (hown.alloc _) ⟨wr.heap.size, 0, none⟩ 1 1 [.int .i64 1] rfl rfl ?d1 ?d2 ?d3 ?d4 ?d5 ?_)
        case d1 => exact cell_one_new _ _ _
        case d2 => intro u hu; simp at hu; subst hu; rfl
        case d3 => unfold maxLen; omega
        case d4 => omega
        case d5 => simp; omega
        intro v' w1 hown' hgrow _
        have hb' := (bl_alloc hb (.cells #[.int .i64 1] 3)).grown hgrow (by simp; omega) (fun g hg => (hown.lt g hg).1)
        have hown2 : w1.ownsRow w.heap.size 3 1 v' (k + 1) ((Dec.lowI (2 * n + b) (Dec.len (2 * n + b))).map (Value.int .i64)) := by
          rw [ED.out, List.map_append]
          exact hown'
        obtain ⟨a', cap', rfl, _, _, hint⟩ := ints_of_own hown2 (by omega) (fun z hz => wf_digit (Dec.lowI_mem hz))
        have HI := hide hint
        clear hint hown hown' hown2 hgrow
        go_wp2
        go_ret
        rw [EL2.out]
        have HI2 := HI.out
        rw [EL2.out] at HI2
        exact ⟨a', cap', rfl, HI2, hb'⟩
end Go.Proofs.Ytjadnhibepdemaa
