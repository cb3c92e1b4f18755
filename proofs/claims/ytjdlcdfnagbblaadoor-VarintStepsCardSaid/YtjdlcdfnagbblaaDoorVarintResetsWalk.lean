/- The law VarintResets. -/
import Derived.Test.YtjdlcdfnagbblaaDoorVarAlive
namespace Go.Proofs.YtjdlcdfnagbblaaDoor
open Go.RowKit

/-- A Reader that has been used: below ten bytes while it is open. -/
structure Rdr (w : World) (p : Nat) (x n st : Int) : Prop where
  row : RdAt w p x n st
  n0 : 0 ≤ n
  n9 : st = 0 → n ≤ 9
def nxX (x n st c : Int) : Int := if st = 0 then putX x n c else x
def nxN (n st : Int) : Int := if st = 0 then n + 1 else n
def nxS (n st c : Int) : Int := if st = 0 then putS n c else st
theorem Rdr.put {w : World} {p : Nat} {x n st c : Int} (h : Rdr w p x n st) (hc : 0 ≤ c) :
    Calls Tryd.prog 16 #[.pointer (some ⟨p, 0, none⟩), .int .u8 c] w fun e w' => e = .returned (.int .i64 (nxS n st c)) ∧ Rdr w' p (nxX x n st c) (nxN n st) (nxS n st c) ∧ Only (fun b => b = p) w w' := by
  by_cases hs : st = 0
  · subst hs
    unfold nxS nxX nxN
    simp only [if_true]
    refine (put_any p x n c w h.row h.n0 (h.n9 rfl) hc).mono ?_
    rintro e w' ⟨rfl, hr, ho⟩
    refine ⟨rfl, ⟨hr, by have := h.n0; omega, fun h0 => ?_⟩, ho⟩
    have h9 := h.n9 rfl
    by_cases e9 : n = 9
    · subst e9; exact absurd h0 (putS_9 c)
    · omega
  · unfold nxS nxX nxN
    simp only [if_neg hs]
    refine (put_over p x n st c w h.row hs).mono ?_
    rintro e w' ⟨rfl, rfl⟩
    exact ⟨rfl, h, Only.refl _ _⟩
theorem RdAt.other {w w' : World} {p q : Nat} {x n st : Int} (h : RdAt w p x n st) (hpq : p ≠ q) (ho : Only (fun b => b = q) w w') : RdAt w' p x n st := ho.obj (fun e => hpq e) h

set_option maxHeartbeats 1600000 in
theorem varintResets_walk (a : Option Addr) (len cap : Nat) (zs : List Int) (a' : Option Addr) (len' cap' : Nat) (zs' : List Int) (w : World) (h : Ints .u8 w a len zs) (h' : Ints .u8 w a' len' zs') (hg : Laid w) :
    Calls Tryd.prog 6 #[.slice a len cap, .slice a' len' cap'] w fun e w' => e = .returned (.bool true) ∧ Below w.heap.size w w' := by
  have H := hide h
  have H' := hide h'
  have HG := hide hg
  have hm := h.most
  have hm' := h'.most
  have W1 := hide (fun i (hi : i < len) => (byte_of_wf' (h.getD_wf hi)).1)
  have W2 := hide (fun i (hi : i < len') => (byte_of_wf' (h'.getD_wf hi)).1)
  clear h h' hg
  by_cases g0 : 30 < (len : Int)
  · go_enter Tryd.func6, Tryd.ntmps6
    go_wp2_with fail
    refine (alive_any _ HG.out).mono ?_
    rintro e w1 ⟨rfl, b1⟩
    go_wp2
    go_ret
    exact ⟨rfl, b1⟩
  · by_cases g1 : 30 < (len' : Int)
    · go_enter Tryd.func6, Tryd.ntmps6
      go_wp2_with fail
      refine (alive_any _ HG.out).mono ?_
      rintro e w1 ⟨rfl, b1⟩
      go_wp2
      go_ret
      exact ⟨rfl, b1⟩
    · have ra : RdAt ((w.alloc (.cells #[.int .u64 0, .int .i64 0, .int .i64 0] 36)).alloc (.cells #[.int .u64 0, .int .i64 0, .int .i64 0] 36)) w.heap.size 0 0 0 := heap_old_at _ _ (by simp) (heap_new_at _ _ rfl)
      have rb : RdAt ((w.alloc (.cells #[.int .u64 0, .int .i64 0, .int .i64 0] 36)).alloc (.cells #[.int .u64 0, .int .i64 0, .int .i64 0] 36)) (w.heap.size + 1) 0 0 0 := heap_new_at _ _ (by simp)
      have RA := hide ra
      have RB := hide rb
      have B0 := hide (bl_alloc (bl_alloc (Below.refl w.heap.size w) (.cells #[.int .u64 0, .int .i64 0, .int .i64 0] 36)) (.cells #[.int .u64 0, .int .i64 0, .int .i64 0] 36))
      clear ra rb
      go_enter Tryd.func6, Tryd.ntmps6
      go_wp2
      go_loopw [22] (fun c wr => ∃ (k : Nat) (x n st : Int), k ≤ len ∧ c = .int .i64 k ∧ Rdr wr w.heap.size x n st ∧ RdAt wr (w.heap.size + 1) 0 0 0 ∧ Below w.heap.size w wr)
        (fun c _ => len - (intOf c).toNat)
      case atStart => exact ⟨0, 0, 0, 0, Nat.zero_le _, rfl, ⟨RA.out, by omega, fun _ => by omega⟩, RB.out, B0.out⟩
      case round =>
        obtain ⟨k, x, n, st, hk, rfl, hr, hrb, hb⟩ := hrel
        have HR := hide hr
        have HRB := hide hrb
        have HB := hide hb
        have i0 : (0 : Int) ≤ (k : Int) := by omega
        clear hr hrb
        by_cases hlt : k < len
        · obtain ⟨b, off, rfl, hbl, hcell⟩ := (H.out.below hb).cells k hlt
          have i1 : (k : Int) < (len : Int) := by omega
          have hc0 := W1.out k hlt
          obtain ⟨y, ey⟩ : ∃ y, zs.getD k 0 = y := ⟨_, rfl⟩
          rw [ey] at hcell hc0
          have PUT := hide (HR.out.put hc0)
          clear ey hc0 hb
          go_wp2_with fail
          refine PUT.out.mono ?_
          rintro e w1 ⟨rfl, hr1, o1⟩
          have R1 := hide hr1
          have O1 := hide o1
          clear hr1 o1
          go_wp2
          go_roundw
          case rel => exact ⟨k + 1, _, _, _, by omega, by go_num, R1.out, HRB.out.other (by omega) O1.out, HB.out.trans (O1.out.below HB.out.size (fun q hq => by subst hq; exact Nat.le_refl _))⟩
          case measure => simp [intOf]; omega
        · have i1 : ¬ (k : Int) < (len : Int) := by omega
          clear hb
          go_wp2_with fail
          refine (reset_any _ _ _ _ _ HR.out.row).mono ?_
          rintro e w1 ⟨⟨v, rfl⟩, hr1, o1⟩
          have R1 := hide hr1
          have RB1 := hide (HRB.out.other (by omega) o1)
          have B1 := hide (HB.out.trans (o1.below HB.out.size (fun q hq => by subst hq; exact Nat.le_refl _)))
          have VAL0 := hide (value_any _ _ _ _ _ R1.out)
          rw [if_neg (by decide)] at VAL0
          clear hr1 o1
          go_wp2_with fail
          refine VAL0.out.mono ?_
          rintro e w2 ⟨rfl, rfl⟩
          go_wp2_with fail
          refine (len_any _ _ _ _ _ R1.out).mono ?_
          rintro e w2 ⟨rfl, rfl⟩
          go_wp2
          go_loopw [38] (fun c wr => ∃ (k : Nat) (x n st : Int), k ≤ len' ∧ c = .int .i64 k ∧ Rdr wr w.heap.size x n st ∧ Rdr wr (w.heap.size + 1) x n st ∧ Below w.heap.size w wr)
            (fun c _ => len' - (intOf c).toNat)
          case atStart => exact ⟨0, 0, 0, 0, Nat.zero_le _, rfl, ⟨R1.out, by omega, fun _ => by omega⟩, ⟨RB1.out, by omega, fun _ => by omega⟩, B1.out⟩
          case round =>
            clear HR HRB HB R1 RB1 B1 RA RB B0 i0 i1
            obtain ⟨k', x, n, st, hk', rfl, hr, hrb, hb⟩ := hrel
            have HR := hide hr
            have HRB := hide hrb
            have HB := hide hb
            have i0 : (0 : Int) ≤ (k' : Int) := by omega
            clear hr hrb
            by_cases hlt : k' < len'
            · obtain ⟨b, off, rfl, hbl, hcell⟩ := (H'.out.below hb).cells k' hlt
              have i1 : (k' : Int) < (len' : Int) := by omega
              have hc0 := W2.out k' hlt
              obtain ⟨y, ey⟩ : ∃ y, zs'.getD k' 0 = y := ⟨_, rfl⟩
              rw [ey] at hcell hc0
              have PUT := hide (HR.out.put hc0)
              have PUT2 := hide (fun W (hW : Rdr W (w.heap.size + 1) x n st) => hW.put hc0)
              obtain ⟨x1, ex1⟩ : ∃ x1, nxX x n st y = x1 := ⟨_, rfl⟩
              obtain ⟨n1, en1⟩ : ∃ n1, nxN n st = n1 := ⟨_, rfl⟩
              obtain ⟨s1, es1⟩ : ∃ s1, nxS n st y = s1 := ⟨_, rfl⟩
              rw [ex1, en1, es1] at PUT PUT2
              have d1 : (s1 != s1) = false := by simp
              have d2 : ((if s1 = 1 then x1 else 0) != (if s1 = 1 then x1 else 0)) = false := by simp
              have d3 : (n1 != n1) = false := by simp
              have VAL := hide (fun W q (hW : Rdr W q x1 n1 s1) => value_any q x1 n1 s1 W hW.row)
              obtain ⟨v1, ev1⟩ : ∃ v1, (if s1 = 1 then x1 else 0) = v1 := ⟨_, rfl⟩
              rw [ev1] at VAL d2
              have LEN := hide (fun W q (hW : Rdr W q x1 n1 s1) => len_any q x1 n1 s1 W hW.row)
              clear ey hc0 hb ex1 en1 es1 ev1
              go_wp2_with fail
              refine PUT.out.mono ?_
              rintro e w2 ⟨rfl, hr2, o2⟩
              have R2 := hide hr2
              have RB2 := hide (show Rdr w2 (w.heap.size + 1) x n st from ⟨HRB.out.row.other (by omega) o2, HRB.out.n0, HRB.out.n9⟩)
              have B2 := hide (HB.out.trans (o2.below HB.out.size (fun q hq => by subst hq; exact Nat.le_refl _)))
              clear hr2 o2
              go_wp2_with fail
              refine (PUT2.out _ RB2.out).mono ?_
              rintro e w3 ⟨rfl, hr3, o3⟩
              have RB3 := hide hr3
              have R3 := hide (show Rdr w3 w.heap.size x1 n1 s1 from ⟨R2.out.row.other (by omega) o3, R2.out.n0, R2.out.n9⟩)
              have B3 := hide (B2.out.trans (o3.below B2.out.size (fun q hq => by subst hq; exact Nat.le_succ _)))
              clear hr3 o3
              go_wp2_with fail
              refine (VAL.out _ _ R3.out).mono ?_
              rintro e w4 ⟨rfl, rfl⟩
              go_wp2_with fail
              refine (VAL.out _ _ RB3.out).mono ?_
              rintro e w4 ⟨rfl, rfl⟩
              go_wp2_with fail
              refine (LEN.out _ _ R3.out).mono ?_
              rintro e w4 ⟨rfl, rfl⟩
              go_wp2_with fail
              refine (LEN.out _ _ RB3.out).mono ?_
              rintro e w4 ⟨rfl, rfl⟩
              go_wp2
              go_roundw
              case rel => exact ⟨k' + 1, _, _, _, by omega, by go_num, R3.out, RB3.out, B3.out⟩
              case measure => simp [intOf]; omega
            · have i1 : ¬ (k' : Int) < (len' : Int) := by omega
              have G := hide (HG.out.below HB.out)
              clear hb
              go_wp2_with fail
              refine (alive_any _ G.out).mono ?_
              rintro e w2 ⟨rfl, b2⟩
              go_wp2
              go_ret
              exact ⟨rfl, bl_trans HB.out b2⟩
end Go.Proofs.YtjdlcdfnagbblaaDoor
