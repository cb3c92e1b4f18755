/- The walk of the law SpanCuts. -/
import Derived.Test.YtplckfofdkmieaaDoorSpanAlive
import Derived.Test.YtplckfofdkmieaaDoorSpanCutRef
import Derived.Deep.RegionHeld3
import Derived.BigQuiet
namespace Go.Proofs.YtplckfofdkmieaaDoor
open Go.RowKit

/-- slices.Equal over one list twice. -/
theorem equal_same (a a' : Option Addr) (len cap cap' : Nat) (zs : List Iv) (w : World) (h : Prs w a len zs) (h' : Prs w a' len zs) :
    Calls Tryd.prog 25 #[.slice a len cap, .slice a' len cap'] w fun e w' => e = .returned (.bool true) ∧ Below w.heap.size w w' := by
  have hm := h.most
  have H := hide h
  have H' := hide h'
  clear h h'
  go_enter Tryd.func25, Tryd.ntmps25
  go_wp2
  go_loopw [13] (fun c wr => ∃ k : Nat, k ≤ len ∧ c = .int .i64 k ∧ Below w.heap.size w wr)
    (fun c _ => len - (intOf c).toNat)
  case atStart => exact ⟨0, Nat.zero_le _, rfl, Below.refl _ _⟩
  case round =>
    obtain ⟨k, hk, rfl, hb⟩ := hrel
    by_cases hlt : k < len
    · obtain ⟨b, off, rfl, hbl, hc1, hc2⟩ := (H.out.below hb).cells k hlt
      obtain ⟨b', off', rfl, hbl', hd1, hd2⟩ := (H'.out.below hb).cells k hlt
      have i0 : (0 : Int) ≤ (k : Int) := by omega
      have i1 : (k : Int) < (len : Int) := by omega
      obtain ⟨x, ex⟩ : ∃ x, x = Lo zs k := ⟨_, rfl⟩
      obtain ⟨y, ey⟩ : ∃ y, y = Hi zs k := ⟨_, rfl⟩
      rw [← ex] at hc1 hd1
      rw [← ey] at hc2 hd2
      clear ex ey
      have hmx : Tryd.prog.follows .mixedOrders = true := by kernel_rfl
      go_wp2_with fail
      go_quiet (fail)
      go_wp2
      go_roundw
      case rel => exact ⟨k + 1, by omega, by go_num, bl_drewN hb _⟩
      case measure => simp [intOf]; omega
    · have : k = len := by omega
      subst this
      go_wp2
      go_ret
      exact ⟨rfl, hb⟩

/-- Whether one of the first k intervals has a number. -/
def anyTo (zs : List Iv) (x : Int) (k : Nat) : Bool := (zs.take k).any fun z => hasI z.1 z.2 x
theorem any_zero (zs : List Iv) (x : Int) : anyTo zs x 0 = false := rfl
theorem any_take (zs : List Iv) (x : Int) (k : Nat) (h : k < zs.length) : anyTo zs x (k + 1) = (anyTo zs x k || hasI (Lo zs k) (Hi zs k) x) := by
  unfold anyTo
  rw [← take_snoc zs k h, List.any_append]
  simp
theorem pc_has (al ah bl bh x : Int) (hb : bl ≤ bh) : anyTo (pcL al ah bl bh) x (pcL al ah bl bh).length = (hasI al ah x && !hasI bl bh x) := by
  unfold anyTo
  rw [List.take_length, Bool.eq_iff_iff]
  unfold pcL pcLo pcHi mnI mxI hasI
  by_cases g1 : al < bl
  · by_cases g2 : bh < ah
    · rw [if_pos g1, if_pos g2]
      simp only [List.singleton_append, List.any_cons, List.any_nil, Bool.or_false, Bool.or_eq_true, Bool.and_eq_true, Bool.not_eq_true', decide_eq_true_eq, decide_eq_false_iff_not]
      split <;> split <;> omega
    · rw [if_pos g1, if_neg g2]
      simp only [List.append_nil, List.any_cons, List.any_nil, Bool.or_false, Bool.and_eq_true, Bool.not_eq_true', decide_eq_true_eq, decide_eq_false_iff_not]
      split <;> omega
  · by_cases g2 : bh < ah
    · rw [if_neg g1, if_pos g2]
      simp only [List.nil_append, List.any_cons, List.any_nil, Bool.or_false, Bool.and_eq_true, Bool.not_eq_true', decide_eq_true_eq, decide_eq_false_iff_not]
      split <;> omega
    · rw [if_neg g1, if_neg g2]
      simp only [List.nil_append, List.any_nil, Bool.and_eq_true, Bool.not_eq_true', decide_eq_true_eq, decide_eq_false_iff_not]
      constructor
      · intro h; cases h
      · intro h; omega

set_option maxHeartbeats 3200000 in
theorem spanCuts_walk (al ah bl bh x : Int) (w : World) (h1 : Word al) (h2 : Word ah) (h3 : Word bl) (h4 : Word bh) (hx : Word x) (hg : Laid w) :
    Calls Tryd.prog 8 #[.agg #[.int .u64 al, .int .u64 ah], .agg #[.int .u64 bl, .int .u64 bh], .int .u64 x] w fun e w' => e = .returned (.bool true) ∧ Below w.heap.size w w' := by
  have HA := hide (fun W (hb : Below w.heap.size w W) => alive_any W (hg.below hb))
  clear hg
  by_cases ha : al ≤ ah
  · have K1 := hide (fun W => rright_yes al ah h1 h2 ha W)
    by_cases hb : bl ≤ bh
    · have K2 := hide (fun W => rright_yes bl bh h3 h4 hb W)
      have K3 := hide (fun W => cut_any al ah bl bh h1 h2 h3 h4 W)
      have K4 := hide (fun W => rcut_any al ah bl bh h1 h2 h3 h4 W)
      have KA := hide (fun W => rhas_any al ah x h1 h2 hx W)
      have KB := hide (fun W => rhas_any bl bh x h3 h4 hx W)
      have PH := hide (pc_has al ah bl bh x hb)
      obtain ⟨zs, ez⟩ : ∃ zs, zs = pcL al ah bl bh := ⟨_, rfl⟩
      rw [← ez] at K3 K4 PH
      obtain ⟨q, eq⟩ : ∃ y, y = hasI al ah x := ⟨_, rfl⟩
      obtain ⟨r, er⟩ : ∃ y, y = hasI bl bh x := ⟨_, rfl⟩
      rw [← eq] at KA PH
      rw [← er] at KB PH
      have HX := hide hx
      clear h1 h2 h3 h4 hx ha hb ez eq er
      go_enter Tryd.func8, Tryd.ntmps8
      go_wp2_with fail
      refine (K1.out _).mono ?_
      rintro e w1 ⟨rfl, b1⟩
      have B1 := bl_trans (bl_alloc (bl_alloc (Below.refl _ w) _) _) b1
      have R0 := row_keep b1 (heap_old_at _ _ (by simp) (heap_new_at _ _ rfl))
      have R1 := row_keep b1 (heap_new_at _ _ (g := w.heap.size + 1) (by simp))
      obtain ⟨c0, c1, _, l0⟩ := cells_two R0
      obtain ⟨d0, d1, _, l1⟩ := cells_two R1
      clear b1
      go_wp2_with fail
      refine (K2.out _).mono ?_
      rintro e w2 ⟨rfl, b2⟩
      have B2 := bl_trans B1 b2
      have R0 := row_keep b2 R0
      have R1 := row_keep b2 R1
      clear b2 c0 c1 d0 d1 l0 l1
      obtain ⟨c0, c1, _, l0⟩ := cells_two R0
      obtain ⟨d0, d1, _, l1⟩ := cells_two R1
      go_wp2_with fail
      refine (K3.out _).mono ?_
      rintro e w3 ⟨a, rfl, hP, b3⟩
      have B3 := hide (bl_trans B2 b3)
      have R0 := hide (row_keep b3 R0)
      have R1 := hide (row_keep b3 R1)
      have HP := hide hP
      have hz := hide hP.length
      have hm := hP.most
      clear b3 c0 c1 d0 d1 l0 l1 hP B1 B2
      obtain ⟨n, en⟩ : ∃ n, n = zs.length := ⟨_, rfl⟩
      rw [← en] at HP hm K3 ⊢
      have EN := hide en
      clear hz en
      go_wp2_with fail
      go_loopw [8, 25] (fun o c wr => ∃ k : Nat, k ≤ n ∧ c = .int .i64 k ∧ o = .bool (anyTo zs x k) ∧ Below w3.heap.size w3 wr)
        (fun _ c _ => n - (intOf c).toNat)
      case atStart => exact ⟨0, Nat.zero_le _, rfl, rfl, Below.refl _ _⟩
      case round =>
        obtain ⟨k, hk, rfl, rfl, hb⟩ := hrel
        by_cases hlt : k < n
        · obtain ⟨b, off, rfl, hbl, hc1, hc2⟩ := (HP.out.below hb).cells k hlt
          have hw := HP.out.word hlt
          have hs := hide (any_take zs x k (by rw [← EN.out]; exact hlt))
          have i0 : (0 : Int) ≤ (k : Int) := by omega
          have i1 : (k : Int) < (n : Int) := by omega
          obtain ⟨lo, elo⟩ : ∃ y, y = Lo zs k := ⟨_, rfl⟩
          obtain ⟨hiv, ehi⟩ : ∃ y, y = Hi zs k := ⟨_, rfl⟩
          rw [← elo] at hc1 hs hw
          rw [← ehi] at hc2 hs hw
          have KS := hide (fun W => rhas_any lo hiv x hw.1 hw.2 HX.out W)
          clear elo ehi hw
          obtain ⟨o, eo⟩ : ∃ o, o = anyTo zs x k := ⟨_, rfl⟩
          rw [← eo] at hs ⊢
          clear eo
          cases o with
          | true =>
            rw [Bool.true_or] at hs
            go_wp2
            go_roundw
            case rel => exact ⟨k + 1, by omega, by go_num, by rw [hs.out], by repeat (first | exact hb | refine bl_alloc ?_ _)⟩
            case measure => simp [intOf]; omega
          | false =>
            rw [Bool.false_or] at hs
            go_wp2_with fail
            refine (KS.out _).mono ?_
            rintro e w4 ⟨rfl, b4⟩
            have hb4 := bl_trans (bl_alloc hb _) b4
            clear b4
            go_wp2
            go_roundw
            case rel => exact ⟨k + 1, by omega, by go_num, by rw [hs.out], hb4⟩
            case measure => simp [intOf]; omega
        · have : k = n := by omega
          subst this
          have D := bl_trans B3.out hb
          have R0 := row_keep hb R0.out
          have R1 := row_keep hb R1.out
          have HPr := hide (HP.out.below hb)
          have PH' := PH.out
          rw [← EN.out] at PH'
          rw [PH']
          clear PH'
          clear hb HP
          cases q with
          | true =>
            go_wp2_with fail
            refine (HA.out _ D).mono ?_
            rintro e w4 ⟨rfl, b4⟩
            have B4 := bl_trans D b4
            have R0 := row_keep b4 R0
            have R1 := row_keep b4 R1
            have HPa := hide (HPr.out.below b4)
            obtain ⟨c0, c1, _, l0⟩ := cells_two R0
            obtain ⟨d0, d1, _, l1⟩ := cells_two R1
            clear b4
            go_wp2_with fail
            refine (K4.out _).mono ?_
            rintro e w5 ⟨v, rfl, hO, b5⟩
            have B5 := bl_trans B4 b5
            have R0 := row_keep b5 R0
            have R1 := row_keep b5 R1
            have HPb := hide (HPa.out.below b5)
            obtain ⟨a5, cap5, rfl, hPO, _⟩ := hO.prs
            rw [← EN.out] at hPO ⊢
            have HPO := hide hPO
            clear b5 c0 c1 d0 d1 l0 l1 hO hPO
            go_wp2_with fail
            refine (equal_same a a5 _ _ cap5 zs _ HPb.out HPO.out).mono ?_
            rintro e w6 ⟨rfl, b6⟩
            have B6 := bl_trans B5 b6
            have R0 := row_keep b6 R0
            have R1 := row_keep b6 R1
            obtain ⟨c0, c1, _, l0⟩ := cells_two R0
            obtain ⟨d0, d1, _, l1⟩ := cells_two R1
            clear b6
            go_wp2_with fail
            refine (KA.out _).mono ?_
            rintro e w7 ⟨rfl, b7⟩
            have B7 := bl_trans B6 b7
            have R1 := row_keep b7 R1
            clear b7 c0 c1 d0 d1 l0 l1
            obtain ⟨d0, d1, _, l1⟩ := cells_two R1
            go_wp2_with fail
            refine (KB.out _).mono ?_
            rintro e w8 ⟨rfl, b8⟩
            have B8 := bl_trans B7 b8
            clear b8
            go_wp2
            go_ret
            exact ⟨ret_bool (by cases r <;> rfl), B8⟩
          | false =>
            go_wp2_with fail
            refine (HA.out _ D).mono ?_
            rintro e w4 ⟨rfl, b4⟩
            have B4 := bl_trans D b4
            have R0 := row_keep b4 R0
            have R1 := row_keep b4 R1
            have HPa := hide (HPr.out.below b4)
            obtain ⟨c0, c1, _, l0⟩ := cells_two R0
            obtain ⟨d0, d1, _, l1⟩ := cells_two R1
            clear b4
            go_wp2_with fail
            refine (K4.out _).mono ?_
            rintro e w5 ⟨v, rfl, hO, b5⟩
            have B5 := bl_trans B4 b5
            have R0 := row_keep b5 R0
            have R1 := row_keep b5 R1
            have HPb := hide (HPa.out.below b5)
            obtain ⟨a5, cap5, rfl, hPO, _⟩ := hO.prs
            rw [← EN.out] at hPO ⊢
            have HPO := hide hPO
            clear b5 c0 c1 d0 d1 l0 l1 hO hPO
            go_wp2_with fail
            refine (equal_same a a5 _ _ cap5 zs _ HPb.out HPO.out).mono ?_
            rintro e w6 ⟨rfl, b6⟩
            have B6 := bl_trans B5 b6
            have R0 := row_keep b6 R0
            have R1 := row_keep b6 R1
            obtain ⟨c0, c1, _, l0⟩ := cells_two R0
            obtain ⟨d0, d1, _, l1⟩ := cells_two R1
            clear b6
            go_wp2_with fail
            refine (KA.out _).mono ?_
            rintro e w7 ⟨rfl, b7⟩
            have B7 := bl_trans B6 b7
            have R1 := row_keep b7 R1
            clear b7 c0 c1 d0 d1 l0 l1
            obtain ⟨d0, d1, _, l1⟩ := cells_two R1
            go_wp2
            go_ret
            exact ⟨rfl, B7⟩
    · skip
      have K2 := hide (fun W => rright_no bl bh h3 h4 (by omega) W)
      clear h1 h2 h3 h4 ha hb
      go_enter Tryd.func8, Tryd.ntmps8
      go_wp2_with fail
      refine (K1.out _).mono ?_
      rintro e w1 ⟨rfl, b1⟩
      have B1 := bl_trans (bl_alloc (bl_alloc (Below.refl _ w) _) _) b1
      have R1 := row_keep b1 (heap_new_at _ _ (g := w.heap.size + 1) (by simp))
      obtain ⟨d0, d1, _, l1⟩ := cells_two R1
      clear b1 R1
      go_wp2_with fail
      refine (K2.out _).mono ?_
      rintro e w2 ⟨rfl, b2⟩
      have B2 := bl_trans B1 b2
      clear b2 d0 d1 l1
      go_wp2_with fail
      refine (HA.out _ B2).mono ?_
      rintro e w3 ⟨rfl, b3⟩
      have B3 := bl_trans B2 b3
      clear b3
      go_wp2
      go_ret
      exact ⟨rfl, B3⟩
  · skip
    have K1 := hide (fun W => rright_no al ah h1 h2 (by omega) W)
    clear h1 h2 h3 h4 ha
    go_enter Tryd.func8, Tryd.ntmps8
    go_wp2_with fail
    refine (K1.out _).mono ?_
    rintro e w1 ⟨rfl, b1⟩
    have B1 := bl_trans (bl_alloc (bl_alloc (Below.refl _ w) _) _) b1
    clear b1
    go_wp2_with fail
    refine (HA.out _ B1).mono ?_
    rintro e w3 ⟨rfl, b3⟩
    have B3 := bl_trans B1 b3
    clear b3
    go_wp2
    go_ret
    exact ⟨rfl, B3⟩
end Go.Proofs.YtplckfofdkmieaaDoor
