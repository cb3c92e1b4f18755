/- The walk of the law DeltaSteps: for all differences the law returns true and changes nothing that was there. -/
import Derived.Test.YtpoodkihngnhpaaDeltaAlive
namespace Go.Proofs.Ytpoodkihngnhpaa
open Go.RowKit

theorem hi_eq (p : Nat) (d : Int) (ap lo llo lhi s : Int) (sm : Bool) (f : FuncId) (w : World) (h : CurAt w p ap lo llo lhi sm true f) (hl : Word lo) (hd : Word d) (es : lo + d = s) (hs : s < 18446744073709551616) :
    Calls Try.prog 21 #[.pointer (some ⟨p, 0, none⟩), .int .u64 d] w fun e w' => e = .returned (.tuple #[.agg #[.int .u64 lo, .int .u64 s], .bool true]) ∧ CurAt w' p ap lo lo s true false 30 ∧ Only (fun b => b = p) w w' := by
  subst es; exact hi_yes p d ap lo llo lhi sm f w h hl hd hs
theorem lo_eq (p : Nat) (d : Int) (ap lo llo lhi s : Int) (sm : Bool) (w : World) (h : CurAt w p ap lo llo lhi sm false 30) (ha : Word ap) (hh : Word lhi) (hd : Word d) (es : lhi + 1 + ap + d = s) (hs : s < 18446744073709551616) :
    Calls Try.prog 19 #[.pointer (some ⟨p, 0, none⟩), .int .u64 d] w fun e w' => e = .returned (.tuple #[.int .u64 s, .bool true]) ∧ CurAt w' p ap s llo lhi sm true 30 ∧ Only (fun b => b = p) w w' := by
  subst es; exact lo_later p d ap lo llo lhi sm w h ha hh hd hs
theorem rlo_eq (hi ap d s : Int) (w : World) (ha : Word ap) (hh : Word hi) (hd : Word d) (es : hi + 1 + ap + d = s) (hs : s < 18446744073709551616) :
    Calls Try.prog 22 #[.bool false, .int .u64 hi, .int .u64 ap, .int .u64 d] w fun e w' => e = .returned (.tuple #[.int .u64 s, .bool true]) ∧ Below w.heap.size w w' := by
  subst es; exact rlo_yes hi ap d w ha hh hd hs

/-- The cursor at p, as the law's own variables tell it. -/
def StepSt (w : World) (p : Nat) (ap lo hi bf : Int) (sm op : Bool) : Prop :=
  Word lo ∧ Word hi ∧ ∃ clo llo lhi f, CurAt w p ap clo llo lhi sm op f ∧ (op = true → clo = lo) ∧ (sm = true → llo = bf ∧ lhi = hi ∧ f = 30) ∧ (sm = false → f = 27)

set_option maxRecDepth 100000 in
set_option maxHeartbeats 6400000 in
theorem deltaSteps_walk (a : Option Addr) (len cap : Nat) (ds : List Int) (ap ex : Int) (w : World) (h : Ints .u64 w a len ds) (ha : Word ap) (_hx : Word ex) :
    Calls Try.prog 6 #[.slice a len cap, .int .u64 ap, .int .u64 ex] w fun e w' => e = .returned (.bool true) ∧ Below w.heap.size w w' := by
  have H := hide h; have HA := hide ha
  have hmo := h.most
  have HD := hide (ints_get h)
  clear h ha
  by_cases hs : len ≤ 60
  · have hs' : ¬ (60 : Int) < (len : Int) := by omega
    go_enter Try.func6, Try.ntmps6
    go_wp2_with fail
    refine (start_any ap _).mono ?_
    rintro e w1 ⟨rfl, hC, b1⟩
    have HC := hide hC
    clear hC
    go_wp2_with fail
    go_loopw [8, 9, 10, 11, 12, 39] (fun slo shi ssm sop sbf c wr => ∃ k : Nat, k ≤ len ∧ c = .int .i64 k ∧ ∃ (lo hi bf : Int) (sm op : Bool), slo = .int .u64 lo ∧ shi = .int .u64 hi ∧ ssm = .bool sm ∧ sop = .bool op ∧ sbf = .int .u64 bf ∧ StepSt wr w.heap.size ap lo hi bf sm op ∧ Below w.heap.size w wr)
      (fun _ _ _ _ _ c _ => len - (intOf c).toNat)
    case atStart => exact ⟨0, Nat.zero_le _, rfl, 0, 0, 0, false, false, rfl, rfl, rfl, rfl, rfl, ⟨zero_word, zero_word, _, _, _, _, HC.out, fun h => (by cases h), fun h => (by cases h), fun _ => rfl⟩, b1⟩
    case round =>
      obtain ⟨k, hk, rfl, lo, hi, bf, sm, op, rfl, rfl, rfl, rfl, rfl, ⟨hwl, hwh, clo, llo, lhi, f, hcur, hopen, hsome, hnone⟩, hb⟩ := hrel
      have WL := hide hwl; have WH := hide hwh
      clear hwl hwh HC b1
      by_cases hlt : k < len
      · obtain ⟨b, off, rfl, hbl, hc1⟩ := (H.out.below hb).cells k hlt
        have WX := hide (HD.out k)
        have i0 : (0 : Int) ≤ (k : Int) := by omega
        have i1 : (k : Int) < (len : Int) := by omega
        have i2 : ¬ (100 : Int) < (k : Int) := by omega
        have i3 : ¬ 100 < k := by omega
        obtain ⟨x, exx⟩ : ∃ x, x = ds.getD k 0 := ⟨_, rfl⟩
        rw [← exx] at hc1 WX
        have hp := hide hcur.lt
        have hsz := hide hb.size
        have HB := hide hb
        clear exx hb
        cases op with
        | true =>
          obtain rfl := hopen rfl
          cases sm with
          | true =>
            obtain ⟨rfl, rfl, rfl⟩ := hsome rfl
            have C0 := hide hcur
            clear hcur hopen hsome hnone
            by_cases hs2 : clo + x < 18446744073709551616
            · obtain ⟨s, es⟩ : ∃ s, s = clo + x := ⟨_, rfl⟩
              rw [← es] at hs2
              have WS := hide (show Word s from ⟨by rw [es]; have := WL.out; have := WX.out; unfold Word at *; omega, hs2⟩)
              have ES := hide es.symm
              clear es
              go_wp2_with fail
              refine (lo_open _ ex _ _ _ _ _ _ _ C0.out).mono ?_
              rintro e w2 ⟨rfl, rfl⟩
              go_wp2_with fail
              refine (rsum_yes (some ⟨wr.heap.size, 0, none⟩) 2 2 [clo, x] s _ (ints2 WL.out WX.out (heap_new_at wr _ rfl)) (by simp; exact ES.out) hs2).mono ?_
              rintro e w2 ⟨rfl, b2⟩
              have b2' := bl_trans (bl_alloc (Below.refl wr.heap.size wr) (.cells #[.int .u64 clo, .int .u64 x] 24)) b2
              have C2 := hide (CurAt.below C0.out b2')
              have B2 := hide (bl_trans HB.out b2')
              clear b2 b2'
              go_wp2_with fail
              refine (hi_eq _ x _ _ _ _ s _ _ _ C2.out WL.out WX.out ES.out hs2).mono ?_
              rintro e w3 ⟨rfl, hC3, hO3⟩
              have C3 := hide (CurAt.below hC3 (bl_alloc (Below.refl _ _) (.cells #[.int .u64 clo, .int .u64 s] 44)))
              have B3 := hide (bl_alloc (B2.out.trans (hO3.below B2.out.size (fun k hk => by omega))) (.cells #[.int .u64 clo, .int .u64 s] 44))
              clear hC3 hO3
              go_wp2_with fail
              refine (last_any _ _ _ _ _ _ _ _ _ C3.out).mono ?_
              rintro e wl ⟨rfl, bL⟩
              have CL := hide (CurAt.below (CurAt.below C3.out bL) (bl_alloc (Below.refl _ _) (.cells #[.int .u64 clo, .int .u64 s] 44)))
              have BL := hide (bl_alloc (bl_trans B3.out bL) (.cells #[.int .u64 clo, .int .u64 s] 44))
              clear bL
              go_wp2
              go_roundw
              case rel => exact ⟨k + 1, by omega, by go_num, clo, s, clo, true, false, rfl, rfl, rfl, rfl, rfl, ⟨WL.out, WS.out, _, _, _, _, CL.out, fun h => (by cases h), fun _ => ⟨rfl, rfl, rfl⟩, fun h => (by cases h)⟩, BL.out⟩
              case measure => simp [intOf]; omega
            · have ES := hide (show ¬ [clo, x].sum < 18446744073709551616 by simpa using hs2)
              have HS := hide hs2
              clear hs2
              go_wp2_with fail
              refine (lo_open _ ex _ _ _ _ _ _ _ C0.out).mono ?_
              rintro e w2 ⟨rfl, rfl⟩
              go_wp2_with fail
              refine (rsum_no (some ⟨wr.heap.size, 0, none⟩) 2 2 [clo, x] _ (ints2 WL.out WX.out (heap_new_at wr _ rfl)) (Int.not_lt.2 ES.out)).mono ?_
              rintro e w2 ⟨rfl, b2⟩
              have b2' := bl_trans (bl_alloc (Below.refl wr.heap.size wr) (.cells #[.int .u64 clo, .int .u64 x] 24)) b2
              have C2 := hide (CurAt.below C0.out b2')
              have B2 := hide (bl_trans HB.out b2')
              clear b2 b2'
              go_wp2_with fail
              refine (hi_no _ x _ _ _ _ _ _ _ C2.out WL.out WX.out (by have := HS.out; omega)).mono ?_
              rintro e w3 ⟨rfl, b3⟩
              have C3 := hide (CurAt.below (CurAt.below C2.out b3) (bl_alloc (Below.refl _ _) (.cells #[.int .u64 0, .int .u64 0] 44)))
              have B3 := hide (bl_alloc (bl_trans B2.out b3) (.cells #[.int .u64 0, .int .u64 0] 44))
              clear b3
              go_wp2_with fail
              refine (last_any _ _ _ _ _ _ _ _ _ C3.out).mono ?_
              rintro e wl ⟨rfl, bL⟩
              have CL := hide (CurAt.below (CurAt.below C3.out bL) (bl_alloc (Below.refl _ _) (.cells #[.int .u64 llo, .int .u64 lhi] 44)))
              have BL := hide (bl_alloc (bl_trans B3.out bL) (.cells #[.int .u64 llo, .int .u64 lhi] 44))
              clear bL
              go_wp2
              go_roundw
              case rel => exact ⟨k + 1, by omega, by go_num, clo, _, _, true, true, rfl, rfl, rfl, rfl, rfl, ⟨WL.out, WH.out, _, _, _, _, CL.out, fun _ => rfl, fun _ => ⟨rfl, rfl, rfl⟩, fun h => (by cases h)⟩, BL.out⟩
              case measure => simp [intOf]; omega
          | false =>
            obtain rfl := hnone rfl
            have C0 := hide hcur
            clear hcur hopen hsome hnone
            by_cases hs2 : clo + x < 18446744073709551616
            · obtain ⟨s, es⟩ : ∃ s, s = clo + x := ⟨_, rfl⟩
              rw [← es] at hs2
              have WS := hide (show Word s from ⟨by rw [es]; have := WL.out; have := WX.out; unfold Word at *; omega, hs2⟩)
              have ES := hide es.symm
              clear es
              go_wp2_with fail
              refine (lo_open _ ex _ _ _ _ _ _ _ C0.out).mono ?_
              rintro e w2 ⟨rfl, rfl⟩
              go_wp2_with fail
              refine (rsum_yes (some ⟨wr.heap.size, 0, none⟩) 2 2 [clo, x] s _ (ints2 WL.out WX.out (heap_new_at wr _ rfl)) (by simp; exact ES.out) hs2).mono ?_
              rintro e w2 ⟨rfl, b2⟩
              have b2' := bl_trans (bl_alloc (Below.refl wr.heap.size wr) (.cells #[.int .u64 clo, .int .u64 x] 24)) b2
              have C2 := hide (CurAt.below C0.out b2')
              have B2 := hide (bl_trans HB.out b2')
              clear b2 b2'
              go_wp2_with fail
              refine (hi_eq _ x _ _ _ _ s _ _ _ C2.out WL.out WX.out ES.out hs2).mono ?_
              rintro e w3 ⟨rfl, hC3, hO3⟩
              have C3 := hide (CurAt.below hC3 (bl_alloc (Below.refl _ _) (.cells #[.int .u64 clo, .int .u64 s] 44)))
              have B3 := hide (bl_alloc (B2.out.trans (hO3.below B2.out.size (fun k hk => by omega))) (.cells #[.int .u64 clo, .int .u64 s] 44))
              clear hC3 hO3
              go_wp2_with fail
              refine (last_any _ _ _ _ _ _ _ _ _ C3.out).mono ?_
              rintro e wl ⟨rfl, bL⟩
              have CL := hide (CurAt.below (CurAt.below C3.out bL) (bl_alloc (Below.refl _ _) (.cells #[.int .u64 clo, .int .u64 s] 44)))
              have BL := hide (bl_alloc (bl_trans B3.out bL) (.cells #[.int .u64 clo, .int .u64 s] 44))
              clear bL
              go_wp2
              go_roundw
              case rel => exact ⟨k + 1, by omega, by go_num, clo, s, clo, true, false, rfl, rfl, rfl, rfl, rfl, ⟨WL.out, WS.out, _, _, _, _, CL.out, fun h => (by cases h), fun _ => ⟨rfl, rfl, rfl⟩, fun h => (by cases h)⟩, BL.out⟩
              case measure => simp [intOf]; omega
            · have ES := hide (show ¬ [clo, x].sum < 18446744073709551616 by simpa using hs2)
              have HS := hide hs2
              clear hs2
              go_wp2_with fail
              refine (lo_open _ ex _ _ _ _ _ _ _ C0.out).mono ?_
              rintro e w2 ⟨rfl, rfl⟩
              go_wp2_with fail
              refine (rsum_no (some ⟨wr.heap.size, 0, none⟩) 2 2 [clo, x] _ (ints2 WL.out WX.out (heap_new_at wr _ rfl)) (Int.not_lt.2 ES.out)).mono ?_
              rintro e w2 ⟨rfl, b2⟩
              have b2' := bl_trans (bl_alloc (Below.refl wr.heap.size wr) (.cells #[.int .u64 clo, .int .u64 x] 24)) b2
              have C2 := hide (CurAt.below C0.out b2')
              have B2 := hide (bl_trans HB.out b2')
              clear b2 b2'
              go_wp2_with fail
              refine (hi_no _ x _ _ _ _ _ _ _ C2.out WL.out WX.out (by have := HS.out; omega)).mono ?_
              rintro e w3 ⟨rfl, b3⟩
              have C3 := hide (CurAt.below (CurAt.below C2.out b3) (bl_alloc (Below.refl _ _) (.cells #[.int .u64 0, .int .u64 0] 44)))
              have B3 := hide (bl_alloc (bl_trans B2.out b3) (.cells #[.int .u64 0, .int .u64 0] 44))
              clear b3
              go_wp2_with fail
              refine (last_any _ _ _ _ _ _ _ _ _ C3.out).mono ?_
              rintro e wl ⟨rfl, bL⟩
              have CL := hide (CurAt.below (CurAt.below C3.out bL) (bl_alloc (Below.refl _ _) (.cells #[.int .u64 llo, .int .u64 lhi] 44)))
              have BL := hide (bl_alloc (bl_trans B3.out bL) (.cells #[.int .u64 llo, .int .u64 lhi] 44))
              clear bL
              go_wp2
              go_roundw
              case rel => exact ⟨k + 1, by omega, by go_num, clo, _, _, false, true, rfl, rfl, rfl, rfl, rfl, ⟨WL.out, WH.out, _, _, _, _, CL.out, fun _ => rfl, fun h => (by cases h), fun _ => rfl⟩, BL.out⟩
              case measure => simp [intOf]; omega
        | false =>
          cases sm with
          | true =>
            obtain ⟨rfl, rfl, rfl⟩ := hsome rfl
            have C0 := hide hcur
            clear hcur hopen hsome hnone
            by_cases hs2 : lhi + 1 + ap + x < 18446744073709551616
            · obtain ⟨s, es⟩ : ∃ s, s = lhi + 1 + ap + x := ⟨_, rfl⟩
              rw [← es] at hs2
              have WS := hide (show Word s from ⟨by rw [es]; have := WH.out; have := WX.out; have := HA.out; unfold Word at *; omega, hs2⟩)
              have ES := hide es.symm
              clear es
              go_wp2_with fail
              refine (hi_shut _ ex _ _ _ _ _ _ _ C0.out).mono ?_
              rintro e w2 ⟨rfl, b2⟩
              have C2 := hide (CurAt.below (CurAt.below C0.out b2) (bl_alloc (Below.refl _ _) (.cells #[.int .u64 0, .int .u64 0] 44)))
              have B2 := hide (bl_alloc (bl_trans HB.out b2) (.cells #[.int .u64 0, .int .u64 0] 44))
              clear b2
              go_wp2_with fail
              refine (rlo_eq lhi ap x s _ HA.out WH.out WX.out ES.out hs2).mono ?_
              rintro e w3 ⟨rfl, b3⟩
              have C3 := hide (CurAt.below C2.out b3)
              have B3 := hide (bl_trans B2.out b3)
              clear b3
              go_wp2_with fail
              refine (lo_eq _ x _ _ _ _ s _ _ C3.out HA.out WH.out WX.out ES.out hs2).mono ?_
              rintro e w4 ⟨rfl, hC4, hO4⟩
              have C4 := hide hC4
              have B4 := hide (B3.out.trans (hO4.below B3.out.size (fun k hk => by omega)))
              clear hC4 hO4
              go_wp2_with fail
              refine (last_any _ _ _ _ _ _ _ _ _ C4.out).mono ?_
              rintro e wl ⟨rfl, bL⟩
              have CL := hide (CurAt.below (CurAt.below C4.out bL) (bl_alloc (Below.refl _ _) (.cells #[.int .u64 llo, .int .u64 lhi] 44)))
              have BL := hide (bl_alloc (bl_trans B4.out bL) (.cells #[.int .u64 llo, .int .u64 lhi] 44))
              clear bL
              go_wp2
              go_roundw
              case rel => exact ⟨k + 1, by omega, by go_num, s, _, _, true, true, rfl, rfl, rfl, rfl, rfl, ⟨WS.out, WH.out, _, _, _, _, CL.out, fun _ => rfl, fun _ => ⟨rfl, rfl, rfl⟩, fun h => (by cases h)⟩, BL.out⟩
              case measure => simp [intOf]; omega
            · have HS := hide hs2
              clear hs2
              go_wp2_with fail
              refine (hi_shut _ ex _ _ _ _ _ _ _ C0.out).mono ?_
              rintro e w2 ⟨rfl, b2⟩
              have C2 := hide (CurAt.below (CurAt.below C0.out b2) (bl_alloc (Below.refl _ _) (.cells #[.int .u64 0, .int .u64 0] 44)))
              have B2 := hide (bl_alloc (bl_trans HB.out b2) (.cells #[.int .u64 0, .int .u64 0] 44))
              clear b2
              go_wp2_with fail
              refine (rlo_no lhi ap x _ HA.out WH.out WX.out (by have := HS.out; omega)).mono ?_
              rintro e w3 ⟨rfl, b3⟩
              have C3 := hide (CurAt.below C2.out b3)
              have B3 := hide (bl_trans B2.out b3)
              clear b3
              go_wp2_with fail
              refine (lo_later_no _ x _ _ _ _ _ _ C3.out HA.out WH.out WX.out (by have := HS.out; omega)).mono ?_
              rintro e w4 ⟨rfl, b4⟩
              have C4 := hide (CurAt.below C3.out b4)
              have B4 := hide (bl_trans B3.out b4)
              clear b4
              go_wp2_with fail
              refine (last_any _ _ _ _ _ _ _ _ _ C4.out).mono ?_
              rintro e wl ⟨rfl, bL⟩
              have CL := hide (CurAt.below (CurAt.below C4.out bL) (bl_alloc (Below.refl _ _) (.cells #[.int .u64 llo, .int .u64 lhi] 44)))
              have BL := hide (bl_alloc (bl_trans B4.out bL) (.cells #[.int .u64 llo, .int .u64 lhi] 44))
              clear bL
              go_wp2
              go_roundw
              case rel => exact ⟨k + 1, by omega, by go_num, _, _, _, true, false, rfl, rfl, rfl, rfl, rfl, ⟨WL.out, WH.out, _, _, _, _, CL.out, fun h => (by cases h), fun _ => ⟨rfl, rfl, rfl⟩, fun h => (by cases h)⟩, BL.out⟩
              case measure => simp [intOf]; omega
          | false =>
            obtain rfl := hnone rfl
            have C0 := hide hcur
            clear hcur hopen hsome hnone
            go_wp2_with fail
            refine (hi_shut _ ex _ _ _ _ _ _ _ C0.out).mono ?_
            rintro e w2 ⟨rfl, b2⟩
            have C2 := hide (CurAt.below (CurAt.below C0.out b2) (bl_alloc (Below.refl _ _) (.cells #[.int .u64 0, .int .u64 0] 44)))
            have B2 := hide (bl_alloc (bl_trans HB.out b2) (.cells #[.int .u64 0, .int .u64 0] 44))
            clear b2
            go_wp2_with fail
            refine (rlo_first _ ap x _).mono ?_
            rintro e w3 ⟨rfl, b3⟩
            have C3 := hide (CurAt.below C2.out b3)
            have B3 := hide (bl_trans B2.out b3)
            clear b3
            go_wp2_with fail
            refine (lo_first _ x _ _ _ _ _ C3.out).mono ?_
            rintro e w4 ⟨rfl, hC4, hO4⟩
            have C4 := hide hC4
            have B4 := hide (B3.out.trans (hO4.below B3.out.size (fun k hk => by omega)))
            clear hC4 hO4
            go_wp2_with fail
            refine (last_any _ _ _ _ _ _ _ _ _ C4.out).mono ?_
            rintro e wl ⟨rfl, bL⟩
            have CL := hide (CurAt.below (CurAt.below C4.out bL) (bl_alloc (Below.refl _ _) (.cells #[.int .u64 llo, .int .u64 lhi] 44)))
            have BL := hide (bl_alloc (bl_trans B4.out bL) (.cells #[.int .u64 llo, .int .u64 lhi] 44))
            clear bL
            go_wp2
            go_roundw
            case rel => exact ⟨k + 1, by omega, by go_num, x, _, _, false, true, rfl, rfl, rfl, rfl, rfl, ⟨WX.out, WH.out, _, _, _, _, CL.out, fun _ => rfl, fun h => (by cases h), fun _ => rfl⟩, BL.out⟩
            case measure => simp [intOf]; omega
      · obtain rfl : k = len := by omega
        clear hcur hopen hsome hnone
        go_wp2_with fail
        refine (alive_any _).mono ?_
        rintro e w2 ⟨rfl, b2⟩
        go_wp2
        go_ret
        exact ⟨rfl, bl_trans hb b2⟩
  · have hs' : (60 : Int) < (len : Int) := by omega
    go_enter Try.func6, Try.ntmps6
    go_wp2_with fail
    refine (alive_any _).mono ?_
    rintro e w1 ⟨rfl, b1⟩
    go_wp2_with fail
    go_ret
    exact ⟨rfl, b1⟩
end Go.Proofs.Ytpoodkihngnhpaa
