/- The walk of the law FaultShifts. -/
import Derived.Test.YtgggnjgcbmpibaaDoorFaultText
import Derived.Test.YtgggnjgcbmpibaaDoorFaultMakesWalk
namespace Go.Proofs.YtgggnjgcbmpibaaDoor
open Go.RowKit

theorem i32_wf {x : Int} (h : (Lit.int .i32 x).wf = true) : -2147483648 ≤ x ∧ x ≤ 2147483647 := by
  simp [Lit.wf, IntKind.min, IntKind.max, IntKind.signed, IntKind.bits] at h
  omega
set_option maxHeartbeats 4000000 in
theorem faultShifts_walk (nil has : Bool) (code at' : Int) (a : Option Addr) (len cap : Nat) (ss : List ByteArray) (b : Int) (w : World) (h : Strs w a len ss) (hc : (Lit.int .i64 code).wf = true) (_ha : (Lit.int .i64 at').wf = true) (hb : (Lit.int .i32 b).wf = true) (hg : Laid w) :
    Calls Tryd.prog 4 #[Dsc nil has code at' a len cap, .int .i32 b] w fun e w' => e = .returned (.bool true) ∧ Below w.heap.size w w' := by
  have HG := hide (fun W (hb : Below w.heap.size w W) => hg.below hb)
  have HA := hide (fun W (hb : Below w.heap.size w W) => alive_any W (hg.below hb))
  obtain ⟨v1, v2⟩ := i64_wf hc
  obtain ⟨v3, v4⟩ := i32_wf hb
  clear hc _ha hb
  by_cases hF : FewL ss len
  · have KF := hide (fun W (hb : Below w.heap.size w W) => few_yes nil has code at' a len cap ss W (h.below (w1 := W) hb) hF)
    by_cases g1 : at' ≤ 1099511627776
    · by_cases g2 : -1099511627776 ≤ at'
      · have hs : IntKind.i64.wrap (at' + b) = at' + b := IntWalk.i64_in _ (by omega)
        have cb : IntKind.i64.wrap b = b := IntWalk.i64_in _ (by omega)
        cases nil with
        | true =>
          have KB := hide (fun W => build_nil has code at' a len cap W)
          have KS := hide (fun W => shift_nil b W)
          clear h hg hF
          unfold Dsc at KF KB ⊢
          go_enter Tryd.func4, Tryd.ntmps4
          go_wp2_with fail
          have B0 := bl_alloc (Below.refl w.heap.size w) (.cells #[.bool true, .int .i64 code, .bool has, .int .i64 at', .slice a len cap] 25)
          have R0 := heap_new_at w (.cells #[.bool true, .int .i64 code, .bool has, .int .i64 at', .slice a len cap] 25) rfl
          refine (KF.out _ B0).mono ?_
          rintro e w1 ⟨rfl, b1⟩
          have B1 := bl_trans B0 b1
          have R1 := row_kept' b1 R0
          obtain ⟨c0, c1, c2, c3, c4⟩ := cells_five R1
          clear b1 R0 B0
          go_wp2_with fail
          refine (KB.out _).mono ?_
          rintro e w2 ⟨rfl, b2⟩
          have B2 := bl_trans B1 b2
          have R2 := row_kept' b2 R1
          clear b2 R1 B1 c0 c1 c2 c3 c4
          go_wp2_with fail
          refine (KS.out _).mono ?_
          rintro e w3 ⟨rfl, b3⟩
          have B3 := bl_trans B2 b3
          have R3 := row_kept' b3 R2
          clear b3 R2 B2
          obtain ⟨c0, c1, c2, c3, c4⟩ := cells_five R3
          go_wp2_with fail
          refine (HA.out _ B3).mono ?_
          rintro e w4 ⟨rfl, b4⟩
          have B4 := bl_trans B3 b4
          clear b4 B3
          go_wp2
          go_ret
          exact ⟨rfl, B4⟩
        | false =>
          have KB := hide (fun W hb => build_any has code at' a len cap ss W (h.below (w1 := W) hb))
          cases has with
          | false =>
            obtain ⟨x, ex⟩ : ∃ x, x = chn (bas false code at') ss len := ⟨_, rfl⟩
            have hxf : x.fault = none := by rw [ex, chn_fault]; rfl
            have KS := hide (fun W hb => shift_no x b W (hg.below (w' := W) hb) hxf)
            have KA := hide (fun W hb => at_any x W (hg.below (w' := W) hb))
            rw [show x.at' = -1 by rw [ex, chn_at]; rfl] at KA
            have hfine : x.fine := by rw [ex]; exact (chn_fine (bas false code at') ss len hF v2 (by rw [bas_txt]; exact errS_size code v2) len (Nat.le_refl _)).1
            have KT := hide (fun W => text_any x W hfine)
            have KR := hide (fun W hb => rtext_any false false code at' a len cap ss W (h.below (w1 := W) hb) hF v2)
            rw [← show x.txt = (chn (.e code) ss len).txt by rw [ex]; exact chn_txt _ _ ss rfl len] at KR
            rw [← ex] at KB
            have M := methodError x
            have HE := enters x
            obtain ⟨T, eT⟩ : ∃ T, T = x.txt := ⟨_, rfl⟩
            rw [← eT] at KT KR
            clear h hg hF hxf hfine ex eT
            have hmx : Tryd.prog.follows .mixedOrders = true := by kernel_rfl
            unfold Dsc at KF KB KR ⊢
            unfold Er.v at KB KS KA
            go_enter Tryd.func4, Tryd.ntmps4
            go_wp2_with fail
            have B0 := bl_alloc (Below.refl w.heap.size w) (.cells #[.bool false, .int .i64 code, .bool false, .int .i64 at', .slice a len cap] 25)
            have R0 := heap_new_at w (.cells #[.bool false, .int .i64 code, .bool false, .int .i64 at', .slice a len cap] 25) rfl
            refine (KF.out _ B0).mono ?_
            rintro e w1 ⟨rfl, b1⟩
            have B1 := bl_trans B0 b1
            have R1 := row_kept' b1 R0
            obtain ⟨c0, c1, c2, c3, c4⟩ := cells_five R1
            clear b1 R0 B0
            go_wp2_with fail
            refine (KB.out _ B1).mono ?_
            rintro e w2 ⟨rfl, b2⟩
            have B2 := bl_trans B1 b2
            have R2 := row_kept' b2 R1
            clear b2 R1 B1 c0 c1 c2 c3 c4
            go_wp2_with fail
            refine (KS.out _ B2).mono ?_
            rintro e w3 ⟨rfl, b3⟩
            have B3 := bl_trans B2 b3
            have R3 := row_kept' b3 R2
            clear b3 R2 B2
            obtain ⟨c0, c1, c2, c3, c4⟩ := cells_five R3
            go_wp2_with fail
            clear R3
            go_region_held3 (fun w' => w'.cell? ⟨w.heap.size, 0, none⟩ = some (.bool false) ∧ w'.cell? ⟨w.heap.size, 1, none⟩ = some (.int .i64 code) ∧ w'.cell? ⟨w.heap.size, 2, none⟩ = some (.bool false) ∧ w'.cell? ⟨w.heap.size, 3, none⟩ = some (.int .i64 at') ∧ w'.cell? ⟨w.heap.size, 4, none⟩ = some (.slice a len cap) ∧ Below w.heap.size w w')
              (first | (go_split_ands; exact ⟨keep_cs hb (by assumption), keep_cs hb (by assumption), keep_cs hb (by assumption), keep_cs hb (by assumption), keep_cs hb (by assumption), bl_trans (by assumption) hb⟩) | (refine ⟨?_, ?_, ?_, ?_, ?_, ?_⟩ <;> first | assumption | (exact bl_drew (by assumption)) | (simp [*]; done)))
              (first
                | (go_at_call 10; refine (HA.out _ ?_).mono ?_; (first | assumption | (exact bl_drew (by assumption)) | (go_split_ands; assumption)); rintro e w6 ⟨rfl, hb⟩)
                | (go_at_call 17; refine (KR.out _ ?_).mono ?_; (first | assumption | (exact bl_drew (by assumption)) | (go_split_ands; assumption)); rintro e w6 ⟨rfl, hb⟩)
                | (go_at_call 14; refine (KA.out _ ?_).mono ?_; (first | assumption | (exact bl_drew (by assumption)) | (go_split_ands; assumption)); rintro e w6 ⟨rfl, hb⟩)
                | (refine (KT.out _).mono ?_; rintro e w6 ⟨rfl, hb⟩))
            go_wp2
            go_ret
            exact ⟨rfl, by first | assumption | (go_split_ands; assumption)⟩
          | true =>
            obtain ⟨x, ex⟩ : ∃ x, x = chn (bas true code at') ss len := ⟨_, rfl⟩
            have hxf : x.fault = some (code, at') := by rw [ex, chn_fault]; rfl
            have KS := hide (fun W hb => shift_yes x code at' b W (hg.below (w' := W) hb) hxf hs)
            rw [show x.cd = code by rw [ex, chn_cd]; rfl] at KS
            rw [← ex] at KB
            have iF := isF
            clear h hg hF hxf ex
            unfold Dsc at KF KB ⊢
            unfold Er.v at KB KS
            simp only [show ∀ c n, (Er.f c n).tid = 40 from fun _ _ => rfl, show ∀ c n, (Er.f c n).dat = .agg #[.int .i64 c, .int .i64 n] from fun _ _ => rfl] at KS
            go_enter Tryd.func4, Tryd.ntmps4
            go_wp2_with fail
            have B0 := bl_alloc (Below.refl w.heap.size w) (.cells #[.bool false, .int .i64 code, .bool true, .int .i64 at', .slice a len cap] 25)
            have R0 := heap_new_at w (.cells #[.bool false, .int .i64 code, .bool true, .int .i64 at', .slice a len cap] 25) rfl
            refine (KF.out _ B0).mono ?_
            rintro e w1 ⟨rfl, b1⟩
            have B1 := bl_trans B0 b1
            have R1 := row_kept' b1 R0
            obtain ⟨c0, c1, c2, c3, c4⟩ := cells_five R1
            clear b1 R0 B0
            go_wp2_with fail
            refine (KB.out _ B1).mono ?_
            rintro e w2 ⟨rfl, b2⟩
            have B2 := bl_trans B1 b2
            have R2 := row_kept' b2 R1
            clear b2 R1 B1 c0 c1 c2 c3 c4
            go_wp2_with fail
            refine (KS.out _ B2).mono ?_
            rintro e w3 ⟨rfl, b3⟩
            have B3 := bl_trans B2 b3
            have R3 := row_kept' b3 R2
            clear b3 R2 B2
            obtain ⟨c0, c1, c2, c3, c4⟩ := cells_five R3
            have B4 := bl_alloc B3 (.cells #[.int .i64 code, .int .i64 (at' + b)] 40)
            have R4 := heap_old_at w3 (.cells #[.int .i64 code, .int .i64 (at' + b)] 40) (Blk_lt R3) R3
            have F4 := heap_new_at w3 (.cells #[.int .i64 code, .int .i64 (at' + b)] 40) rfl
            go_wp2_with fail
            refine (HA.out _ B4).mono ?_
            rintro e w5 ⟨rfl, b5⟩
            have B5 := bl_trans B4 b5
            have R5 := row_kept' b5 R4
            have F5 := row_kept' b5 F4
            clear b5 R4 R3 B4 B3 F4 c0 c1 c2 c3 c4
            obtain ⟨c0, c1, c2, c3, c4⟩ := cells_five R5
            have f0 : w5.cell? ⟨w3.heap.size, 0, none⟩ = some (.int .i64 code) := by simp [World.cell?, F5]
            have f1 : w5.cell? ⟨w3.heap.size, 1, none⟩ = some (.int .i64 (at' + b)) := by simp [World.cell?, F5]
            clear R5 F5
            go_wp2
            go_ret
            exact ⟨rfl, B5⟩
      · have g3 : at' < -1099511627776 := by omega
        skip
        clear h hg hF
        unfold Dsc at KF ⊢
        go_enter Tryd.func4, Tryd.ntmps4
        go_wp2_with fail
        have B0 := bl_alloc (Below.refl w.heap.size w) (.cells #[.bool nil, .int .i64 code, .bool has, .int .i64 at', .slice a len cap] 25)
        have R0 := heap_new_at w (.cells #[.bool nil, .int .i64 code, .bool has, .int .i64 at', .slice a len cap] 25) rfl
        refine (KF.out _ B0).mono ?_
        rintro e w1 ⟨rfl, b1⟩
        have B1 := bl_trans B0 b1
        have R1 := row_kept' b1 R0
        obtain ⟨c0, c1, c2, c3, c4⟩ := cells_five R1
        clear b1 R0 B0
        go_wp2_with fail
        refine (HA.out _ B1).mono ?_
        rintro e w2 ⟨rfl, b2⟩
        have B2 := bl_trans B1 b2
        clear b2 B1
        go_wp2
        go_ret
        exact ⟨rfl, B2⟩
    · have g3 : 1099511627776 < at' := by omega
      skip
      clear h hg hF
      unfold Dsc at KF ⊢
      go_enter Tryd.func4, Tryd.ntmps4
      go_wp2_with fail
      have B0 := bl_alloc (Below.refl w.heap.size w) (.cells #[.bool nil, .int .i64 code, .bool has, .int .i64 at', .slice a len cap] 25)
      have R0 := heap_new_at w (.cells #[.bool nil, .int .i64 code, .bool has, .int .i64 at', .slice a len cap] 25) rfl
      refine (KF.out _ B0).mono ?_
      rintro e w1 ⟨rfl, b1⟩
      have B1 := bl_trans B0 b1
      have R1 := row_kept' b1 R0
      obtain ⟨c0, c1, c2, c3, c4⟩ := cells_five R1
      clear b1 R0 B0
      go_wp2_with fail
      refine (HA.out _ B1).mono ?_
      rintro e w2 ⟨rfl, b2⟩
      have B2 := bl_trans B1 b2
      clear b2 B1
      go_wp2
      go_ret
      exact ⟨rfl, B2⟩
  · have KF := hide (fun W (hb : Below w.heap.size w W) => few_no nil has code at' a len cap ss W (h.below (w1 := W) hb) hF)
    clear h hg hF
    unfold Dsc at KF ⊢
    go_enter Tryd.func4, Tryd.ntmps4
    go_wp2_with fail
    have B0 := bl_alloc (Below.refl w.heap.size w) (.cells #[.bool nil, .int .i64 code, .bool has, .int .i64 at', .slice a len cap] 25)
    have R0 := heap_new_at w (.cells #[.bool nil, .int .i64 code, .bool has, .int .i64 at', .slice a len cap] 25) rfl
    refine (KF.out _ B0).mono ?_
    rintro e w1 ⟨rfl, b1⟩
    have B1 := bl_trans B0 b1
    have R1 := row_kept' b1 R0
    obtain ⟨c0, c1, c2, c3, c4⟩ := cells_five R1
    clear b1 R0 B0
    go_wp2_with fail
    refine (HA.out _ B1).mono ?_
    rintro e w2 ⟨rfl, b2⟩
    have B2 := bl_trans B1 b2
    clear b2 B1
    go_wp2
    go_ret
    exact ⟨rfl, B2⟩
end Go.Proofs.YtgggnjgcbmpibaaDoor
