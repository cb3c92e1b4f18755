/- The walk of the law FaultWraps. -/
import Derived.Test.YtgggnjgcbmpibaaDoorFaultText
namespace Go.Proofs.YtgggnjgcbmpibaaDoor
open Go.RowKit

theorem unwrap_any (n : ByteArray) (y : Er) (w : World) : Calls Tryd.prog 26 #[(Er.w n y).v] w fun e w' => e = .returned y.v ∧ Below w.heap.size w w' := by
  have uN := hasUnN
  have mN := methodUnwrapN
  show Calls Tryd.prog 26 #[.iface 61 (.agg #[.string n, .iface y.tid y.dat])] w fun e w' => e = .returned (.iface y.tid y.dat) ∧ Below w.heap.size w w'
  go_enter Tryd.func26, Tryd.ntmps26
  go_wp2
  go_ret
  exact ⟨rfl, bl_alloc (Below.refl _ _) _⟩

set_option maxHeartbeats 4000000 in
theorem faultWraps_walk (nm : ByteArray) (nil has : Bool) (code at' : Int) (a : Option Addr) (len cap : Nat) (ss : List ByteArray) (w : World) (hs : nm.size ≤ maxLen) (h : Strs w a len ss) (hc : (Lit.int .i64 code).wf = true) (_ha : (Lit.int .i64 at').wf = true) (hg : Laid w) :
    Calls Tryd.prog 8 #[.string nm, Dsc nil has code at' a len cap] w fun e w' => e = .returned (.bool true) ∧ Below w.heap.size w w' := by
  have HA := hide (fun W (hb : Below w.heap.size w W) => alive_any W (hg.below hb))
  obtain ⟨v1, v2⟩ := i64_wf hc
  unfold maxLen at hs
  clear hc _ha
  by_cases hF : FewL ss len
  · have KF := hide (fun W (hb : Below w.heap.size w W) => few_yes nil has code at' a len cap ss W (h.below (w1 := W) hb) hF)
    by_cases g1 : nm.size ≤ 100
    · have j1 : (nm.size : Int) ≤ 100 := by omega
      cases nil with
      | true =>
        have KB := hide (fun W => build_nil has code at' a len cap W)
        have KW := hide (fun W => wrap_nil nm W)
        clear h hg hF
        unfold Dsc at KF KB ⊢
        go_enter Tryd.func8, Tryd.ntmps8
        go_wp2_with fail
        have B0 := bl_alloc (Below.refl w.heap.size w) (.cells #[.bool true, .int .i64 code, .bool has, .int .i64 at', .slice a len cap] 25)
        have R0 := heap_new_at w (.cells #[.bool true, .int .i64 code, .bool has, .int .i64 at', .slice a len cap] 25) rfl
        refine (KF.out _ B0).mono ?_
        rintro e w1 ⟨rfl, b1⟩
        have B1 := bl_trans B0 b1
        have R1 := row_kept' b1 R0
        obtain ⟨c0, c1, c2, c3, c4⟩ := cells_five R1
        clear b1 R0 B0
        go_wp2_with fail
        refine (KB.out _).mono ?_
        rintro e w2 ⟨rfl, b2⟩
        have B2 := bl_trans B1 b2
        have R2 := row_kept' b2 R1
        clear b2 R1 B1 c0 c1 c2 c3 c4
        obtain ⟨c0, c1, c2, c3, c4⟩ := cells_five R2
        go_wp2_with fail
        refine (KW.out _).mono ?_
        rintro e w3 ⟨rfl, rfl⟩
        go_wp2_with fail
        refine (HA.out _ B2).mono ?_
        rintro e w4 ⟨rfl, b4⟩
        have B4 := bl_trans B2 b4
        clear b4 B2
        go_wp2
        go_ret
        exact ⟨rfl, B4⟩
      | false =>
        have KB := hide (fun W hb => build_any has code at' a len cap ss W (h.below (w1 := W) hb))
        cases has with
        | true =>
          obtain ⟨y, ey⟩ : ∃ y, y = chn (bas true code at') ss len := ⟨_, rfl⟩
          have hy := chn_fine (bas true code at') ss len hF v2 (by rw [bas_txt]; exact errS_size code v2) len (Nat.le_refl _)
          rw [← ey] at hy KB
          have hl := hF.2
          have hxf : (Er.w nm y).fault = some (code, at') := by show y.fault = _; rw [ey, chn_fault]; rfl
          have hfine : (Er.w nm y).fine := ⟨by omega, by have := hy.2; omega, hy.1⟩
          have KT := hide (fun W => text_any (.w nm y) W hfine)
          have KR := hide (fun W hb => rtext_any false true code at' a len cap ss W (h.below (w1 := W) hb) hF v2)
          rw [← show y.txt = (chn (.e code) ss len).txt by rw [ey]; exact chn_txt _ _ ss (bas_txt _ _ _) len] at KR
          have KI := hide (fun W => is_any (.w nm y) code W)
          rw [show (Er.w nm y).has code = true by show y.has code = true; rw [ey, chn_has]; simp [bas, Er.has]] at KI
          have KW := hide (fun W => wrap_any nm y W)
          have KU := hide (fun W => unwrap_any nm y W)
          have KS := hide (fun W p hb hp => as_F (.w nm y) code at' p (.int .i64 0) (.int .i64 0) W (hg.below (w' := W) hb) hxf hp)
          have zT := hy.2
          have M := methodErrorN
          obtain ⟨T, eT⟩ : ∃ T, T = y.txt := ⟨_, rfl⟩
          have KT2 : Hid (∀ W, Calls Tryd.prog 57 #[.agg #[.string nm, .iface y.tid y.dat]] W fun e w' => e = .returned (.string (nm ++ ⟨#[58, 32]⟩ ++ T)) ∧ Below W.heap.size W w') := hide (fun W => by rw [eT]; exact KT.out W)
          rw [← eT] at KR zT
          have hn : (nm ++ ⟨#[58, 32]⟩ : ByteArray).size = nm.size + 2 := by rw [ByteArray.size_append]; rfl
          have C1 : ¬ 9223372036854775807 < nm.size + 2 := by omega
          have C2 : ¬ 9223372036854775807 < nm.size + 2 + T.size := by omega
          have hmx : Tryd.prog.follows .mixedOrders = true := by kernel_rfl
          clear h hg hF hxf hfine ey eT KT hy
          unfold Dsc at KF KB KR ⊢
          unfold Er.v at KB KW KI KU KS
          simp only [show ∀ n z, (Er.w n z).tid = 61 from fun _ _ => rfl, show ∀ n z, (Er.w n z).dat = .agg #[.string n, .iface z.tid z.dat] from fun _ _ => rfl] at KW KI KU KS
          go_enter Tryd.func8, Tryd.ntmps8
          go_wp2_with fail
          have B0 := bl_alloc (Below.refl w.heap.size w) (.cells #[.bool false, .int .i64 code, .bool true, .int .i64 at', .slice a len cap] 25)
          have R0 := heap_new_at w (.cells #[.bool false, .int .i64 code, .bool true, .int .i64 at', .slice a len cap] 25) rfl
          refine (KF.out _ B0).mono ?_
          rintro e w1 ⟨rfl, b1⟩
          have B1 := bl_trans B0 b1
          have R1 := row_kept' b1 R0
          obtain ⟨c0, c1, c2, c3, c4⟩ := cells_five R1
          clear b1 R0 B0
          go_wp2_with fail
          refine (KB.out _ B1).mono ?_
          rintro e w2 ⟨rfl, b2⟩
          have B2 := bl_trans B1 b2
          have R2 := row_kept' b2 R1
          clear b2 R1 B1 c0 c1 c2 c3 c4
          obtain ⟨c0, c1, c2, c3, c4⟩ := cells_five R2
          clear R2
          go_wp2_with fail
          refine (KW.out _).mono ?_
          rintro e w3 ⟨rfl, rfl⟩
          go_wp2_with fail
          go_region_held3 (fun w' => w'.cell? ⟨w.heap.size, 0, none⟩ = some (.bool false) ∧ w'.cell? ⟨w.heap.size, 1, none⟩ = some (.int .i64 code) ∧ w'.cell? ⟨w.heap.size, 2, none⟩ = some (.bool true) ∧ w'.cell? ⟨w.heap.size, 3, none⟩ = some (.int .i64 at') ∧ w'.cell? ⟨w.heap.size, 4, none⟩ = some (.slice a len cap) ∧ Below w.heap.size w w')
            (first | (go_split_ands; exact ⟨keep_cs hb (by assumption), keep_cs hb (by assumption), keep_cs hb (by assumption), keep_cs hb (by assumption), keep_cs hb (by assumption), bl_trans (by assumption) hb⟩) | (refine ⟨?_, ?_, ?_, ?_, ?_, ?_⟩ <;> first | assumption | (exact bl_drew (by assumption)) | (simp [*]; done)))
            (first
              | (go_at_call 17; refine (KR.out _ ?_).mono ?_; (first | assumption | (exact bl_drew (by assumption)) | (go_split_ands; assumption)); rintro e w6 ⟨rfl, hb⟩)
              | (go_at_call 22; refine (KI.out _).mono ?_; rintro e w6 ⟨rfl, hb⟩)
              | (go_at_call 57; refine (KT2.out _).mono ?_; rintro e w6 ⟨rfl, hb⟩))
          rename_i hH
          clear hb
          obtain ⟨W, eW⟩ : ∃ W, W = w6 := ⟨_, rfl⟩
          subst eW
          obtain ⟨c0, c1, c2, c3, c4, BW⟩ := hH
          clear KT2 KR KI
          have B5 := bl_alloc BW (.cells #[.int .i64 0, .int .i64 0] 40)
          have F5 := heap_new_at W (.cells #[.int .i64 0, .int .i64 0] 40) rfl
          have lW := BW.size
          obtain ⟨p, ep⟩ : ∃ p, p = W.heap.size := ⟨_, rfl⟩
          go_wp2_with fail
          refine (KS.out _ W.heap.size B5 F5).mono ?_
          rintro e w6 ⟨rfl, w7, b7, rfl⟩
          have B7 := bl_trans B5 b7
          have F7 := row_kept' b7 F5
          have F8 := heap_setCell_same _ _ 1 _ _ (.int .i64 at') (heap_setCell_same _ _ 0 _ _ (.int .i64 code) F7)
          have B8 := bl_set (bl_set B7 (p := ⟨W.heap.size, 0, none⟩) (by show w.heap.size ≤ W.heap.size; exact lW) (.int .i64 code)) (p := ⟨W.heap.size, 1, none⟩) (by show w.heap.size ≤ W.heap.size; exact lW) (.int .i64 at')
          have ne : w.heap.size ≠ W.heap.size := Nat.ne_of_lt (World.block_lt_of_cell? _ _ c0)
          have kc : ∀ i v, W.cell? ⟨w.heap.size, i, none⟩ = some v → ((w7.setCell ⟨W.heap.size, 0, none⟩ (.int .i64 code)).setCell ⟨W.heap.size, 1, none⟩ (.int .i64 at')).cell? ⟨w.heap.size, i, none⟩ = some v := by
            intro i v hcv
            rw [World.cell?_setCell_far _ _ _ _ (by exact fun e => ne e.symm), World.cell?_setCell_far _ _ _ _ (by exact fun e => ne e.symm)]
            exact keep_cs b7 ((World.cell?_alloc_lt _ _ _ (World.block_lt_of_cell? _ _ hcv)).trans hcv)
          have k0 := kc _ _ c0
          have k1 := kc _ _ c1
          have k2 := kc _ _ c2
          have k3 := kc _ _ c3
          have k4 := kc _ _ c4
          obtain ⟨X, eX⟩ : ∃ X, (w7.setCell ⟨W.heap.size, 0, none⟩ (.int .i64 code)).setCell ⟨W.heap.size, 1, none⟩ (.int .i64 at') = X := ⟨_, rfl⟩
          rw [eX] at F8 B8 k0 k1 k2 k3 k4 ⊢
          clear eX kc F7 F5 B7 B5 b7 c0 c1 c2 c3 c4 BW
          go_wp2_with fail
          refine (HA.out _ B8).mono ?_
          rintro e w9 ⟨rfl, b9⟩
          have B9 := bl_trans B8 b9
          have F9 := row_kept' b9 F8
          have c0 := keep_cs b9 k0
          have c1 := keep_cs b9 k1
          have c2 := keep_cs b9 k2
          have c3 := keep_cs b9 k3
          have f0 : w9.cell? ⟨W.heap.size, 0, none⟩ = some (.int .i64 code) := by simp [World.cell?, F9]
          have f1 : w9.cell? ⟨W.heap.size, 1, none⟩ = some (.int .i64 at') := by simp [World.cell?, F9]
          clear b9 F8 F9 B8 k0 k1 k2 k3 k4
          go_wp2_with fail
          refine (KU.out _).mono ?_
          rintro e wa ⟨rfl, ba⟩
          have Ba := bl_trans B9 ba
          clear ba
          go_wp2
          go_ret
          exact ⟨rfl, Ba⟩
        | false =>
          obtain ⟨y, ey⟩ : ∃ y, y = chn (bas false code at') ss len := ⟨_, rfl⟩
          have hy := chn_fine (bas false code at') ss len hF v2 (by rw [bas_txt]; exact errS_size code v2) len (Nat.le_refl _)
          rw [← ey] at hy KB
          have hl := hF.2
          have hxf : (Er.w nm y).fault = none := by show y.fault = _; rw [ey, chn_fault]; rfl
          have hfine : (Er.w nm y).fine := ⟨by omega, by have := hy.2; omega, hy.1⟩
          have KT := hide (fun W => text_any (.w nm y) W hfine)
          have KR := hide (fun W hb => rtext_any false false code at' a len cap ss W (h.below (w1 := W) hb) hF v2)
          rw [← show y.txt = (chn (.e code) ss len).txt by rw [ey]; exact chn_txt _ _ ss (bas_txt _ _ _) len] at KR
          have KI := hide (fun W => is_any (.w nm y) code W)
          rw [show (Er.w nm y).has code = true by show y.has code = true; rw [ey, chn_has]; simp [bas, Er.has]] at KI
          have KW := hide (fun W => wrap_any nm y W)
          have KU := hide (fun W => unwrap_any nm y W)
          have KS := hide (fun W t hb => as_F_no (.w nm y) t W (hg.below (w' := W) hb) hxf)
          have zT := hy.2
          have M := methodErrorN
          obtain ⟨T, eT⟩ : ∃ T, T = y.txt := ⟨_, rfl⟩
          have KT2 : Hid (∀ W, Calls Tryd.prog 57 #[.agg #[.string nm, .iface y.tid y.dat]] W fun e w' => e = .returned (.string (nm ++ ⟨#[58, 32]⟩ ++ T)) ∧ Below W.heap.size W w') := hide (fun W => by rw [eT]; exact KT.out W)
          rw [← eT] at KR zT
          have hn : (nm ++ ⟨#[58, 32]⟩ : ByteArray).size = nm.size + 2 := by rw [ByteArray.size_append]; rfl
          have C1 : ¬ 9223372036854775807 < nm.size + 2 := by omega
          have C2 : ¬ 9223372036854775807 < nm.size + 2 + T.size := by omega
          have hmx : Tryd.prog.follows .mixedOrders = true := by kernel_rfl
          clear h hg hF hxf hfine ey eT KT hy
          unfold Dsc at KF KB KR ⊢
          unfold Er.v at KB KW KI KU KS
          simp only [show ∀ n z, (Er.w n z).tid = 61 from fun _ _ => rfl, show ∀ n z, (Er.w n z).dat = .agg #[.string n, .iface z.tid z.dat] from fun _ _ => rfl] at KW KI KU KS
          go_enter Tryd.func8, Tryd.ntmps8
          go_wp2_with fail
          have B0 := bl_alloc (Below.refl w.heap.size w) (.cells #[.bool false, .int .i64 code, .bool false, .int .i64 at', .slice a len cap] 25)
          have R0 := heap_new_at w (.cells #[.bool false, .int .i64 code, .bool false, .int .i64 at', .slice a len cap] 25) rfl
          refine (KF.out _ B0).mono ?_
          rintro e w1 ⟨rfl, b1⟩
          have B1 := bl_trans B0 b1
          have R1 := row_kept' b1 R0
          obtain ⟨c0, c1, c2, c3, c4⟩ := cells_five R1
          clear b1 R0 B0
          go_wp2_with fail
          refine (KB.out _ B1).mono ?_
          rintro e w2 ⟨rfl, b2⟩
          have B2 := bl_trans B1 b2
          have R2 := row_kept' b2 R1
          clear b2 R1 B1 c0 c1 c2 c3 c4
          obtain ⟨c0, c1, c2, c3, c4⟩ := cells_five R2
          clear R2
          go_wp2_with fail
          refine (KW.out _).mono ?_
          rintro e w3 ⟨rfl, rfl⟩
          go_wp2_with fail
          go_region_held3 (fun w' => w'.cell? ⟨w.heap.size, 0, none⟩ = some (.bool false) ∧ w'.cell? ⟨w.heap.size, 1, none⟩ = some (.int .i64 code) ∧ w'.cell? ⟨w.heap.size, 2, none⟩ = some (.bool false) ∧ w'.cell? ⟨w.heap.size, 3, none⟩ = some (.int .i64 at') ∧ w'.cell? ⟨w.heap.size, 4, none⟩ = some (.slice a len cap) ∧ Below w.heap.size w w')
            (first | (go_split_ands; exact ⟨keep_cs hb (by assumption), keep_cs hb (by assumption), keep_cs hb (by assumption), keep_cs hb (by assumption), keep_cs hb (by assumption), bl_trans (by assumption) hb⟩) | (refine ⟨?_, ?_, ?_, ?_, ?_, ?_⟩ <;> first | assumption | (exact bl_drew (by assumption)) | (simp [*]; done)))
            (first
              | (go_at_call 17; refine (KR.out _ ?_).mono ?_; (first | assumption | (exact bl_drew (by assumption)) | (go_split_ands; assumption)); rintro e w6 ⟨rfl, hb⟩)
              | (go_at_call 22; refine (KI.out _).mono ?_; rintro e w6 ⟨rfl, hb⟩)
              | (go_at_call 57; refine (KT2.out _).mono ?_; rintro e w6 ⟨rfl, hb⟩))
          rename_i hH
          clear hb
          obtain ⟨W, eW⟩ : ∃ W, W = w6 := ⟨_, rfl⟩
          subst eW
          obtain ⟨c0, c1, c2, c3, c4, BW⟩ := hH
          clear KT2 KR KI
          have B5 := bl_alloc BW (.cells #[.int .i64 0, .int .i64 0] 40)
          have d2 := (World.cell?_alloc_lt W (.cells #[.int .i64 0, .int .i64 0] 40) ⟨w.heap.size, 2, none⟩ (World.block_lt_of_cell? _ _ c2)).trans c2
          go_wp2_with fail
          refine (KS.out _ _ B5).mono ?_
          rintro e w6 ⟨rfl, b6⟩
          have B6 := bl_trans B5 b6
          have d2 := keep_cs b6 d2
          clear b6 B5 BW c0 c1 c2 c3 c4
          go_wp2_with fail
          refine (HA.out _ B6).mono ?_
          rintro e w7 ⟨rfl, b7⟩
          have B7 := bl_trans B6 b7
          have d2 := keep_cs b7 d2
          clear b7 B6
          go_wp2_with fail
          refine (KU.out _).mono ?_
          rintro e w8 ⟨rfl, b8⟩
          have B8 := bl_trans B7 b8
          clear b8
          go_wp2
          go_ret
          exact ⟨rfl, B8⟩
    · have j1 : 100 < (nm.size : Int) := by omega
      clear h hg hF
      unfold Dsc at KF ⊢
      go_enter Tryd.func8, Tryd.ntmps8
      go_wp2_with fail
      have B0 := bl_alloc (Below.refl w.heap.size w) (.cells #[.bool nil, .int .i64 code, .bool has, .int .i64 at', .slice a len cap] 25)
      have R0 := heap_new_at w (.cells #[.bool nil, .int .i64 code, .bool has, .int .i64 at', .slice a len cap] 25) rfl
      refine (KF.out _ B0).mono ?_
      rintro e w1 ⟨rfl, b1⟩
      have B1 := bl_trans B0 b1
      have R1 := row_kept' b1 R0
      obtain ⟨c0, c1, c2, c3, c4⟩ := cells_five R1
      clear b1 R0 B0
      go_wp2_with fail
      refine (HA.out _ B1).mono ?_
      rintro e w2 ⟨rfl, b2⟩
      have B2 := bl_trans B1 b2
      clear b2 B1
      go_wp2
      go_ret
      exact ⟨rfl, B2⟩
  · have KF := hide (fun W (hb : Below w.heap.size w W) => few_no nil has code at' a len cap ss W (h.below (w1 := W) hb) hF)
    clear h hg hF
    unfold Dsc at KF ⊢
    go_enter Tryd.func8, Tryd.ntmps8
    go_wp2_with fail
    have B0 := bl_alloc (Below.refl w.heap.size w) (.cells #[.bool nil, .int .i64 code, .bool has, .int .i64 at', .slice a len cap] 25)
    have R0 := heap_new_at w (.cells #[.bool nil, .int .i64 code, .bool has, .int .i64 at', .slice a len cap] 25) rfl
    refine (KF.out _ B0).mono ?_
    rintro e w1 ⟨rfl, b1⟩
    have B1 := bl_trans B0 b1
    have R1 := row_kept' b1 R0
    obtain ⟨c0, c1, c2, c3, c4⟩ := cells_five R1
    clear b1 R0 B0
    go_wp2_with fail
    refine (HA.out _ B1).mono ?_
    rintro e w2 ⟨rfl, b2⟩
    have B2 := bl_trans B1 b2
    clear b2 B1
    go_wp2
    go_ret
    exact ⟨rfl, B2⟩
end Go.Proofs.YtgggnjgcbmpibaaDoor
