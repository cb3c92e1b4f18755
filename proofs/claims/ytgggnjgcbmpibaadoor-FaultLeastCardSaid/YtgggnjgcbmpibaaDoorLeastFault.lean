/- fault.Least over a row of errors. -/
import Derived.Test.YtgggnjgcbmpibaaDoorLeastPlain
import Derived.Test.YtgggnjgcbmpibaaDoorFaultText
namespace Go.Proofs.YtgggnjgcbmpibaaDoor
open Go.RowKit

theorem cells_two {w : World} {b : Nat} {x y : Value} {t : TypeId} (h : w.heap[b]? = some (.cells #[x, y] t (0, 0))) : w.cell? ⟨b, 0, none⟩ = some x ∧ w.cell? ⟨b, 1, none⟩ = some y :=
  ⟨by simp [World.cell?, h], by simp [World.cell?, h]⟩
theorem frs_new {rs : List Rec} {k : Nat} (h : frs rs k < 0) (hn : (nth rs k).nil = false) : frs rs (k + 1) = k := if_pos ⟨h, hn⟩
theorem frs_old {rs : List Rec} {k : Nat} (h : ¬ frs rs k < 0) : frs rs (k + 1) = frs rs k := if_neg fun g => h g.1
theorem frs_nil {rs : List Rec} {k : Nat} (h : (nth rs k).nil = true) : frs rs (k + 1) = frs rs k := if_neg fun g => by rw [h] at g; cases g.2
theorem bst_new {rs : List Rec} {k : Nat} (hn : (nth rs k).nil = false) (hh : (nth rs k).has = true) (h : bst rs k < 0 ∨ (nth rs k).at' < (nth rs (bst rs k).toNat).at') : bst rs (k + 1) = k := if_pos ⟨hn, hh, h⟩
theorem bst_old {rs : List Rec} {k : Nat} (h : (nth rs k).nil = true ∨ (nth rs k).has = false ∨ (¬ bst rs k < 0 ∧ ¬ (nth rs k).at' < (nth rs (bst rs k).toNat).at')) : bst rs (k + 1) = bst rs k := by
  refine if_neg fun g => ?_
  rcases h with h | h | h
  · rw [h] at g; cases g.1
  · rw [h] at g; cases g.2.1
  · rcases g.2.2 with g | g
    · exact h.1 g
    · exact h.2 g
/-- A row of errors. -/
def EvRow (w : World) (a : Option Addr) (len : Nat) (rs : List Rec) : Prop := ∀ i, i < len → ∃ b off, a = some ⟨b, off, none⟩ ∧ b < w.heap.size ∧ w.cell? ⟨b, off + i, none⟩ = some (ev (nth rs i))
theorem EvRow.below {w w1 : World} {a : Option Addr} {len : Nat} {rs : List Rec} (h : EvRow w a len rs) (hb : Below w.heap.size w w1) : EvRow w1 a len rs := by
  intro i hi
  obtain ⟨b, off, e, hl, hc⟩ := h i hi
  have := (hb.block b hl)
  have hs := hb.size
  exact ⟨b, off, e, by omega, keep_cell hb hl hc⟩

set_option maxHeartbeats 6400000 in
theorem fleast_any (a : Option Addr) (len cap : Nat) (rs : List Rec) (w : World) (h : EvRow w a len rs) (hm : len ≤ 1000000) (hg : Laid w) :
    Calls Tryd.prog 18 #[.slice a len cap] w fun e w' => e = .returned (vi rs (least rs len)) ∧ Below w.heap.size w w' := by
  have H := hide h
  clear h
  go_enter Tryd.func18, Tryd.ntmps18
  go_wp2_with fail
  go_loopw [3, 4, 13] (fun bs fs c wr => ∃ k : Nat, k ≤ len ∧ c = .int .i64 k ∧ bs = vi rs (bst rs k) ∧ fs = vi rs (frs rs k) ∧ Below w.heap.size w wr)
    (fun _ _ c _ => len - (intOf c).toNat)
  case atStart => exact ⟨0, Nat.zero_le _, rfl, rfl, rfl, Below.refl _ _⟩
  case round =>
    obtain ⟨k, hk, rfl, rfl, rfl, B⟩ := hrel
    by_cases hlt : k < len
    · obtain ⟨b, off, rfl, hbl, hc1⟩ := (H.out.below B) k hlt
      have i0 : (0 : Int) ≤ (k : Int) := by omega
      have i1 : (k : Int) < (len : Int) := by omega
      by_cases hn0 : (nth rs k).nil = true
      · rw [ev_nil hn0] at hc1
        have e1 := hide (bst_old (rs := rs) (k := k) (.inl hn0))
        have e2 := hide (frs_nil hn0)
        obtain ⟨vb, hvb⟩ : ∃ v, vi rs (bst rs k) = v := ⟨_, rfl⟩
        obtain ⟨vf, hvf⟩ : ∃ v, vi rs (frs rs k) = v := ⟨_, rfl⟩
        rw [hvb, hvf]
        go_wp2
        go_roundw
        case rel => exact ⟨k + 1, by omega, by go_num, by rw [e1.out, hvb], by rw [e2.out, hvf], B⟩
        case measure => simp [intOf]; omega
      have hn : (nth rs k).nil = false := by simpa using hn0
      rw [ev_er hn] at hc1
      obtain ⟨T, d, eT⟩ : ∃ T d, (er (nth rs k)).v = .iface T d := ⟨_, _, rfl⟩
      rw [eT] at hc1
      clear hn0
      by_cases gf : frs rs k < 0
      · -- frs none
        rw [vi_neg gf]
        by_cases hh : (nth rs k).has = true
        · have K1 := hide (fun W hW => find_yes (er (nth rs k)) (nth rs k).code (nth rs k).at' W hW (er_fault_yes hh))
          rw [eT] at K1
          obtain ⟨an, ea⟩ : ∃ x, x = (nth rs k).at' := ⟨_, rfl⟩
          obtain ⟨co, ec⟩ : ∃ x, x = (nth rs k).code := ⟨_, rfl⟩
          rw [← ea, ← ec] at K1
          clear ec
          by_cases gb : bst rs k < 0
          · have K2 : Hid (∀ W, Laid W → _) := hide (fun W (_ : Laid W) => find_nil W)
            have en := hide (bst_new hn hh (.inl gb))
            rw [vi_neg gb]
            clear ea gb
            go_wp2_with fail
            refine (K1.out _ (hg.below B)).mono ?_
            rintro e w1 ⟨rfl, b1⟩
            have B1 := bl_trans B b1
            have R1 := heap_new_at w1 (.cells #[.int .i64 co, .int .i64 an] 40) rfl
            have B2 := bl_alloc B1 (.cells #[.int .i64 co, .int .i64 an] 40)
            clear b1
            go_wp2_with fail
            refine (K2.out _ (hg.below B2)).mono ?_
            rintro e w2 ⟨rfl, b2⟩
            have B3 := bl_trans B2 b2
            have R3 := row_kept' b2 R1
            obtain ⟨f0, f1⟩ := cells_two R3
            have g1 := keep_cs (bl_alloc (Below.refl w2.heap.size w2) (.cells #[.int .i64 0, .int .i64 0] 40)) f1
            have g2 : (w2.alloc (.cells #[.int .i64 0, .int .i64 0] 40)).cell? ⟨w2.heap.size, 1, none⟩ = some (.int .i64 0) := by simp
            clear R3 f0 f1
            have B4 := hide (bl_alloc B3 (.cells #[.int .i64 0, .int .i64 0] 40))
            clear b2 R1 B1 B2 B3
            go_wp2
            go_roundw
            case rel => exact ⟨k + 1, by omega, by go_num, by rw [en.out, vi_nat, ev_er hn, eT], by rw [frs_new gf hn, vi_nat, ev_er hn, eT], B4.out⟩
            case measure => simp [intOf]; omega
          · obtain ⟨hbn, hbh⟩ := bst_is rs k (by omega)
            obtain ⟨s, es⟩ : ∃ s, nth rs (bst rs k).toNat = s := ⟨_, rfl⟩
            rw [es] at hbn hbh
            have K2 := hide (fun W hW => find_yes (er s) s.code s.at' W hW (er_fault_yes hbh))
            have ev2 : vi rs (bst rs k) = (er s).v := by rw [vi_pos (by omega) (by rw [es]; exact hbn), es]
            obtain ⟨T2, d2, eT2⟩ : ∃ T d, (er s).v = .iface T d := ⟨_, _, rfl⟩
            rw [eT2] at K2 ev2
            obtain ⟨ab, eb⟩ : ∃ x, x = s.at' := ⟨_, rfl⟩
            obtain ⟨cb, ecb⟩ : ∃ x, x = s.code := ⟨_, rfl⟩
            rw [← eb, ← ecb] at K2
            clear ecb eT2
            by_cases hl : an < ab
            · have en := hide (bst_new hn hh (.inr (by rw [es, ← eb]; show (nth rs k).at' < ab; rw [← ea]; exact hl)))
              rw [ev2]
              clear ea eb es hbn hbh
              go_wp2_with fail
              refine (K1.out _ (hg.below B)).mono ?_
              rintro e w1 ⟨rfl, b1⟩
              have B1 := bl_trans B b1
              have R1 := heap_new_at w1 (.cells #[.int .i64 co, .int .i64 an] 40) rfl
              have B2 := bl_alloc B1 (.cells #[.int .i64 co, .int .i64 an] 40)
              clear b1
              go_wp2_with fail
              refine (K2.out _ (hg.below B2)).mono ?_
              rintro e w2 ⟨rfl, b2⟩
              have B3 := bl_trans B2 b2
              have R3 := row_kept' b2 R1
              obtain ⟨f0, f1⟩ := cells_two R3
              have g1 := keep_cs (bl_alloc (Below.refl w2.heap.size w2) (.cells #[.int .i64 cb, .int .i64 ab] 40)) f1
              have g2 : (w2.alloc (.cells #[.int .i64 cb, .int .i64 ab] 40)).cell? ⟨w2.heap.size, 1, none⟩ = some (.int .i64 ab) := by simp
              clear R3 f0 f1
              have B4 := hide (bl_alloc B3 (.cells #[.int .i64 cb, .int .i64 ab] 40))
              clear b2 R1 B1 B2 B3
              go_wp2
              go_roundw
              case rel => exact ⟨k + 1, by omega, by go_num, by rw [en.out, vi_nat, ev_er hn, eT], by rw [frs_new gf hn, vi_nat, ev_er hn, eT], B4.out⟩
              case measure => simp [intOf]; omega
            · have en := hide (bst_old (rs := rs) (k := k) (.inr (.inr ⟨gb, by rw [es, ← eb]; show ¬ (nth rs k).at' < ab; rw [← ea]; exact hl⟩)))
              rw [ev2]
              clear ea eb es hbn hbh
              go_wp2_with fail
              refine (K1.out _ (hg.below B)).mono ?_
              rintro e w1 ⟨rfl, b1⟩
              have B1 := bl_trans B b1
              have R1 := heap_new_at w1 (.cells #[.int .i64 co, .int .i64 an] 40) rfl
              have B2 := bl_alloc B1 (.cells #[.int .i64 co, .int .i64 an] 40)
              clear b1
              go_wp2_with fail
              refine (K2.out _ (hg.below B2)).mono ?_
              rintro e w2 ⟨rfl, b2⟩
              have B3 := bl_trans B2 b2
              have R3 := row_kept' b2 R1
              obtain ⟨f0, f1⟩ := cells_two R3
              have g1 := keep_cs (bl_alloc (Below.refl w2.heap.size w2) (.cells #[.int .i64 cb, .int .i64 ab] 40)) f1
              have g2 : (w2.alloc (.cells #[.int .i64 cb, .int .i64 ab] 40)).cell? ⟨w2.heap.size, 1, none⟩ = some (.int .i64 ab) := by simp
              clear R3 f0 f1
              have B4 := hide (bl_alloc B3 (.cells #[.int .i64 cb, .int .i64 ab] 40))
              clear b2 R1 B1 B2 B3
              go_wp2
              go_roundw
              case rel => exact ⟨k + 1, by omega, by go_num, by rw [en.out, ev2], by rw [frs_new gf hn, vi_nat, ev_er hn, eT], B4.out⟩
              case measure => simp [intOf]; omega
        · have hh2 : (nth rs k).has = false := by simpa using hh
          have K1 := hide (fun W hW => find_no (er (nth rs k)) W hW (er_fault_no hh2))
          rw [eT] at K1
          have en := hide (bst_old (rs := rs) (k := k) (.inr (.inl hh2)))
          by_cases gb : bst rs k < 0
          · have K2 : Hid (∀ W, Laid W → _) := hide (fun W (_ : Laid W) => find_nil W)
            rw [vi_neg gb]
            go_wp2_with fail
            refine (K1.out _ (hg.below B)).mono ?_
            rintro e w1 ⟨rfl, b1⟩
            have B1 := bl_trans B b1
            have R1 := heap_new_at w1 (.cells #[.int .i64 0, .int .i64 0] 40) rfl
            have B2 := bl_alloc B1 (.cells #[.int .i64 0, .int .i64 0] 40)
            clear b1
            go_wp2_with fail
            refine (K2.out _ (hg.below B2)).mono ?_
            rintro e w2 ⟨rfl, b2⟩
            have B3 := bl_trans B2 b2
            have B4 := hide (bl_alloc B3 (.cells #[.int .i64 0, .int .i64 0] 40))
            clear b2 R1 B1 B2 B3
            go_wp2
            go_roundw
            case rel => exact ⟨k + 1, by omega, by go_num, by rw [en.out, vi_neg gb], by rw [frs_new gf hn, vi_nat, ev_er hn, eT], B4.out⟩
            case measure => simp [intOf]; omega
          · obtain ⟨hbn, hbh⟩ := bst_is rs k (by omega)
            obtain ⟨s, es⟩ : ∃ s, nth rs (bst rs k).toNat = s := ⟨_, rfl⟩
            rw [es] at hbn hbh
            have K2 := hide (fun W hW => find_yes (er s) s.code s.at' W hW (er_fault_yes hbh))
            have ev2 : vi rs (bst rs k) = (er s).v := by rw [vi_pos (by omega) (by rw [es]; exact hbn), es]
            obtain ⟨T2, d2, eT2⟩ : ∃ T d, (er s).v = .iface T d := ⟨_, _, rfl⟩
            rw [eT2] at K2 ev2
            obtain ⟨ab, eb⟩ : ∃ x, x = s.at' := ⟨_, rfl⟩
            obtain ⟨cb, ecb⟩ : ∃ x, x = s.code := ⟨_, rfl⟩
            rw [← eb, ← ecb] at K2
            rw [ev2]
            clear eb ecb eT2
            go_wp2_with fail
            refine (K1.out _ (hg.below B)).mono ?_
            rintro e w1 ⟨rfl, b1⟩
            have B1 := bl_trans B b1
            have R1 := heap_new_at w1 (.cells #[.int .i64 0, .int .i64 0] 40) rfl
            have B2 := bl_alloc B1 (.cells #[.int .i64 0, .int .i64 0] 40)
            clear b1
            go_wp2_with fail
            refine (K2.out _ (hg.below B2)).mono ?_
            rintro e w2 ⟨rfl, b2⟩
            have B3 := bl_trans B2 b2
            have B4 := hide (bl_alloc B3 (.cells #[.int .i64 cb, .int .i64 ab] 40))
            clear b2 R1 B1 B2 B3
            go_wp2
            go_roundw
            case rel => exact ⟨k + 1, by omega, by go_num, by rw [en.out, ev2], by rw [frs_new gf hn, vi_nat, ev_er hn, eT], B4.out⟩
            case measure => simp [intOf]; omega
      · -- frs there
        obtain ⟨T1, d1, eT1⟩ : ∃ T d, vi rs (frs rs k) = .iface T d := by rw [vi_pos (by omega) (frs_is rs k (by omega))]; exact ⟨_, _, rfl⟩
        rw [eT1]
        by_cases hh : (nth rs k).has = true
        · have K1 := hide (fun W hW => find_yes (er (nth rs k)) (nth rs k).code (nth rs k).at' W hW (er_fault_yes hh))
          rw [eT] at K1
          obtain ⟨an, ea⟩ : ∃ x, x = (nth rs k).at' := ⟨_, rfl⟩
          obtain ⟨co, ec⟩ : ∃ x, x = (nth rs k).code := ⟨_, rfl⟩
          rw [← ea, ← ec] at K1
          clear ec
          by_cases gb : bst rs k < 0
          · have K2 : Hid (∀ W, Laid W → _) := hide (fun W (_ : Laid W) => find_nil W)
            have en := hide (bst_new hn hh (.inl gb))
            rw [vi_neg gb]
            clear ea gb
            go_wp2_with fail
            refine (K1.out _ (hg.below B)).mono ?_
            rintro e w1 ⟨rfl, b1⟩
            have B1 := bl_trans B b1
            have R1 := heap_new_at w1 (.cells #[.int .i64 co, .int .i64 an] 40) rfl
            have B2 := bl_alloc B1 (.cells #[.int .i64 co, .int .i64 an] 40)
            clear b1
            go_wp2_with fail
            refine (K2.out _ (hg.below B2)).mono ?_
            rintro e w2 ⟨rfl, b2⟩
            have B3 := bl_trans B2 b2
            have R3 := row_kept' b2 R1
            obtain ⟨f0, f1⟩ := cells_two R3
            have g1 := keep_cs (bl_alloc (Below.refl w2.heap.size w2) (.cells #[.int .i64 0, .int .i64 0] 40)) f1
            have g2 : (w2.alloc (.cells #[.int .i64 0, .int .i64 0] 40)).cell? ⟨w2.heap.size, 1, none⟩ = some (.int .i64 0) := by simp
            clear R3 f0 f1
            have B4 := hide (bl_alloc B3 (.cells #[.int .i64 0, .int .i64 0] 40))
            clear b2 R1 B1 B2 B3
            go_wp2
            go_roundw
            case rel => exact ⟨k + 1, by omega, by go_num, by rw [en.out, vi_nat, ev_er hn, eT], by rw [frs_old (by omega), eT1], B4.out⟩
            case measure => simp [intOf]; omega
          · obtain ⟨hbn, hbh⟩ := bst_is rs k (by omega)
            obtain ⟨s, es⟩ : ∃ s, nth rs (bst rs k).toNat = s := ⟨_, rfl⟩
            rw [es] at hbn hbh
            have K2 := hide (fun W hW => find_yes (er s) s.code s.at' W hW (er_fault_yes hbh))
            have ev2 : vi rs (bst rs k) = (er s).v := by rw [vi_pos (by omega) (by rw [es]; exact hbn), es]
            obtain ⟨T2, d2, eT2⟩ : ∃ T d, (er s).v = .iface T d := ⟨_, _, rfl⟩
            rw [eT2] at K2 ev2
            obtain ⟨ab, eb⟩ : ∃ x, x = s.at' := ⟨_, rfl⟩
            obtain ⟨cb, ecb⟩ : ∃ x, x = s.code := ⟨_, rfl⟩
            rw [← eb, ← ecb] at K2
            clear ecb eT2
            by_cases hl : an < ab
            · have en := hide (bst_new hn hh (.inr (by rw [es, ← eb]; show (nth rs k).at' < ab; rw [← ea]; exact hl)))
              rw [ev2]
              clear ea eb es hbn hbh
              go_wp2_with fail
              refine (K1.out _ (hg.below B)).mono ?_
              rintro e w1 ⟨rfl, b1⟩
              have B1 := bl_trans B b1
              have R1 := heap_new_at w1 (.cells #[.int .i64 co, .int .i64 an] 40) rfl
              have B2 := bl_alloc B1 (.cells #[.int .i64 co, .int .i64 an] 40)
              clear b1
              go_wp2_with fail
              refine (K2.out _ (hg.below B2)).mono ?_
              rintro e w2 ⟨rfl, b2⟩
              have B3 := bl_trans B2 b2
              have R3 := row_kept' b2 R1
              obtain ⟨f0, f1⟩ := cells_two R3
              have g1 := keep_cs (bl_alloc (Below.refl w2.heap.size w2) (.cells #[.int .i64 cb, .int .i64 ab] 40)) f1
              have g2 : (w2.alloc (.cells #[.int .i64 cb, .int .i64 ab] 40)).cell? ⟨w2.heap.size, 1, none⟩ = some (.int .i64 ab) := by simp
              clear R3 f0 f1
              have B4 := hide (bl_alloc B3 (.cells #[.int .i64 cb, .int .i64 ab] 40))
              clear b2 R1 B1 B2 B3
              go_wp2
              go_roundw
              case rel => exact ⟨k + 1, by omega, by go_num, by rw [en.out, vi_nat, ev_er hn, eT], by rw [frs_old (by omega), eT1], B4.out⟩
              case measure => simp [intOf]; omega
            · have en := hide (bst_old (rs := rs) (k := k) (.inr (.inr ⟨gb, by rw [es, ← eb]; show ¬ (nth rs k).at' < ab; rw [← ea]; exact hl⟩)))
              rw [ev2]
              clear ea eb es hbn hbh
              go_wp2_with fail
              refine (K1.out _ (hg.below B)).mono ?_
              rintro e w1 ⟨rfl, b1⟩
              have B1 := bl_trans B b1
              have R1 := heap_new_at w1 (.cells #[.int .i64 co, .int .i64 an] 40) rfl
              have B2 := bl_alloc B1 (.cells #[.int .i64 co, .int .i64 an] 40)
              clear b1
              go_wp2_with fail
              refine (K2.out _ (hg.below B2)).mono ?_
              rintro e w2 ⟨rfl, b2⟩
              have B3 := bl_trans B2 b2
              have R3 := row_kept' b2 R1
              obtain ⟨f0, f1⟩ := cells_two R3
              have g1 := keep_cs (bl_alloc (Below.refl w2.heap.size w2) (.cells #[.int .i64 cb, .int .i64 ab] 40)) f1
              have g2 : (w2.alloc (.cells #[.int .i64 cb, .int .i64 ab] 40)).cell? ⟨w2.heap.size, 1, none⟩ = some (.int .i64 ab) := by simp
              clear R3 f0 f1
              have B4 := hide (bl_alloc B3 (.cells #[.int .i64 cb, .int .i64 ab] 40))
              clear b2 R1 B1 B2 B3
              go_wp2
              go_roundw
              case rel => exact ⟨k + 1, by omega, by go_num, by rw [en.out, ev2], by rw [frs_old (by omega), eT1], B4.out⟩
              case measure => simp [intOf]; omega
        · have hh2 : (nth rs k).has = false := by simpa using hh
          have K1 := hide (fun W hW => find_no (er (nth rs k)) W hW (er_fault_no hh2))
          rw [eT] at K1
          have en := hide (bst_old (rs := rs) (k := k) (.inr (.inl hh2)))
          by_cases gb : bst rs k < 0
          · have K2 : Hid (∀ W, Laid W → _) := hide (fun W (_ : Laid W) => find_nil W)
            rw [vi_neg gb]
            go_wp2_with fail
            refine (K1.out _ (hg.below B)).mono ?_
            rintro e w1 ⟨rfl, b1⟩
            have B1 := bl_trans B b1
            have R1 := heap_new_at w1 (.cells #[.int .i64 0, .int .i64 0] 40) rfl
            have B2 := bl_alloc B1 (.cells #[.int .i64 0, .int .i64 0] 40)
            clear b1
            go_wp2_with fail
            refine (K2.out _ (hg.below B2)).mono ?_
            rintro e w2 ⟨rfl, b2⟩
            have B3 := bl_trans B2 b2
            have B4 := hide (bl_alloc B3 (.cells #[.int .i64 0, .int .i64 0] 40))
            clear b2 R1 B1 B2 B3
            go_wp2
            go_roundw
            case rel => exact ⟨k + 1, by omega, by go_num, by rw [en.out, vi_neg gb], by rw [frs_old (by omega), eT1], B4.out⟩
            case measure => simp [intOf]; omega
          · obtain ⟨hbn, hbh⟩ := bst_is rs k (by omega)
            obtain ⟨s, es⟩ : ∃ s, nth rs (bst rs k).toNat = s := ⟨_, rfl⟩
            rw [es] at hbn hbh
            have K2 := hide (fun W hW => find_yes (er s) s.code s.at' W hW (er_fault_yes hbh))
            have ev2 : vi rs (bst rs k) = (er s).v := by rw [vi_pos (by omega) (by rw [es]; exact hbn), es]
            obtain ⟨T2, d2, eT2⟩ : ∃ T d, (er s).v = .iface T d := ⟨_, _, rfl⟩
            rw [eT2] at K2 ev2
            obtain ⟨ab, eb⟩ : ∃ x, x = s.at' := ⟨_, rfl⟩
            obtain ⟨cb, ecb⟩ : ∃ x, x = s.code := ⟨_, rfl⟩
            rw [← eb, ← ecb] at K2
            rw [ev2]
            clear eb ecb eT2
            go_wp2_with fail
            refine (K1.out _ (hg.below B)).mono ?_
            rintro e w1 ⟨rfl, b1⟩
            have B1 := bl_trans B b1
            have R1 := heap_new_at w1 (.cells #[.int .i64 0, .int .i64 0] 40) rfl
            have B2 := bl_alloc B1 (.cells #[.int .i64 0, .int .i64 0] 40)
            clear b1
            go_wp2_with fail
            refine (K2.out _ (hg.below B2)).mono ?_
            rintro e w2 ⟨rfl, b2⟩
            have B3 := bl_trans B2 b2
            have B4 := hide (bl_alloc B3 (.cells #[.int .i64 cb, .int .i64 ab] 40))
            clear b2 R1 B1 B2 B3
            go_wp2
            go_roundw
            case rel => exact ⟨k + 1, by omega, by go_num, by rw [en.out, ev2], by rw [frs_old (by omega), eT1], B4.out⟩
            case measure => simp [intOf]; omega
    · have : k = len := by omega
      subst this
      by_cases gb : bst rs k < 0
      · have e1 := hide (show least rs k = frs rs k from if_pos gb)
        rw [vi_neg gb]
        obtain ⟨vf, hvf⟩ : ∃ v, vi rs (frs rs k) = v := ⟨_, rfl⟩
        rw [hvf]
        go_wp2
        go_ret
        exact ⟨by rw [e1.out, hvf] <;> rfl, B⟩
      · have e1 := hide (show least rs k = bst rs k from if_neg gb)
        obtain ⟨T1, d1, eT1⟩ : ∃ T d, vi rs (bst rs k) = .iface T d := by rw [vi_pos (by omega) (bst_is rs k (by omega)).1]; exact ⟨_, _, rfl⟩
        obtain ⟨vf, hvf⟩ : ∃ v, vi rs (frs rs k) = v := ⟨_, rfl⟩
        rw [eT1, hvf]
        go_wp2
        go_ret
        exact ⟨by rw [e1.out, eT1] <;> rfl, B⟩
end Go.Proofs.YtgggnjgcbmpibaaDoor
