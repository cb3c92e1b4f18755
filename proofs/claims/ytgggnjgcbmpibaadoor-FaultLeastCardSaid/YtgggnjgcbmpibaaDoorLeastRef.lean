/- The reference's Least. -/
import Derived.Test.YtgggnjgcbmpibaaDoorLeastFault
import Derived.BigQuiet
import Derived.Deep.QuietTactic
namespace Go.Proofs.YtgggnjgcbmpibaaDoor
open Go.RowKit

set_option maxHeartbeats 6400000 in
theorem rleast_any (a : Option Addr) (len cap : Nat) (rs : List Rec) (w : World) (h : Errs w a len rs) (hm : len ≤ 1000000) :
    Calls Tryd.prog 19 #[.slice a len cap] w fun e w' => e = .returned (.int .i64 (least rs len)) ∧ Below w.heap.size w w' := by
  have H := hide h
  clear h
  go_enter Tryd.func19, Tryd.ntmps19
  go_wp2_with fail
  go_loopw [3, 4] (fun bs c wr => ∃ k : Nat, k ≤ len ∧ c = .int .i64 k ∧ bs = .int .i64 (bst rs k) ∧ Below w.heap.size w wr)
    (fun _ c _ => len - (intOf c).toNat)
  case atStart => exact ⟨0, Nat.zero_le _, rfl, rfl, Below.refl _ _⟩
  case round =>
    obtain ⟨k, hk, rfl, rfl, B⟩ := hrel
    by_cases hlt : k < len
    · obtain ⟨b, off, rfl, hr⟩ := (H.out.below B).cells k hlt
      have c0 := hr.c0
      have c2 := hr.c2
      have c3 := hr.c3
      have HB := hide B
      have i0 : (0 : Int) ≤ (k : Int) := by omega
      have i1 : (k : Int) < (len : Int) := by omega
      have kb := bst_lt rs k
      cases hn : (nth rs k).nil with
      | true =>
        rw [hn] at c0
        have e1 := hide (bst_old (rs := rs) (k := k) (.inl hn))
        obtain ⟨bs, ebs⟩ : ∃ v, bst rs k = v := ⟨_, rfl⟩
        rw [ebs]
        clear c2 c3 hr B kb
        go_wp2_with fail
        go_quiet (fail)
        go_wp2
        go_roundw
        case rel => exact ⟨k + 1, by omega, by go_num, by rw [e1.out, ebs], below_drewN HB.out _⟩
        case measure => simp [intOf]; omega
      | false =>
        rw [hn] at c0
        cases hh : (nth rs k).has with
        | false =>
          rw [hh] at c2
          have e1 := hide (bst_old (rs := rs) (k := k) (.inr (.inl hh)))
          obtain ⟨bs, ebs⟩ : ∃ v, bst rs k = v := ⟨_, rfl⟩
          rw [ebs]
          clear c3 hr B kb
          go_wp2_with fail
          go_quiet (fail)
          go_wp2
          go_roundw
          case rel => exact ⟨k + 1, by omega, by go_num, by rw [e1.out, ebs], below_drewN HB.out _⟩
          case measure => simp [intOf]; omega
        | true =>
          rw [hh] at c2
          by_cases gb : bst rs k < 0
          · have e1 := hide (bst_new hn hh (.inl gb))
            obtain ⟨bs, ebs⟩ : ∃ v, bst rs k = v := ⟨_, rfl⟩
            rw [ebs] at gb ⊢
            clear c3 hr B kb
            go_wp2_with fail
            go_quiet (fail)
            go_wp2
            go_roundw
            case rel => exact ⟨k + 1, by omega, by go_num, by rw [e1.out], below_drewN HB.out _⟩
            case measure => simp [intOf]; omega
          · obtain ⟨j, ej⟩ : ∃ j : Nat, bst rs k = j := ⟨(bst rs k).toNat, by omega⟩
            have hj : j < len := by omega
            obtain ⟨b2, off2, eb, hr2⟩ := (H.out.below B).cells j hj
            obtain ⟨rfl, rfl⟩ : b = b2 ∧ off = off2 := by simpa using eb
            have d3 := hr2.c3
            have j0 : (0 : Int) ≤ (j : Int) := by omega
            have j1 : (j : Int) < (len : Int) := by omega
            have j2 : ¬ (j : Int) < 0 := by omega
            have e2 := hide (fun (hl : (nth rs k).at' < (nth rs j).at') => bst_new hn hh (.inr (by rw [ej, Int.toNat_natCast]; exact hl)))
            have e3 := hide (fun (hl : ¬ (nth rs k).at' < (nth rs j).at') => bst_old (rs := rs) (k := k) (.inr (.inr ⟨gb, by rw [ej, Int.toNat_natCast]; exact hl⟩)))
            obtain ⟨x, ex⟩ : ∃ v, (nth rs k).at' = v := ⟨_, rfl⟩
            obtain ⟨y, ey⟩ : ∃ v, (nth rs j).at' = v := ⟨_, rfl⟩
            rw [ex] at c3 e2 e3
            rw [ey] at d3 e2 e3
            have EJ := hide ej
            rw [ej]
            clear hr B hr2 eb kb gb ej ex ey hn hh
            by_cases hl : x < y
            · have e1 := hide (e2.out hl)
              go_wp2_with fail
              go_quiet (fail)
              go_wp2
              go_roundw
              case rel => exact ⟨k + 1, by omega, by go_num, by rw [e1.out], below_drewN HB.out _⟩
              case measure => simp [intOf]; omega
            · have e1 := hide (e3.out hl)
              have hl2 : decide (x < y) = false := decide_eq_false hl
              go_wp2_with fail
              go_quiet (fail)
              go_wp2
              go_roundw
              case rel => exact ⟨k + 1, by omega, by go_num, by rw [e1.out, EJ.out], below_drewN HB.out _⟩
              case measure => simp [intOf]; omega
    · obtain rfl : k = len := by omega
      by_cases gb : bst rs k < 0
      · have e0 : bst rs k = -1 := by have := bst_lt rs k; omega
        have e1 := hide (show least rs k = frs rs k from if_pos gb)
        rw [e0]
        clear gb e0
        go_wp2_with fail
        go_loopw [3, 5] (fun bs c wr => ∃ j : Nat, j ≤ k ∧ c = .int .i64 j ∧ bs = .int .i64 (frs rs j) ∧ Below w.heap.size w wr)
          (fun _ c _ => k - (intOf c).toNat)
        case atStart => exact ⟨0, Nat.zero_le _, rfl, rfl, B⟩
        case round =>
          obtain ⟨j, hj, rfl, rfl, B⟩ := hrel
          by_cases hjk : j < k
          · have j1 : (j : Int) < (k : Int) := by omega
            have j0 : (0 : Int) ≤ (j : Int) := by omega
            by_cases gf : frs rs j < 0
            · obtain ⟨b, off, rfl, hr⟩ := (H.out.below B).cells j hjk
              have c0 := hr.c0
              have HB := hide B
              cases hn : (nth rs j).nil with
              | true =>
                rw [hn] at c0
                have e2 := hide (frs_nil hn)
                obtain ⟨x, ex⟩ : ∃ v, frs rs j = v := ⟨_, rfl⟩
                rw [ex] at gf ⊢
                clear hr B
                go_wp2
                go_roundw
                case rel => exact ⟨j + 1, by omega, by go_num, by rw [e2.out, ex], HB.out⟩
                case measure => simp [intOf]; omega
              | false =>
                rw [hn] at c0
                have e2 := hide (frs_new gf hn)
                obtain ⟨x, ex⟩ : ∃ v, frs rs j = v := ⟨_, rfl⟩
                rw [ex] at gf ⊢
                clear hr B
                go_wp2
                go_roundw
                case rel => exact ⟨j + 1, by omega, by go_num, by rw [e2.out], HB.out⟩
                case measure => simp [intOf]; omega
            · have e2 := hide (show least rs k = frs rs j by
                rw [e1.out]
                obtain ⟨m, rfl⟩ : ∃ m, k = j + m := ⟨k - j, by omega⟩
                exact frs_stay rs j (by omega) m)
              obtain ⟨x, ex⟩ : ∃ v, frs rs j = v := ⟨_, rfl⟩
              rw [ex] at gf ⊢
              go_wp2
              go_ret
              exact ⟨by rw [e2.out, ex] <;> rfl, B⟩
          · obtain rfl : j = k := by omega
            obtain ⟨x, ex⟩ : ∃ v, frs rs j = v := ⟨_, rfl⟩
            rw [ex]
            go_wp2
            go_ret
            exact ⟨by rw [e1.out, ex] <;> rfl, B⟩
      · have e1 := hide (show least rs k = bst rs k from if_neg gb)
        obtain ⟨x, ex⟩ : ∃ v, bst rs k = v := ⟨_, rfl⟩
        rw [ex] at gb ⊢
        by_cases hk0 : 0 < k
        · have k0 : (0 : Int) < (k : Int) := by omega
          go_wp2
          refine wp_loop_rounds 1 ?_
          rw [rounds_succ]
          go_wp2
          go_ret
          exact ⟨by rw [e1.out, ex] <;> rfl, B⟩
        · have := bst_lt rs k
          omega
end Go.Proofs.YtgggnjgcbmpibaaDoor
