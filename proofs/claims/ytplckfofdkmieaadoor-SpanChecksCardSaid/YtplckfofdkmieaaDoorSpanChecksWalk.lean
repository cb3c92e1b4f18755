/- The walk of the law SpanChecks. -/
import Derived.Test.YtplckfofdkmieaaDoorSpanAlive
import Derived.Test.YtplckfofdkmieaaDoorErrAsF
import Derived.Deep.RegionHeld3
namespace Go.Proofs.YtplckfofdkmieaaDoor
open Go.RowKit

set_option maxHeartbeats 1600000 in
theorem spanChecks_walk (lo hi x : Int) (w : World) (h1 : Word lo) (h2 : Word hi) (hx : Word x) (hg : Laid w) :
    Calls Tryd.prog 6 #[.agg #[.int .u64 lo, .int .u64 hi], .int .u64 x] w fun e w' => e = .returned (.bool true) ∧ Below w.heap.size w w' := by
  have HA := hide (fun W (hb : Below w.heap.size w W) => alive_any W (hg.below hb))
  have HG := hide (fun W (hb : Below w.heap.size w W) => hg.below hb)
  clear hg
  by_cases h : lo ≤ hi
  · have K1 := hide (fun W => rright_yes lo hi h1 h2 h W)
    have K2 := hide (fun W => check_yes lo hi h W)
    have K3 := hide (fun W => has_any lo hi x h1 h2 hx h W)
    have K4 := hide (fun W => rhas_any lo hi x h1 h2 hx W)
    have K5 := hide (fun W => has_any lo hi lo h1 h2 h1 h W)
    have K6 := hide (fun W => has_any lo hi hi h1 h2 h2 h W)
    rw [show hasI lo hi lo = true from decide_eq_true ⟨Int.le_refl _, h⟩] at K5
    rw [show hasI lo hi hi = true from decide_eq_true ⟨h, Int.le_refl _⟩] at K6
    obtain ⟨q, eq⟩ : ∃ q, q = hasI lo hi x := ⟨_, rfl⟩
    rw [← eq] at K3 K4
    clear h1 h2 hx h eq
    go_enter Tryd.func6, Tryd.ntmps6
    go_wp2_with fail
    refine (K2.out _).mono ?_
    rintro e w1 ⟨rfl, b1⟩
    have B1 := bl_trans (bl_alloc (Below.refl _ w) _) b1
    have R0 := row_keep b1 (heap_new_at _ _ rfl)
    obtain ⟨c0, c1, _, l0⟩ := cells_two R0
    clear b1
    go_wp2_with fail
    refine (K1.out _).mono ?_
    rintro e w2 ⟨rfl, b2⟩
    have B2 := bl_trans B1 b2
    have R0 := row_keep b2 R0
    clear b2 c0 c1 l0
    obtain ⟨c0, c1, _, l0⟩ := cells_two R0
    have hmx : Tryd.prog.follows .mixedOrders = true := by kernel_rfl
    go_wp2_with fail
    clear B1 R0
    go_region_held3 (fun w' => w'.cell? ⟨w.heap.size, 0, none⟩ = some (.int .u64 lo) ∧ w'.cell? ⟨w.heap.size, 1, none⟩ = some (.int .u64 hi) ∧ Below w.heap.size w w')
      (first | (go_split_ands; exact ⟨keep_cs hb (by assumption), keep_cs hb (by assumption), bl_trans (by assumption) hb⟩) | (refine ⟨?_, ?_, ?_⟩ <;> first | assumption | (exact bl_drew (by assumption)) | (simp [*]; done)))
      (first
        | (go_at_call 10; refine (HA.out _ ?_).mono ?_; (first | assumption | (exact bl_drew (by assumption)) | (go_split_ands; assumption)); rintro e w6 ⟨rfl, hb⟩)
        | (go_at_call 21; (with_reducible refine (K3.out _).mono ?_); rintro e w6 ⟨rfl, hb⟩)
        | (go_at_call 21; (with_reducible refine (K5.out _).mono ?_); rintro e w6 ⟨rfl, hb⟩)
        | (go_at_call 21; (with_reducible refine (K6.out _).mono ?_); rintro e w6 ⟨rfl, hb⟩)
        | (go_at_call 15; (with_reducible refine (K4.out _).mono ?_); rintro e w6 ⟨rfl, hb⟩))
    go_wp2
    go_ret
    exact ⟨rfl, by first | assumption | (go_split_ands; assumption)⟩
  · have K1 := hide (fun W => rright_no lo hi h1 h2 (by omega) W)
    have K2 := hide (fun W => check_no lo hi (by omega) W)
    clear h1 h2 hx h
    go_enter Tryd.func6, Tryd.ntmps6
    go_wp2_with fail
    refine (K2.out _).mono ?_
    rintro e w1 ⟨rfl, b1⟩
    have B1 := bl_trans (bl_alloc (Below.refl _ w) _) b1
    have R0 := row_keep b1 (heap_new_at _ _ rfl)
    obtain ⟨c0, c1, _, l0⟩ := cells_two R0
    clear b1
    go_wp2_with fail
    refine (K1.out _).mono ?_
    rintro e w2 ⟨rfl, b2⟩
    have B2 := bl_trans B1 b2
    clear b2 c0 c1 l0 R0
    go_wp2_with fail
    refine (HA.out _ B2).mono ?_
    rintro e w3 ⟨rfl, b3⟩
    have B3 := bl_trans B2 b3
    clear b3
    go_wp2_with fail
    refine (code_E 2 _ (HG.out _ B3)).mono ?_
    rintro e w4 ⟨rfl, b4⟩
    have B4 := bl_trans B3 b4
    clear b4
    go_wp2_with fail
    refine (at_E 2 _ (HG.out _ B4)).mono ?_
    rintro e w5 ⟨rfl, b5⟩
    have B5 := bl_trans B4 b5
    clear b5
    go_wp2
    go_ret
    exact ⟨rfl, B5⟩
end Go.Proofs.YtplckfofdkmieaaDoor
