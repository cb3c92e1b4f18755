/- The walk of the law FaultMakes. -/
import Derived.Test.YtgggnjgcbmpibaaDoorErrIs
namespace Go.Proofs.YtgggnjgcbmpibaaDoor
open Go.RowKit

theorem isF (v : Value) (xT : TypeId) (w : World) : (Instr.typeAssert (.iface 40 v) xT 40 true).run Tryd.prog w = .ok (.tuple #[v, .bool true]) w := by
  simp [Instr.typeAssert, go_sem]

set_option maxHeartbeats 1600000 in
theorem faultMakes_walk (c n : Int) (w : World) (_hc : (Lit.int .i64 c).wf = true) (_hn : (Lit.int .i64 n).wf = true) (hg : Laid w) :
    Calls Tryd.prog 6 #[.int .i64 c, .int .i64 n] w fun e w' => e = .returned (.bool true) ∧ Below w.heap.size w w' := by
  have HG := hide (fun W (hb : Below w.heap.size w W) => hg.below hb)
  have HA := hide (fun W (hb : Below w.heap.size w W) => alive_any W (hg.below hb))
  clear hg
  by_cases h0 : c = 0
  · subst h0
    have K := hide (fun W => new_ok n W)
    go_enter Tryd.func6, Tryd.ntmps6
    go_wp2_with fail
    refine (K.out _).mono ?_
    rintro e w1 ⟨rfl, rfl⟩
    go_wp2_with fail
    refine (HA.out _ (Below.refl _ _)).mono ?_
    rintro e w1 ⟨rfl, b1⟩
    go_wp2
    go_ret
    exact ⟨rfl, b1⟩
  · have K := hide (fun W => new_any c n h0 W)
    have KI := hide (fun W => is_any (.f c n) c W)
    have KC := hide (fun W h => code_any (.f c n) W h)
    have KA := hide (fun W h => at_any (.f c n) W h)
    rw [show (Er.f c n).has c = true by simp [Er.has]] at KI
    rw [show (Er.f c n).cd = c from rfl] at KC
    rw [show (Er.f c n).at' = n from rfl] at KA
    have q0 : (c == 0) = false := by simp [h0]
    have iF := isF
    clear h0
    go_enter Tryd.func6, Tryd.ntmps6
    go_wp2_with fail
    refine (K.out _).mono ?_
    rintro e w1 ⟨rfl, rfl⟩
    simp only [Er.v, Er.tid, Er.dat] at KI KC KA ⊢
    go_wp2_with fail
    have B1 := bl_alloc (Below.refl w.heap.size w) (.cells #[.int .i64 c, .int .i64 n] 40)
    refine (HA.out _ B1).mono ?_
    rintro e w1 ⟨rfl, b1⟩
    have B2 := bl_trans B1 b1
    have hr := (b1.block w.heap.size (by simp)).trans (heap_new_at w (.cells #[.int .i64 c, .int .i64 n] 40) rfl)
    have c0 : w1.cell? ⟨w.heap.size, 0, none⟩ = some (.int .i64 c) := by simp [World.cell?, hr]
    have c1 : w1.cell? ⟨w.heap.size, 1, none⟩ = some (.int .i64 n) := by simp [World.cell?, hr]
    clear b1 B1 hr
    go_wp2_with fail
    refine (KI.out _).mono ?_
    rintro e w2 ⟨rfl, b2⟩
    have B3 := bl_trans B2 b2
    clear b2 c0 c1
    go_wp2_with fail
    refine (KC.out _ (HG.out _ B3)).mono ?_
    rintro e w3 ⟨rfl, b3⟩
    have B4 := bl_trans B3 b3
    clear b3
    go_wp2_with fail
    refine (KA.out _ (HG.out _ B4)).mono ?_
    rintro e w4 ⟨rfl, b4⟩
    have B5 := bl_trans B4 b4
    clear b4
    go_wp2
    go_ret
    exact ⟨rfl, B5⟩
end Go.Proofs.YtgggnjgcbmpibaaDoor
