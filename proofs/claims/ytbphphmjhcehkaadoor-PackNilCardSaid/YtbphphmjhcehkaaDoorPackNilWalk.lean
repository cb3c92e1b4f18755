/- The law PackNil. -/
import Derived.Test.YtbphphmjhcehkaaDoorPackAlive
namespace Go.Proofs.YtbphphmjhcehkaaDoor
open Go Go.RowKit

set_option maxRecDepth 100000 in
set_option maxHeartbeats 1600000 in
theorem packNil_walk (x rest : Int) (w : World) (_hx : Word x) (_hr : (Lit.int .i64 rest).wf = true) (hg : Laid w) :
    Calls Tryd.prog 7 #[.int .u64 x, .int .i64 rest] w fun e w' => e = .returned (.bool true) ∧ Below w.heap.size w w' := by
  have HG := hide (fun W (hb : Below w.heap.size w W) => hg.below hb)
  have q : ∀ W, (binOp .eql 36 (.agg #[.int .i64 9223372036854775807, .int .i64 9223372036854775807, .int .i64 9223372036854775807, .int .i64 9223372036854775807, .int .i64 9223372036854775807]) (.agg #[.int .i64 9223372036854775807, .int .i64 9223372036854775807, .int .i64 9223372036854775807, .int .i64 9223372036854775807, .int .i64 9223372036854775807])).run Tryd.prog W = .ok (.bool true) W := fun _ => by kernel_rfl
  clear hg
  go_enter Tryd.func7, Tryd.ntmps7
  go_wp2_with fail
  refine (rput_nil _ _ _).mono ?_
  rintro e w1 ⟨rfl, b1⟩
  have B1 := hide b1
  clear b1
  go_wp2_with fail
  refine (alive_any _ (HG.out _ B1.out)).mono ?_
  rintro e w2 ⟨rfl, b2⟩
  have B2 := hide (bl_trans B1.out b2)
  clear b2
  go_wp2_with fail
  refine (code_E 1 _ (HG.out _ B2.out)).mono ?_
  rintro e w3 ⟨rfl, b3⟩
  have B3 := hide (bl_trans B2.out b3)
  clear b3
  go_wp2_with fail
  refine (vector_nil _).mono ?_
  rintro e w4 ⟨rfl, b4⟩
  have B4 := hide (bl_trans B3.out b4)
  clear b4
  go_wp2_with fail
  refine (unlimited_any _).mono ?_
  rintro e w5 ⟨rfl, b5⟩
  have B5 := hide (bl_trans B4.out b5)
  clear b5
  go_wp2
  go_ret
  exact ⟨rfl, B5.out⟩
end Go.Proofs.YtbphphmjhcehkaaDoor
