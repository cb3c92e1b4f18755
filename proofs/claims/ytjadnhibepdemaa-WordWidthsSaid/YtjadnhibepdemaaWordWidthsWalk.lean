/- The walk of the law WordWidths: for all words the law returns true and changes nothing that was there. -/
import Derived.Test.YtjadnhibepdemaaWordAlive
namespace Go.Proofs.Ytjadnhibepdemaa
open Go.RowKit

theorem wordWidths_walk (lo hi : Int) (h1 : Word lo) (h2 : Word hi) (w : World) :
    Calls Try.prog 3 #[.int .u64 lo, .int .u64 hi] w fun e w' => e = .returned (.bool true) ∧ Below w.heap.size w w' := by
  go_enter Try.func3, Try.ntmps3
  go_wp2_with fail
  refine (width_any lo hi h1 h2 _).mono ?_
  rintro e w1 ⟨rfl, b1⟩
  go_wp2_with fail
  refine (rwidth_any lo hi h1 h2 _).mono ?_
  rintro e w2 ⟨rfl, rfl⟩
  go_wp2_with fail
  refine (alive_any _).mono ?_
  rintro e w3 ⟨rfl, b3⟩
  obtain ⟨hc, hf⟩ := bcell b3
  go_wp2_with fail
  go_ret
  exact ⟨rfl, bl_trans (bl_alloc b1 _) b3⟩
end Go.Proofs.Ytjadnhibepdemaa
