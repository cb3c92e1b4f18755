/- What the frames of all laws of this seat use. -/
import Derived.Test.YtjadnhibepdemaaBase
import Derived.ProofKit
import Derived.OpenShut
import Derived.ShutString
import Derived.ChangeOld
import Derived.Below
import Derived.Lib.SmallJoins
namespace Go.Proofs.Ytjadnhibepdemaa
open Go.ChangeShapes Go.WideShapes Go.ChangeAt Go.RowKit Go.Joins

theorem ownKnob_none : ownKnob Try.prog.godebug = none := by kernel_rfl
theorem laidOut : laidOutB Try.prog = true := by kernel_rfl
theorem word_wf {x : Int} (h : (Lit.int .u64 x).wf = true) : Word x := by
  have := bounds_u64 h
  exact ⟨by omega, by omega⟩
end Go.Proofs.Ytjadnhibepdemaa
