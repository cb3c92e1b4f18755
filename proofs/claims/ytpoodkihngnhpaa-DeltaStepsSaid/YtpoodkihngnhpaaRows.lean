/-
  No cell of these rows narrows 'for every input' (looked for: loops, veiled, ifaces, maps, wideKeys, modest, calm, conditions, laid).
  DERIVED. THE GIVEN ROWS OF THIS SEAT. 6 by the template 'for every input the law returns true; each argument reads behind the call as it read before'; 0 by the template 'total and deterministic' (their statements: YtpoodkihngnhpaaTotals.lean).
  GIVEN WITH THE SEED: the statements are not yours to turn. If you find one false, say at which input.
  Laid BY PROGRAM, IN A SANDBOX (cutbox-rows.mjs): the forced cells as the released guide's own fill.sh prints them over the translation 1ca5cd3aea6ae78d… (all of the seat's roots in one cut). By AI agents, Wed Nov 11 2026. No macro, syntax, notation, axiom, sorry.
-/
import Derived.Test.YtpoodkihngnhpaaChecked
import GoSem.Claim
import GoSem.ClaimJoined
import GoSem.ClaimMapViews
import Derived.JoinedTies
import Derived.KernelRfl
namespace Go.Proofs.Ytpoodkihngnhpaa
/- THE CELL 'sum', in the pinned program and in every row, IS THE sha256 OF THE DUMP (.gsa) THAT YtpoodkihngnhpaaProg.lean LOADS. Nothing in Lean hashes anything: it is a label: what it is worth is what the hold of that sum in a sandbox is worth. -/
noncomputable def Try.pinned : Pinned := { name := "ytpoodkihngnhpaa", sum := "1ca5cd3aea6ae78d54fa767b531a3792ea3fff57acb4a10d8b0f2dd606af03d7", checked := Try.checked }
namespace Rows
def none {H : Type} : Left H := { results := [], args := [] }

/-- 'kenninglaw17.DeltaDiffs': WHATEVER THE INPUT: true; the input reads as it did. -/
def deltaDiffsSpec : ChangeSpec := { name := "deltaDiffs", fn := fun _ => fun
  | [d1, d2] => { results := [.lit (.bool true)], args := [d1, d2] }
  | _ => none }
def deltaDiffsRow : OpenClaim := { program := "ytpoodkihngnhpaa", sum := "1ca5cd3aea6ae78d54fa767b531a3792ea3fff57acb4a10d8b0f2dd606af03d7", func := "kenning/kenninglaw17.DeltaDiffs", spec := "deltaDiffs", unfollowed := true, recurses := true, apart := false }
def DeltaDiffsSaid : Prop := deltaDiffsRow.holds Try.pinned (OpenSpec.ofChange deltaDiffsSpec)

/-- ITS FALSE NEIGHBOUR: 'it returns false'. Refute it at one input. -/
def deltaDiffsWrong : ChangeSpec := { name := "deltaDiffs", fn := fun _ => fun
  | [d1, d2] => { results := [.lit (.bool false)], args := [d1, d2] }
  | _ => none }
def DeltaDiffsWrongFalsely : Prop := deltaDiffsRow.holds Try.pinned (OpenSpec.ofChange deltaDiffsWrong)

/-- 'kenninglaw17.DeltaSums': WHATEVER THE INPUT: true; the input reads as it did. -/
def deltaSumsSpec : ChangeSpec := { name := "deltaSums", fn := fun _ => fun
  | [d1, d2] => { results := [.lit (.bool true)], args := [d1, d2] }
  | _ => none }
def deltaSumsRow : OpenClaim := { program := "ytpoodkihngnhpaa", sum := "1ca5cd3aea6ae78d54fa767b531a3792ea3fff57acb4a10d8b0f2dd606af03d7", func := "kenning/kenninglaw17.DeltaSums", spec := "deltaSums", unfollowed := true, recurses := true, apart := false }
def DeltaSumsSaid : Prop := deltaSumsRow.holds Try.pinned (OpenSpec.ofChange deltaSumsSpec)

/-- ITS FALSE NEIGHBOUR: 'it returns false'. Refute it at one input. -/
def deltaSumsWrong : ChangeSpec := { name := "deltaSums", fn := fun _ => fun
  | [d1, d2] => { results := [.lit (.bool false)], args := [d1, d2] }
  | _ => none }
def DeltaSumsWrongFalsely : Prop := deltaSumsRow.holds Try.pinned (OpenSpec.ofChange deltaSumsWrong)

/-- 'kenninglaw17.DeltaLists': WHATEVER THE INPUT: true; the input reads as it did. -/
def deltaListsSpec : ChangeSpec := { name := "deltaLists", fn := fun _ => fun
  | [d1, d2] => { results := [.lit (.bool true)], args := [d1, d2] }
  | _ => none }
def deltaListsRow : OpenClaim := { program := "ytpoodkihngnhpaa", sum := "1ca5cd3aea6ae78d54fa767b531a3792ea3fff57acb4a10d8b0f2dd606af03d7", func := "kenning/kenninglaw17.DeltaLists", spec := "deltaLists", unfollowed := true, recurses := true, apart := false }
def DeltaListsSaid : Prop := deltaListsRow.holds Try.pinned (OpenSpec.ofChange deltaListsSpec)

/-- ITS FALSE NEIGHBOUR: 'it returns false'. Refute it at one input. -/
def deltaListsWrong : ChangeSpec := { name := "deltaLists", fn := fun _ => fun
  | [d1, d2] => { results := [.lit (.bool false)], args := [d1, d2] }
  | _ => none }
def DeltaListsWrongFalsely : Prop := deltaListsRow.holds Try.pinned (OpenSpec.ofChange deltaListsWrong)

/-- 'kenninglaw17.DeltaSteps': WHATEVER THE INPUT: true; the input reads as it did. -/
def deltaStepsSpec : ChangeSpec := { name := "deltaSteps", fn := fun _ => fun
  | [d1, d2, d3] => { results := [.lit (.bool true)], args := [d1, d2, d3] }
  | _ => none }
def deltaStepsRow : OpenClaim := { program := "ytpoodkihngnhpaa", sum := "1ca5cd3aea6ae78d54fa767b531a3792ea3fff57acb4a10d8b0f2dd606af03d7", func := "kenning/kenninglaw17.DeltaSteps", spec := "deltaSteps", unfollowed := true, recurses := true, apart := false }
def DeltaStepsSaid : Prop := deltaStepsRow.holds Try.pinned (OpenSpec.ofChange deltaStepsSpec)

/-- ITS FALSE NEIGHBOUR: 'it returns false'. Refute it at one input. -/
def deltaStepsWrong : ChangeSpec := { name := "deltaSteps", fn := fun _ => fun
  | [d1, d2, d3] => { results := [.lit (.bool false)], args := [d1, d2, d3] }
  | _ => none }
def DeltaStepsWrongFalsely : Prop := deltaStepsRow.holds Try.pinned (OpenSpec.ofChange deltaStepsWrong)

/-- 'kenninglaw17.DeltaCursors': WHATEVER THE INPUT: true; the input reads as it did. -/
def deltaCursorsSpec : ChangeSpec := { name := "deltaCursors", fn := fun _ => fun
  | [d1, d2] => { results := [.lit (.bool true)], args := [d1, d2] }
  | _ => none }
def deltaCursorsRow : OpenClaim := { program := "ytpoodkihngnhpaa", sum := "1ca5cd3aea6ae78d54fa767b531a3792ea3fff57acb4a10d8b0f2dd606af03d7", func := "kenning/kenninglaw17.DeltaCursors", spec := "deltaCursors", unfollowed := true, recurses := true, apart := false }
def DeltaCursorsSaid : Prop := deltaCursorsRow.holds Try.pinned (OpenSpec.ofChange deltaCursorsSpec)

/-- ITS FALSE NEIGHBOUR: 'it returns false'. Refute it at one input. -/
def deltaCursorsWrong : ChangeSpec := { name := "deltaCursors", fn := fun _ => fun
  | [d1, d2] => { results := [.lit (.bool false)], args := [d1, d2] }
  | _ => none }
def DeltaCursorsWrongFalsely : Prop := deltaCursorsRow.holds Try.pinned (OpenSpec.ofChange deltaCursorsWrong)

/-- 'kenninglaw17.DeltaNil': WHATEVER THE INPUT: true; the input reads as it did. -/
def deltaNilSpec : ChangeSpec := { name := "deltaNil", fn := fun _ => fun
  | [d] => { results := [.lit (.bool true)], args := [d] }
  | _ => none }
def deltaNilRow : OpenClaim := { program := "ytpoodkihngnhpaa", sum := "1ca5cd3aea6ae78d54fa767b531a3792ea3fff57acb4a10d8b0f2dd606af03d7", func := "kenning/kenninglaw17.DeltaNil", spec := "deltaNil", unfollowed := true, recurses := true, apart := false }
def DeltaNilSaid : Prop := deltaNilRow.holds Try.pinned (OpenSpec.ofChange deltaNilSpec)

/-- ITS FALSE NEIGHBOUR: 'it returns false'. Refute it at one input. -/
def deltaNilWrong : ChangeSpec := { name := "deltaNil", fn := fun _ => fun
  | [d] => { results := [.lit (.bool false)], args := [d] }
  | _ => none }
def DeltaNilWrongFalsely : Prop := deltaNilRow.holds Try.pinned (OpenSpec.ofChange deltaNilWrong)

/- THE SECOND FORM. 'bulk': how many values and letters a reading holds, each counted each time it is reached (what is shared counts as often as it is met; a slice's spare places count too). A statement '..UptoSaid' is the law's where the arguments, and the package variables that the reading takes, are together of bulk at most 1048576: NARROWER than '..Said'. Prove '..Said' where nothing that the law and all that it calls make is longer than what came in: it says more and counts as full. Else prove '..UptoSaid'. A law counts once. -/
mutual
def uptoBulk {H : Type} : DataW H → Nat
  | .lit (.string bytes) => bytes.length + 1
  | .lit _ => 1
  | .nil => 1
  | .ptr d => uptoBulk d + 1
  | .slice elems spare => uptoBulkAll elems + uptoBulkAll spare + 1
  | .agg parts => uptoBulkAll parts + 1
  | .iface _ d => uptoBulk d + 1
  | .map entries => uptoBulkEntries entries + 1
  | .held _ => 1
def uptoBulkAll {H : Type} : List (DataW H) → Nat
  | [] => 0
  | d :: r => uptoBulk d + uptoBulkAll r
def uptoBulkEntries {H : Type} : List (Lit × DataW H) → Nat
  | [] => 0
  | x :: r => uptoBulkEntry x + uptoBulkEntries r
def uptoBulkEntry {H : Type} : Lit × DataW H → Nat
  | (.string bytes, d) => bytes.length + uptoBulk d + 1
  | (_, d) => uptoBulk d + 1
 end
def uptoSmall : (H : Type) → List (DataW H) → Bool := fun _ ds => decide (uptoBulkAll ds ≤ 1048576)
def OpenSpec.upto (s : _root_.Go.ChangeSpec) : _root_.Go.OpenSpec := { _root_.Go.OpenSpec.ofChange s with cond := some uptoSmall }

/-- 'kenninglaw17.DeltaDiffs', WHERE WHAT IT READS IS OF BULK AT MOST 1048576: true; the input reads as it did. -/
def deltaDiffsUptoRow : OpenClaim := { program := "ytpoodkihngnhpaa", sum := "1ca5cd3aea6ae78d54fa767b531a3792ea3fff57acb4a10d8b0f2dd606af03d7", func := "kenning/kenninglaw17.DeltaDiffs", spec := "deltaDiffs", unfollowed := true, recurses := true, apart := false, narrowed := true }
def DeltaDiffsUptoSaid : Prop := deltaDiffsUptoRow.holds Try.pinned (OpenSpec.upto deltaDiffsSpec)

/-- 'kenninglaw17.DeltaSums', WHERE WHAT IT READS IS OF BULK AT MOST 1048576: true; the input reads as it did. -/
def deltaSumsUptoRow : OpenClaim := { program := "ytpoodkihngnhpaa", sum := "1ca5cd3aea6ae78d54fa767b531a3792ea3fff57acb4a10d8b0f2dd606af03d7", func := "kenning/kenninglaw17.DeltaSums", spec := "deltaSums", unfollowed := true, recurses := true, apart := false, narrowed := true }
def DeltaSumsUptoSaid : Prop := deltaSumsUptoRow.holds Try.pinned (OpenSpec.upto deltaSumsSpec)

/-- 'kenninglaw17.DeltaLists', WHERE WHAT IT READS IS OF BULK AT MOST 1048576: true; the input reads as it did. -/
def deltaListsUptoRow : OpenClaim := { program := "ytpoodkihngnhpaa", sum := "1ca5cd3aea6ae78d54fa767b531a3792ea3fff57acb4a10d8b0f2dd606af03d7", func := "kenning/kenninglaw17.DeltaLists", spec := "deltaLists", unfollowed := true, recurses := true, apart := false, narrowed := true }
def DeltaListsUptoSaid : Prop := deltaListsUptoRow.holds Try.pinned (OpenSpec.upto deltaListsSpec)

/-- 'kenninglaw17.DeltaSteps', WHERE WHAT IT READS IS OF BULK AT MOST 1048576: true; the input reads as it did. -/
def deltaStepsUptoRow : OpenClaim := { program := "ytpoodkihngnhpaa", sum := "1ca5cd3aea6ae78d54fa767b531a3792ea3fff57acb4a10d8b0f2dd606af03d7", func := "kenning/kenninglaw17.DeltaSteps", spec := "deltaSteps", unfollowed := true, recurses := true, apart := false, narrowed := true }
def DeltaStepsUptoSaid : Prop := deltaStepsUptoRow.holds Try.pinned (OpenSpec.upto deltaStepsSpec)

/-- 'kenninglaw17.DeltaCursors', WHERE WHAT IT READS IS OF BULK AT MOST 1048576: true; the input reads as it did. -/
def deltaCursorsUptoRow : OpenClaim := { program := "ytpoodkihngnhpaa", sum := "1ca5cd3aea6ae78d54fa767b531a3792ea3fff57acb4a10d8b0f2dd606af03d7", func := "kenning/kenninglaw17.DeltaCursors", spec := "deltaCursors", unfollowed := true, recurses := true, apart := false, narrowed := true }
def DeltaCursorsUptoSaid : Prop := deltaCursorsUptoRow.holds Try.pinned (OpenSpec.upto deltaCursorsSpec)

/-- 'kenninglaw17.DeltaNil', WHERE WHAT IT READS IS OF BULK AT MOST 1048576: true; the input reads as it did. -/
def deltaNilUptoRow : OpenClaim := { program := "ytpoodkihngnhpaa", sum := "1ca5cd3aea6ae78d54fa767b531a3792ea3fff57acb4a10d8b0f2dd606af03d7", func := "kenning/kenninglaw17.DeltaNil", spec := "deltaNil", unfollowed := true, recurses := true, apart := false, narrowed := true }
def DeltaNilUptoSaid : Prop := deltaNilUptoRow.holds Try.pinned (OpenSpec.upto deltaNilSpec)

end Rows
end Go.Proofs.Ytpoodkihngnhpaa
