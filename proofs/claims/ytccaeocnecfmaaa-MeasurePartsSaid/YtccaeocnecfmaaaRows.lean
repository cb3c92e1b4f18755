/-
  No cell of these rows narrows 'for every input' (looked for: loops, veiled, ifaces, maps, wideKeys, modest, calm, conditions, laid).
  DERIVED. THE GIVEN ROWS OF THIS SEAT. 6 by the template 'for every input the law returns true; each argument reads behind the call as it read before'; 0 by the template 'total and deterministic' (their statements: YtccaeocnecfmaaaTotals.lean).
  GIVEN WITH THE SEED: the statements are not yours to turn. If you find one false, say at which input.
  Laid BY PROGRAM, IN A SANDBOX (cutbox-rows.mjs): the forced cells as the released guide's own fill.sh prints them over the translation 410ad758553bb130… (all of the seat's roots in one cut). By AI agents, Wed Nov 11 2026. No macro, syntax, notation, axiom, sorry.
-/
import Derived.Test.YtccaeocnecfmaaaChecked
import GoSem.Claim
import GoSem.ClaimJoined
import GoSem.ClaimMapViews
import Derived.JoinedTies
import Derived.KernelRfl
namespace Go.Proofs.Ytccaeocnecfmaaa
/- THE CELL 'sum', in the pinned program and in every row, IS THE sha256 OF THE DUMP (.gsa) THAT YtccaeocnecfmaaaProg.lean LOADS. Nothing in Lean hashes anything: it is a label: what it is worth is what the hold of that sum in a sandbox is worth. -/
noncomputable def Try.pinned : Pinned := { name := "ytccaeocnecfmaaa", sum := "410ad758553bb1301f08c4369c0044062e8ee826455248bbfa0a900f6f69e971", checked := Try.checked }
namespace Rows
def none {H : Type} : Left H := { results := [], args := [] }

/-- 'kenninglaw06.MeasureCounts': WHATEVER THE INPUT: true; the input reads as it did. -/
def measureCountsSpec : ChangeSpec := { name := "measureCounts", fn := fun _ => fun
  | [d1, d2] => { results := [.lit (.bool true)], args := [d1, d2] }
  | _ => none }
def measureCountsRow : OpenClaim := { program := "ytccaeocnecfmaaa", sum := "410ad758553bb1301f08c4369c0044062e8ee826455248bbfa0a900f6f69e971", func := "kenning/kenninglaw06.MeasureCounts", spec := "measureCounts", unfollowed := true, recurses := true, apart := false }
def MeasureCountsSaid : Prop := measureCountsRow.holds Try.pinned (OpenSpec.ofChange measureCountsSpec)

/-- ITS FALSE NEIGHBOUR: 'it returns false'. Refute it at one input. -/
def measureCountsWrong : ChangeSpec := { name := "measureCounts", fn := fun _ => fun
  | [d1, d2] => { results := [.lit (.bool false)], args := [d1, d2] }
  | _ => none }
def MeasureCountsWrongFalsely : Prop := measureCountsRow.holds Try.pinned (OpenSpec.ofChange measureCountsWrong)

/-- 'kenninglaw06.MeasureNth': WHATEVER THE INPUT: true; the input reads as it did. -/
def measureNthSpec : ChangeSpec := { name := "measureNth", fn := fun _ => fun
  | [d1, d2] => { results := [.lit (.bool true)], args := [d1, d2] }
  | _ => none }
def measureNthRow : OpenClaim := { program := "ytccaeocnecfmaaa", sum := "410ad758553bb1301f08c4369c0044062e8ee826455248bbfa0a900f6f69e971", func := "kenning/kenninglaw06.MeasureNth", spec := "measureNth", unfollowed := true, recurses := true, apart := false }
def MeasureNthSaid : Prop := measureNthRow.holds Try.pinned (OpenSpec.ofChange measureNthSpec)

/-- ITS FALSE NEIGHBOUR: 'it returns false'. Refute it at one input. -/
def measureNthWrong : ChangeSpec := { name := "measureNth", fn := fun _ => fun
  | [d1, d2] => { results := [.lit (.bool false)], args := [d1, d2] }
  | _ => none }
def MeasureNthWrongFalsely : Prop := measureNthRow.holds Try.pinned (OpenSpec.ofChange measureNthWrong)

/-- 'kenninglaw06.MeasureRises': WHATEVER THE INPUT: true; the input reads as it did. -/
def measureRisesSpec : ChangeSpec := { name := "measureRises", fn := fun _ => fun
  | [d1, d2] => { results := [.lit (.bool true)], args := [d1, d2] }
  | _ => none }
def measureRisesRow : OpenClaim := { program := "ytccaeocnecfmaaa", sum := "410ad758553bb1301f08c4369c0044062e8ee826455248bbfa0a900f6f69e971", func := "kenning/kenninglaw06.MeasureRises", spec := "measureRises", unfollowed := true, recurses := true, apart := false }
def MeasureRisesSaid : Prop := measureRisesRow.holds Try.pinned (OpenSpec.ofChange measureRisesSpec)

/-- ITS FALSE NEIGHBOUR: 'it returns false'. Refute it at one input. -/
def measureRisesWrong : ChangeSpec := { name := "measureRises", fn := fun _ => fun
  | [d1, d2] => { results := [.lit (.bool false)], args := [d1, d2] }
  | _ => none }
def MeasureRisesWrongFalsely : Prop := measureRisesRow.holds Try.pinned (OpenSpec.ofChange measureRisesWrong)

/-- 'kenninglaw06.MeasureEnds': WHATEVER THE INPUT: true; the input reads as it did. -/
def measureEndsSpec : ChangeSpec := { name := "measureEnds", fn := fun _ => fun
  | [d] => { results := [.lit (.bool true)], args := [d] }
  | _ => none }
def measureEndsRow : OpenClaim := { program := "ytccaeocnecfmaaa", sum := "410ad758553bb1301f08c4369c0044062e8ee826455248bbfa0a900f6f69e971", func := "kenning/kenninglaw06.MeasureEnds", spec := "measureEnds", unfollowed := true, recurses := true, apart := false }
def MeasureEndsSaid : Prop := measureEndsRow.holds Try.pinned (OpenSpec.ofChange measureEndsSpec)

/-- ITS FALSE NEIGHBOUR: 'it returns false'. Refute it at one input. -/
def measureEndsWrong : ChangeSpec := { name := "measureEnds", fn := fun _ => fun
  | [d] => { results := [.lit (.bool false)], args := [d] }
  | _ => none }
def MeasureEndsWrongFalsely : Prop := measureEndsRow.holds Try.pinned (OpenSpec.ofChange measureEndsWrong)

/-- 'kenninglaw06.MeasureSplits': WHATEVER THE INPUT: true; the input reads as it did. -/
def measureSplitsSpec : ChangeSpec := { name := "measureSplits", fn := fun _ => fun
  | [d1, d2] => { results := [.lit (.bool true)], args := [d1, d2] }
  | _ => none }
def measureSplitsRow : OpenClaim := { program := "ytccaeocnecfmaaa", sum := "410ad758553bb1301f08c4369c0044062e8ee826455248bbfa0a900f6f69e971", func := "kenning/kenninglaw06.MeasureSplits", spec := "measureSplits", unfollowed := true, recurses := true, apart := false }
def MeasureSplitsSaid : Prop := measureSplitsRow.holds Try.pinned (OpenSpec.ofChange measureSplitsSpec)

/-- ITS FALSE NEIGHBOUR: 'it returns false'. Refute it at one input. -/
def measureSplitsWrong : ChangeSpec := { name := "measureSplits", fn := fun _ => fun
  | [d1, d2] => { results := [.lit (.bool false)], args := [d1, d2] }
  | _ => none }
def MeasureSplitsWrongFalsely : Prop := measureSplitsRow.holds Try.pinned (OpenSpec.ofChange measureSplitsWrong)

/-- 'kenninglaw06.MeasureParts': WHATEVER THE INPUT: true; the input reads as it did. -/
def measurePartsSpec : ChangeSpec := { name := "measureParts", fn := fun _ => fun
  | [d1, d2] => { results := [.lit (.bool true)], args := [d1, d2] }
  | _ => none }
def measurePartsRow : OpenClaim := { program := "ytccaeocnecfmaaa", sum := "410ad758553bb1301f08c4369c0044062e8ee826455248bbfa0a900f6f69e971", func := "kenning/kenninglaw06.MeasureParts", spec := "measureParts", unfollowed := true, recurses := true, apart := false }
def MeasurePartsSaid : Prop := measurePartsRow.holds Try.pinned (OpenSpec.ofChange measurePartsSpec)

/-- ITS FALSE NEIGHBOUR: 'it returns false'. Refute it at one input. -/
def measurePartsWrong : ChangeSpec := { name := "measureParts", fn := fun _ => fun
  | [d1, d2] => { results := [.lit (.bool false)], args := [d1, d2] }
  | _ => none }
def MeasurePartsWrongFalsely : Prop := measurePartsRow.holds Try.pinned (OpenSpec.ofChange measurePartsWrong)

/- THE SECOND FORM. 'bulk': how many values and letters a reading holds, each counted each time it is reached (what is shared counts as often as it is met; a slice's spare places count too). A statement '..UptoSaid' is the law's where the arguments, and the package variables that the reading takes, are together of bulk at most 1048576: NARROWER than '..Said'. Prove '..Said' where nothing that the law and all that it calls make is longer than what came in: it says more and counts as full. Else prove '..UptoSaid'. A law counts once. -/
mutual
def uptoBulk {H : Type} : DataW H → Nat
  | .lit (.string bytes) => bytes.length + 1
  | .lit _ => 1
  | .nil => 1
  | .ptr d => uptoBulk d + 1
  | .slice elems spare => uptoBulkAll elems + uptoBulkAll spare + 1
  | .agg parts => uptoBulkAll parts + 1
  | .iface _ d => uptoBulk d + 1
  | .map entries => uptoBulkEntries entries + 1
  | .held _ => 1
def uptoBulkAll {H : Type} : List (DataW H) → Nat
  | [] => 0
  | d :: r => uptoBulk d + uptoBulkAll r
def uptoBulkEntries {H : Type} : List (Lit × DataW H) → Nat
  | [] => 0
  | x :: r => uptoBulkEntry x + uptoBulkEntries r
def uptoBulkEntry {H : Type} : Lit × DataW H → Nat
  | (.string bytes, d) => bytes.length + uptoBulk d + 1
  | (_, d) => uptoBulk d + 1
 end
def uptoSmall : (H : Type) → List (DataW H) → Bool := fun _ ds => decide (uptoBulkAll ds ≤ 1048576)
def OpenSpec.upto (s : _root_.Go.ChangeSpec) : _root_.Go.OpenSpec := { _root_.Go.OpenSpec.ofChange s with cond := some uptoSmall }

/-- 'kenninglaw06.MeasureCounts', WHERE WHAT IT READS IS OF BULK AT MOST 1048576: true; the input reads as it did. -/
def measureCountsUptoRow : OpenClaim := { program := "ytccaeocnecfmaaa", sum := "410ad758553bb1301f08c4369c0044062e8ee826455248bbfa0a900f6f69e971", func := "kenning/kenninglaw06.MeasureCounts", spec := "measureCounts", unfollowed := true, recurses := true, apart := false, narrowed := true }
def MeasureCountsUptoSaid : Prop := measureCountsUptoRow.holds Try.pinned (OpenSpec.upto measureCountsSpec)

/-- 'kenninglaw06.MeasureNth', WHERE WHAT IT READS IS OF BULK AT MOST 1048576: true; the input reads as it did. -/
def measureNthUptoRow : OpenClaim := { program := "ytccaeocnecfmaaa", sum := "410ad758553bb1301f08c4369c0044062e8ee826455248bbfa0a900f6f69e971", func := "kenning/kenninglaw06.MeasureNth", spec := "measureNth", unfollowed := true, recurses := true, apart := false, narrowed := true }
def MeasureNthUptoSaid : Prop := measureNthUptoRow.holds Try.pinned (OpenSpec.upto measureNthSpec)

/-- 'kenninglaw06.MeasureRises', WHERE WHAT IT READS IS OF BULK AT MOST 1048576: true; the input reads as it did. -/
def measureRisesUptoRow : OpenClaim := { program := "ytccaeocnecfmaaa", sum := "410ad758553bb1301f08c4369c0044062e8ee826455248bbfa0a900f6f69e971", func := "kenning/kenninglaw06.MeasureRises", spec := "measureRises", unfollowed := true, recurses := true, apart := false, narrowed := true }
def MeasureRisesUptoSaid : Prop := measureRisesUptoRow.holds Try.pinned (OpenSpec.upto measureRisesSpec)

/-- 'kenninglaw06.MeasureEnds', WHERE WHAT IT READS IS OF BULK AT MOST 1048576: true; the input reads as it did. -/
def measureEndsUptoRow : OpenClaim := { program := "ytccaeocnecfmaaa", sum := "410ad758553bb1301f08c4369c0044062e8ee826455248bbfa0a900f6f69e971", func := "kenning/kenninglaw06.MeasureEnds", spec := "measureEnds", unfollowed := true, recurses := true, apart := false, narrowed := true }
def MeasureEndsUptoSaid : Prop := measureEndsUptoRow.holds Try.pinned (OpenSpec.upto measureEndsSpec)

/-- 'kenninglaw06.MeasureSplits', WHERE WHAT IT READS IS OF BULK AT MOST 1048576: true; the input reads as it did. -/
def measureSplitsUptoRow : OpenClaim := { program := "ytccaeocnecfmaaa", sum := "410ad758553bb1301f08c4369c0044062e8ee826455248bbfa0a900f6f69e971", func := "kenning/kenninglaw06.MeasureSplits", spec := "measureSplits", unfollowed := true, recurses := true, apart := false, narrowed := true }
def MeasureSplitsUptoSaid : Prop := measureSplitsUptoRow.holds Try.pinned (OpenSpec.upto measureSplitsSpec)

/-- 'kenninglaw06.MeasureParts', WHERE WHAT IT READS IS OF BULK AT MOST 1048576: true; the input reads as it did. -/
def measurePartsUptoRow : OpenClaim := { program := "ytccaeocnecfmaaa", sum := "410ad758553bb1301f08c4369c0044062e8ee826455248bbfa0a900f6f69e971", func := "kenning/kenninglaw06.MeasureParts", spec := "measureParts", unfollowed := true, recurses := true, apart := false, narrowed := true }
def MeasurePartsUptoSaid : Prop := measurePartsUptoRow.holds Try.pinned (OpenSpec.upto measurePartsSpec)

end Rows
end Go.Proofs.Ytccaeocnecfmaaa
