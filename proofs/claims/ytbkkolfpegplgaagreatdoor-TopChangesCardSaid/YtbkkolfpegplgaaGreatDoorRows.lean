/-
  NARROWER THAN 'FOR EVERY INPUT', by the rows' own cells (each row's printed sentence says how): TopLaws: laid · TopCodec: laid · TopChanges: laid · TopScripts: laid.
  DERIVED. THE GIVEN ROWS OF THIS SEAT. 4 by the template 'for every input the law returns true; each argument reads behind the call as it read before'; 0 by the template 'total and deterministic' (their statements: YtbkkolfpegplgaaGreatDoorTotals.lean).
  GIVEN WITH THE SEED: the statements are not yours to turn. If you find one false, say at which input.
  Laid BY PROGRAM, IN A SANDBOX (cutbox-rows.mjs): the forced cells as the released guide's own fill.sh prints them over the translation 3455241f38a343b7… (all of the seat's roots in one cut). By AI agents, Wed Nov 11 2026. No macro, syntax, notation, axiom, sorry.
-/
import Derived.Test.YtbkkolfpegplgaaGreatDoorChecked
import GoSem.Claim
import GoSem.ClaimJoined
import GoSem.ClaimMapViews
import Derived.JoinedTies
import Derived.KernelRfl
namespace Go.Proofs.YtbkkolfpegplgaaGreatDoor
/- THE CELL 'sum', in the pinned program and in every row, IS THE sha256 OF THE DUMP (.gsa) THAT YtbkkolfpegplgaaGreatDoorProg.lean LOADS. Nothing in Lean hashes anything: it is a label: what it is worth is what the hold of that sum in a sandbox is worth. -/
noncomputable def Tryz.pinned : Pinned := { name := "ytbkkolfpegplgaagreatdoor", sum := "3455241f38a343b776566b4be953cb7c4e338129b2d30c1b8082d51000345538", checked := Tryz.checked }
namespace Rows
def none {H : Type} : Left H := { results := [], args := [] }

/- WHAT THE LISTED PACKAGE-LEVEL VARIABLES READ AS WHEN THE CALL BEGINS. Each datum BY PROGRAM (the guide's laid-datum.mjs) off the statement by which the dump's own 'gosem.cut.vars' lays the variable. In a bare row this is a premise. The card (YtbkkolfpegplgaaGreatDoorCards.lean) ties it to the program's text. -/
def laid_errors_errorType {H : Type} : DataW H := .iface "internal/reflectlite.rtype" (.agg [.ptr (.lit (.string [101, 114, 114, 111, 114]))])

/-- 'kenningtop.TopLaws': WHATEVER THE INPUT: true; the input reads as it did. -/
def topLawsSpec : ChangeSpec := { name := "topLaws", fn := fun _ => fun
  | [d1, d2, d3] => { results := [.lit (.bool true)], args := [d1, d2, d3] }
  | _ => none }
def topLawsRow : OpenClaim := { program := "ytbkkolfpegplgaagreatdoor", sum := "3455241f38a343b776566b4be953cb7c4e338129b2d30c1b8082d51000345538", func := "kenning/kenningtop.TopLaws", spec := "topLaws", inPlace := ["slices.overlaps[uint64]", "internal/reflectlite.ValueOf", "(internal/reflectlite.Value).Type", "(internal/reflectlite.Value).IsNil", "internal/reflectlite.TypeOf", "(internal/reflectlite.Value).Elem", "(internal/reflectlite.Value).Set", "slices.overlaps[kenning/api.Fragment]"], unfollowed := true, recurses := true, named := ["errors.errorType"], apart := false, laid := [("errors.errorType", laid_errors_errorType)] }
def TopLawsSaid : Prop := topLawsRow.holds Tryz.pinned (OpenSpec.ofChange topLawsSpec)

/-- ITS FALSE NEIGHBOUR: 'it returns false'. Refute it at one input. -/
def topLawsWrong : ChangeSpec := { name := "topLaws", fn := fun _ => fun
  | [d1, d2, d3] => { results := [.lit (.bool false)], args := [d1, d2, d3] }
  | _ => none }
def TopLawsWrongFalsely : Prop := topLawsRow.holds Tryz.pinned (OpenSpec.ofChange topLawsWrong)

/-- 'kenningtop.TopCodec': WHATEVER THE INPUT: true; the input reads as it did. -/
def topCodecSpec : ChangeSpec := { name := "topCodec", fn := fun _ => fun
  | [d] => { results := [.lit (.bool true)], args := [d] }
  | _ => none }
def topCodecRow : OpenClaim := { program := "ytbkkolfpegplgaagreatdoor", sum := "3455241f38a343b776566b4be953cb7c4e338129b2d30c1b8082d51000345538", func := "kenning/kenningtop.TopCodec", spec := "topCodec", inPlace := ["slices.overlaps[uint64]", "internal/reflectlite.ValueOf", "(internal/reflectlite.Value).Type", "(internal/reflectlite.Value).IsNil", "internal/reflectlite.TypeOf", "(internal/reflectlite.Value).Elem", "(internal/reflectlite.Value).Set", "slices.overlaps[kenning/api.Fragment]"], unfollowed := true, recurses := true, named := ["errors.errorType"], apart := false, laid := [("errors.errorType", laid_errors_errorType)] }
def TopCodecSaid : Prop := topCodecRow.holds Tryz.pinned (OpenSpec.ofChange topCodecSpec)

/-- ITS FALSE NEIGHBOUR: 'it returns false'. Refute it at one input. -/
def topCodecWrong : ChangeSpec := { name := "topCodec", fn := fun _ => fun
  | [d] => { results := [.lit (.bool false)], args := [d] }
  | _ => none }
def TopCodecWrongFalsely : Prop := topCodecRow.holds Tryz.pinned (OpenSpec.ofChange topCodecWrong)

/-- 'kenningtop.TopChanges': WHATEVER THE INPUT: true; the input reads as it did. -/
def topChangesSpec : ChangeSpec := { name := "topChanges", fn := fun _ => fun
  | [d1, d2, d3] => { results := [.lit (.bool true)], args := [d1, d2, d3] }
  | _ => none }
def topChangesRow : OpenClaim := { program := "ytbkkolfpegplgaagreatdoor", sum := "3455241f38a343b776566b4be953cb7c4e338129b2d30c1b8082d51000345538", func := "kenning/kenningtop.TopChanges", spec := "topChanges", inPlace := ["slices.overlaps[uint64]", "internal/reflectlite.ValueOf", "(internal/reflectlite.Value).Type", "(internal/reflectlite.Value).IsNil", "internal/reflectlite.TypeOf", "(internal/reflectlite.Value).Elem", "(internal/reflectlite.Value).Set", "slices.overlaps[kenning/api.Fragment]"], unfollowed := true, recurses := true, named := ["errors.errorType"], apart := false, laid := [("errors.errorType", laid_errors_errorType)] }
def TopChangesSaid : Prop := topChangesRow.holds Tryz.pinned (OpenSpec.ofChange topChangesSpec)

/-- ITS FALSE NEIGHBOUR: 'it returns false'. Refute it at one input. -/
def topChangesWrong : ChangeSpec := { name := "topChanges", fn := fun _ => fun
  | [d1, d2, d3] => { results := [.lit (.bool false)], args := [d1, d2, d3] }
  | _ => none }
def TopChangesWrongFalsely : Prop := topChangesRow.holds Tryz.pinned (OpenSpec.ofChange topChangesWrong)

/-- 'kenningtop.TopScripts': WHATEVER THE INPUT: true; the input reads as it did. -/
def topScriptsSpec : ChangeSpec := { name := "topScripts", fn := fun _ => fun
  | [d1, d2, d3] => { results := [.lit (.bool true)], args := [d1, d2, d3] }
  | _ => none }
def topScriptsRow : OpenClaim := { program := "ytbkkolfpegplgaagreatdoor", sum := "3455241f38a343b776566b4be953cb7c4e338129b2d30c1b8082d51000345538", func := "kenning/kenningtop.TopScripts", spec := "topScripts", inPlace := ["slices.overlaps[uint64]", "internal/reflectlite.ValueOf", "(internal/reflectlite.Value).Type", "(internal/reflectlite.Value).IsNil", "internal/reflectlite.TypeOf", "(internal/reflectlite.Value).Elem", "(internal/reflectlite.Value).Set", "slices.overlaps[kenning/api.Fragment]"], unfollowed := true, recurses := true, named := ["errors.errorType"], apart := false, laid := [("errors.errorType", laid_errors_errorType)] }
def TopScriptsSaid : Prop := topScriptsRow.holds Tryz.pinned (OpenSpec.ofChange topScriptsSpec)

/-- ITS FALSE NEIGHBOUR: 'it returns false'. Refute it at one input. -/
def topScriptsWrong : ChangeSpec := { name := "topScripts", fn := fun _ => fun
  | [d1, d2, d3] => { results := [.lit (.bool false)], args := [d1, d2, d3] }
  | _ => none }
def TopScriptsWrongFalsely : Prop := topScriptsRow.holds Tryz.pinned (OpenSpec.ofChange topScriptsWrong)

/- THE SECOND FORM. 'bulk': how many values and letters a reading holds, each counted each time it is reached (what is shared counts as often as it is met; a slice's spare places count too). A statement '..UptoSaid' is the law's where the arguments, and the package variables that the reading takes, are together of bulk at most 1048576: NARROWER than '..Said'. Prove '..Said' where nothing that the law and all that it calls make is longer than what came in: it says more and counts as full. Else prove '..UptoSaid'. A law counts once. -/
mutual
def uptoBulk {H : Type} : DataW H → Nat
  | .lit (.string bytes) => bytes.length + 1
  | .lit _ => 1
  | .nil => 1
  | .ptr d => uptoBulk d + 1
  | .slice elems spare => uptoBulkAll elems + uptoBulkAll spare + 1
  | .agg parts => uptoBulkAll parts + 1
  | .iface _ d => uptoBulk d + 1
  | .map entries => uptoBulkEntries entries + 1
  | .held _ => 1
def uptoBulkAll {H : Type} : List (DataW H) → Nat
  | [] => 0
  | d :: r => uptoBulk d + uptoBulkAll r
def uptoBulkEntries {H : Type} : List (Lit × DataW H) → Nat
  | [] => 0
  | x :: r => uptoBulkEntry x + uptoBulkEntries r
def uptoBulkEntry {H : Type} : Lit × DataW H → Nat
  | (.string bytes, d) => bytes.length + uptoBulk d + 1
  | (_, d) => uptoBulk d + 1
 end
def uptoSmall : (H : Type) → List (DataW H) → Bool := fun _ ds => decide (uptoBulkAll ds ≤ 1048576)
def OpenSpec.upto (s : _root_.Go.ChangeSpec) : _root_.Go.OpenSpec := { _root_.Go.OpenSpec.ofChange s with cond := some uptoSmall }

/-- 'kenningtop.TopLaws', WHERE WHAT IT READS IS OF BULK AT MOST 1048576: true; the input reads as it did. -/
def topLawsUptoRow : OpenClaim := { program := "ytbkkolfpegplgaagreatdoor", sum := "3455241f38a343b776566b4be953cb7c4e338129b2d30c1b8082d51000345538", func := "kenning/kenningtop.TopLaws", spec := "topLaws", inPlace := ["slices.overlaps[uint64]", "internal/reflectlite.ValueOf", "(internal/reflectlite.Value).Type", "(internal/reflectlite.Value).IsNil", "internal/reflectlite.TypeOf", "(internal/reflectlite.Value).Elem", "(internal/reflectlite.Value).Set", "slices.overlaps[kenning/api.Fragment]"], unfollowed := true, recurses := true, named := ["errors.errorType"], apart := false, laid := [("errors.errorType", laid_errors_errorType)], narrowed := true }
def TopLawsUptoSaid : Prop := topLawsUptoRow.holds Tryz.pinned (OpenSpec.upto topLawsSpec)

/-- 'kenningtop.TopCodec', WHERE WHAT IT READS IS OF BULK AT MOST 1048576: true; the input reads as it did. -/
def topCodecUptoRow : OpenClaim := { program := "ytbkkolfpegplgaagreatdoor", sum := "3455241f38a343b776566b4be953cb7c4e338129b2d30c1b8082d51000345538", func := "kenning/kenningtop.TopCodec", spec := "topCodec", inPlace := ["slices.overlaps[uint64]", "internal/reflectlite.ValueOf", "(internal/reflectlite.Value).Type", "(internal/reflectlite.Value).IsNil", "internal/reflectlite.TypeOf", "(internal/reflectlite.Value).Elem", "(internal/reflectlite.Value).Set", "slices.overlaps[kenning/api.Fragment]"], unfollowed := true, recurses := true, named := ["errors.errorType"], apart := false, laid := [("errors.errorType", laid_errors_errorType)], narrowed := true }
def TopCodecUptoSaid : Prop := topCodecUptoRow.holds Tryz.pinned (OpenSpec.upto topCodecSpec)

/-- 'kenningtop.TopChanges', WHERE WHAT IT READS IS OF BULK AT MOST 1048576: true; the input reads as it did. -/
def topChangesUptoRow : OpenClaim := { program := "ytbkkolfpegplgaagreatdoor", sum := "3455241f38a343b776566b4be953cb7c4e338129b2d30c1b8082d51000345538", func := "kenning/kenningtop.TopChanges", spec := "topChanges", inPlace := ["slices.overlaps[uint64]", "internal/reflectlite.ValueOf", "(internal/reflectlite.Value).Type", "(internal/reflectlite.Value).IsNil", "internal/reflectlite.TypeOf", "(internal/reflectlite.Value).Elem", "(internal/reflectlite.Value).Set", "slices.overlaps[kenning/api.Fragment]"], unfollowed := true, recurses := true, named := ["errors.errorType"], apart := false, laid := [("errors.errorType", laid_errors_errorType)], narrowed := true }
def TopChangesUptoSaid : Prop := topChangesUptoRow.holds Tryz.pinned (OpenSpec.upto topChangesSpec)

/-- 'kenningtop.TopScripts', WHERE WHAT IT READS IS OF BULK AT MOST 1048576: true; the input reads as it did. -/
def topScriptsUptoRow : OpenClaim := { program := "ytbkkolfpegplgaagreatdoor", sum := "3455241f38a343b776566b4be953cb7c4e338129b2d30c1b8082d51000345538", func := "kenning/kenningtop.TopScripts", spec := "topScripts", inPlace := ["slices.overlaps[uint64]", "internal/reflectlite.ValueOf", "(internal/reflectlite.Value).Type", "(internal/reflectlite.Value).IsNil", "internal/reflectlite.TypeOf", "(internal/reflectlite.Value).Elem", "(internal/reflectlite.Value).Set", "slices.overlaps[kenning/api.Fragment]"], unfollowed := true, recurses := true, named := ["errors.errorType"], apart := false, laid := [("errors.errorType", laid_errors_errorType)], narrowed := true }
def TopScriptsUptoSaid : Prop := topScriptsUptoRow.holds Tryz.pinned (OpenSpec.upto topScriptsSpec)

end Rows
end Go.Proofs.YtbkkolfpegplgaaGreatDoor
