/-
  NARROWER THAN 'FOR EVERY INPUT', by the rows' own cells (each row's printed sentence says how): FaultOthers: laid · FaultShifts: laid · FaultLeast: laid · FaultMakes: laid · FaultReads: laid · FaultWraps: laid.
  DERIVED. THE GIVEN ROWS OF THIS SEAT. 6 by the template 'for every input the law returns true; each argument reads behind the call as it read before'; 0 by the template 'total and deterministic' (their statements: YtgggnjgcbmpibaaDoorTotals.lean).
  GIVEN WITH THE SEED: the statements are not yours to turn. If you find one false, say at which input.
  Laid BY PROGRAM, IN A SANDBOX (cutbox-rows.mjs): the forced cells as the released guide's own fill.sh prints them over the translation c0b9a762f006aa7c… (all of the seat's roots in one cut). By AI agents, Wed Nov 11 2026. No macro, syntax, notation, axiom, sorry.
-/
import Derived.Test.YtgggnjgcbmpibaaDoorChecked
import GoSem.Claim
import GoSem.ClaimJoined
import GoSem.ClaimMapViews
import Derived.JoinedTies
import Derived.KernelRfl
namespace Go.Proofs.YtgggnjgcbmpibaaDoor
/- THE CELL 'sum', in the pinned program and in every row, IS THE sha256 OF THE DUMP (.gsa) THAT YtgggnjgcbmpibaaDoorProg.lean LOADS. Nothing in Lean hashes anything: it is a label: what it is worth is what the hold of that sum in a sandbox is worth. -/
noncomputable def Tryd.pinned : Pinned := { name := "ytgggnjgcbmpibaadoor", sum := "c0b9a762f006aa7ca3f3f67d78bdd0d1ef5b0079d8a01850e74558bf947018fd", checked := Tryd.checked }
namespace Rows
def none {H : Type} : Left H := { results := [], args := [] }

/- WHAT THE LISTED PACKAGE-LEVEL VARIABLES READ AS WHEN THE CALL BEGINS. Each datum BY PROGRAM (the guide's laid-datum.mjs) off the statement by which the dump's own 'gosem.cut.vars' lays the variable. In a bare row this is a premise. The card (YtgggnjgcbmpibaaDoorCards.lean) ties it to the program's text. -/
def laid_errors_errorType {H : Type} : DataW H := .iface "internal/reflectlite.rtype" (.agg [.ptr (.lit (.string [101, 114, 114, 111, 114]))])

/-- 'kenninglaw01.FaultOthers': WHATEVER THE INPUT: true; the input reads as it did. -/
def faultOthersSpec : ChangeSpec := { name := "faultOthers", fn := fun _ => fun
  | [d1, d2] => { results := [.lit (.bool true)], args := [d1, d2] }
  | _ => none }
def faultOthersRow : OpenClaim := { program := "ytgggnjgcbmpibaadoor", sum := "c0b9a762f006aa7ca3f3f67d78bdd0d1ef5b0079d8a01850e74558bf947018fd", func := "kenning/kenninglaw01.FaultOthers", spec := "faultOthers", inPlace := ["internal/reflectlite.ValueOf", "(internal/reflectlite.Value).Type", "(internal/reflectlite.Value).IsNil", "internal/reflectlite.TypeOf", "(internal/reflectlite.Value).Elem", "(internal/reflectlite.Value).Set"], unfollowed := true, recurses := true, named := ["errors.errorType"], apart := false, laid := [("errors.errorType", laid_errors_errorType)] }
def FaultOthersSaid : Prop := faultOthersRow.holds Tryd.pinned (OpenSpec.ofChange faultOthersSpec)

/-- ITS FALSE NEIGHBOUR: 'it returns false'. Refute it at one input. -/
def faultOthersWrong : ChangeSpec := { name := "faultOthers", fn := fun _ => fun
  | [d1, d2] => { results := [.lit (.bool false)], args := [d1, d2] }
  | _ => none }
def FaultOthersWrongFalsely : Prop := faultOthersRow.holds Tryd.pinned (OpenSpec.ofChange faultOthersWrong)

/-- 'kenninglaw01.FaultShifts': WHATEVER THE INPUT: true; the input reads as it did. -/
def faultShiftsSpec : ChangeSpec := { name := "faultShifts", fn := fun _ => fun
  | [d1, d2] => { results := [.lit (.bool true)], args := [d1, d2] }
  | _ => none }
def faultShiftsRow : OpenClaim := { program := "ytgggnjgcbmpibaadoor", sum := "c0b9a762f006aa7ca3f3f67d78bdd0d1ef5b0079d8a01850e74558bf947018fd", func := "kenning/kenninglaw01.FaultShifts", spec := "faultShifts", inPlace := ["internal/reflectlite.ValueOf", "(internal/reflectlite.Value).Type", "(internal/reflectlite.Value).IsNil", "internal/reflectlite.TypeOf", "(internal/reflectlite.Value).Elem", "(internal/reflectlite.Value).Set"], unfollowed := true, recurses := true, named := ["errors.errorType"], apart := false, laid := [("errors.errorType", laid_errors_errorType)] }
def FaultShiftsSaid : Prop := faultShiftsRow.holds Tryd.pinned (OpenSpec.ofChange faultShiftsSpec)

/-- ITS FALSE NEIGHBOUR: 'it returns false'. Refute it at one input. -/
def faultShiftsWrong : ChangeSpec := { name := "faultShifts", fn := fun _ => fun
  | [d1, d2] => { results := [.lit (.bool false)], args := [d1, d2] }
  | _ => none }
def FaultShiftsWrongFalsely : Prop := faultShiftsRow.holds Tryd.pinned (OpenSpec.ofChange faultShiftsWrong)

/-- 'kenninglaw01.FaultLeast': WHATEVER THE INPUT: true; the input reads as it did. -/
def faultLeastSpec : ChangeSpec := { name := "faultLeast", fn := fun _ => fun
  | [d] => { results := [.lit (.bool true)], args := [d] }
  | _ => none }
def faultLeastRow : OpenClaim := { program := "ytgggnjgcbmpibaadoor", sum := "c0b9a762f006aa7ca3f3f67d78bdd0d1ef5b0079d8a01850e74558bf947018fd", func := "kenning/kenninglaw01.FaultLeast", spec := "faultLeast", inPlace := ["internal/reflectlite.ValueOf", "(internal/reflectlite.Value).Type", "(internal/reflectlite.Value).IsNil", "internal/reflectlite.TypeOf", "(internal/reflectlite.Value).Elem", "(internal/reflectlite.Value).Set"], unfollowed := true, recurses := true, named := ["errors.errorType"], apart := false, laid := [("errors.errorType", laid_errors_errorType)] }
def FaultLeastSaid : Prop := faultLeastRow.holds Tryd.pinned (OpenSpec.ofChange faultLeastSpec)

/-- ITS FALSE NEIGHBOUR: 'it returns false'. Refute it at one input. -/
def faultLeastWrong : ChangeSpec := { name := "faultLeast", fn := fun _ => fun
  | [d] => { results := [.lit (.bool false)], args := [d] }
  | _ => none }
def FaultLeastWrongFalsely : Prop := faultLeastRow.holds Tryd.pinned (OpenSpec.ofChange faultLeastWrong)

/-- 'kenninglaw01.FaultMakes': WHATEVER THE INPUT: true; the input reads as it did. -/
def faultMakesSpec : ChangeSpec := { name := "faultMakes", fn := fun _ => fun
  | [d1, d2] => { results := [.lit (.bool true)], args := [d1, d2] }
  | _ => none }
def faultMakesRow : OpenClaim := { program := "ytgggnjgcbmpibaadoor", sum := "c0b9a762f006aa7ca3f3f67d78bdd0d1ef5b0079d8a01850e74558bf947018fd", func := "kenning/kenninglaw01.FaultMakes", spec := "faultMakes", inPlace := ["internal/reflectlite.ValueOf", "(internal/reflectlite.Value).Type", "(internal/reflectlite.Value).IsNil", "internal/reflectlite.TypeOf", "(internal/reflectlite.Value).Elem", "(internal/reflectlite.Value).Set"], unfollowed := true, recurses := true, named := ["errors.errorType"], apart := false, laid := [("errors.errorType", laid_errors_errorType)] }
def FaultMakesSaid : Prop := faultMakesRow.holds Tryd.pinned (OpenSpec.ofChange faultMakesSpec)

/-- ITS FALSE NEIGHBOUR: 'it returns false'. Refute it at one input. -/
def faultMakesWrong : ChangeSpec := { name := "faultMakes", fn := fun _ => fun
  | [d1, d2] => { results := [.lit (.bool false)], args := [d1, d2] }
  | _ => none }
def FaultMakesWrongFalsely : Prop := faultMakesRow.holds Tryd.pinned (OpenSpec.ofChange faultMakesWrong)

/-- 'kenninglaw01.FaultReads': WHATEVER THE INPUT: true; the input reads as it did. -/
def faultReadsSpec : ChangeSpec := { name := "faultReads", fn := fun _ => fun
  | [d] => { results := [.lit (.bool true)], args := [d] }
  | _ => none }
def faultReadsRow : OpenClaim := { program := "ytgggnjgcbmpibaadoor", sum := "c0b9a762f006aa7ca3f3f67d78bdd0d1ef5b0079d8a01850e74558bf947018fd", func := "kenning/kenninglaw01.FaultReads", spec := "faultReads", inPlace := ["internal/reflectlite.ValueOf", "(internal/reflectlite.Value).Type", "(internal/reflectlite.Value).IsNil", "internal/reflectlite.TypeOf", "(internal/reflectlite.Value).Elem", "(internal/reflectlite.Value).Set"], unfollowed := true, recurses := true, named := ["errors.errorType"], apart := false, laid := [("errors.errorType", laid_errors_errorType)] }
def FaultReadsSaid : Prop := faultReadsRow.holds Tryd.pinned (OpenSpec.ofChange faultReadsSpec)

/-- ITS FALSE NEIGHBOUR: 'it returns false'. Refute it at one input. -/
def faultReadsWrong : ChangeSpec := { name := "faultReads", fn := fun _ => fun
  | [d] => { results := [.lit (.bool false)], args := [d] }
  | _ => none }
def FaultReadsWrongFalsely : Prop := faultReadsRow.holds Tryd.pinned (OpenSpec.ofChange faultReadsWrong)

/-- 'kenninglaw01.FaultWraps': WHATEVER THE INPUT: true; the input reads as it did. -/
def faultWrapsSpec : ChangeSpec := { name := "faultWraps", fn := fun _ => fun
  | [d1, d2] => { results := [.lit (.bool true)], args := [d1, d2] }
  | _ => none }
def faultWrapsRow : OpenClaim := { program := "ytgggnjgcbmpibaadoor", sum := "c0b9a762f006aa7ca3f3f67d78bdd0d1ef5b0079d8a01850e74558bf947018fd", func := "kenning/kenninglaw01.FaultWraps", spec := "faultWraps", inPlace := ["internal/reflectlite.ValueOf", "(internal/reflectlite.Value).Type", "(internal/reflectlite.Value).IsNil", "internal/reflectlite.TypeOf", "(internal/reflectlite.Value).Elem", "(internal/reflectlite.Value).Set"], unfollowed := true, recurses := true, named := ["errors.errorType"], apart := false, laid := [("errors.errorType", laid_errors_errorType)] }
def FaultWrapsSaid : Prop := faultWrapsRow.holds Tryd.pinned (OpenSpec.ofChange faultWrapsSpec)

/-- ITS FALSE NEIGHBOUR: 'it returns false'. Refute it at one input. -/
def faultWrapsWrong : ChangeSpec := { name := "faultWraps", fn := fun _ => fun
  | [d1, d2] => { results := [.lit (.bool false)], args := [d1, d2] }
  | _ => none }
def FaultWrapsWrongFalsely : Prop := faultWrapsRow.holds Tryd.pinned (OpenSpec.ofChange faultWrapsWrong)

/- THE SECOND FORM. 'bulk': how many values and letters a reading holds, each counted each time it is reached (what is shared counts as often as it is met; a slice's spare places count too). A statement '..UptoSaid' is the law's where the arguments, and the package variables that the reading takes, are together of bulk at most 1048576: NARROWER than '..Said'. Prove '..Said' where nothing that the law and all that it calls make is longer than what came in: it says more and counts as full. Else prove '..UptoSaid'. A law counts once. -/
mutual
def uptoBulk {H : Type} : DataW H → Nat
  | .lit (.string bytes) => bytes.length + 1
  | .lit _ => 1
  | .nil => 1
  | .ptr d => uptoBulk d + 1
  | .slice elems spare => uptoBulkAll elems + uptoBulkAll spare + 1
  | .agg parts => uptoBulkAll parts + 1
  | .iface _ d => uptoBulk d + 1
  | .map entries => uptoBulkEntries entries + 1
  | .held _ => 1
def uptoBulkAll {H : Type} : List (DataW H) → Nat
  | [] => 0
  | d :: r => uptoBulk d + uptoBulkAll r
def uptoBulkEntries {H : Type} : List (Lit × DataW H) → Nat
  | [] => 0
  | x :: r => uptoBulkEntry x + uptoBulkEntries r
def uptoBulkEntry {H : Type} : Lit × DataW H → Nat
  | (.string bytes, d) => bytes.length + uptoBulk d + 1
  | (_, d) => uptoBulk d + 1
 end
def uptoSmall : (H : Type) → List (DataW H) → Bool := fun _ ds => decide (uptoBulkAll ds ≤ 1048576)
def OpenSpec.upto (s : _root_.Go.ChangeSpec) : _root_.Go.OpenSpec := { _root_.Go.OpenSpec.ofChange s with cond := some uptoSmall }

/-- 'kenninglaw01.FaultOthers', WHERE WHAT IT READS IS OF BULK AT MOST 1048576: true; the input reads as it did. -/
def faultOthersUptoRow : OpenClaim := { program := "ytgggnjgcbmpibaadoor", sum := "c0b9a762f006aa7ca3f3f67d78bdd0d1ef5b0079d8a01850e74558bf947018fd", func := "kenning/kenninglaw01.FaultOthers", spec := "faultOthers", inPlace := ["internal/reflectlite.ValueOf", "(internal/reflectlite.Value).Type", "(internal/reflectlite.Value).IsNil", "internal/reflectlite.TypeOf", "(internal/reflectlite.Value).Elem", "(internal/reflectlite.Value).Set"], unfollowed := true, recurses := true, named := ["errors.errorType"], apart := false, laid := [("errors.errorType", laid_errors_errorType)], narrowed := true }
def FaultOthersUptoSaid : Prop := faultOthersUptoRow.holds Tryd.pinned (OpenSpec.upto faultOthersSpec)

/-- 'kenninglaw01.FaultShifts', WHERE WHAT IT READS IS OF BULK AT MOST 1048576: true; the input reads as it did. -/
def faultShiftsUptoRow : OpenClaim := { program := "ytgggnjgcbmpibaadoor", sum := "c0b9a762f006aa7ca3f3f67d78bdd0d1ef5b0079d8a01850e74558bf947018fd", func := "kenning/kenninglaw01.FaultShifts", spec := "faultShifts", inPlace := ["internal/reflectlite.ValueOf", "(internal/reflectlite.Value).Type", "(internal/reflectlite.Value).IsNil", "internal/reflectlite.TypeOf", "(internal/reflectlite.Value).Elem", "(internal/reflectlite.Value).Set"], unfollowed := true, recurses := true, named := ["errors.errorType"], apart := false, laid := [("errors.errorType", laid_errors_errorType)], narrowed := true }
def FaultShiftsUptoSaid : Prop := faultShiftsUptoRow.holds Tryd.pinned (OpenSpec.upto faultShiftsSpec)

/-- 'kenninglaw01.FaultLeast', WHERE WHAT IT READS IS OF BULK AT MOST 1048576: true; the input reads as it did. -/
def faultLeastUptoRow : OpenClaim := { program := "ytgggnjgcbmpibaadoor", sum := "c0b9a762f006aa7ca3f3f67d78bdd0d1ef5b0079d8a01850e74558bf947018fd", func := "kenning/kenninglaw01.FaultLeast", spec := "faultLeast", inPlace := ["internal/reflectlite.ValueOf", "(internal/reflectlite.Value).Type", "(internal/reflectlite.Value).IsNil", "internal/reflectlite.TypeOf", "(internal/reflectlite.Value).Elem", "(internal/reflectlite.Value).Set"], unfollowed := true, recurses := true, named := ["errors.errorType"], apart := false, laid := [("errors.errorType", laid_errors_errorType)], narrowed := true }
def FaultLeastUptoSaid : Prop := faultLeastUptoRow.holds Tryd.pinned (OpenSpec.upto faultLeastSpec)

/-- 'kenninglaw01.FaultMakes', WHERE WHAT IT READS IS OF BULK AT MOST 1048576: true; the input reads as it did. -/
def faultMakesUptoRow : OpenClaim := { program := "ytgggnjgcbmpibaadoor", sum := "c0b9a762f006aa7ca3f3f67d78bdd0d1ef5b0079d8a01850e74558bf947018fd", func := "kenning/kenninglaw01.FaultMakes", spec := "faultMakes", inPlace := ["internal/reflectlite.ValueOf", "(internal/reflectlite.Value).Type", "(internal/reflectlite.Value).IsNil", "internal/reflectlite.TypeOf", "(internal/reflectlite.Value).Elem", "(internal/reflectlite.Value).Set"], unfollowed := true, recurses := true, named := ["errors.errorType"], apart := false, laid := [("errors.errorType", laid_errors_errorType)], narrowed := true }
def FaultMakesUptoSaid : Prop := faultMakesUptoRow.holds Tryd.pinned (OpenSpec.upto faultMakesSpec)

/-- 'kenninglaw01.FaultReads', WHERE WHAT IT READS IS OF BULK AT MOST 1048576: true; the input reads as it did. -/
def faultReadsUptoRow : OpenClaim := { program := "ytgggnjgcbmpibaadoor", sum := "c0b9a762f006aa7ca3f3f67d78bdd0d1ef5b0079d8a01850e74558bf947018fd", func := "kenning/kenninglaw01.FaultReads", spec := "faultReads", inPlace := ["internal/reflectlite.ValueOf", "(internal/reflectlite.Value).Type", "(internal/reflectlite.Value).IsNil", "internal/reflectlite.TypeOf", "(internal/reflectlite.Value).Elem", "(internal/reflectlite.Value).Set"], unfollowed := true, recurses := true, named := ["errors.errorType"], apart := false, laid := [("errors.errorType", laid_errors_errorType)], narrowed := true }
def FaultReadsUptoSaid : Prop := faultReadsUptoRow.holds Tryd.pinned (OpenSpec.upto faultReadsSpec)

/-- 'kenninglaw01.FaultWraps', WHERE WHAT IT READS IS OF BULK AT MOST 1048576: true; the input reads as it did. -/
def faultWrapsUptoRow : OpenClaim := { program := "ytgggnjgcbmpibaadoor", sum := "c0b9a762f006aa7ca3f3f67d78bdd0d1ef5b0079d8a01850e74558bf947018fd", func := "kenning/kenninglaw01.FaultWraps", spec := "faultWraps", inPlace := ["internal/reflectlite.ValueOf", "(internal/reflectlite.Value).Type", "(internal/reflectlite.Value).IsNil", "internal/reflectlite.TypeOf", "(internal/reflectlite.Value).Elem", "(internal/reflectlite.Value).Set"], unfollowed := true, recurses := true, named := ["errors.errorType"], apart := false, laid := [("errors.errorType", laid_errors_errorType)], narrowed := true }
def FaultWrapsUptoSaid : Prop := faultWrapsUptoRow.holds Tryd.pinned (OpenSpec.upto faultWrapsSpec)

end Rows
end Go.Proofs.YtgggnjgcbmpibaaDoor
