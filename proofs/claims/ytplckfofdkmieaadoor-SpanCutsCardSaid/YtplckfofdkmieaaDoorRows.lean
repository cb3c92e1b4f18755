/-
  NARROWER THAN 'FOR EVERY INPUT', by the rows' own cells (each row's printed sentence says how): SpanRelates: laid · SpanJoins: laid · SpanMeets: laid · SpanChecks: laid · SpanShifts: laid · SpanCuts: laid.
  DERIVED. THE GIVEN ROWS OF THIS SEAT. 6 by the template 'for every input the law returns true; each argument reads behind the call as it read before'; 0 by the template 'total and deterministic' (their statements: YtplckfofdkmieaaDoorTotals.lean).
  GIVEN WITH THE SEED: the statements are not yours to turn. If you find one false, say at which input.
  Laid BY PROGRAM, IN A SANDBOX (cutbox-rows.mjs): the forced cells as the released guide's own fill.sh prints them over the translation 42117cf466033c1a… (all of the seat's roots in one cut). By AI agents, Wed Nov 11 2026. No macro, syntax, notation, axiom, sorry.
-/
import Derived.Test.YtplckfofdkmieaaDoorChecked
import GoSem.Claim
import GoSem.ClaimJoined
import GoSem.ClaimMapViews
import Derived.JoinedTies
import Derived.KernelRfl
namespace Go.Proofs.YtplckfofdkmieaaDoor
/- THE CELL 'sum', in the pinned program and in every row, IS THE sha256 OF THE DUMP (.gsa) THAT YtplckfofdkmieaaDoorProg.lean LOADS. Nothing in Lean hashes anything: it is a label: what it is worth is what the hold of that sum in a sandbox is worth. -/
noncomputable def Tryd.pinned : Pinned := { name := "ytplckfofdkmieaadoor", sum := "42117cf466033c1ae3c135fcbe70566f5904171bfa7947f26099d133eb05aef3", checked := Tryd.checked }
namespace Rows
def none {H : Type} : Left H := { results := [], args := [] }

/- WHAT THE LISTED PACKAGE-LEVEL VARIABLES READ AS WHEN THE CALL BEGINS. Each datum BY PROGRAM (the guide's laid-datum.mjs) off the statement by which the dump's own 'gosem.cut.vars' lays the variable. In a bare row this is a premise. The card (YtplckfofdkmieaaDoorCards.lean) ties it to the program's text. -/
def laid_errors_errorType {H : Type} : DataW H := .iface "internal/reflectlite.rtype" (.agg [.ptr (.lit (.string [101, 114, 114, 111, 114]))])

/-- 'kenninglaw03.SpanRelates': WHATEVER THE INPUT: true; the input reads as it did. -/
def spanRelatesSpec : ChangeSpec := { name := "spanRelates", fn := fun _ => fun
  | [d1, d2] => { results := [.lit (.bool true)], args := [d1, d2] }
  | _ => none }
def spanRelatesRow : OpenClaim := { program := "ytplckfofdkmieaadoor", sum := "42117cf466033c1ae3c135fcbe70566f5904171bfa7947f26099d133eb05aef3", func := "kenning/kenninglaw03.SpanRelates", spec := "spanRelates", inPlace := ["internal/reflectlite.ValueOf", "(internal/reflectlite.Value).Type", "(internal/reflectlite.Value).IsNil", "internal/reflectlite.TypeOf", "(internal/reflectlite.Value).Elem", "(internal/reflectlite.Value).Set"], unfollowed := true, recurses := true, named := ["errors.errorType"], apart := false, laid := [("errors.errorType", laid_errors_errorType)] }
def SpanRelatesSaid : Prop := spanRelatesRow.holds Tryd.pinned (OpenSpec.ofChange spanRelatesSpec)

/-- ITS FALSE NEIGHBOUR: 'it returns false'. Refute it at one input. -/
def spanRelatesWrong : ChangeSpec := { name := "spanRelates", fn := fun _ => fun
  | [d1, d2] => { results := [.lit (.bool false)], args := [d1, d2] }
  | _ => none }
def SpanRelatesWrongFalsely : Prop := spanRelatesRow.holds Tryd.pinned (OpenSpec.ofChange spanRelatesWrong)

/-- 'kenninglaw03.SpanJoins': WHATEVER THE INPUT: true; the input reads as it did. -/
def spanJoinsSpec : ChangeSpec := { name := "spanJoins", fn := fun _ => fun
  | [d1, d2, d3] => { results := [.lit (.bool true)], args := [d1, d2, d3] }
  | _ => none }
def spanJoinsRow : OpenClaim := { program := "ytplckfofdkmieaadoor", sum := "42117cf466033c1ae3c135fcbe70566f5904171bfa7947f26099d133eb05aef3", func := "kenning/kenninglaw03.SpanJoins", spec := "spanJoins", inPlace := ["internal/reflectlite.ValueOf", "(internal/reflectlite.Value).Type", "(internal/reflectlite.Value).IsNil", "internal/reflectlite.TypeOf", "(internal/reflectlite.Value).Elem", "(internal/reflectlite.Value).Set"], unfollowed := true, recurses := true, named := ["errors.errorType"], apart := false, laid := [("errors.errorType", laid_errors_errorType)] }
def SpanJoinsSaid : Prop := spanJoinsRow.holds Tryd.pinned (OpenSpec.ofChange spanJoinsSpec)

/-- ITS FALSE NEIGHBOUR: 'it returns false'. Refute it at one input. -/
def spanJoinsWrong : ChangeSpec := { name := "spanJoins", fn := fun _ => fun
  | [d1, d2, d3] => { results := [.lit (.bool false)], args := [d1, d2, d3] }
  | _ => none }
def SpanJoinsWrongFalsely : Prop := spanJoinsRow.holds Tryd.pinned (OpenSpec.ofChange spanJoinsWrong)

/-- 'kenninglaw03.SpanMeets': WHATEVER THE INPUT: true; the input reads as it did. -/
def spanMeetsSpec : ChangeSpec := { name := "spanMeets", fn := fun _ => fun
  | [d1, d2, d3] => { results := [.lit (.bool true)], args := [d1, d2, d3] }
  | _ => none }
def spanMeetsRow : OpenClaim := { program := "ytplckfofdkmieaadoor", sum := "42117cf466033c1ae3c135fcbe70566f5904171bfa7947f26099d133eb05aef3", func := "kenning/kenninglaw03.SpanMeets", spec := "spanMeets", inPlace := ["internal/reflectlite.ValueOf", "(internal/reflectlite.Value).Type", "(internal/reflectlite.Value).IsNil", "internal/reflectlite.TypeOf", "(internal/reflectlite.Value).Elem", "(internal/reflectlite.Value).Set"], unfollowed := true, recurses := true, named := ["errors.errorType"], apart := false, laid := [("errors.errorType", laid_errors_errorType)] }
def SpanMeetsSaid : Prop := spanMeetsRow.holds Tryd.pinned (OpenSpec.ofChange spanMeetsSpec)

/-- ITS FALSE NEIGHBOUR: 'it returns false'. Refute it at one input. -/
def spanMeetsWrong : ChangeSpec := { name := "spanMeets", fn := fun _ => fun
  | [d1, d2, d3] => { results := [.lit (.bool false)], args := [d1, d2, d3] }
  | _ => none }
def SpanMeetsWrongFalsely : Prop := spanMeetsRow.holds Tryd.pinned (OpenSpec.ofChange spanMeetsWrong)

/-- 'kenninglaw03.SpanChecks': WHATEVER THE INPUT: true; the input reads as it did. -/
def spanChecksSpec : ChangeSpec := { name := "spanChecks", fn := fun _ => fun
  | [d1, d2] => { results := [.lit (.bool true)], args := [d1, d2] }
  | _ => none }
def spanChecksRow : OpenClaim := { program := "ytplckfofdkmieaadoor", sum := "42117cf466033c1ae3c135fcbe70566f5904171bfa7947f26099d133eb05aef3", func := "kenning/kenninglaw03.SpanChecks", spec := "spanChecks", inPlace := ["internal/reflectlite.ValueOf", "(internal/reflectlite.Value).Type", "(internal/reflectlite.Value).IsNil", "internal/reflectlite.TypeOf", "(internal/reflectlite.Value).Elem", "(internal/reflectlite.Value).Set"], unfollowed := true, recurses := true, named := ["errors.errorType"], apart := false, laid := [("errors.errorType", laid_errors_errorType)] }
def SpanChecksSaid : Prop := spanChecksRow.holds Tryd.pinned (OpenSpec.ofChange spanChecksSpec)

/-- ITS FALSE NEIGHBOUR: 'it returns false'. Refute it at one input. -/
def spanChecksWrong : ChangeSpec := { name := "spanChecks", fn := fun _ => fun
  | [d1, d2] => { results := [.lit (.bool false)], args := [d1, d2] }
  | _ => none }
def SpanChecksWrongFalsely : Prop := spanChecksRow.holds Tryd.pinned (OpenSpec.ofChange spanChecksWrong)

/-- 'kenninglaw03.SpanShifts': WHATEVER THE INPUT: true; the input reads as it did. -/
def spanShiftsSpec : ChangeSpec := { name := "spanShifts", fn := fun _ => fun
  | [d1, d2, d3] => { results := [.lit (.bool true)], args := [d1, d2, d3] }
  | _ => none }
def spanShiftsRow : OpenClaim := { program := "ytplckfofdkmieaadoor", sum := "42117cf466033c1ae3c135fcbe70566f5904171bfa7947f26099d133eb05aef3", func := "kenning/kenninglaw03.SpanShifts", spec := "spanShifts", inPlace := ["internal/reflectlite.ValueOf", "(internal/reflectlite.Value).Type", "(internal/reflectlite.Value).IsNil", "internal/reflectlite.TypeOf", "(internal/reflectlite.Value).Elem", "(internal/reflectlite.Value).Set"], unfollowed := true, recurses := true, named := ["errors.errorType"], apart := false, laid := [("errors.errorType", laid_errors_errorType)] }
def SpanShiftsSaid : Prop := spanShiftsRow.holds Tryd.pinned (OpenSpec.ofChange spanShiftsSpec)

/-- ITS FALSE NEIGHBOUR: 'it returns false'. Refute it at one input. -/
def spanShiftsWrong : ChangeSpec := { name := "spanShifts", fn := fun _ => fun
  | [d1, d2, d3] => { results := [.lit (.bool false)], args := [d1, d2, d3] }
  | _ => none }
def SpanShiftsWrongFalsely : Prop := spanShiftsRow.holds Tryd.pinned (OpenSpec.ofChange spanShiftsWrong)

/-- 'kenninglaw03.SpanCuts': WHATEVER THE INPUT: true; the input reads as it did. -/
def spanCutsSpec : ChangeSpec := { name := "spanCuts", fn := fun _ => fun
  | [d1, d2, d3] => { results := [.lit (.bool true)], args := [d1, d2, d3] }
  | _ => none }
def spanCutsRow : OpenClaim := { program := "ytplckfofdkmieaadoor", sum := "42117cf466033c1ae3c135fcbe70566f5904171bfa7947f26099d133eb05aef3", func := "kenning/kenninglaw03.SpanCuts", spec := "spanCuts", inPlace := ["internal/reflectlite.ValueOf", "(internal/reflectlite.Value).Type", "(internal/reflectlite.Value).IsNil", "internal/reflectlite.TypeOf", "(internal/reflectlite.Value).Elem", "(internal/reflectlite.Value).Set"], unfollowed := true, recurses := true, named := ["errors.errorType"], apart := false, laid := [("errors.errorType", laid_errors_errorType)] }
def SpanCutsSaid : Prop := spanCutsRow.holds Tryd.pinned (OpenSpec.ofChange spanCutsSpec)

/-- ITS FALSE NEIGHBOUR: 'it returns false'. Refute it at one input. -/
def spanCutsWrong : ChangeSpec := { name := "spanCuts", fn := fun _ => fun
  | [d1, d2, d3] => { results := [.lit (.bool false)], args := [d1, d2, d3] }
  | _ => none }
def SpanCutsWrongFalsely : Prop := spanCutsRow.holds Tryd.pinned (OpenSpec.ofChange spanCutsWrong)

/- THE SECOND FORM. 'bulk': how many values and letters a reading holds, each counted each time it is reached (what is shared counts as often as it is met; a slice's spare places count too). A statement '..UptoSaid' is the law's where the arguments, and the package variables that the reading takes, are together of bulk at most 1048576: NARROWER than '..Said'. Prove '..Said' where nothing that the law and all that it calls make is longer than what came in: it says more and counts as full. Else prove '..UptoSaid'. A law counts once. -/
mutual
def uptoBulk {H : Type} : DataW H → Nat
  | .lit (.string bytes) => bytes.length + 1
  | .lit _ => 1
  | .nil => 1
  | .ptr d => uptoBulk d + 1
  | .slice elems spare => uptoBulkAll elems + uptoBulkAll spare + 1
  | .agg parts => uptoBulkAll parts + 1
  | .iface _ d => uptoBulk d + 1
  | .map entries => uptoBulkEntries entries + 1
  | .held _ => 1
def uptoBulkAll {H : Type} : List (DataW H) → Nat
  | [] => 0
  | d :: r => uptoBulk d + uptoBulkAll r
def uptoBulkEntries {H : Type} : List (Lit × DataW H) → Nat
  | [] => 0
  | x :: r => uptoBulkEntry x + uptoBulkEntries r
def uptoBulkEntry {H : Type} : Lit × DataW H → Nat
  | (.string bytes, d) => bytes.length + uptoBulk d + 1
  | (_, d) => uptoBulk d + 1
 end
def uptoSmall : (H : Type) → List (DataW H) → Bool := fun _ ds => decide (uptoBulkAll ds ≤ 1048576)
def OpenSpec.upto (s : _root_.Go.ChangeSpec) : _root_.Go.OpenSpec := { _root_.Go.OpenSpec.ofChange s with cond := some uptoSmall }

/-- 'kenninglaw03.SpanRelates', WHERE WHAT IT READS IS OF BULK AT MOST 1048576: true; the input reads as it did. -/
def spanRelatesUptoRow : OpenClaim := { program := "ytplckfofdkmieaadoor", sum := "42117cf466033c1ae3c135fcbe70566f5904171bfa7947f26099d133eb05aef3", func := "kenning/kenninglaw03.SpanRelates", spec := "spanRelates", inPlace := ["internal/reflectlite.ValueOf", "(internal/reflectlite.Value).Type", "(internal/reflectlite.Value).IsNil", "internal/reflectlite.TypeOf", "(internal/reflectlite.Value).Elem", "(internal/reflectlite.Value).Set"], unfollowed := true, recurses := true, named := ["errors.errorType"], apart := false, laid := [("errors.errorType", laid_errors_errorType)], narrowed := true }
def SpanRelatesUptoSaid : Prop := spanRelatesUptoRow.holds Tryd.pinned (OpenSpec.upto spanRelatesSpec)

/-- 'kenninglaw03.SpanJoins', WHERE WHAT IT READS IS OF BULK AT MOST 1048576: true; the input reads as it did. -/
def spanJoinsUptoRow : OpenClaim := { program := "ytplckfofdkmieaadoor", sum := "42117cf466033c1ae3c135fcbe70566f5904171bfa7947f26099d133eb05aef3", func := "kenning/kenninglaw03.SpanJoins", spec := "spanJoins", inPlace := ["internal/reflectlite.ValueOf", "(internal/reflectlite.Value).Type", "(internal/reflectlite.Value).IsNil", "internal/reflectlite.TypeOf", "(internal/reflectlite.Value).Elem", "(internal/reflectlite.Value).Set"], unfollowed := true, recurses := true, named := ["errors.errorType"], apart := false, laid := [("errors.errorType", laid_errors_errorType)], narrowed := true }
def SpanJoinsUptoSaid : Prop := spanJoinsUptoRow.holds Tryd.pinned (OpenSpec.upto spanJoinsSpec)

/-- 'kenninglaw03.SpanMeets', WHERE WHAT IT READS IS OF BULK AT MOST 1048576: true; the input reads as it did. -/
def spanMeetsUptoRow : OpenClaim := { program := "ytplckfofdkmieaadoor", sum := "42117cf466033c1ae3c135fcbe70566f5904171bfa7947f26099d133eb05aef3", func := "kenning/kenninglaw03.SpanMeets", spec := "spanMeets", inPlace := ["internal/reflectlite.ValueOf", "(internal/reflectlite.Value).Type", "(internal/reflectlite.Value).IsNil", "internal/reflectlite.TypeOf", "(internal/reflectlite.Value).Elem", "(internal/reflectlite.Value).Set"], unfollowed := true, recurses := true, named := ["errors.errorType"], apart := false, laid := [("errors.errorType", laid_errors_errorType)], narrowed := true }
def SpanMeetsUptoSaid : Prop := spanMeetsUptoRow.holds Tryd.pinned (OpenSpec.upto spanMeetsSpec)

/-- 'kenninglaw03.SpanChecks', WHERE WHAT IT READS IS OF BULK AT MOST 1048576: true; the input reads as it did. -/
def spanChecksUptoRow : OpenClaim := { program := "ytplckfofdkmieaadoor", sum := "42117cf466033c1ae3c135fcbe70566f5904171bfa7947f26099d133eb05aef3", func := "kenning/kenninglaw03.SpanChecks", spec := "spanChecks", inPlace := ["internal/reflectlite.ValueOf", "(internal/reflectlite.Value).Type", "(internal/reflectlite.Value).IsNil", "internal/reflectlite.TypeOf", "(internal/reflectlite.Value).Elem", "(internal/reflectlite.Value).Set"], unfollowed := true, recurses := true, named := ["errors.errorType"], apart := false, laid := [("errors.errorType", laid_errors_errorType)], narrowed := true }
def SpanChecksUptoSaid : Prop := spanChecksUptoRow.holds Tryd.pinned (OpenSpec.upto spanChecksSpec)

/-- 'kenninglaw03.SpanShifts', WHERE WHAT IT READS IS OF BULK AT MOST 1048576: true; the input reads as it did. -/
def spanShiftsUptoRow : OpenClaim := { program := "ytplckfofdkmieaadoor", sum := "42117cf466033c1ae3c135fcbe70566f5904171bfa7947f26099d133eb05aef3", func := "kenning/kenninglaw03.SpanShifts", spec := "spanShifts", inPlace := ["internal/reflectlite.ValueOf", "(internal/reflectlite.Value).Type", "(internal/reflectlite.Value).IsNil", "internal/reflectlite.TypeOf", "(internal/reflectlite.Value).Elem", "(internal/reflectlite.Value).Set"], unfollowed := true, recurses := true, named := ["errors.errorType"], apart := false, laid := [("errors.errorType", laid_errors_errorType)], narrowed := true }
def SpanShiftsUptoSaid : Prop := spanShiftsUptoRow.holds Tryd.pinned (OpenSpec.upto spanShiftsSpec)

/-- 'kenninglaw03.SpanCuts', WHERE WHAT IT READS IS OF BULK AT MOST 1048576: true; the input reads as it did. -/
def spanCutsUptoRow : OpenClaim := { program := "ytplckfofdkmieaadoor", sum := "42117cf466033c1ae3c135fcbe70566f5904171bfa7947f26099d133eb05aef3", func := "kenning/kenninglaw03.SpanCuts", spec := "spanCuts", inPlace := ["internal/reflectlite.ValueOf", "(internal/reflectlite.Value).Type", "(internal/reflectlite.Value).IsNil", "internal/reflectlite.TypeOf", "(internal/reflectlite.Value).Elem", "(internal/reflectlite.Value).Set"], unfollowed := true, recurses := true, named := ["errors.errorType"], apart := false, laid := [("errors.errorType", laid_errors_errorType)], narrowed := true }
def SpanCutsUptoSaid : Prop := spanCutsUptoRow.holds Tryd.pinned (OpenSpec.upto spanCutsSpec)

end Rows
end Go.Proofs.YtplckfofdkmieaaDoor
