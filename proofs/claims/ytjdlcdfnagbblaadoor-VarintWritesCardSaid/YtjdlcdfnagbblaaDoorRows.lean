/-
  NARROWER THAN 'FOR EVERY INPUT', by the rows' own cells (each row's printed sentence says how): VarintWrites: laid · VarintOnce: laid · VarintSteps: laid · VarintResets: laid · VarintNil: laid · VarintReads: laid.
  DERIVED. THE GIVEN ROWS OF THIS SEAT. 6 by the template 'for every input the law returns true; each argument reads behind the call as it read before'; 0 by the template 'total and deterministic' (their statements: YtjdlcdfnagbblaaDoorTotals.lean).
  GIVEN WITH THE SEED: the statements are not yours to turn. If you find one false, say at which input.
  Laid BY PROGRAM, IN A SANDBOX (cutbox-rows.mjs): the forced cells as the released guide's own fill.sh prints them over the translation 3711702b4211276f… (all of the seat's roots in one cut). By AI agents, Wed Nov 11 2026. No macro, syntax, notation, axiom, sorry.
-/
import Derived.Test.YtjdlcdfnagbblaaDoorChecked
import GoSem.Claim
import GoSem.ClaimJoined
import GoSem.ClaimMapViews
import Derived.JoinedTies
import Derived.KernelRfl
namespace Go.Proofs.YtjdlcdfnagbblaaDoor
/- THE CELL 'sum', in the pinned program and in every row, IS THE sha256 OF THE DUMP (.gsa) THAT YtjdlcdfnagbblaaDoorProg.lean LOADS. Nothing in Lean hashes anything: it is a label: what it is worth is what the hold of that sum in a sandbox is worth. -/
noncomputable def Tryd.pinned : Pinned := { name := "ytjdlcdfnagbblaadoor", sum := "3711702b4211276fbd33183261f7c16ae915dd23527efc08d15bccafe946f153", checked := Tryd.checked }
namespace Rows
def none {H : Type} : Left H := { results := [], args := [] }

/- WHAT THE LISTED PACKAGE-LEVEL VARIABLES READ AS WHEN THE CALL BEGINS. Each datum BY PROGRAM (the guide's laid-datum.mjs) off the statement by which the dump's own 'gosem.cut.vars' lays the variable. In a bare row this is a premise. The card (YtjdlcdfnagbblaaDoorCards.lean) ties it to the program's text. -/
def laid_errors_errorType {H : Type} : DataW H := .iface "internal/reflectlite.rtype" (.agg [.ptr (.lit (.string [101, 114, 114, 111, 114]))])

/-- 'kenninglaw16.VarintWrites': WHATEVER THE INPUT: true; the input reads as it did. -/
def varintWritesSpec : ChangeSpec := { name := "varintWrites", fn := fun _ => fun
  | [d1, d2] => { results := [.lit (.bool true)], args := [d1, d2] }
  | _ => none }
def varintWritesRow : OpenClaim := { program := "ytjdlcdfnagbblaadoor", sum := "3711702b4211276fbd33183261f7c16ae915dd23527efc08d15bccafe946f153", func := "kenning/kenninglaw16.VarintWrites", spec := "varintWrites", inPlace := ["internal/reflectlite.ValueOf", "(internal/reflectlite.Value).Type", "(internal/reflectlite.Value).IsNil", "internal/reflectlite.TypeOf", "(internal/reflectlite.Value).Elem", "(internal/reflectlite.Value).Set"], unfollowed := true, recurses := true, named := ["errors.errorType"], apart := false, laid := [("errors.errorType", laid_errors_errorType)] }
def VarintWritesSaid : Prop := varintWritesRow.holds Tryd.pinned (OpenSpec.ofChange varintWritesSpec)

/-- ITS FALSE NEIGHBOUR: 'it returns false'. Refute it at one input. -/
def varintWritesWrong : ChangeSpec := { name := "varintWrites", fn := fun _ => fun
  | [d1, d2] => { results := [.lit (.bool false)], args := [d1, d2] }
  | _ => none }
def VarintWritesWrongFalsely : Prop := varintWritesRow.holds Tryd.pinned (OpenSpec.ofChange varintWritesWrong)

/-- 'kenninglaw16.VarintOnce': WHATEVER THE INPUT: true; the input reads as it did. -/
def varintOnceSpec : ChangeSpec := { name := "varintOnce", fn := fun _ => fun
  | [d] => { results := [.lit (.bool true)], args := [d] }
  | _ => none }
def varintOnceRow : OpenClaim := { program := "ytjdlcdfnagbblaadoor", sum := "3711702b4211276fbd33183261f7c16ae915dd23527efc08d15bccafe946f153", func := "kenning/kenninglaw16.VarintOnce", spec := "varintOnce", inPlace := ["internal/reflectlite.ValueOf", "(internal/reflectlite.Value).Type", "(internal/reflectlite.Value).IsNil", "internal/reflectlite.TypeOf", "(internal/reflectlite.Value).Elem", "(internal/reflectlite.Value).Set"], unfollowed := true, recurses := true, named := ["errors.errorType"], apart := false, laid := [("errors.errorType", laid_errors_errorType)] }
def VarintOnceSaid : Prop := varintOnceRow.holds Tryd.pinned (OpenSpec.ofChange varintOnceSpec)

/-- ITS FALSE NEIGHBOUR: 'it returns false'. Refute it at one input. -/
def varintOnceWrong : ChangeSpec := { name := "varintOnce", fn := fun _ => fun
  | [d] => { results := [.lit (.bool false)], args := [d] }
  | _ => none }
def VarintOnceWrongFalsely : Prop := varintOnceRow.holds Tryd.pinned (OpenSpec.ofChange varintOnceWrong)

/-- 'kenninglaw16.VarintSteps': WHATEVER THE INPUT: true; the input reads as it did. -/
def varintStepsSpec : ChangeSpec := { name := "varintSteps", fn := fun _ => fun
  | [d] => { results := [.lit (.bool true)], args := [d] }
  | _ => none }
def varintStepsRow : OpenClaim := { program := "ytjdlcdfnagbblaadoor", sum := "3711702b4211276fbd33183261f7c16ae915dd23527efc08d15bccafe946f153", func := "kenning/kenninglaw16.VarintSteps", spec := "varintSteps", inPlace := ["internal/reflectlite.ValueOf", "(internal/reflectlite.Value).Type", "(internal/reflectlite.Value).IsNil", "internal/reflectlite.TypeOf", "(internal/reflectlite.Value).Elem", "(internal/reflectlite.Value).Set"], unfollowed := true, recurses := true, named := ["errors.errorType"], apart := false, laid := [("errors.errorType", laid_errors_errorType)] }
def VarintStepsSaid : Prop := varintStepsRow.holds Tryd.pinned (OpenSpec.ofChange varintStepsSpec)

/-- ITS FALSE NEIGHBOUR: 'it returns false'. Refute it at one input. -/
def varintStepsWrong : ChangeSpec := { name := "varintSteps", fn := fun _ => fun
  | [d] => { results := [.lit (.bool false)], args := [d] }
  | _ => none }
def VarintStepsWrongFalsely : Prop := varintStepsRow.holds Tryd.pinned (OpenSpec.ofChange varintStepsWrong)

/-- 'kenninglaw16.VarintResets': WHATEVER THE INPUT: true; the input reads as it did. -/
def varintResetsSpec : ChangeSpec := { name := "varintResets", fn := fun _ => fun
  | [d1, d2] => { results := [.lit (.bool true)], args := [d1, d2] }
  | _ => none }
def varintResetsRow : OpenClaim := { program := "ytjdlcdfnagbblaadoor", sum := "3711702b4211276fbd33183261f7c16ae915dd23527efc08d15bccafe946f153", func := "kenning/kenninglaw16.VarintResets", spec := "varintResets", inPlace := ["internal/reflectlite.ValueOf", "(internal/reflectlite.Value).Type", "(internal/reflectlite.Value).IsNil", "internal/reflectlite.TypeOf", "(internal/reflectlite.Value).Elem", "(internal/reflectlite.Value).Set"], unfollowed := true, recurses := true, named := ["errors.errorType"], apart := false, laid := [("errors.errorType", laid_errors_errorType)] }
def VarintResetsSaid : Prop := varintResetsRow.holds Tryd.pinned (OpenSpec.ofChange varintResetsSpec)

/-- ITS FALSE NEIGHBOUR: 'it returns false'. Refute it at one input. -/
def varintResetsWrong : ChangeSpec := { name := "varintResets", fn := fun _ => fun
  | [d1, d2] => { results := [.lit (.bool false)], args := [d1, d2] }
  | _ => none }
def VarintResetsWrongFalsely : Prop := varintResetsRow.holds Tryd.pinned (OpenSpec.ofChange varintResetsWrong)

/-- 'kenninglaw16.VarintNil': WHATEVER THE INPUT: true; the input reads as it did. -/
def varintNilSpec : ChangeSpec := { name := "varintNil", fn := fun _ => fun
  | [d] => { results := [.lit (.bool true)], args := [d] }
  | _ => none }
def varintNilRow : OpenClaim := { program := "ytjdlcdfnagbblaadoor", sum := "3711702b4211276fbd33183261f7c16ae915dd23527efc08d15bccafe946f153", func := "kenning/kenninglaw16.VarintNil", spec := "varintNil", inPlace := ["internal/reflectlite.ValueOf", "(internal/reflectlite.Value).Type", "(internal/reflectlite.Value).IsNil", "internal/reflectlite.TypeOf", "(internal/reflectlite.Value).Elem", "(internal/reflectlite.Value).Set"], unfollowed := true, recurses := true, named := ["errors.errorType"], apart := false, laid := [("errors.errorType", laid_errors_errorType)] }
def VarintNilSaid : Prop := varintNilRow.holds Tryd.pinned (OpenSpec.ofChange varintNilSpec)

/-- ITS FALSE NEIGHBOUR: 'it returns false'. Refute it at one input. -/
def varintNilWrong : ChangeSpec := { name := "varintNil", fn := fun _ => fun
  | [d] => { results := [.lit (.bool false)], args := [d] }
  | _ => none }
def VarintNilWrongFalsely : Prop := varintNilRow.holds Tryd.pinned (OpenSpec.ofChange varintNilWrong)

/-- 'kenninglaw16.VarintReads': WHATEVER THE INPUT: true; the input reads as it did. -/
def varintReadsSpec : ChangeSpec := { name := "varintReads", fn := fun _ => fun
  | [d1, d2] => { results := [.lit (.bool true)], args := [d1, d2] }
  | _ => none }
def varintReadsRow : OpenClaim := { program := "ytjdlcdfnagbblaadoor", sum := "3711702b4211276fbd33183261f7c16ae915dd23527efc08d15bccafe946f153", func := "kenning/kenninglaw16.VarintReads", spec := "varintReads", inPlace := ["internal/reflectlite.ValueOf", "(internal/reflectlite.Value).Type", "(internal/reflectlite.Value).IsNil", "internal/reflectlite.TypeOf", "(internal/reflectlite.Value).Elem", "(internal/reflectlite.Value).Set"], unfollowed := true, recurses := true, named := ["errors.errorType"], apart := false, laid := [("errors.errorType", laid_errors_errorType)] }
def VarintReadsSaid : Prop := varintReadsRow.holds Tryd.pinned (OpenSpec.ofChange varintReadsSpec)

/-- ITS FALSE NEIGHBOUR: 'it returns false'. Refute it at one input. -/
def varintReadsWrong : ChangeSpec := { name := "varintReads", fn := fun _ => fun
  | [d1, d2] => { results := [.lit (.bool false)], args := [d1, d2] }
  | _ => none }
def VarintReadsWrongFalsely : Prop := varintReadsRow.holds Tryd.pinned (OpenSpec.ofChange varintReadsWrong)

/- THE SECOND FORM. 'bulk': how many values and letters a reading holds, each counted each time it is reached (what is shared counts as often as it is met; a slice's spare places count too). A statement '..UptoSaid' is the law's where the arguments, and the package variables that the reading takes, are together of bulk at most 1048576: NARROWER than '..Said'. Prove '..Said' where nothing that the law and all that it calls make is longer than what came in: it says more and counts as full. Else prove '..UptoSaid'. A law counts once. -/
mutual
def uptoBulk {H : Type} : DataW H → Nat
  | .lit (.string bytes) => bytes.length + 1
  | .lit _ => 1
  | .nil => 1
  | .ptr d => uptoBulk d + 1
  | .slice elems spare => uptoBulkAll elems + uptoBulkAll spare + 1
  | .agg parts => uptoBulkAll parts + 1
  | .iface _ d => uptoBulk d + 1
  | .map entries => uptoBulkEntries entries + 1
  | .held _ => 1
def uptoBulkAll {H : Type} : List (DataW H) → Nat
  | [] => 0
  | d :: r => uptoBulk d + uptoBulkAll r
def uptoBulkEntries {H : Type} : List (Lit × DataW H) → Nat
  | [] => 0
  | x :: r => uptoBulkEntry x + uptoBulkEntries r
def uptoBulkEntry {H : Type} : Lit × DataW H → Nat
  | (.string bytes, d) => bytes.length + uptoBulk d + 1
  | (_, d) => uptoBulk d + 1
 end
def uptoSmall : (H : Type) → List (DataW H) → Bool := fun _ ds => decide (uptoBulkAll ds ≤ 1048576)
def OpenSpec.upto (s : _root_.Go.ChangeSpec) : _root_.Go.OpenSpec := { _root_.Go.OpenSpec.ofChange s with cond := some uptoSmall }

/-- 'kenninglaw16.VarintWrites', WHERE WHAT IT READS IS OF BULK AT MOST 1048576: true; the input reads as it did. -/
def varintWritesUptoRow : OpenClaim := { program := "ytjdlcdfnagbblaadoor", sum := "3711702b4211276fbd33183261f7c16ae915dd23527efc08d15bccafe946f153", func := "kenning/kenninglaw16.VarintWrites", spec := "varintWrites", inPlace := ["internal/reflectlite.ValueOf", "(internal/reflectlite.Value).Type", "(internal/reflectlite.Value).IsNil", "internal/reflectlite.TypeOf", "(internal/reflectlite.Value).Elem", "(internal/reflectlite.Value).Set"], unfollowed := true, recurses := true, named := ["errors.errorType"], apart := false, laid := [("errors.errorType", laid_errors_errorType)], narrowed := true }
def VarintWritesUptoSaid : Prop := varintWritesUptoRow.holds Tryd.pinned (OpenSpec.upto varintWritesSpec)

/-- 'kenninglaw16.VarintOnce', WHERE WHAT IT READS IS OF BULK AT MOST 1048576: true; the input reads as it did. -/
def varintOnceUptoRow : OpenClaim := { program := "ytjdlcdfnagbblaadoor", sum := "3711702b4211276fbd33183261f7c16ae915dd23527efc08d15bccafe946f153", func := "kenning/kenninglaw16.VarintOnce", spec := "varintOnce", inPlace := ["internal/reflectlite.ValueOf", "(internal/reflectlite.Value).Type", "(internal/reflectlite.Value).IsNil", "internal/reflectlite.TypeOf", "(internal/reflectlite.Value).Elem", "(internal/reflectlite.Value).Set"], unfollowed := true, recurses := true, named := ["errors.errorType"], apart := false, laid := [("errors.errorType", laid_errors_errorType)], narrowed := true }
def VarintOnceUptoSaid : Prop := varintOnceUptoRow.holds Tryd.pinned (OpenSpec.upto varintOnceSpec)

/-- 'kenninglaw16.VarintSteps', WHERE WHAT IT READS IS OF BULK AT MOST 1048576: true; the input reads as it did. -/
def varintStepsUptoRow : OpenClaim := { program := "ytjdlcdfnagbblaadoor", sum := "3711702b4211276fbd33183261f7c16ae915dd23527efc08d15bccafe946f153", func := "kenning/kenninglaw16.VarintSteps", spec := "varintSteps", inPlace := ["internal/reflectlite.ValueOf", "(internal/reflectlite.Value).Type", "(internal/reflectlite.Value).IsNil", "internal/reflectlite.TypeOf", "(internal/reflectlite.Value).Elem", "(internal/reflectlite.Value).Set"], unfollowed := true, recurses := true, named := ["errors.errorType"], apart := false, laid := [("errors.errorType", laid_errors_errorType)], narrowed := true }
def VarintStepsUptoSaid : Prop := varintStepsUptoRow.holds Tryd.pinned (OpenSpec.upto varintStepsSpec)

/-- 'kenninglaw16.VarintResets', WHERE WHAT IT READS IS OF BULK AT MOST 1048576: true; the input reads as it did. -/
def varintResetsUptoRow : OpenClaim := { program := "ytjdlcdfnagbblaadoor", sum := "3711702b4211276fbd33183261f7c16ae915dd23527efc08d15bccafe946f153", func := "kenning/kenninglaw16.VarintResets", spec := "varintResets", inPlace := ["internal/reflectlite.ValueOf", "(internal/reflectlite.Value).Type", "(internal/reflectlite.Value).IsNil", "internal/reflectlite.TypeOf", "(internal/reflectlite.Value).Elem", "(internal/reflectlite.Value).Set"], unfollowed := true, recurses := true, named := ["errors.errorType"], apart := false, laid := [("errors.errorType", laid_errors_errorType)], narrowed := true }
def VarintResetsUptoSaid : Prop := varintResetsUptoRow.holds Tryd.pinned (OpenSpec.upto varintResetsSpec)

/-- 'kenninglaw16.VarintNil', WHERE WHAT IT READS IS OF BULK AT MOST 1048576: true; the input reads as it did. -/
def varintNilUptoRow : OpenClaim := { program := "ytjdlcdfnagbblaadoor", sum := "3711702b4211276fbd33183261f7c16ae915dd23527efc08d15bccafe946f153", func := "kenning/kenninglaw16.VarintNil", spec := "varintNil", inPlace := ["internal/reflectlite.ValueOf", "(internal/reflectlite.Value).Type", "(internal/reflectlite.Value).IsNil", "internal/reflectlite.TypeOf", "(internal/reflectlite.Value).Elem", "(internal/reflectlite.Value).Set"], unfollowed := true, recurses := true, named := ["errors.errorType"], apart := false, laid := [("errors.errorType", laid_errors_errorType)], narrowed := true }
def VarintNilUptoSaid : Prop := varintNilUptoRow.holds Tryd.pinned (OpenSpec.upto varintNilSpec)

/-- 'kenninglaw16.VarintReads', WHERE WHAT IT READS IS OF BULK AT MOST 1048576: true; the input reads as it did. -/
def varintReadsUptoRow : OpenClaim := { program := "ytjdlcdfnagbblaadoor", sum := "3711702b4211276fbd33183261f7c16ae915dd23527efc08d15bccafe946f153", func := "kenning/kenninglaw16.VarintReads", spec := "varintReads", inPlace := ["internal/reflectlite.ValueOf", "(internal/reflectlite.Value).Type", "(internal/reflectlite.Value).IsNil", "internal/reflectlite.TypeOf", "(internal/reflectlite.Value).Elem", "(internal/reflectlite.Value).Set"], unfollowed := true, recurses := true, named := ["errors.errorType"], apart := false, laid := [("errors.errorType", laid_errors_errorType)], narrowed := true }
def VarintReadsUptoSaid : Prop := varintReadsUptoRow.holds Tryd.pinned (OpenSpec.upto varintReadsSpec)

end Rows
end Go.Proofs.YtjdlcdfnagbblaaDoor
