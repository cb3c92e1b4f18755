/-
  No cell of these rows narrows 'for every input' (looked for: loops, veiled, ifaces, maps, wideKeys, modest, calm, conditions, laid).
  DERIVED. THE GIVEN ROWS OF THIS SEAT. 6 by the template 'for every input the law returns true; each argument reads behind the call as it read before'; 0 by the template 'total and deterministic' (their statements: YtjadnhibepdemaaTotals.lean).
  GIVEN WITH THE SEED: the statements are not yours to turn. If you find one false, say at which input.
  Laid BY PROGRAM, IN A SANDBOX (cutbox-rows.mjs): the forced cells as the released guide's own fill.sh prints them over the translation e4c2d498fc31edab… (all of the seat's roots in one cut). By AI agents, Wed Nov 11 2026. No macro, syntax, notation, axiom, sorry.
-/
import Derived.Test.YtjadnhibepdemaaChecked
import GoSem.Claim
import GoSem.ClaimJoined
import GoSem.ClaimMapViews
import Derived.JoinedTies
import Derived.KernelRfl
namespace Go.Proofs.Ytjadnhibepdemaa
/- THE CELL 'sum', in the pinned program and in every row, IS THE sha256 OF THE DUMP (.gsa) THAT YtjadnhibepdemaaProg.lean LOADS. Nothing in Lean hashes anything: it is a label: what it is worth is what the hold of that sum in a sandbox is worth. -/
noncomputable def Try.pinned : Pinned := { name := "ytjadnhibepdemaa", sum := "e4c2d498fc31edab0071d9d53ff9ef8fe3d5c423ccf7b9149778ea03bf45a93f", checked := Try.checked }
namespace Rows
def none {H : Type} : Left H := { results := [], args := [] }

/-- 'kenninglaw02.WordWidths': WHATEVER THE INPUT: true; the input reads as it did. -/
def wordWidthsSpec : ChangeSpec := { name := "wordWidths", fn := fun _ => fun
  | [d1, d2] => { results := [.lit (.bool true)], args := [d1, d2] }
  | _ => none }
def wordWidthsRow : OpenClaim := { program := "ytjadnhibepdemaa", sum := "e4c2d498fc31edab0071d9d53ff9ef8fe3d5c423ccf7b9149778ea03bf45a93f", func := "kenning/kenninglaw02.WordWidths", spec := "wordWidths", apart := false }
def WordWidthsSaid : Prop := wordWidthsRow.holds Try.pinned (OpenSpec.ofChange wordWidthsSpec)

/-- ITS FALSE NEIGHBOUR: 'it returns false'. Refute it at one input. -/
def wordWidthsWrong : ChangeSpec := { name := "wordWidths", fn := fun _ => fun
  | [d1, d2] => { results := [.lit (.bool false)], args := [d1, d2] }
  | _ => none }
def WordWidthsWrongFalsely : Prop := wordWidthsRow.holds Try.pinned (OpenSpec.ofChange wordWidthsWrong)

/-- 'kenninglaw02.WordTexts': WHATEVER THE INPUT: true; the input reads as it did. -/
def wordTextsSpec : ChangeSpec := { name := "wordTexts", fn := fun _ => fun
  | [d] => { results := [.lit (.bool true)], args := [d] }
  | _ => none }
def wordTextsRow : OpenClaim := { program := "ytjadnhibepdemaa", sum := "e4c2d498fc31edab0071d9d53ff9ef8fe3d5c423ccf7b9149778ea03bf45a93f", func := "kenning/kenninglaw02.WordTexts", spec := "wordTexts", apart := false }
def WordTextsSaid : Prop := wordTextsRow.holds Try.pinned (OpenSpec.ofChange wordTextsSpec)

/-- ITS FALSE NEIGHBOUR: 'it returns false'. Refute it at one input. -/
def wordTextsWrong : ChangeSpec := { name := "wordTexts", fn := fun _ => fun
  | [d] => { results := [.lit (.bool false)], args := [d] }
  | _ => none }
def WordTextsWrongFalsely : Prop := wordTextsRow.holds Try.pinned (OpenSpec.ofChange wordTextsWrong)

/-- 'kenninglaw02.WordSteps': WHATEVER THE INPUT: true; the input reads as it did. -/
def wordStepsSpec : ChangeSpec := { name := "wordSteps", fn := fun _ => fun
  | [d] => { results := [.lit (.bool true)], args := [d] }
  | _ => none }
def wordStepsRow : OpenClaim := { program := "ytjadnhibepdemaa", sum := "e4c2d498fc31edab0071d9d53ff9ef8fe3d5c423ccf7b9149778ea03bf45a93f", func := "kenning/kenninglaw02.WordSteps", spec := "wordSteps", apart := false }
def WordStepsSaid : Prop := wordStepsRow.holds Try.pinned (OpenSpec.ofChange wordStepsSpec)

/-- ITS FALSE NEIGHBOUR: 'it returns false'. Refute it at one input. -/
def wordStepsWrong : ChangeSpec := { name := "wordSteps", fn := fun _ => fun
  | [d] => { results := [.lit (.bool false)], args := [d] }
  | _ => none }
def WordStepsWrongFalsely : Prop := wordStepsRow.holds Try.pinned (OpenSpec.ofChange wordStepsWrong)

/-- 'kenninglaw02.WordBetween': WHATEVER THE INPUT: true; the input reads as it did. -/
def wordBetweenSpec : ChangeSpec := { name := "wordBetween", fn := fun _ => fun
  | [d1, d2] => { results := [.lit (.bool true)], args := [d1, d2] }
  | _ => none }
def wordBetweenRow : OpenClaim := { program := "ytjadnhibepdemaa", sum := "e4c2d498fc31edab0071d9d53ff9ef8fe3d5c423ccf7b9149778ea03bf45a93f", func := "kenning/kenninglaw02.WordBetween", spec := "wordBetween", apart := false }
def WordBetweenSaid : Prop := wordBetweenRow.holds Try.pinned (OpenSpec.ofChange wordBetweenSpec)

/-- ITS FALSE NEIGHBOUR: 'it returns false'. Refute it at one input. -/
def wordBetweenWrong : ChangeSpec := { name := "wordBetween", fn := fun _ => fun
  | [d1, d2] => { results := [.lit (.bool false)], args := [d1, d2] }
  | _ => none }
def WordBetweenWrongFalsely : Prop := wordBetweenRow.holds Try.pinned (OpenSpec.ofChange wordBetweenWrong)

/-- 'kenninglaw02.WordCounts': WHATEVER THE INPUT: true; the input reads as it did. -/
def wordCountsSpec : ChangeSpec := { name := "wordCounts", fn := fun _ => fun
  | [d1, d2] => { results := [.lit (.bool true)], args := [d1, d2] }
  | _ => none }
def wordCountsRow : OpenClaim := { program := "ytjadnhibepdemaa", sum := "e4c2d498fc31edab0071d9d53ff9ef8fe3d5c423ccf7b9149778ea03bf45a93f", func := "kenning/kenninglaw02.WordCounts", spec := "wordCounts", apart := false }
def WordCountsSaid : Prop := wordCountsRow.holds Try.pinned (OpenSpec.ofChange wordCountsSpec)

/-- ITS FALSE NEIGHBOUR: 'it returns false'. Refute it at one input. -/
def wordCountsWrong : ChangeSpec := { name := "wordCounts", fn := fun _ => fun
  | [d1, d2] => { results := [.lit (.bool false)], args := [d1, d2] }
  | _ => none }
def WordCountsWrongFalsely : Prop := wordCountsRow.holds Try.pinned (OpenSpec.ofChange wordCountsWrong)

/-- 'kenninglaw02.WordSums': WHATEVER THE INPUT: true; the input reads as it did. -/
def wordSumsSpec : ChangeSpec := { name := "wordSums", fn := fun _ => fun
  | [d] => { results := [.lit (.bool true)], args := [d] }
  | _ => none }
def wordSumsRow : OpenClaim := { program := "ytjadnhibepdemaa", sum := "e4c2d498fc31edab0071d9d53ff9ef8fe3d5c423ccf7b9149778ea03bf45a93f", func := "kenning/kenninglaw02.WordSums", spec := "wordSums", apart := false }
def WordSumsSaid : Prop := wordSumsRow.holds Try.pinned (OpenSpec.ofChange wordSumsSpec)

/-- ITS FALSE NEIGHBOUR: 'it returns false'. Refute it at one input. -/
def wordSumsWrong : ChangeSpec := { name := "wordSums", fn := fun _ => fun
  | [d] => { results := [.lit (.bool false)], args := [d] }
  | _ => none }
def WordSumsWrongFalsely : Prop := wordSumsRow.holds Try.pinned (OpenSpec.ofChange wordSumsWrong)

/- THE SECOND FORM. 'bulk': how many values and letters a reading holds, each counted each time it is reached (what is shared counts as often as it is met; a slice's spare places count too). A statement '..UptoSaid' is the law's where the arguments, and the package variables that the reading takes, are together of bulk at most 1048576: NARROWER than '..Said'. Prove '..Said' where nothing that the law and all that it calls make is longer than what came in: it says more and counts as full. Else prove '..UptoSaid'. A law counts once. -/
mutual
def uptoBulk {H : Type} : DataW H → Nat
  | .lit (.string bytes) => bytes.length + 1
  | .lit _ => 1
  | .nil => 1
  | .ptr d => uptoBulk d + 1
  | .slice elems spare => uptoBulkAll elems + uptoBulkAll spare + 1
  | .agg parts => uptoBulkAll parts + 1
  | .iface _ d => uptoBulk d + 1
  | .map entries => uptoBulkEntries entries + 1
  | .held _ => 1
def uptoBulkAll {H : Type} : List (DataW H) → Nat
  | [] => 0
  | d :: r => uptoBulk d + uptoBulkAll r
def uptoBulkEntries {H : Type} : List (Lit × DataW H) → Nat
  | [] => 0
  | x :: r => uptoBulkEntry x + uptoBulkEntries r
def uptoBulkEntry {H : Type} : Lit × DataW H → Nat
  | (.string bytes, d) => bytes.length + uptoBulk d + 1
  | (_, d) => uptoBulk d + 1
 end
def uptoSmall : (H : Type) → List (DataW H) → Bool := fun _ ds => decide (uptoBulkAll ds ≤ 1048576)
def OpenSpec.upto (s : _root_.Go.ChangeSpec) : _root_.Go.OpenSpec := { _root_.Go.OpenSpec.ofChange s with cond := some uptoSmall }

/-- 'kenninglaw02.WordWidths', WHERE WHAT IT READS IS OF BULK AT MOST 1048576: true; the input reads as it did. -/
def wordWidthsUptoRow : OpenClaim := { program := "ytjadnhibepdemaa", sum := "e4c2d498fc31edab0071d9d53ff9ef8fe3d5c423ccf7b9149778ea03bf45a93f", func := "kenning/kenninglaw02.WordWidths", spec := "wordWidths", apart := false, narrowed := true }
def WordWidthsUptoSaid : Prop := wordWidthsUptoRow.holds Try.pinned (OpenSpec.upto wordWidthsSpec)

/-- 'kenninglaw02.WordTexts', WHERE WHAT IT READS IS OF BULK AT MOST 1048576: true; the input reads as it did. -/
def wordTextsUptoRow : OpenClaim := { program := "ytjadnhibepdemaa", sum := "e4c2d498fc31edab0071d9d53ff9ef8fe3d5c423ccf7b9149778ea03bf45a93f", func := "kenning/kenninglaw02.WordTexts", spec := "wordTexts", apart := false, narrowed := true }
def WordTextsUptoSaid : Prop := wordTextsUptoRow.holds Try.pinned (OpenSpec.upto wordTextsSpec)

/-- 'kenninglaw02.WordSteps', WHERE WHAT IT READS IS OF BULK AT MOST 1048576: true; the input reads as it did. -/
def wordStepsUptoRow : OpenClaim := { program := "ytjadnhibepdemaa", sum := "e4c2d498fc31edab0071d9d53ff9ef8fe3d5c423ccf7b9149778ea03bf45a93f", func := "kenning/kenninglaw02.WordSteps", spec := "wordSteps", apart := false, narrowed := true }
def WordStepsUptoSaid : Prop := wordStepsUptoRow.holds Try.pinned (OpenSpec.upto wordStepsSpec)

/-- 'kenninglaw02.WordBetween', WHERE WHAT IT READS IS OF BULK AT MOST 1048576: true; the input reads as it did. -/
def wordBetweenUptoRow : OpenClaim := { program := "ytjadnhibepdemaa", sum := "e4c2d498fc31edab0071d9d53ff9ef8fe3d5c423ccf7b9149778ea03bf45a93f", func := "kenning/kenninglaw02.WordBetween", spec := "wordBetween", apart := false, narrowed := true }
def WordBetweenUptoSaid : Prop := wordBetweenUptoRow.holds Try.pinned (OpenSpec.upto wordBetweenSpec)

/-- 'kenninglaw02.WordCounts', WHERE WHAT IT READS IS OF BULK AT MOST 1048576: true; the input reads as it did. -/
def wordCountsUptoRow : OpenClaim := { program := "ytjadnhibepdemaa", sum := "e4c2d498fc31edab0071d9d53ff9ef8fe3d5c423ccf7b9149778ea03bf45a93f", func := "kenning/kenninglaw02.WordCounts", spec := "wordCounts", apart := false, narrowed := true }
def WordCountsUptoSaid : Prop := wordCountsUptoRow.holds Try.pinned (OpenSpec.upto wordCountsSpec)

/-- 'kenninglaw02.WordSums', WHERE WHAT IT READS IS OF BULK AT MOST 1048576: true; the input reads as it did. -/
def wordSumsUptoRow : OpenClaim := { program := "ytjadnhibepdemaa", sum := "e4c2d498fc31edab0071d9d53ff9ef8fe3d5c423ccf7b9149778ea03bf45a93f", func := "kenning/kenninglaw02.WordSums", spec := "wordSums", apart := false, narrowed := true }
def WordSumsUptoSaid : Prop := wordSumsUptoRow.holds Try.pinned (OpenSpec.upto wordSumsSpec)

end Rows
end Go.Proofs.Ytjadnhibepdemaa
