/-
  DERIVED. GIVEN WITH THE SEED: THE CARDS: each row of YtplckfofdkmieaaDoorRows.lean that lists a variable, with what it lists TIED to the program's text (the seventh form; the later family's looks); each row that meets fmt, with fmt's text TOLD by the authors' own Lean function (tested against real Go, not proved from fmt's source: count such statements apart). THE CARD IS WHAT COUNTS. Prove the row's statement (the work); the ties are given (YtplckfofdkmieaaDoorTie.lean); close each card by the builder's one call (the guide's Derived/Test/ToyasCard.lean, 'card_holds'). Laid BY PROGRAM, IN A SANDBOX (cutbox-door.mjs). By AI agents, Wed Nov 11 2026. No macro, syntax, notation, axiom, sorry.
-/
import Derived.Test.YtplckfofdkmieaaDoorRows
import GoSem.ClaimSeven
namespace Go.Proofs.YtplckfofdkmieaaDoor
namespace Rows

/-- THE TIED CARD OF 'kenninglaw03.SpanRelates'. -/
def spanRelatesCard : Claim7 := { stood := { row := spanRelatesRow, standIns := [], harness := (true, "f2b87b8413fba8ad0409c91a856a9f3c97b47d4feb0cd6093bef5b36174719dd"), looks := true }, kinds := [], alts := [], laidByText := true, laidKinds := [.handle], laidTests := true, laidLooks := .later }
def SpanRelatesCardSaid : Prop := Claim7.holds Tryd.pinned (.plain (OpenSpec.ofChange spanRelatesSpec)) spanRelatesCard

/-- THE TIED CARD OF 'kenninglaw03.SpanJoins'. -/
def spanJoinsCard : Claim7 := { stood := { row := spanJoinsRow, standIns := [], harness := (true, "f2b87b8413fba8ad0409c91a856a9f3c97b47d4feb0cd6093bef5b36174719dd"), looks := true }, kinds := [], alts := [], laidByText := true, laidKinds := [.handle], laidTests := true, laidLooks := .later }
def SpanJoinsCardSaid : Prop := Claim7.holds Tryd.pinned (.plain (OpenSpec.ofChange spanJoinsSpec)) spanJoinsCard

/-- THE TIED CARD OF 'kenninglaw03.SpanMeets'. -/
def spanMeetsCard : Claim7 := { stood := { row := spanMeetsRow, standIns := [], harness := (true, "f2b87b8413fba8ad0409c91a856a9f3c97b47d4feb0cd6093bef5b36174719dd"), looks := true }, kinds := [], alts := [], laidByText := true, laidKinds := [.handle], laidTests := true, laidLooks := .later }
def SpanMeetsCardSaid : Prop := Claim7.holds Tryd.pinned (.plain (OpenSpec.ofChange spanMeetsSpec)) spanMeetsCard

/-- THE TIED CARD OF 'kenninglaw03.SpanChecks'. -/
def spanChecksCard : Claim7 := { stood := { row := spanChecksRow, standIns := [], harness := (true, "f2b87b8413fba8ad0409c91a856a9f3c97b47d4feb0cd6093bef5b36174719dd"), looks := true }, kinds := [], alts := [], laidByText := true, laidKinds := [.handle], laidTests := true, laidLooks := .later }
def SpanChecksCardSaid : Prop := Claim7.holds Tryd.pinned (.plain (OpenSpec.ofChange spanChecksSpec)) spanChecksCard

/-- THE TIED CARD OF 'kenninglaw03.SpanShifts'. -/
def spanShiftsCard : Claim7 := { stood := { row := spanShiftsRow, standIns := [], harness := (true, "f2b87b8413fba8ad0409c91a856a9f3c97b47d4feb0cd6093bef5b36174719dd"), looks := true }, kinds := [], alts := [], laidByText := true, laidKinds := [.handle], laidTests := true, laidLooks := .later }
def SpanShiftsCardSaid : Prop := Claim7.holds Tryd.pinned (.plain (OpenSpec.ofChange spanShiftsSpec)) spanShiftsCard

/-- THE TIED CARD OF 'kenninglaw03.SpanCuts'. -/
def spanCutsCard : Claim7 := { stood := { row := spanCutsRow, standIns := [], harness := (true, "f2b87b8413fba8ad0409c91a856a9f3c97b47d4feb0cd6093bef5b36174719dd"), looks := true }, kinds := [], alts := [], laidByText := true, laidKinds := [.handle], laidTests := true, laidLooks := .later }
def SpanCutsCardSaid : Prop := Claim7.holds Tryd.pinned (.plain (OpenSpec.ofChange spanCutsSpec)) spanCutsCard

/-- THE SECOND FORM's CARD OF 'kenninglaw03.SpanRelates'. -/
def spanRelatesUptoCard : Claim7 := { stood := { row := spanRelatesUptoRow, standIns := [], harness := (true, "f2b87b8413fba8ad0409c91a856a9f3c97b47d4feb0cd6093bef5b36174719dd"), looks := true }, kinds := [], alts := [], laidByText := true, laidKinds := [.handle], laidTests := true, laidLooks := .later }
def SpanRelatesUptoCardSaid : Prop := Claim7.holds Tryd.pinned (.plain (OpenSpec.upto spanRelatesSpec)) spanRelatesUptoCard

/-- THE SECOND FORM's CARD OF 'kenninglaw03.SpanJoins'. -/
def spanJoinsUptoCard : Claim7 := { stood := { row := spanJoinsUptoRow, standIns := [], harness := (true, "f2b87b8413fba8ad0409c91a856a9f3c97b47d4feb0cd6093bef5b36174719dd"), looks := true }, kinds := [], alts := [], laidByText := true, laidKinds := [.handle], laidTests := true, laidLooks := .later }
def SpanJoinsUptoCardSaid : Prop := Claim7.holds Tryd.pinned (.plain (OpenSpec.upto spanJoinsSpec)) spanJoinsUptoCard

/-- THE SECOND FORM's CARD OF 'kenninglaw03.SpanMeets'. -/
def spanMeetsUptoCard : Claim7 := { stood := { row := spanMeetsUptoRow, standIns := [], harness := (true, "f2b87b8413fba8ad0409c91a856a9f3c97b47d4feb0cd6093bef5b36174719dd"), looks := true }, kinds := [], alts := [], laidByText := true, laidKinds := [.handle], laidTests := true, laidLooks := .later }
def SpanMeetsUptoCardSaid : Prop := Claim7.holds Tryd.pinned (.plain (OpenSpec.upto spanMeetsSpec)) spanMeetsUptoCard

/-- THE SECOND FORM's CARD OF 'kenninglaw03.SpanChecks'. -/
def spanChecksUptoCard : Claim7 := { stood := { row := spanChecksUptoRow, standIns := [], harness := (true, "f2b87b8413fba8ad0409c91a856a9f3c97b47d4feb0cd6093bef5b36174719dd"), looks := true }, kinds := [], alts := [], laidByText := true, laidKinds := [.handle], laidTests := true, laidLooks := .later }
def SpanChecksUptoCardSaid : Prop := Claim7.holds Tryd.pinned (.plain (OpenSpec.upto spanChecksSpec)) spanChecksUptoCard

/-- THE SECOND FORM's CARD OF 'kenninglaw03.SpanShifts'. -/
def spanShiftsUptoCard : Claim7 := { stood := { row := spanShiftsUptoRow, standIns := [], harness := (true, "f2b87b8413fba8ad0409c91a856a9f3c97b47d4feb0cd6093bef5b36174719dd"), looks := true }, kinds := [], alts := [], laidByText := true, laidKinds := [.handle], laidTests := true, laidLooks := .later }
def SpanShiftsUptoCardSaid : Prop := Claim7.holds Tryd.pinned (.plain (OpenSpec.upto spanShiftsSpec)) spanShiftsUptoCard

/-- THE SECOND FORM's CARD OF 'kenninglaw03.SpanCuts'. -/
def spanCutsUptoCard : Claim7 := { stood := { row := spanCutsUptoRow, standIns := [], harness := (true, "f2b87b8413fba8ad0409c91a856a9f3c97b47d4feb0cd6093bef5b36174719dd"), looks := true }, kinds := [], alts := [], laidByText := true, laidKinds := [.handle], laidTests := true, laidLooks := .later }
def SpanCutsUptoCardSaid : Prop := Claim7.holds Tryd.pinned (.plain (OpenSpec.upto spanCutsSpec)) spanCutsUptoCard
end Rows
end Go.Proofs.YtplckfofdkmieaaDoor
