/-
  DERIVED. GIVEN WITH THE SEED: THE CARDS: each row of YtjdlcdfnagbblaaDoorRows.lean that lists a variable, with what it lists TIED to the program's text (the seventh form; the later family's looks); each row that meets fmt, with fmt's text TOLD by the authors' own Lean function (tested against real Go, not proved from fmt's source: count such statements apart). THE CARD IS WHAT COUNTS. Prove the row's statement (the work); the ties are given (YtjdlcdfnagbblaaDoorTie.lean); close each card by the builder's one call (the guide's Derived/Test/ToyasCard.lean, 'card_holds'). Laid BY PROGRAM, IN A SANDBOX (cutbox-door.mjs). By AI agents, Wed Nov 11 2026. No macro, syntax, notation, axiom, sorry.
-/
import Derived.Test.YtjdlcdfnagbblaaDoorRows
import GoSem.ClaimSeven
namespace Go.Proofs.YtjdlcdfnagbblaaDoor
namespace Rows

/-- THE TIED CARD OF 'kenninglaw16.VarintWrites'. -/
def varintWritesCard : Claim7 := { stood := { row := varintWritesRow, standIns := [], harness := (true, "0e52eb2633d25e7c70eb370f6e1167a0bbb76dfc18e3d7b73cb9ddd97c77ed5a"), looks := true }, kinds := [], alts := [], laidByText := true, laidKinds := [.handle], laidTests := true, laidLooks := .later }
def VarintWritesCardSaid : Prop := Claim7.holds Tryd.pinned (.plain (OpenSpec.ofChange varintWritesSpec)) varintWritesCard

/-- THE TIED CARD OF 'kenninglaw16.VarintOnce'. -/
def varintOnceCard : Claim7 := { stood := { row := varintOnceRow, standIns := [], harness := (true, "0e52eb2633d25e7c70eb370f6e1167a0bbb76dfc18e3d7b73cb9ddd97c77ed5a"), looks := true }, kinds := [], alts := [], laidByText := true, laidKinds := [.handle], laidTests := true, laidLooks := .later }
def VarintOnceCardSaid : Prop := Claim7.holds Tryd.pinned (.plain (OpenSpec.ofChange varintOnceSpec)) varintOnceCard

/-- THE TIED CARD OF 'kenninglaw16.VarintSteps'. -/
def varintStepsCard : Claim7 := { stood := { row := varintStepsRow, standIns := [], harness := (true, "0e52eb2633d25e7c70eb370f6e1167a0bbb76dfc18e3d7b73cb9ddd97c77ed5a"), looks := true }, kinds := [], alts := [], laidByText := true, laidKinds := [.handle], laidTests := true, laidLooks := .later }
def VarintStepsCardSaid : Prop := Claim7.holds Tryd.pinned (.plain (OpenSpec.ofChange varintStepsSpec)) varintStepsCard

/-- THE TIED CARD OF 'kenninglaw16.VarintResets'. -/
def varintResetsCard : Claim7 := { stood := { row := varintResetsRow, standIns := [], harness := (true, "0e52eb2633d25e7c70eb370f6e1167a0bbb76dfc18e3d7b73cb9ddd97c77ed5a"), looks := true }, kinds := [], alts := [], laidByText := true, laidKinds := [.handle], laidTests := true, laidLooks := .later }
def VarintResetsCardSaid : Prop := Claim7.holds Tryd.pinned (.plain (OpenSpec.ofChange varintResetsSpec)) varintResetsCard

/-- THE TIED CARD OF 'kenninglaw16.VarintNil'. -/
def varintNilCard : Claim7 := { stood := { row := varintNilRow, standIns := [], harness := (true, "0e52eb2633d25e7c70eb370f6e1167a0bbb76dfc18e3d7b73cb9ddd97c77ed5a"), looks := true }, kinds := [], alts := [], laidByText := true, laidKinds := [.handle], laidTests := true, laidLooks := .later }
def VarintNilCardSaid : Prop := Claim7.holds Tryd.pinned (.plain (OpenSpec.ofChange varintNilSpec)) varintNilCard

/-- THE TIED CARD OF 'kenninglaw16.VarintReads'. -/
def varintReadsCard : Claim7 := { stood := { row := varintReadsRow, standIns := [], harness := (true, "0e52eb2633d25e7c70eb370f6e1167a0bbb76dfc18e3d7b73cb9ddd97c77ed5a"), looks := true }, kinds := [], alts := [], laidByText := true, laidKinds := [.handle], laidTests := true, laidLooks := .later }
def VarintReadsCardSaid : Prop := Claim7.holds Tryd.pinned (.plain (OpenSpec.ofChange varintReadsSpec)) varintReadsCard

/-- THE SECOND FORM's CARD OF 'kenninglaw16.VarintWrites'. -/
def varintWritesUptoCard : Claim7 := { stood := { row := varintWritesUptoRow, standIns := [], harness := (true, "0e52eb2633d25e7c70eb370f6e1167a0bbb76dfc18e3d7b73cb9ddd97c77ed5a"), looks := true }, kinds := [], alts := [], laidByText := true, laidKinds := [.handle], laidTests := true, laidLooks := .later }
def VarintWritesUptoCardSaid : Prop := Claim7.holds Tryd.pinned (.plain (OpenSpec.upto varintWritesSpec)) varintWritesUptoCard

/-- THE SECOND FORM's CARD OF 'kenninglaw16.VarintOnce'. -/
def varintOnceUptoCard : Claim7 := { stood := { row := varintOnceUptoRow, standIns := [], harness := (true, "0e52eb2633d25e7c70eb370f6e1167a0bbb76dfc18e3d7b73cb9ddd97c77ed5a"), looks := true }, kinds := [], alts := [], laidByText := true, laidKinds := [.handle], laidTests := true, laidLooks := .later }
def VarintOnceUptoCardSaid : Prop := Claim7.holds Tryd.pinned (.plain (OpenSpec.upto varintOnceSpec)) varintOnceUptoCard

/-- THE SECOND FORM's CARD OF 'kenninglaw16.VarintSteps'. -/
def varintStepsUptoCard : Claim7 := { stood := { row := varintStepsUptoRow, standIns := [], harness := (true, "0e52eb2633d25e7c70eb370f6e1167a0bbb76dfc18e3d7b73cb9ddd97c77ed5a"), looks := true }, kinds := [], alts := [], laidByText := true, laidKinds := [.handle], laidTests := true, laidLooks := .later }
def VarintStepsUptoCardSaid : Prop := Claim7.holds Tryd.pinned (.plain (OpenSpec.upto varintStepsSpec)) varintStepsUptoCard

/-- THE SECOND FORM's CARD OF 'kenninglaw16.VarintResets'. -/
def varintResetsUptoCard : Claim7 := { stood := { row := varintResetsUptoRow, standIns := [], harness := (true, "0e52eb2633d25e7c70eb370f6e1167a0bbb76dfc18e3d7b73cb9ddd97c77ed5a"), looks := true }, kinds := [], alts := [], laidByText := true, laidKinds := [.handle], laidTests := true, laidLooks := .later }
def VarintResetsUptoCardSaid : Prop := Claim7.holds Tryd.pinned (.plain (OpenSpec.upto varintResetsSpec)) varintResetsUptoCard

/-- THE SECOND FORM's CARD OF 'kenninglaw16.VarintNil'. -/
def varintNilUptoCard : Claim7 := { stood := { row := varintNilUptoRow, standIns := [], harness := (true, "0e52eb2633d25e7c70eb370f6e1167a0bbb76dfc18e3d7b73cb9ddd97c77ed5a"), looks := true }, kinds := [], alts := [], laidByText := true, laidKinds := [.handle], laidTests := true, laidLooks := .later }
def VarintNilUptoCardSaid : Prop := Claim7.holds Tryd.pinned (.plain (OpenSpec.upto varintNilSpec)) varintNilUptoCard

/-- THE SECOND FORM's CARD OF 'kenninglaw16.VarintReads'. -/
def varintReadsUptoCard : Claim7 := { stood := { row := varintReadsUptoRow, standIns := [], harness := (true, "0e52eb2633d25e7c70eb370f6e1167a0bbb76dfc18e3d7b73cb9ddd97c77ed5a"), looks := true }, kinds := [], alts := [], laidByText := true, laidKinds := [.handle], laidTests := true, laidLooks := .later }
def VarintReadsUptoCardSaid : Prop := Claim7.holds Tryd.pinned (.plain (OpenSpec.upto varintReadsSpec)) varintReadsUptoCard
end Rows
end Go.Proofs.YtjdlcdfnagbblaaDoor
