/-
  DERIVED. GIVEN WITH THE SEED: THE CARDS: each row of YtgggnjgcbmpibaaDoorRows.lean that lists a variable, with what it lists TIED to the program's text (the seventh form; the later family's looks); each row that meets fmt, with fmt's text TOLD by the authors' own Lean function (tested against real Go, not proved from fmt's source: count such statements apart). THE CARD IS WHAT COUNTS. Prove the row's statement (the work); the ties are given (YtgggnjgcbmpibaaDoorTie.lean); close each card by the builder's one call (the guide's Derived/Test/ToyasCard.lean, 'card_holds'). Laid BY PROGRAM, IN A SANDBOX (cutbox-door.mjs). By AI agents, Wed Nov 11 2026. No macro, syntax, notation, axiom, sorry.
-/
import Derived.Test.YtgggnjgcbmpibaaDoorRows
import GoSem.ClaimSeven
namespace Go.Proofs.YtgggnjgcbmpibaaDoor
namespace Rows

/-- THE TIED CARD OF 'kenninglaw01.FaultOthers'. -/
def faultOthersCard : Claim7 := { stood := { row := faultOthersRow, standIns := [], harness := (true, "0e19e317da4a48734653a4a3a139721d5d5caca5e2c3cefff3736b557f027b35"), looks := true }, kinds := [], alts := [], laidByText := true, laidKinds := [.handle], laidTests := true, laidLooks := .later }
def FaultOthersCardSaid : Prop := Claim7.holds Tryd.pinned (.plain (OpenSpec.ofChange faultOthersSpec)) faultOthersCard

/-- THE TIED CARD OF 'kenninglaw01.FaultShifts'. -/
def faultShiftsCard : Claim7 := { stood := { row := faultShiftsRow, standIns := [], harness := (true, "0e19e317da4a48734653a4a3a139721d5d5caca5e2c3cefff3736b557f027b35"), looks := true }, kinds := [], alts := [], laidByText := true, laidKinds := [.handle], laidTests := true, laidLooks := .later }
def FaultShiftsCardSaid : Prop := Claim7.holds Tryd.pinned (.plain (OpenSpec.ofChange faultShiftsSpec)) faultShiftsCard

/-- THE TIED CARD OF 'kenninglaw01.FaultLeast'. -/
def faultLeastCard : Claim7 := { stood := { row := faultLeastRow, standIns := [], harness := (true, "0e19e317da4a48734653a4a3a139721d5d5caca5e2c3cefff3736b557f027b35"), looks := true }, kinds := [], alts := [], laidByText := true, laidKinds := [.handle], laidTests := true, laidLooks := .later }
def FaultLeastCardSaid : Prop := Claim7.holds Tryd.pinned (.plain (OpenSpec.ofChange faultLeastSpec)) faultLeastCard

/-- THE TIED CARD OF 'kenninglaw01.FaultMakes'. -/
def faultMakesCard : Claim7 := { stood := { row := faultMakesRow, standIns := [], harness := (true, "0e19e317da4a48734653a4a3a139721d5d5caca5e2c3cefff3736b557f027b35"), looks := true }, kinds := [], alts := [], laidByText := true, laidKinds := [.handle], laidTests := true, laidLooks := .later }
def FaultMakesCardSaid : Prop := Claim7.holds Tryd.pinned (.plain (OpenSpec.ofChange faultMakesSpec)) faultMakesCard

/-- THE TIED CARD OF 'kenninglaw01.FaultReads'. -/
def faultReadsCard : Claim7 := { stood := { row := faultReadsRow, standIns := [], harness := (true, "0e19e317da4a48734653a4a3a139721d5d5caca5e2c3cefff3736b557f027b35"), looks := true }, kinds := [], alts := [], laidByText := true, laidKinds := [.handle], laidTests := true, laidLooks := .later }
def FaultReadsCardSaid : Prop := Claim7.holds Tryd.pinned (.plain (OpenSpec.ofChange faultReadsSpec)) faultReadsCard

/-- THE TIED CARD OF 'kenninglaw01.FaultWraps'. -/
def faultWrapsCard : Claim7 := { stood := { row := faultWrapsRow, standIns := [], harness := (true, "0e19e317da4a48734653a4a3a139721d5d5caca5e2c3cefff3736b557f027b35"), looks := true }, kinds := [], alts := [], laidByText := true, laidKinds := [.handle], laidTests := true, laidLooks := .later }
def FaultWrapsCardSaid : Prop := Claim7.holds Tryd.pinned (.plain (OpenSpec.ofChange faultWrapsSpec)) faultWrapsCard

/-- THE SECOND FORM's CARD OF 'kenninglaw01.FaultOthers'. -/
def faultOthersUptoCard : Claim7 := { stood := { row := faultOthersUptoRow, standIns := [], harness := (true, "0e19e317da4a48734653a4a3a139721d5d5caca5e2c3cefff3736b557f027b35"), looks := true }, kinds := [], alts := [], laidByText := true, laidKinds := [.handle], laidTests := true, laidLooks := .later }
def FaultOthersUptoCardSaid : Prop := Claim7.holds Tryd.pinned (.plain (OpenSpec.upto faultOthersSpec)) faultOthersUptoCard

/-- THE SECOND FORM's CARD OF 'kenninglaw01.FaultShifts'. -/
def faultShiftsUptoCard : Claim7 := { stood := { row := faultShiftsUptoRow, standIns := [], harness := (true, "0e19e317da4a48734653a4a3a139721d5d5caca5e2c3cefff3736b557f027b35"), looks := true }, kinds := [], alts := [], laidByText := true, laidKinds := [.handle], laidTests := true, laidLooks := .later }
def FaultShiftsUptoCardSaid : Prop := Claim7.holds Tryd.pinned (.plain (OpenSpec.upto faultShiftsSpec)) faultShiftsUptoCard

/-- THE SECOND FORM's CARD OF 'kenninglaw01.FaultLeast'. -/
def faultLeastUptoCard : Claim7 := { stood := { row := faultLeastUptoRow, standIns := [], harness := (true, "0e19e317da4a48734653a4a3a139721d5d5caca5e2c3cefff3736b557f027b35"), looks := true }, kinds := [], alts := [], laidByText := true, laidKinds := [.handle], laidTests := true, laidLooks := .later }
def FaultLeastUptoCardSaid : Prop := Claim7.holds Tryd.pinned (.plain (OpenSpec.upto faultLeastSpec)) faultLeastUptoCard

/-- THE SECOND FORM's CARD OF 'kenninglaw01.FaultMakes'. -/
def faultMakesUptoCard : Claim7 := { stood := { row := faultMakesUptoRow, standIns := [], harness := (true, "0e19e317da4a48734653a4a3a139721d5d5caca5e2c3cefff3736b557f027b35"), looks := true }, kinds := [], alts := [], laidByText := true, laidKinds := [.handle], laidTests := true, laidLooks := .later }
def FaultMakesUptoCardSaid : Prop := Claim7.holds Tryd.pinned (.plain (OpenSpec.upto faultMakesSpec)) faultMakesUptoCard

/-- THE SECOND FORM's CARD OF 'kenninglaw01.FaultReads'. -/
def faultReadsUptoCard : Claim7 := { stood := { row := faultReadsUptoRow, standIns := [], harness := (true, "0e19e317da4a48734653a4a3a139721d5d5caca5e2c3cefff3736b557f027b35"), looks := true }, kinds := [], alts := [], laidByText := true, laidKinds := [.handle], laidTests := true, laidLooks := .later }
def FaultReadsUptoCardSaid : Prop := Claim7.holds Tryd.pinned (.plain (OpenSpec.upto faultReadsSpec)) faultReadsUptoCard

/-- THE SECOND FORM's CARD OF 'kenninglaw01.FaultWraps'. -/
def faultWrapsUptoCard : Claim7 := { stood := { row := faultWrapsUptoRow, standIns := [], harness := (true, "0e19e317da4a48734653a4a3a139721d5d5caca5e2c3cefff3736b557f027b35"), looks := true }, kinds := [], alts := [], laidByText := true, laidKinds := [.handle], laidTests := true, laidLooks := .later }
def FaultWrapsUptoCardSaid : Prop := Claim7.holds Tryd.pinned (.plain (OpenSpec.upto faultWrapsSpec)) faultWrapsUptoCard
end Rows
end Go.Proofs.YtgggnjgcbmpibaaDoor
