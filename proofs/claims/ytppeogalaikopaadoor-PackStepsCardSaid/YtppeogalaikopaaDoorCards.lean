/-
  DERIVED. GIVEN WITH THE SEED: THE CARDS: each row of YtppeogalaikopaaDoorRows.lean that lists a variable, with what it lists TIED to the program's text (the seventh form; the later family's looks); each row that meets fmt, with fmt's text TOLD by the authors' own Lean function (tested against real Go, not proved from fmt's source: count such statements apart). THE CARD IS WHAT COUNTS. Prove the row's statement (the work); the ties are given (YtppeogalaikopaaDoorTie.lean); close each card by the builder's one call (the guide's Derived/Test/ToyasCard.lean, 'card_holds'). Laid BY PROGRAM, IN A SANDBOX (cutbox-door.mjs). By AI agents, Wed Nov 11 2026. No macro, syntax, notation, axiom, sorry.
-/
import Derived.Test.YtppeogalaikopaaDoorRows
import GoSem.ClaimSeven
namespace Go.Proofs.YtppeogalaikopaaDoor
namespace Rows

/-- THE TIED CARD OF 'kenninglaw18.PackWrites'. -/
def packWritesCard : Claim7 := { stood := { row := packWritesRow, standIns := [], harness := (true, "2f9710eef0b7f9deecae74eb67378701bf258330cb5ce8060775c44c901ca48d"), looks := true }, kinds := [], alts := [], laidByText := true, laidKinds := [.handle], laidTests := true, laidLooks := .later }
def PackWritesCardSaid : Prop := Claim7.holds Tryd.pinned (.plain (OpenSpec.ofChange packWritesSpec)) packWritesCard

/-- THE TIED CARD OF 'kenninglaw18.PackReads'. -/
def packReadsCard : Claim7 := { stood := { row := packReadsRow, standIns := [], harness := (true, "2f9710eef0b7f9deecae74eb67378701bf258330cb5ce8060775c44c901ca48d"), looks := true }, kinds := [], alts := [], laidByText := true, laidKinds := [.handle], laidTests := true, laidLooks := .later }
def PackReadsCardSaid : Prop := Claim7.holds Tryd.pinned (.plain (OpenSpec.ofChange packReadsSpec)) packReadsCard

/-- THE TIED CARD OF 'kenninglaw18.PackSteps'. -/
def packStepsCard : Claim7 := { stood := { row := packStepsRow, standIns := [], harness := (true, "2f9710eef0b7f9deecae74eb67378701bf258330cb5ce8060775c44c901ca48d"), looks := true }, kinds := [], alts := [], laidByText := true, laidKinds := [.handle], laidTests := true, laidLooks := .later }
def PackStepsCardSaid : Prop := Claim7.holds Tryd.pinned (.plain (OpenSpec.ofChange packStepsSpec)) packStepsCard

/-- THE TIED CARD OF 'kenninglaw18.PackCuts'. -/
def packCutsCard : Claim7 := { stood := { row := packCutsRow, standIns := [], harness := (true, "2f9710eef0b7f9deecae74eb67378701bf258330cb5ce8060775c44c901ca48d"), looks := true }, kinds := [], alts := [], laidByText := true, laidKinds := [.handle], laidTests := true, laidLooks := .later }
def PackCutsCardSaid : Prop := Claim7.holds Tryd.pinned (.plain (OpenSpec.ofChange packCutsSpec)) packCutsCard

/-- THE TIED CARD OF 'kenninglaw18.PackNil'. -/
def packNilCard : Claim7 := { stood := { row := packNilRow, standIns := [], harness := (true, "2f9710eef0b7f9deecae74eb67378701bf258330cb5ce8060775c44c901ca48d"), looks := true }, kinds := [], alts := [], laidByText := true, laidKinds := [.handle], laidTests := true, laidLooks := .later }
def PackNilCardSaid : Prop := Claim7.holds Tryd.pinned (.plain (OpenSpec.ofChange packNilSpec)) packNilCard

/-- THE TIED CARD OF 'kenninglaw18.PackOnce'. -/
def packOnceCard : Claim7 := { stood := { row := packOnceRow, standIns := [], harness := (true, "2f9710eef0b7f9deecae74eb67378701bf258330cb5ce8060775c44c901ca48d"), looks := true }, kinds := [], alts := [], laidByText := true, laidKinds := [.handle], laidTests := true, laidLooks := .later }
def PackOnceCardSaid : Prop := Claim7.holds Tryd.pinned (.plain (OpenSpec.ofChange packOnceSpec)) packOnceCard

/-- THE SECOND FORM's CARD OF 'kenninglaw18.PackWrites'. -/
def packWritesUptoCard : Claim7 := { stood := { row := packWritesUptoRow, standIns := [], harness := (true, "2f9710eef0b7f9deecae74eb67378701bf258330cb5ce8060775c44c901ca48d"), looks := true }, kinds := [], alts := [], laidByText := true, laidKinds := [.handle], laidTests := true, laidLooks := .later }
def PackWritesUptoCardSaid : Prop := Claim7.holds Tryd.pinned (.plain (OpenSpec.upto packWritesSpec)) packWritesUptoCard

/-- THE SECOND FORM's CARD OF 'kenninglaw18.PackReads'. -/
def packReadsUptoCard : Claim7 := { stood := { row := packReadsUptoRow, standIns := [], harness := (true, "2f9710eef0b7f9deecae74eb67378701bf258330cb5ce8060775c44c901ca48d"), looks := true }, kinds := [], alts := [], laidByText := true, laidKinds := [.handle], laidTests := true, laidLooks := .later }
def PackReadsUptoCardSaid : Prop := Claim7.holds Tryd.pinned (.plain (OpenSpec.upto packReadsSpec)) packReadsUptoCard

/-- THE SECOND FORM's CARD OF 'kenninglaw18.PackSteps'. -/
def packStepsUptoCard : Claim7 := { stood := { row := packStepsUptoRow, standIns := [], harness := (true, "2f9710eef0b7f9deecae74eb67378701bf258330cb5ce8060775c44c901ca48d"), looks := true }, kinds := [], alts := [], laidByText := true, laidKinds := [.handle], laidTests := true, laidLooks := .later }
def PackStepsUptoCardSaid : Prop := Claim7.holds Tryd.pinned (.plain (OpenSpec.upto packStepsSpec)) packStepsUptoCard

/-- THE SECOND FORM's CARD OF 'kenninglaw18.PackCuts'. -/
def packCutsUptoCard : Claim7 := { stood := { row := packCutsUptoRow, standIns := [], harness := (true, "2f9710eef0b7f9deecae74eb67378701bf258330cb5ce8060775c44c901ca48d"), looks := true }, kinds := [], alts := [], laidByText := true, laidKinds := [.handle], laidTests := true, laidLooks := .later }
def PackCutsUptoCardSaid : Prop := Claim7.holds Tryd.pinned (.plain (OpenSpec.upto packCutsSpec)) packCutsUptoCard

/-- THE SECOND FORM's CARD OF 'kenninglaw18.PackNil'. -/
def packNilUptoCard : Claim7 := { stood := { row := packNilUptoRow, standIns := [], harness := (true, "2f9710eef0b7f9deecae74eb67378701bf258330cb5ce8060775c44c901ca48d"), looks := true }, kinds := [], alts := [], laidByText := true, laidKinds := [.handle], laidTests := true, laidLooks := .later }
def PackNilUptoCardSaid : Prop := Claim7.holds Tryd.pinned (.plain (OpenSpec.upto packNilSpec)) packNilUptoCard

/-- THE SECOND FORM's CARD OF 'kenninglaw18.PackOnce'. -/
def packOnceUptoCard : Claim7 := { stood := { row := packOnceUptoRow, standIns := [], harness := (true, "2f9710eef0b7f9deecae74eb67378701bf258330cb5ce8060775c44c901ca48d"), looks := true }, kinds := [], alts := [], laidByText := true, laidKinds := [.handle], laidTests := true, laidLooks := .later }
def PackOnceUptoCardSaid : Prop := Claim7.holds Tryd.pinned (.plain (OpenSpec.upto packOnceSpec)) packOnceUptoCard
end Rows
end Go.Proofs.YtppeogalaikopaaDoor
