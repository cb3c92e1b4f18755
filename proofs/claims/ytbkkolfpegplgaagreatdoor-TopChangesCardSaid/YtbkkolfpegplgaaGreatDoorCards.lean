/-
  DERIVED. GIVEN WITH THE SEED: THE CARDS: each row of YtbkkolfpegplgaaGreatDoorRows.lean that lists a variable, with what it lists TIED to the program's text (the seventh form; the later family's looks); each row that meets fmt, with fmt's text TOLD by the authors' own Lean function (tested against real Go, not proved from fmt's source: count such statements apart). THE CARD IS WHAT COUNTS. Prove the row's statement (the work); the ties are given (YtbkkolfpegplgaaGreatDoorTie.lean); close each card by the builder's one call (the guide's Derived/Test/ToyasCard.lean, 'card_holds'). Laid BY PROGRAM, IN A SANDBOX (cutbox-door.mjs). By AI agents, Wed Nov 11 2026. No macro, syntax, notation, axiom, sorry.
-/
import Derived.Test.YtbkkolfpegplgaaGreatDoorRows
import GoSem.ClaimSeven
namespace Go.Proofs.YtbkkolfpegplgaaGreatDoor
namespace Rows

/-- THE TIED CARD OF 'kenningtop.TopLaws'. -/
def topLawsCard : Claim7 := { stood := { row := topLawsRow, standIns := [], harness := (true, "a0602701e83e7226810a38edb9ea6973c1e9ab4c5efc40da4592239df9d0355b"), looks := true }, kinds := [], alts := [], laidByText := true, laidKinds := [.handle], laidTests := true, laidLooks := .later }
def TopLawsCardSaid : Prop := Claim7.holds Tryz.pinned (.plain (OpenSpec.ofChange topLawsSpec)) topLawsCard

/-- THE TIED CARD OF 'kenningtop.TopCodec'. -/
def topCodecCard : Claim7 := { stood := { row := topCodecRow, standIns := [], harness := (true, "a0602701e83e7226810a38edb9ea6973c1e9ab4c5efc40da4592239df9d0355b"), looks := true }, kinds := [], alts := [], laidByText := true, laidKinds := [.handle], laidTests := true, laidLooks := .later }
def TopCodecCardSaid : Prop := Claim7.holds Tryz.pinned (.plain (OpenSpec.ofChange topCodecSpec)) topCodecCard

/-- THE TIED CARD OF 'kenningtop.TopChanges'. -/
def topChangesCard : Claim7 := { stood := { row := topChangesRow, standIns := [], harness := (true, "a0602701e83e7226810a38edb9ea6973c1e9ab4c5efc40da4592239df9d0355b"), looks := true }, kinds := [], alts := [], laidByText := true, laidKinds := [.handle], laidTests := true, laidLooks := .later }
def TopChangesCardSaid : Prop := Claim7.holds Tryz.pinned (.plain (OpenSpec.ofChange topChangesSpec)) topChangesCard

/-- THE TIED CARD OF 'kenningtop.TopScripts'. -/
def topScriptsCard : Claim7 := { stood := { row := topScriptsRow, standIns := [], harness := (true, "a0602701e83e7226810a38edb9ea6973c1e9ab4c5efc40da4592239df9d0355b"), looks := true }, kinds := [], alts := [], laidByText := true, laidKinds := [.handle], laidTests := true, laidLooks := .later }
def TopScriptsCardSaid : Prop := Claim7.holds Tryz.pinned (.plain (OpenSpec.ofChange topScriptsSpec)) topScriptsCard

/-- THE SECOND FORM's CARD OF 'kenningtop.TopLaws'. -/
def topLawsUptoCard : Claim7 := { stood := { row := topLawsUptoRow, standIns := [], harness := (true, "a0602701e83e7226810a38edb9ea6973c1e9ab4c5efc40da4592239df9d0355b"), looks := true }, kinds := [], alts := [], laidByText := true, laidKinds := [.handle], laidTests := true, laidLooks := .later }
def TopLawsUptoCardSaid : Prop := Claim7.holds Tryz.pinned (.plain (OpenSpec.upto topLawsSpec)) topLawsUptoCard

/-- THE SECOND FORM's CARD OF 'kenningtop.TopCodec'. -/
def topCodecUptoCard : Claim7 := { stood := { row := topCodecUptoRow, standIns := [], harness := (true, "a0602701e83e7226810a38edb9ea6973c1e9ab4c5efc40da4592239df9d0355b"), looks := true }, kinds := [], alts := [], laidByText := true, laidKinds := [.handle], laidTests := true, laidLooks := .later }
def TopCodecUptoCardSaid : Prop := Claim7.holds Tryz.pinned (.plain (OpenSpec.upto topCodecSpec)) topCodecUptoCard

/-- THE SECOND FORM's CARD OF 'kenningtop.TopChanges'. -/
def topChangesUptoCard : Claim7 := { stood := { row := topChangesUptoRow, standIns := [], harness := (true, "a0602701e83e7226810a38edb9ea6973c1e9ab4c5efc40da4592239df9d0355b"), looks := true }, kinds := [], alts := [], laidByText := true, laidKinds := [.handle], laidTests := true, laidLooks := .later }
def TopChangesUptoCardSaid : Prop := Claim7.holds Tryz.pinned (.plain (OpenSpec.upto topChangesSpec)) topChangesUptoCard

/-- THE SECOND FORM's CARD OF 'kenningtop.TopScripts'. -/
def topScriptsUptoCard : Claim7 := { stood := { row := topScriptsUptoRow, standIns := [], harness := (true, "a0602701e83e7226810a38edb9ea6973c1e9ab4c5efc40da4592239df9d0355b"), looks := true }, kinds := [], alts := [], laidByText := true, laidKinds := [.handle], laidTests := true, laidLooks := .later }
def TopScriptsUptoCardSaid : Prop := Claim7.holds Tryz.pinned (.plain (OpenSpec.upto topScriptsSpec)) topScriptsUptoCard
end Rows
end Go.Proofs.YtbkkolfpegplgaaGreatDoor
