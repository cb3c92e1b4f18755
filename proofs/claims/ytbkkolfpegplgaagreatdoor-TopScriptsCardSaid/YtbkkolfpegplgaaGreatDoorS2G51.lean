/- Closed facts of the row of TopScripts, part a. -/
import Derived.Test.YtbkkolfpegplgaaGreatDoorS2G44
import Derived.Test.YtbkkolfpegplgaaGreatDoorS2G45
import Derived.Test.YtbkkolfpegplgaaGreatDoorTie
import Derived.Test.YtbkkolfpegplgaaGreatDoorCards
import Derived.SevenTiedAt
namespace Go.Proofs.YtbkkolfpegplgaaGreatDoor
open Go.ChangeShapes Go.WideShapes Go.ChangeAt Go.RowKit Go.Joins
theorem z4z:(Rows.topScriptsRow.inPlace == Tryz.prog.inPlace 6)=true:=by kernel_rfl
theorem z40:(Rows.topScriptsRow.unfollowed == Tryz.prog.unfollowed 6)=true:=by kernel_rfl
end Go.Proofs.YtbkkolfpegplgaaGreatDoor
