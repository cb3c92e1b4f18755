/- What the frames of the laws of a card's seat use: the listed variable's cell out of the row's condition, and a world that meets it. -/
import Derived.Test.YtbkkolfpegplgaaGreatDoorS3G6
import Derived.Test.YtbkkolfpegplgaaGreatDoorS3G44
import Derived.ChangeSame
import Derived.ChangeVars
import Derived.JoinedOf
import Derived.LaidLaws
import Derived.LaidHandle
import Derived.Stop.Joined
namespace Go.Proofs.YtbkkolfpegplgaaGreatDoor
open Go.ChangeShapes Go.WideShapes Go.RowKit
theorem etAt : Tryz.prog.globalNamed "errors.errorType" = some 0 := by kernel_rfl
theorem rtAt : (Tryz.prog.cutTypes.find? (·.1 == "internal/reflectlite.rtype")).map (·.2) = some 249 := by kernel_rfl
theorem oneRow:((List.range 395).filter fun t=>Tryz.prog.rowNamed t [101,114,114,111,114])=[27]:=by kernel_rfl
theorem sizeOf_types:Tryz.prog.types.size=395:=by kernel_rfl
theorem laid_of {W : World} (h : laidMetH Tryz.prog [("errors.errorType", Rows.laid_errors_errorType)] W) : Laid W := by
 have h' : laidMet Tryz.prog [] W ∧ handlesMet Tryz.prog [("errors.errorType", Rows.laid_errors_errorType)] W := h
 obtain⟨name,u,ty,e1,e2,e3,e4,e5⟩:=h'.2 _ (List.mem_singleton.2 rfl);have en:name=[101,114,114,111,114]:=(Option.some.inj e1).symm;subst en;obtain rfl:=Option.some.inj (rtAt.symm.trans e2);have hm:ty∈(List.range 395).filter fun t=>Tryz.prog.rowNamed t [101,114,114,111,114]:=List.mem_filter.2 ⟨List.mem_range.2 (by rw[← sizeOf_types];exact e3),e4⟩;rw[oneRow]at hm;obtain rfl:=List.mem_singleton.1 hm;have hh:typeHandle Tryz.prog 27=.pointer (some ⟨1,27,none⟩):=by kernel_rfl
 rw[hh]at e5;have:=World.var?_cell etAt e5 0;unfold Laid;simpa using this
noncomputable def laidWorld (os:Os):World:=
 let w0:=World.holding Tryz.prog os ⟨#[],#[],[]⟩
 { w0 with heap:=w0.heap.modify 0 fun
   | .cells _ t frozen=>.cells #[.iface 249 (.agg #[.pointer (some ⟨1,27,none⟩)])] t frozen
   | o=>o }
theorem laidWorld_met (os : Os) (args : Array Value) : laidMetH Tryz.prog [("errors.errorType", Rows.laid_errors_errorType)] ((laidWorld os).forCall (fun _ _ => 0) ⟨#[], args, []⟩).memory :=
 laidMetH_of_parts (laidMet_nil _ _) (by kernel_rfl)
end Go.Proofs.YtbkkolfpegplgaaGreatDoor
