/- A region that draws its order, in a round of a loop over a function: by the law of the regions that hold a condition. No program in sight. -/
import Derived.Deep.RegionHeld3
import Derived.OrdersIn
import Derived.RangeFuncCalls
namespace Go.Proofs.YtbkkolfpegplgaaGreatDoor
open Go Go.RowKit
theorem rowsIn_of_rows{n:Nat}{P:Program}{row:String}{args:Array Value}{w:World}{R:Value→World→Prop}(h:Rows P row args w R):RowsIn Fence.wide n P row args w R:=
 fun c cs _=>let ⟨v,w',r,s⟩:=h c cs;⟨v,w',r,stepsIn_wide.2 s⟩
def noDefer (ops:Array Oper):Bool:=ops.toList.all fun o=>match o.op with | .defer _=>false | _=>true
theorem noDefer_op{ops:Array Oper}(h:noDefer ops=true){i:Nat}{o:Oper}(e:ops[i]?=some o)(c:Call):o.op≠.defer c:=by
 intro k;have hm:o∈ops.toList:=by
  rw[← Array.getElem?_toList]at e;exact List.mem_of_getElem? e
 have:=List.all_eq_true.1 h o hm;rw[k]at this
 cases this
variable {n l:Nat} {P:Program} {ops:Array Oper} {Q:Exit→Act→World→Prop} {S:World→Prop}
theorem wpOpIn_round(hQ:¬LetsOut Q)(hd:noDefer ops=true){i:Nat}{K:Act→World→Prop}{a:Act}{w:World}(h:wpOp P ops Q i K a w):wpOpIn (Fence.wide.inRound l) n P ops Q i K a w:=by
 unfold wpOp at h;unfold wpOpIn
 cases e:ops[i]? with
 | none=>rw[e]at h;exact h
 | some o=>
   rw[e]at h;dsimp only at h ⊢
   split
   ·rename_i hw
    rw[if_pos hw]at h;have h:=h.resolve_right (fun k=>hQ k.2);refine⟨fun _ _=>trivial,?_⟩;rw[Oper.semAt_eq _ _ _ (noDefer_op hd e)];unfold Oper.wp at h;generalize (execOp a.eval o).run P w=r at h
    cases r with
    | ok nx w'=>
      cases nx with
      | value v=>exact h
      | skip=>exact h
      | defer d=>exact h
      | enter f args=>
        refine⟨fun k=>(by cases k),?_⟩;have h:Calls P f args w' _:=h;refine(callsIn_wide.2 h).mono ?_;rintro(v | c | _) w2 k<;>exact k
      | row row args=>exact⟨fun k=>(by cases k),rowsIn_of_rows h⟩
      | _=>exact(h:False).elim
    | halt x w'=>cases x<;>exact h
   ·rename_i hw
    rw[if_neg hw]at h;exact⟨fun _ _=>trivial,h⟩
theorem z5b(hQ:¬LetsOut Q)(hd:noDefer ops=true){md:Region.Mode}:∀(fuel:Nat) (listed:Array Bool) (a:Act) (w:World),wpAnyH P md ops Q S fuel listed a w→wpAnyIn (Fence.wide.inRound l) n P md ops Q fuel listed a w
 | 0,_,_,_,h=>h
 | fuel+1,_,_,_,h=>⟨h.1,fun i hi=>wpOpIn_mono (fun a' w' h'=>z5b hQ hd fuel _ a' w' h'.2) (wpOpIn_round hQ hd (h.2 i hi))⟩
theorem z2a{id:Nat}{a:Act}{w:World}(hm:P.follows .mixedOrders=true)(hQ:¬LetsOut Q)(hd:noDefer ops=true)(S:World→Prop)(hS:S w.drew)
  (h:S w.drew→wpAnyH P .any ops Q S ops.size (Array.replicate ops.size false) a w.drew):(Code.region id ops true).wpIn (Fence.wide.inRound l) n P Q a w:=
 wpIn_region_any hm (z5b hQ hd _ _ _ _ (h hS))
end Go.Proofs.YtbkkolfpegplgaaGreatDoor
