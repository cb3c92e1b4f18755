import Derived.Test.YtbkkolfpegplgaaGreatDoorTK
import Derived.Deep.RegionHeld3
import Derived.OrdersIn
import Derived.RangeFuncCalls
namespace Go.Proofs.YtbkkolfpegplgaaGreatDoor
open Go Go.RowKit
theorem xA{n:Nat}{P:Program}{row:String}{args:Array Value}{w:World}{R:Value→World→Prop}(h:Rows P row args w R):RowsIn Fence.wide n P row args w R:=
 fun c b _=>let ⟨v,w',r,s⟩:=h c b;⟨v,w',r,stepsIn_wide.2 s⟩
def vT (ops:Array Oper):Bool:=ops.toList.all fun o=>match o.op with | .defer _=>false | _=>true
theorem Kf{b:Array Oper}(h:vT b=true){i:Nat}{o:Oper}(e:b[i]?=some o)(c:Call):o.op≠.defer c:=by
 intro k;have j:o∈b.toList:=by
  rw[← Array.getElem?_toList]at e;exact List.mem_of_getElem? e
 have:=List.all_eq_true.1 h o j;rw[k]at this
 cases this
variable {n l:Nat} {P:Program} {ops:Array Oper} {Q:Exit→Act→World→Prop} {S:World→Prop}
theorem Bw(j:¬LetsOut Q)(m:vT ops=true){i:Nat}{K:Act→World→Prop}{a:Act}{w:World}(h:wpOp P ops Q i K a w):wpOpIn (Fence.wide.inRound l) n P ops Q i K a w:=by
 unfold wpOp at h;unfold wpOpIn
 cases e:ops[i]? with
 | none=>rw[e]at h;exact h
 | some o=>
   rw[e]at h;dsimp only at h ⊢
   split
   ·rename_i b;rw[if_pos b]at h;have h:=h.resolve_right (fun k=>j k.2);refine⟨fun _ _=>trivial,?_⟩;rw[Oper.semAt_eq _ _ _ (Kf m e)];unfold Oper.wp at h;generalize (execOp a.eval o).run P w=r at h
    cases r with
    | ok nx w'=>
      cases nx with
      | value v=>exact h
      | skip=>exact h
      | defer d=>exact h
      | enter f args=>
        refine⟨fun k=>(by cases k),?_⟩;have h:Calls P f args w' _:=h;refine(callsIn_wide.2 h).mono ?_;rintro(v | c | _) w2 k<;>exact k
      | row row args=>exact⟨fun k=>(by cases k),xA h⟩
      | _=>exact(h:False).elim
    | halt x w'=>cases x<;>exact h
   rename_i b;rw[if_neg b]at h;exact⟨fun _ _=>trivial,h⟩
theorem pT(j:¬LetsOut Q)(m:vT ops=true){p:Region.Mode}:∀(fuel:Nat) (b:Array Bool) (a:Act) (w:World),wpAnyH P p ops Q S fuel b a w→wpAnyIn (Fence.wide.inRound l) n P p ops Q fuel b a w
 | 0,_,_,_,h=>h
 | fuel+1,_,_,_,h=>⟨h.1,fun i hi=>wpOpIn_mono (fun r w' s=>pT j m fuel _ r w' s.2) (Bw j m (h.2 i hi))⟩
theorem gK{b:Nat}{a:Act}{w:World}(j:P.follows .mixedOrders=true)(m:¬LetsOut Q)(p:vT ops=true)(S:World→Prop)(r:S w.drew)
  (h:S w.drew→wpAnyH P .any ops Q S ops.size (Array.replicate ops.size false) a w.drew):(Code.region b ops true).wpIn (Fence.wide.inRound l) n P Q a w:=
 wpIn_region_any j (pT m p _ _ _ _ (h r))
end Go.Proofs.YtbkkolfpegplgaaGreatDoor
