/- Arguments opened: limits; a vector. -/
import Derived.Test.YtbkkolfpegplgaaGreatDoorS3G44
import Derived.Test.YtbkkolfpegplgaaGreatDoorS3G46
import Derived.Test.YtbkkolfpegplgaaGreatDoorS3G13
namespace Go.Proofs.YtbkkolfpegplgaaGreatDoor
open Go.ChangeShapes Go.WideShapes Go.ChangeAt Go.RowKit Go.Joins Go.Deep
section
variable {H:Type} {enc:TypeId×Value→H} {P:Program} {w:World}
theorem pairs_of{t e:TypeId}{f0 f1:Field}{fuel:Nat}{v:Value}{x:DataW H×List MemPlace}(ht:P.underlying t=some (.slice e))(he:P.underlying e=some (.struct #[f0,f1]))
  (ce:P.cellsOf e=2) (o0:f0.offset=0) (o1:f1.offset=1) (c0:P.cellsOf f0.type=1) (c1:P.cellsOf f1.type=1) (u0:P.underlying f0.type=some (.int .u64)) (u1:P.underlying f1.type=some (.int .u64))
  (h:DataW.trod enc P w 0 (fun _=>true) true fuel t [v]=some x):∃a len cap zs,v=.slice a len cap∧Prs w a len zs∧len≤cap:=by
 have hv:∃a len cap,v=.slice a len cap∧len≤cap:=by
  rcases Go.Deep.open_slice_pairs ht he ce o0 o1 c0 c1 h with⟨hcs,_⟩ | ⟨x,l,c,m,n,V0,V1,D0,D1,P0,P1,hcs,_,hl,hm,hmm,_,hx⟩
  ·simp at hcs
   exact⟨none,0,0,hcs,Nat.le_refl _⟩
  ·simp at hcs
   exact⟨some x,l,c,hcs,by omega⟩
 obtain⟨a,len,cap,rfl,hle⟩:=hv;obtain⟨zs,hz⟩:=row_of_pairs ht he ce o0 o1 c0 c1 u0 u1 (a:=a) (len:=len) (cap:=cap) (d:=x.1) (p:=x.2) ⟨fuel,by simpa[Value.cells]using h⟩;exact⟨a,len,cap,zs,rfl,hz,hle⟩
end
end Go.Proofs.YtbkkolfpegplgaaGreatDoor
