/- An argument that is a list of intervals, opened. -/
import Derived.Test.YtbkkolfpegplgaaGreatDoorS3G44
import Derived.Test.YtbkkolfpegplgaaGreatDoorS3G1
import Derived.Deep.SlicePairs
namespace Go.Proofs.YtbkkolfpegplgaaGreatDoor
open Go.ChangeShapes Go.WideShapes Go.ChangeAt Go.RowKit Go.Joins
def valI:Value→Int
 | .int _ n=>n
 | _=>0
section
variable {H:Type} {enc:TypeId×Value→H} {P:Program} {w:World}
theorem row_of_pairs{t e:TypeId}{f0 f1:Field}{a:Option Addr}{len cap:Nat}{d:DataW H}{p:List MemPlace}(ht:P.underlying t=some (.slice e))(he:P.underlying e=some (.struct #[f0,f1]))
  (ce:P.cellsOf e=2) (o0:f0.offset=0) (o1:f1.offset=1) (c0:P.cellsOf f0.type=1) (c1:P.cellsOf f1.type=1) (u0:P.underlying f0.type=some (.int .u64)) (u1:P.underlying f1.type=some (.int .u64))
  (h:DataW.Trod enc P w 0 (fun _=>true) true t (.slice a len cap) d p):∃zs,Prs w a len zs:=by
 obtain⟨fuel,hf⟩:=h;rcases Go.Deep.open_slice_pairs ht he ce o0 o1 c0 c1 hf with⟨hcs,_⟩ | ⟨x,l,c,m,n,V0,V1,D0,D1,P0,P1,hcs,_,hl,hm,hmm,_,hx⟩
 ·simp[Value.cells]at hcs
  obtain⟨rfl,rfl,rfl⟩:=hcs;exact⟨[],rfl,by omega,by simp,fun i hi=>absurd hi (by omega)⟩
 ·simp[Value.cells]at hcs
  obtain⟨rfl,rfl,rfl⟩:=hcs;simp only[if_true]at hmm;unfold maxLen at hm;have hv:∀i,i<len→∃z0 z1,V0 i=.int .u64 z0∧V1 i=.int .u64 z1∧Word z0∧Word z1:=by
   intro i hi;obtain⟨_,_,t0,t1⟩:=hx i (by omega);obtain⟨z0,e0,_,w0⟩:=DataW.trod_int u0 t0;obtain⟨z1,e1,_,w1⟩:=DataW.trod_int u1 t1;simp at e0 e1
   exact⟨z0,z1,e0,e1,word_wf w0,word_wf w1⟩
  have hg:∀i,i<len→((List.range len).map fun i=>(valI (V0 i),valI (V1 i))).getD i (0,0)=(valI (V0 i),valI (V1 i)):=by
   intro i hi;simp[List.getD,hi]
  refine⟨(List.range len).map fun i=>(valI (V0 i),valI (V1 i)),by simp,by omega,?_,?_⟩
  ·intro z hz
   simp only[List.mem_map,List.mem_range]at hz;obtain⟨i,hi,rfl⟩:=hz;obtain⟨z0,z1,e0,e1,w0,w1⟩:=hv i hi;rw[e0,e1];exact⟨w0,w1⟩
  ·intro i hi
   obtain⟨h0,h1,_,_⟩:=hx i (by omega);obtain⟨h00,_⟩:=hx 0 (by omega);obtain⟨z0,z1,e0,e1,_,_⟩:=hv i hi;obtain⟨b,off,spot⟩:=x;have hspot:spot=none:=by simpa[Addr.add]using World.cell?_spot h00
   subst hspot;have ea:∀j,(⟨b,off,none⟩:Addr).add j=⟨b,off+j,none⟩:=by
    intro j;unfold Addr.add;split<;>simp_all
   rw[ea]at h0 h1;unfold Lo Hi;rw[hg i hi,e0,e1];rw[e0]at h0;rw[e1]at h1;exact⟨b,off,rfl,block_lt_of_cell h0,h0,by rw[show off+i * 2+1=off+(i * 2+1) by omega];exact h1⟩
end
end Go.Proofs.YtbkkolfpegplgaaGreatDoor
