/- Arguments opened: knowledge. -/
import Derived.Test.YtbkkolfpegplgaaGreatDoorS3G47
import Derived.Test.YtbkkolfpegplgaaGreatDoorS3G36
namespace Go.Proofs.YtbkkolfpegplgaaGreatDoor
open Go.ChangeShapes Go.WideShapes Go.ChangeAt Go.RowKit Go.Joins Go.Deep
theorem z4t{α:Type}(z:α){Q:Nat→α→Prop}:∀{len:Nat},(∀i,i<len→∃r,Q i r)→∃l:List α,l.length=len∧∀i,i<len→Q i (l.getD i z)
 | 0,_=>⟨[],rfl,fun i hi=>absurd hi (by omega)⟩
 | len+1,h=>by
   obtain⟨l,hl,hq⟩:=z4t z (len:=len) (fun i hi=>h i (by omega));obtain⟨r,hr⟩:=h len (by omega);refine⟨l ++ [r],by simp[hl],fun i hi=>?_⟩;rcases Nat.lt_or_ge i len with g | g
   ·rw[List.getD,List.getElem?_append_left (by omega),← List.getD]
    exact hq i g
   ·obtain rfl:i=len:=by omega
    subst hl;rw[show(l ++ [r]).getD l.length z=r from by simp[List.getD]];exact hr
theorem mem_getD{α:Type}(z:α){l:List α}{p:α}(h:p∈l):∃i,i<l.length∧l.getD i z=p:=by
 obtain⟨i,hi,e⟩:=List.mem_iff_getElem.1 h;exact⟨i,hi,by rw[List.getD,List.getElem?_eq_getElem hi,e];rfl⟩
section
variable {H:Type} {enc:TypeId×Value→H} {P:Program} {w:World}
theorem elems_of{t e:TypeId}{fs:Array Field}{k fuel:Nat}{v:Value}{x:DataW H×List MemPlace}(ht:P.underlying t=some (.slice e))(hs:P.underlying e=some (.struct fs))(hone:oneCellFields P fs=true)(hk:fs.size=k)(hC:P.cellsOf e=k)(h0:0<k)
  (h:DataW.trod enc P w 0 (fun _=>true) true fuel t [v]=some x) :
  ∃a len cap,v=.slice a len cap∧len≤cap∧cap≤maxLen∧(a=none→cap=0)∧∀i,i<len→∃b off,a=some ⟨b,off,none⟩∧∃n',∀(j:Nat) (f:Field),fs[j]?=some f→∃v y,w.cell? ⟨b,off+i * k+j,none⟩=some v∧DataW.trod enc P w 0 (fun _=>true) true n' f.type [v]=some y:=by
 rcases open_slice ht h with⟨hcs,_⟩ | ⟨x,l,c,m,n,D,Pl,hcs,_,hl,hm,hmm,_,hx⟩
 ·simp at hcs
  exact⟨none,0,0,hcs,Nat.le_refl _,by unfold maxLen;omega,fun _=>rfl,fun i hi=>absurd hi (by omega)⟩
 ·simp at hcs
  subst hcs;simp only[if_true]at hmm;obtain⟨b,off,spot⟩:=x;have part:∀i,i<l→∃n',∀(j:Nat) (f:Field),fs[j]?=some f→∃v y,w.cell? ((⟨b,off,spot⟩:Addr).add (i * k+j))=some v∧DataW.trod enc P w 0 (fun _=>true) true n' f.type [v]=some y:=by
   intro i hi;obtain⟨cs',hc,ht'⟩:=hx i (by omega);rw[hC]at hc;obtain⟨_,hcl,hat⟩:=World.cells?_some hc;obtain⟨xs,n',_,_,_,hlen,hg⟩:=DataW.trod_struct hs ht';refine⟨n',?_⟩;intro j f hj;obtain⟨o,kk⟩:=hone_of hone j f hj;have hj5:j<k:=by have:=(Array.getElem?_eq_some_iff.1 hj).1;omega
   have g:=hg j f hj;rw[o,kk]at g;have hil:j<xs.length:=by rw[hlen];omega
   rw[List.getElem?_eq_getElem hil]at g;have hcj:j<cs'.length:=by omega
   have hcell:=hat j hj5;rw[List.getElem?_eq_getElem hcj,add_add]at hcell;refine⟨cs'[j],xs[j],hcell,?_⟩;rw[← g];congr 1
   rw[List.drop_eq_getElem_cons hcj];rfl
  have hspot:0<l→spot=none:=fun hp=>by
   obtain⟨_,p0⟩:=part 0 hp;obtain⟨v0,y0,k0,_⟩:=p0 0 fs[0] (Array.getElem?_eq_getElem (by omega));simpa[Addr.add]using World.cell?_spot k0
  refine⟨_,l,c,rfl,hl,hm,fun e=>(by cases e),fun i hi=>?_⟩;obtain rfl:=hspot (by omega);obtain⟨n',part⟩:=part i hi;refine⟨b,off,rfl,n',fun j f hj=>?_⟩;obtain⟨v,y,hc,hy⟩:=part j f hj;have ea:∀j,(⟨b,off,none⟩:Addr).add j=⟨b,off+j,none⟩:=by
   intro j;unfold Addr.add;split<;>simp_all
  rw[ea,← Nat.add_assoc]at hc;exact⟨v,y,hc,hy⟩
theorem pairs_ofN{t e:TypeId}{f0 f1:Field}{fuel:Nat}{v:Value}{x:DataW H×List MemPlace}(ht:P.underlying t=some (.slice e))(he:P.underlying e=some (.struct #[f0,f1]))
  (ce:P.cellsOf e=2) (o0:f0.offset=0) (o1:f1.offset=1) (c0:P.cellsOf f0.type=1) (c1:P.cellsOf f1.type=1) (u0:P.underlying f0.type=some (.int .u64)) (u1:P.underlying f1.type=some (.int .u64))
  (h:DataW.trod enc P w 0 (fun _=>true) true fuel t [v]=some x):∃a cap zs,v=.slice a zs.length cap∧Prs w a zs.length zs∧zs.length≤cap∧(a=none→cap=0):=by
 obtain⟨a,len,cap,zs,rfl,hP,hle⟩:=pairs_of ht he ce o0 o1 c0 c1 u0 u1 h;have hl:=hP.length;subst hl;refine⟨a,cap,zs,rfl,hP,hle,fun e=>?_⟩;subst e;rcases open_slice ht h with⟨hcs,_⟩ | ⟨x,l,c,m,n,D,Pl,hcs,_⟩
 ·simp at hcs;exact hcs.2
 ·simp at hcs
theorem ents_ofN{t e i2:TypeId}{f0 f1 f2 g0 g1:Field}{fuel:Nat}{v:Value}{x:DataW H×List MemPlace}(ht:P.underlying t=some (.slice e))(hs:P.underlying e=some (.struct #[f0,f1,f2]))(hone:oneCellFields P #[f0,f1,f2]=true)(hC:P.cellsOf e=3)
  (u0:P.underlying f0.type=some (.int .u64)) (u1:P.underlying f1.type=some (.int .u64)) (u2:P.underlying f2.type=some (.slice i2)) (ui:P.underlying i2=some (.struct #[g0,g1]))
  (ce:P.cellsOf i2=2) (o0:g0.offset=0) (o1:g1.offset=1) (cg0:P.cellsOf g0.type=1) (cg1:P.cellsOf g1.type=1) (v0:P.underlying g0.type=some (.int .u64)) (v1:P.underlying g1.type=some (.int .u64))
  (h:DataW.trod enc P w 0 (fun _=>true) true fuel t [v]=some x):∃l,VecAt w v l:=by
 obtain⟨a,len,cap,rfl,hle,hmax,_,hx⟩:=elems_of ht hs hone (k:=3) rfl hC (by omega) h;have hv:∀i,i<len→∃r:EV,EntW r.1∧HolesN w r∧∃b off,a=some ⟨b,off,none⟩∧b<w.heap.size∧w.cell? ⟨b,off+i * 3,none⟩=some (.int .u64 r.1.rep)∧w.cell? ⟨b,off+i * 3+1,none⟩=some (.int .u64 r.1.mx)∧w.cell? ⟨b,off+i * 3+2,none⟩=some r.2:=by
  intro i hi;obtain⟨b,off,ea,n',part⟩:=hx i hi;obtain⟨x0,y0,k0,q0⟩:=part 0 f0 rfl;obtain⟨x1,y1,k1,q1⟩:=part 1 f1 rfl;obtain⟨x2,y2,k2,q2⟩:=part 2 f2 rfl;obtain⟨n0,e0,_,w0⟩:=DataW.trod_int u0 q0;obtain⟨n1,e1,_,w1⟩:=DataW.trod_int u1 q1;obtain⟨a2,c2,zs,e2,hP,hle,hn⟩:=pairs_ofN u2 ui ce o0 o1 cg0 cg1 v0 v1 q2;simp at e0 e1
  subst e0 e1 e2;exact⟨(⟨n0,n1,zs⟩,.slice a2 zs.length c2),⟨word_wf w0,word_wf w1,hP.words⟩,⟨a2,c2,rfl,hP,hle,hn⟩,b,off,ea,block_lt_of_cell k0,k0,k1,k2⟩
 obtain⟨l,hl,hq⟩:=z4t EV.z hv;subst hl;have hmem:∀p∈l,∃i,i<l.length∧l.getD i EV.z=p:=fun p hp=>mem_getD EV.z hp;refine⟨l,a,cap,rfl,⟨⟨rfl,by unfold maxLen at hmax;omega,fun p hp=>?_,fun p hp=>?_,fun i hi=>?_⟩,fun p hp=>?_⟩,hle⟩
 ·obtain⟨i,hi,rfl⟩:=hmem p hp
  exact(hq i hi).1
 ·obtain⟨i,hi,rfl⟩:=hmem p hp
  obtain⟨a2,c2,h1,h2,h3,_⟩:=(hq i hi).2.1;exact⟨a2,c2,h1,h2,h3⟩
 ·exact(hq i hi).2.2
 ·obtain⟨i,hi,rfl⟩:=hmem p hp
  exact(hq i hi).2.1
end
section
variable {H:Type} {enc:TypeId×Value→H} {w:World}
theorem ranges_of{fuel:Nat}{v:Value}{x:DataW H×List MemPlace}(h:DataW.trod enc Tryz.prog w 0 (fun _=>true) true fuel 56 [v]=some x):∃zs,RgAt w v zs∧NilOk v:=by
 obtain⟨a,cap,zs,rfl,hP,hle,hn⟩:=pairs_ofN Tryz.underlying56 Tryz.underlying123 (by kernel_rfl) rfl rfl (by kernel_rfl) (by kernel_rfl) Tryz.underlying57 Tryz.underlying57 h;exact⟨zs,⟨a,cap,rfl,hP,hle⟩,fun n c e=>by cases e;exact hn rfl⟩
theorem vector_of{fuel:Nat}{v:Value}{x:DataW H×List MemPlace}(h:DataW.trod enc Tryz.prog w 0 (fun _=>true) true fuel 76 [v]=some x):∃l,VecAt w v l:=
 ents_ofN Tryz.underlying76 Tryz.underlying96 (by kernel_rfl) (show Tryz.prog.cellsOf 96=3 by kernel_rfl) Tryz.underlying57 Tryz.underlying57 Tryz.underlying56 Tryz.underlying123 (by kernel_rfl) rfl rfl (by kernel_rfl) (by kernel_rfl) Tryz.underlying57 Tryz.underlying57 h
theorem know_of{fuel:Nat}{v:Value}{x:DataW H×List MemPlace}(h:DataW.trod enc Tryz.prog w 0 (fun _=>true) true fuel 23 [v]=some x):∃l,KnwAt w v l∧NilOk v∧l.length≤9223372036854775807:=by
 obtain⟨a,len,cap,rfl,hle,hmax,hn,hx⟩:=elems_of Tryz.underlying23 Tryz.underlying80 (by kernel_rfl) (k:=2) rfl (show Tryz.prog.cellsOf 80=2 by kernel_rfl) (by omega) h;have hv:∀i,i<len→∃f:FV,FragAt w f∧∃b off,a=some ⟨b,off,none⟩∧b<w.heap.size∧w.cell? ⟨b,off+i * 2,none⟩=some f.iv∧w.cell? ⟨b,off+i * 2+1,none⟩=some f.vv:=by
  intro i hi;obtain⟨b,off,ea,n',part⟩:=hx i hi;obtain⟨x0,y0,k0,q0⟩:=part 0 _ rfl;obtain⟨x1,y1,k1,q1⟩:=part 1 _ rfl;obtain⟨zs,hz,_⟩:=ranges_of q0;obtain⟨es,he⟩:=vector_of q1;exact⟨⟨zs,x0,es,x1⟩,⟨hz,he⟩,b,off,ea,block_lt_of_cell k0,k0,k1⟩
 obtain⟨l,hl,hq⟩:=z4t FV.z hv;subst hl;refine⟨l,⟨a,cap,rfl,⟨rfl,fun p hp=>?_,fun i hi=>(hq i hi).2⟩,hle⟩,fun n c e=>(by cases e;exact hn rfl),by unfold maxLen at hmax;omega⟩;obtain⟨i,hi,rfl⟩:=mem_getD FV.z hp;exact(hq i hi).1
theorem open_know{v:Value}{d:DataW H}{p:List MemPlace}(h:DataW.Trod enc Tryz.prog w 0 (fun _=>true) true 23 v d p)(hs:∃a len cap,v=.slice a len cap):∃l,KnwAt w v l∧NilOk v∧l.length≤9223372036854775807:=by
 obtain⟨a,len,cap,rfl⟩:=hs;obtain⟨fuel,hf⟩:=h;exact know_of (v:=.slice a len cap) (by simpa[Value.cells]using hf)
end
end Go.Proofs.YtbkkolfpegplgaaGreatDoor
