import Derived.Test.YtbkkolfpegplgaaGreatDoorTG36
import Derived.Lib.SmallJoins
import Derived.LaidHandle
import Derived.Stop.Joined
import Derived.Deep.SlicePairs
open List renaming getElem?_eq_getElem→PC,getD→PD,range→PE
open Go.Proofs.Tryz
namespace Go.Proofs.YtbkkolfpegplgaaGreatDoor
open Go.ChangeShapes Go.WideShapes Go.ChangeAt Go.RowKit Go.Joins
theorem Da:ownKnob prog.godebug=none:=aC
theorem Dg:laidOutB prog=true:=aC
theorem vM{x:Int}(h:(Lit.int .u64 x).wf=true):aL x:=by
 have:=bounds_u64 h;exact⟨aA,aA⟩
section
variable {H:Type} {enc:TypeId×Value→H} {P:Program} {w:World}
end
end Go.Proofs.YtbkkolfpegplgaaGreatDoor
namespace Go.Proofs.YtbkkolfpegplgaaGreatDoor
open Go.ChangeShapes Go.WideShapes Go.ChangeAt Go.RowKit Go.Joins Go.Deep
section
variable {H:Type} {enc:TypeId×Value→H} {P:Program} {w:World}
end
end Go.Proofs.YtbkkolfpegplgaaGreatDoor
namespace Go.Proofs.YtbkkolfpegplgaaGreatDoor
open Go.ChangeShapes Go.WideShapes Go.ChangeAt Go.RowKit Go.Joins
structure MF (a:Option Addr) (len cap:Nat):Prop where
 none:a=none→cap=0
 le:len≤cap
 most:cap≤9223372036854775807
section
variable {H:Type} {enc:TypeId×Value→H} {P:Program} {w:World}
end
end Go.Proofs.YtbkkolfpegplgaaGreatDoor
namespace Go.Proofs.YtbkkolfpegplgaaGreatDoor
open Go.ChangeShapes Go.WideShapes Go.RowKit
theorem LQ : prog.globalNamed "errors.errorType" = some 0 := by kernel_rfl
theorem rtAt : (prog.cutTypes.find? (·.1 == "internal/reflectlite.rtype")).map (·.2) = some 249 := by kernel_rfl
theorem DH:((PE 395).filter fun t=>prog.rowNamed t [101,114,114,111,114])=[27]:=aC
theorem Cm:prog.types.size=395:=aC
theorem Zq {W : World} (h : laidMetH prog [("errors.errorType", Rows.laid_errors_errorType)] W) : Laid W := by
 have h' : laidMet prog [] W ∧ handlesMet prog [("errors.errorType", Rows.laid_errors_errorType)] W := h
 obtain⟨name,u,ty,e1,e2,e3,e4,e5⟩:=h'.2 _ (List.mem_singleton.2 rfl);have en:name=[101,114,114,111,114]:=(Option.some.inj e1).symm;subst en;obtain rfl:=Option.some.inj (rtAt.symm.trans e2);have hm:ty∈(PE 395).filter fun t=>prog.rowNamed t [101,114,114,111,114]:=List.mem_filter.2 ⟨List.mem_range.2 (by rw[← Cm];exact e3),e4⟩;rw[DH]at hm;obtain rfl:=List.mem_singleton.1 hm;have hh:typeHandle prog 27=.pointer (some ⟨1,27,none⟩):=by kernel_rfl
 rw[hh]at e5;have:=World.var?_cell LQ e5 0;unfold Laid;simpa using this
noncomputable def Ap (os:Os):World:=
 let w0:=World.holding prog os ⟨#[],#[],[]⟩
 { w0 with heap:=w0.heap.modify 0 fun
   | .cells _ t frozen=>.cells #[.iface 249 (.agg #[.pointer (some ⟨1,27,none⟩)])] t frozen
   | o=>o }
theorem zF (os : Os) (args : Array Value) : laidMetH prog [("errors.errorType", Rows.laid_errors_errorType)] ((Ap os).forCall (fun _ _ => 0) ⟨#[], args, []⟩).memory :=
 laidMetH_of_parts (laidMet_nil _ _) (by kernel_rfl)
end Go.Proofs.YtbkkolfpegplgaaGreatDoor
namespace Go.Proofs.YtbkkolfpegplgaaGreatDoor
open Go.ChangeShapes Go.WideShapes Go.ChangeAt Go.RowKit Go.Joins
def On:Value→Int
 | .int _ n=>n
 | _=>0
section
variable {H:Type} {enc:TypeId×Value→H} {P:Program} {w:World}
theorem Cs{t e:TypeId}{B C:Field}{a:Option Addr}{len cap:Nat}{d:DataW H}{p:List MemPlace}(N:P.underlying t=some (.slice e))(O:P.underlying e=some (.struct #[B,C]))
  (Q:P.cellsOf e=2) (R:B.offset=0) (S:C.offset=1) (T:P.cellsOf B.type=1) (U:P.cellsOf C.type=1) (V:P.underlying B.type=some (.int .u64)) (W:P.underlying C.type=some (.int .u64))
  (h:DataW.Trod enc P w 0 (fun _=>true) true t (.slice a len cap) d p):∃zs,Prs w a len zs:=by
 obtain⟨fuel,K⟩:=h;rcases Go.Deep.open_slice_pairs N O Q R S T U K with⟨hcs,_⟩ | ⟨x,l,c,m,n,V0,V1,D0,D1,P0,P1,hcs,_,hl,hm,hmm,_,hx⟩
 ·simp[Value.cells]at hcs;obtain⟨rfl,rfl,rfl⟩:=hcs;exact⟨[],rfl,aA,aD,fun i hi=>absurd hi aA⟩
 simp[Value.cells]at hcs;obtain⟨rfl,rfl,rfl⟩:=hcs;simp only[if_true]at hmm;unfold maxLen at hm;have hv:∀i,i<len→∃y z1,V0 i=.int .u64 y∧V1 i=.int .u64 z1∧aL y∧aL z1:=by
  intro i hi;obtain⟨_,_,L,M⟩:=hx i aA;obtain⟨y,s,_,D⟩:=DataW.trod_int V L;obtain⟨z1,u,_,E⟩:=DataW.trod_int W M;simp at s u;exact⟨y,z1,s,u,vM D,vM E⟩
 have I:∀i,i<len→((PE len).map fun i=>(On (V0 i),On (V1 i))).getD i (0,0)=(On (V0 i),On (V1 i)):=by
  intro i hi;simp[PD,hi]
 refine⟨(PE len).map fun i=>(On (V0 i),On (V1 i)),aD,aA,?_,?_⟩
 ·intro z G;simp only[List.mem_map,List.mem_range]at G;obtain⟨i,hi,rfl⟩:=G;obtain⟨y,z1,s,u,D,E⟩:=hv i hi;rw[s,u];exact⟨D,E⟩
 intro i hi;obtain⟨h0,h1,_,_⟩:=hx i aA;obtain⟨F,_⟩:=hx 0 aA;obtain⟨y,z1,s,u,_,_⟩:=hv i hi;obtain⟨b,off,A⟩:=x;have r:A=none:=by simpa[Addr.add]using World.cell?_spot F
 subst r;have J:∀j,(⟨b,off,none⟩:Addr).add j=⟨b,off+j,none⟩:=by
  intro j;unfold Addr.add;split<;>simp_all
 rw[J]at h0 h1;unfold Lo Hi;rw[I i hi,s,u];rw[s]at h0;rw[u]at h1;exact⟨b,off,rfl,block_lt_of_cell h0,h0,by rw[show off+i * 2+1=off+(i * 2+1) by omega];exact h1⟩
end
end Go.Proofs.YtbkkolfpegplgaaGreatDoor
namespace Go.Proofs.YtbkkolfpegplgaaGreatDoor
open Go.ChangeShapes Go.WideShapes Go.ChangeAt Go.RowKit Go.Joins Go.Deep
section
variable {H:Type} {enc:TypeId×Value→H} {P:Program} {w:World}
theorem Ux{t e:TypeId}{b j:Field}{fuel:Nat}{v:Value}{x:DataW H×List MemPlace}(s:P.underlying t=some (.slice e))(u:P.underlying e=some (.struct #[b,j]))
  (y:P.cellsOf e=2) (z:b.offset=0) (A:j.offset=1) (B:P.cellsOf b.type=1) (C:P.cellsOf j.type=1) (E:P.underlying b.type=some (.int .u64)) (F:P.underlying j.type=some (.int .u64))
  (h:DataW.trod enc P w 0 (fun _=>true) true fuel t [v]=some x):∃a len cap zs,v=.slice a len cap∧Prs w a len zs∧len≤cap:=by
 have hv:∃a len cap,v=.slice a len cap∧len≤cap:=by
  rcases Go.Deep.open_slice_pairs s u y z A B C h with⟨hcs,_⟩ | ⟨x,l,c,m,n,V0,V1,D0,D1,P0,P1,hcs,_,hl,hm,hmm,_,hx⟩
  ·simp at hcs;exact⟨none,0,0,hcs,Nat.le_refl _⟩
  simp at hcs;exact⟨some x,l,c,hcs,aA⟩
 obtain⟨a,len,cap,rfl,r⟩:=hv;obtain⟨zs,D⟩:=Cs s u y z A B C E F (a:=a) (len:=len) (cap:=cap) (d:=x.1) (p:=x.2) ⟨fuel,by simpa[Value.cells]using h⟩;exact⟨a,len,cap,zs,rfl,D,r⟩
end
theorem oN{α:Type}(z:α){Q:Nat→α→Prop}:∀{len:Nat},(∀i,i<len→∃r,Q i r)→∃l:List α,l.length=len∧∀i,i<len→Q i (l.getD i z)
 | 0,_=>⟨[],rfl,fun i hi=>absurd hi (by omega)⟩
 | len+1,h=>by
   obtain⟨l,b,j⟩:=oN z (len:=len) (fun i hi=>h i aA);obtain⟨r,m⟩:=h len aA;refine⟨l ++ [r],by simp[b],fun i hi=>?_⟩;rcases Nat.lt_or_ge i len with g | g
   ·rw[PD,List.getElem?_append_left aA,← PD];exact j i g
   obtain rfl:i=len:=aA;subst b;rw[show(l ++ [r]).getD l.length z=r from by simp[PD]];exact m
theorem Gw{α:Type}(z:α){l:List α}{p:α}(h:p∈l):∃i,i<l.length∧l.getD i z=p:=by
 obtain⟨i,hi,e⟩:=List.mem_iff_getElem.1 h;exact⟨i,hi,by rw[PD,PC hi,e];rfl⟩
section
variable {H:Type} {enc:TypeId×Value→H} {P:Program} {w:World}
theorem Ib{t e:TypeId}{z:Array Field}{k fuel:Nat}{v:Value}{x:DataW H×List MemPlace}(V:P.underlying t=some (.slice e))(hs:P.underlying e=some (.struct z))(G:oneCellFields P z=true)(Z:z.size=k)(W:P.cellsOf e=k)(h0:0<k)
  (h:DataW.trod enc P w 0 (fun _=>true) true fuel t [v]=some x) :
  ∃a len cap,v=.slice a len cap∧len≤cap∧cap≤maxLen∧(a=none→cap=0)∧∀i,i<len→∃b off,a=some ⟨b,off,none⟩∧∃u,∀(j:Nat) (f:Field),z[j]?=some f→∃v y,w.cell? ⟨b,off+i * k+j,none⟩=some v∧DataW.trod enc P w 0 (fun _=>true) true u f.type [v]=some y:=by
 rcases open_slice V h with⟨hcs,_⟩ | ⟨x,l,c,m,n,D,Pl,hcs,_,hl,hm,hmm,_,hx⟩
 ·simp at hcs;exact⟨none,0,0,hcs,Nat.le_refl _,by unfold maxLen;omega,fun _=>rfl,fun i hi=>absurd hi aA⟩
 simp at hcs;subst hcs;simp only[if_true]at hmm;obtain⟨b,off,r⟩:=x;have part:∀i,i<l→∃u,∀(j:Nat) (f:Field),z[j]?=some f→∃v y,w.cell? ((⟨b,off,r⟩:Addr).add (i * k+j))=some v∧DataW.trod enc P w 0 (fun _=>true) true u f.type [v]=some y:=by
  intro i hi;obtain⟨B,C,K⟩:=hx i aA;rw[W]at C;obtain⟨_,N,L⟩:=World.cells?_some C;obtain⟨xs,u,_,_,_,E,O⟩:=DataW.trod_struct hs K;refine⟨u,?_⟩;intro j f F;obtain⟨o,Q⟩:=hone_of G j f F;have I:j<k:=by have:=(Array.getElem?_eq_some_iff.1 F).1;omega
  have g:=O j f F;rw[o,Q]at g;have J:j<xs.length:=by rw[E];omega
  rw[PC J]at g;have A:j<B.length:=aA;have p:=L j I;rw[PC A,add_add]at p;refine⟨B[j],xs[j],p,?_⟩;rw[← g];congr 1
  rw[List.drop_eq_getElem_cons A];rfl
 have s:0<l→r=none:=fun U=>by
  obtain⟨_,R⟩:=part 0 U;obtain⟨X,Y,S,_⟩:=R 0 z[0] (Array.getElem?_eq_getElem aA);simpa[Addr.add]using World.cell?_spot S
 refine⟨_,l,c,rfl,hl,hm,fun e=>(by cases e),fun i hi=>?_⟩;obtain rfl:=s aA;obtain⟨u,part⟩:=part i hi;refine⟨b,off,rfl,u,fun j f F=>?_⟩;obtain⟨v,y,C,T⟩:=part j f F;have M:∀j,(⟨b,off,none⟩:Addr).add j=⟨b,off+j,none⟩:=by
  intro j;unfold Addr.add;split<;>simp_all
 rw[M,← Nat.add_assoc]at C;exact⟨v,y,C,T⟩
theorem Ae{t e:TypeId}{b j:Field}{fuel:Nat}{v:Value}{x:DataW H×List MemPlace}(s:P.underlying t=some (.slice e))(y:P.underlying e=some (.struct #[b,j]))
  (z:P.cellsOf e=2) (A:b.offset=0) (B:j.offset=1) (C:P.cellsOf b.type=1) (E:P.cellsOf j.type=1) (F:P.underlying b.type=some (.int .u64)) (G:P.underlying j.type=some (.int .u64))
  (h:DataW.trod enc P w 0 (fun _=>true) true fuel t [v]=some x):∃a cap zs,v=.slice a zs.length cap∧Prs w a zs.length zs∧zs.length≤cap∧(a=none→cap=0):=by
 obtain⟨a,len,cap,zs,rfl,r,p⟩:=Ux s y z A B C E F G h;have u:=r.length;subst u;refine⟨a,cap,zs,rfl,r,p,fun e=>?_⟩;subst e;rcases open_slice s h with⟨hcs,_⟩ | ⟨x,l,c,m,n,D,Pl,hcs,_⟩
 ·simp at hcs;exact hcs.2
 simp at hcs
theorem Wu{t e G:TypeId}{B C D E F:Field}{fuel:Nat}{v:Value}{x:DataW H×List MemPlace}(ht:P.underlying t=some (.slice e))(hs:P.underlying e=some (.struct #[B,C,D]))(u:oneCellFields P #[B,C,D]=true)(hC:P.cellsOf e=3)
  (u0:P.underlying B.type=some (.int .u64)) (u1:P.underlying C.type=some (.int .u64)) (u2:P.underlying D.type=some (.slice G)) (ui:P.underlying G=some (.struct #[E,F]))
  (ce:P.cellsOf G=2) (o0:E.offset=0) (o1:F.offset=1) (I:P.cellsOf E.type=1) (J:P.cellsOf F.type=1) (v0:P.underlying E.type=some (.int .u64)) (v1:P.underlying F.type=some (.int .u64))
  (h:DataW.trod enc P w 0 (fun _=>true) true fuel t [v]=some x):∃l,VecAt w v l:=by
 obtain⟨a,len,cap,rfl,m,s,_,O⟩:=Ib ht hs u (k:=3) rfl hC aA h;have hv:∀i,i<len→∃r:EV,EntW r.1∧HolesN w r∧∃b off,a=some ⟨b,off,none⟩∧b<w.heap.size∧w.cell? ⟨b,off+i * 3,none⟩=some (.int .u64 r.1.rep)∧w.cell? ⟨b,off+i * 3+1,none⟩=some (.int .u64 r.1.mx)∧w.cell? ⟨b,off+i * 3+2,none⟩=some r.2:=by
  intro i hi;obtain⟨b,off,Q,n',part⟩:=O i hi;obtain⟨x0,y0,K,R⟩:=part 0 B rfl;obtain⟨x1,y1,S,T⟩:=part 1 C rfl;obtain⟨x2,y2,U,V⟩:=part 2 D rfl;obtain⟨W,L,_,X⟩:=DataW.trod_int u0 R;obtain⟨Y,M,_,Z⟩:=DataW.trod_int u1 T;obtain⟨a2,y,zs,e2,N,m,hn⟩:=Ae u2 ui ce o0 o1 I J v0 v1 V;simp at L M;subst L M e2;exact⟨(⟨W,Y,zs⟩,.slice a2 zs.length y),⟨vM X,vM Z,N.words⟩,⟨a2,y,rfl,N,m,hn⟩,b,off,Q,block_lt_of_cell K,K,S,U⟩
 obtain⟨l,hl,A⟩:=oN EV.z hv;subst hl;have j:∀p∈l,∃i,i<l.length∧l.getD i EV.z=p:=fun p n=>Gw EV.z n;refine⟨l,a,cap,rfl,⟨⟨rfl,by unfold maxLen at s;omega,fun p n=>?_,fun p n=>?_,fun i hi=>?_⟩,fun p n=>?_⟩,m⟩
 ·obtain⟨i,hi,rfl⟩:=j p n;exact(A i hi).1
 ·obtain⟨i,hi,rfl⟩:=j p n;obtain⟨a2,y,h1,h2,h3,_⟩:=(A i hi).2.1;exact⟨a2,y,h1,h2,h3⟩
 ·exact(A i hi).2.2
 obtain⟨i,hi,rfl⟩:=j p n;exact(A i hi).2.1
end
section
variable {H:Type} {enc:TypeId×Value→H} {w:World}
theorem Po{fuel:Nat}{v:Value}{x:DataW H×List MemPlace}(h:DataW.trod enc prog w 0 (fun _=>true) true fuel 56 [v]=some x):∃zs,RgAt w v zs∧iH v:=by
 obtain⟨a,cap,zs,rfl,j,b,l⟩:=Ae underlying56 underlying123 aC rfl rfl aC aC underlying57 underlying57 h;exact⟨zs,⟨a,cap,rfl,j,b⟩,fun n c e=>by cases e;exact l rfl⟩
theorem Ok{fuel:Nat}{v:Value}{x:DataW H×List MemPlace}(h:DataW.trod enc prog w 0 (fun _=>true) true fuel 76 [v]=some x):∃l,VecAt w v l:=
 Wu underlying76 underlying96 aC (show prog.cellsOf 96=3 by kernel_rfl) underlying57 underlying57 underlying56 underlying123 aC rfl rfl aC aC underlying57 underlying57 h
theorem Zs{fuel:Nat}{v:Value}{x:DataW H×List MemPlace}(h:DataW.trod enc prog w 0 (fun _=>true) true fuel 23 [v]=some x):∃l,KnwAt w v l∧iH v∧l.length≤9223372036854775807:=by
 obtain⟨a,len,cap,rfl,m,j,u,y⟩:=Ib underlying23 underlying80 aC (k:=2) rfl (show prog.cellsOf 80=2 by kernel_rfl) aA h;have hv:∀i,i<len→∃f:FV,FragAt w f∧∃b off,a=some ⟨b,off,none⟩∧b<w.heap.size∧w.cell? ⟨b,off+i * 2,none⟩=some f.iv∧w.cell? ⟨b,off+i * 2+1,none⟩=some f.vv:=by
  intro i hi;obtain⟨b,off,A,L,part⟩:=y i hi;obtain⟨B,M,r,C⟩:=part 0 _ rfl;obtain⟨D,N,E,F⟩:=part 1 _ rfl;obtain⟨zs,G,_⟩:=Po C;obtain⟨es,I⟩:=Ok F;exact⟨⟨zs,B,es,D⟩,⟨G,I⟩,b,off,A,block_lt_of_cell r,r,E⟩
 obtain⟨l,J,s⟩:=oN FV.z hv;subst J;refine⟨l,⟨a,cap,rfl,⟨rfl,fun p K=>?_,fun i hi=>(s i hi).2⟩,m⟩,fun n c e=>(by cases e;exact u rfl),by unfold maxLen at j;omega⟩;obtain⟨i,hi,rfl⟩:=Gw FV.z K;exact(s i hi).1
theorem Qh{v:Value}{d:DataW H}{p:List MemPlace}(h:DataW.Trod enc prog w 0 (fun _=>true) true 23 v d p)(hs:∃a len cap,v=.slice a len cap):∃l,KnwAt w v l∧iH v∧l.length≤9223372036854775807:=by
 obtain⟨a,len,cap,rfl⟩:=hs;obtain⟨fuel,b⟩:=h;exact Zs (v:=.slice a len cap) (by simpa[Value.cells]using b)
end
end Go.Proofs.YtbkkolfpegplgaaGreatDoor
