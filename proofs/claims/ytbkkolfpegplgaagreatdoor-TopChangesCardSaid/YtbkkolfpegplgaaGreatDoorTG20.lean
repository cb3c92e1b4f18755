import Derived.Test.YtbkkolfpegplgaaGreatDoorTG5
import Derived.Test.YtbkkolfpegplgaaGreatDoorTG12
import Derived.Test.YtbkkolfpegplgaaGreatDoorTG19
import Derived.RangeFuncBound
import Derived.OwnWalkIn
import Derived.TacticsInMore
import Derived.LoopNIn
import Derived.Sort.CutIn
import Derived.Deep.CutRange
open And renaming intro→PC
open Exists renaming intro→PD
open Go.IntKind renaming wrap_u64→PE
open Go.World renaming cell?→PF
open List renaming getElem?_drop→PG,getD→PH,mem_of_mem_drop→PI,drop_drop→PJ
open Nat renaming zero_mul→PM,add_zero→PN,lt_of_lt_of_le→PO
open Go.Proofs.Tryz
set_option maxHeartbeats 8000000
set_option maxRecDepth 100000
set_option linter.unusedVariables false
set_option linter.unusedSimpArgs false
namespace Go.Proofs.YtbkkolfpegplgaaGreatDoor
open Go Go.RowKit
attribute [local go_sem] Oper.semAt_some
theorem Jv(a b:Option Addr)(len cap j l:Nat)(w:World) :
  Calls prog 193 #[.slice a len cap,.slice b j l] w fun e w'=>e=.returned (.func (.func 233) #[] #[.pointer (some ⟨w.heap.size,0,none⟩),.pointer (some ⟨w.heap.size+1,0,none⟩)]) ∧
   w'=(w.alloc (.cells #[.slice a len cap] 56)).alloc (.cells #[.slice b j l] 56):=by
 go_enter func193,ntmps193;go_wp2;go_ret;exact⟨rfl,rfl⟩
def yL (zs ys:List Iv) (N k:Nat):Array Value:=#[.agg #[.int .u64 (fr zs ys k),.int .u64 (uL zs ys N k)],.agg #[.bool (decide (aV zs (fr zs ys k))),.bool (decide (aV ys (fr zs ys k)))]]
def Lst (w:World) (B:Nat) (K:Nat→Prop) (zs:List Iv) (f:Int):Prop:=
 ∃(i:Nat) (a:Option Addr) (c:Nat),i≤zs.length∧w.heap[B]?=some (.cells #[.slice a (zs.length-i) c] 56 (0,0))∧Prs w a (zs.length-i) (zs.drop i)∧zs.length-i≤c∧(∀j,j<i→Hi zs j<f)∧(i<zs.length→∀ad,a=some ad→K ad.block)
theorem Lst.only{w w':World}{B:Nat}{K:Nat→Prop}{zs:List Iv}{f:Int}{may:Nat→Prop}(h:Lst w B K zs f)(ho:Only may w w')(u:¬may B)(y:∀k,K k→¬may k):Lst w' B K zs f:=by
 obtain⟨i,a,c,h1,h2,h3,h4,m,l⟩:=h;exact⟨i,a,c,h1,ho.obj u h2,⟨h3.length,h3.most,h3.words,fun j s=>by
  obtain⟨b,off,e,n,p,r⟩:=h3.cells j s;have:=y b (l aA _ e);exact⟨b,off,e,PO n ho.size,ho.cell this p,ho.cell this r⟩⟩,h4,m,l⟩
theorem Lst.rise{w:World}{B:Nat}{K:Nat→Prop}{zs:List Iv}{f f':Int}(h:Lst w B K zs f)(n:f≤f'):Lst w B K zs f':=by
 obtain⟨i,a,c,h1,h2,h3,h4,b,l⟩:=h;exact⟨i,a,c,h1,h2,h3,h4,fun j m=>by have:=b j m;omega,l⟩
def LstD (w:World) (B:Nat) (K:Nat→Prop) (zs:List Iv) (f:Int):Prop:=
 ∃(i:Nat) (a:Option Addr) (c:Nat),i≤zs.length∧w.heap[B]?=some (.cells #[.slice a (zs.length-i) c] 56 (0,0))∧Prs w a (zs.length-i) (zs.drop i)∧zs.length-i≤c∧(∀j,j<i→Hi zs j<f)∧(i<zs.length→∀ad,a=some ad→K ad.block)∧(i=zs.length∨f≤Hi zs i)
theorem LstD.lst{w:World}{B:Nat}{K:Nat→Prop}{zs:List Iv}{f:Int}(h:LstD w B K zs f):Lst w B K zs f:=by
 obtain⟨i,a,c,h1,h2,h3,h4,b,j,_⟩:=h;exact⟨i,a,c,h1,h2,h3,h4,b,j⟩
theorem LstD.only{w w':World}{B:Nat}{K:Nat→Prop}{zs:List Iv}{f:Int}{may:Nat→Prop}(h:LstD w B K zs f)(ho:Only may w w')(y:¬may B)(z:∀k,K k→¬may k):LstD w' B K zs f:=by
 obtain⟨i,a,c,h1,h2,h3,h4,m,l,n⟩:=h;exact⟨i,a,c,h1,ho.obj y h2,⟨h3.length,h3.most,h3.words,fun j u=>by
  obtain⟨b,off,e,p,r,s⟩:=h3.cells j u;have:=z b (l aA _ e);exact⟨b,off,e,PO p ho.size,ho.cell this r,ho.cell this s⟩⟩,h4,m,l,n⟩
theorem Ho{zs:List Iv}{f:Int}(h:∀j,j<zs.length→Hi zs j<f):¬aV zs f:=fun l=>by
 obtain⟨j,m,a,b⟩:=fU.1 l;have:=h j m;omega
theorem Av{zs:List Iv}{f:Int}{i:Nat}(n:cL zs)(hi:i<zs.length)(h:∀j,j<i→Hi zs j<f)(p:f≤Hi zs i):aV zs f↔Lo zs i≤f:=by
 constructor
 ·intro l;obtain⟨j,m,a,b⟩:=fU.1 l;rcases Nat.lt_trichotomy j i with g | g | g
  ·have:=h j g;omega
  ·subst g;exact a
  have:=cG n g m;omega
 intro g;exact fU.2 ⟨i,hi,g,p⟩
def IE (o:Option Value):Nat:=match o with | some (.slice _ n _)=>n | _=>0
theorem Fx{w:World}{a:Option Addr}{n cap:Nat}{zs:List Iv}(h:Prs w a n zs)(h0:0<n)(C:n≤cap) :
  ∃p,(∀W:World,(Instr.sliceAt 56 (.slice a n cap) (some (.int .i64 1)) none none).run prog W=.ok (.slice p (n-1) (cap-1)) W)∧Prs w p (n-1) (zs.drop 1)∧∀ad,p=some ad→∃j,a=some j∧ad.block=j.block:=by
 have r:=h.length;have hs:∀W:World,(sizeOf (prog.elem 56)).run prog W=.ok 2 W:=fun W=>aC;have s:prog.underlying 56=some (.slice (prog.elem 56)):=aC;have l:∀W:World,(Instr.sliceAt 56 (.slice a n cap) (some (.int .i64 1)) none none).run prog W=.ok (.slice (if cap=1 then a else a.map (·.add 2)) (n-1) (cap-1)) W:=fun W=>by
  rw[run_sliceAt_slice _ _ _ _ _ _ s,run_slice_l W _ a n cap s .i64 1 aA aA,hs];rfl
 refine⟨_,l,?_,?_⟩
 ·by_cases g:cap=1
  ·rw[if_pos g];have:n-1=0:=aA;exact⟨by simp[r],by have:=h.most;omega,fun z m=>h.words z (PI m),fun i hi=>absurd hi aA⟩
  rw[if_neg g];refine⟨by simp[r],by have:=h.most;omega,fun z m=>h.words z (PI m),fun i hi=>?_⟩;obtain⟨b,off,e,y,A,B⟩:=h.cells (1+i) aA;have u:(zs.drop 1).getD i (0,0)=zs.getD (1+i) (0,0):=by simp[PH,PG,Nat.add_comm]
  subst e;refine⟨b,off+2,rfl,y,?_,?_⟩
  ·unfold Lo;rw[u,show off+2+i * 2=off+(1+i) * 2 by omega];exact A
  unfold Hi;rw[u,show off+2+i * 2+1=off+(1+i) * 2+1 by omega];exact B
 intro ad e;by_cases g:cap=1
 ·rw[if_pos g]at e;exact⟨ad,e,rfl⟩
 rw[if_neg g]at e
 cases a with
 | none=>cases e
 | some j=>simp at e;subst e;exact⟨j,rfl,rfl⟩
theorem Ga(n:Nat)(hn:1≤n)(Q R:Nat)(a b:Option Addr)(cap D7:Nat)(zs ys:List Iv)(N:Nat)(w0:World)(M:Nat→Prop)
  (E3:w0.heap[Q]?=some (.cells #[.slice a zs.length cap] 56 (0,0))) (E4:w0.heap[R]?=some (.cells #[.slice b ys.length D7] 56 (0,0))) (H0:Q≠R) (E5:¬M Q) (E6:¬M R)
  (ha:Prs w0 a zs.length zs) (hb:Prs w0 b ys.length ys) (B:zs.length≤cap) (A:ys.length≤D7) (hA:0<zs.length→∀ad,a=some ad→ad.block<w0.heap.size∧¬M ad.block∧ad.block≠Q∧ad.block≠R) (hB:0<ys.length→∀ad,b=some ad→ad.block<w0.heap.size∧¬M ad.block∧ad.block≠Q∧ad.block≠R)
  (F5:cL zs) (F6:cL ys) (hN:rG zs ys N) :
  Xu Fence.wide n prog 233 #[.pointer (some ⟨Q,0,none⟩),.pointer (some ⟨R,0,none⟩)] (yL zs ys N) M (fun k=>k=Q∨k=R) N w0:=by
 intro l J Jx W hW I3 D6 hJ G9 hY h0;have D8:prog.follows .mixedOrders=true:=aC;have hz:=dV F5 (m:=Lo zs 0) (.inr (Int.le_refl _));have hy:=dV F6 (m:=Lo ys 0) (.inr (Int.le_refl _));obtain⟨K,eK⟩:=aH ((fun k=>¬M k∧k≠l∧k≠Q∧k≠R):Nat→Prop);have I:=aI (show Lst W Q K zs 0 from⟨0,a,cap,Nat.zero_le _,(hW.block _ (aO E3)).trans E3,ha.below hW,B,fun j hj=>absurd hj aA,fun q ad e=>by subst eK;obtain⟨h1,h2,h3,h4⟩:=hA q ad e;exact⟨h2,aA,h3,h4⟩⟩);have L:=aI (show Lst W R K ys 0 from⟨0,b,D7,Nat.zero_le _,(hW.block _ (aO E4)).trans E4,hb.below hW,A,fun j hj=>absurd hj aA,fun q ad e=>by subst eK;obtain⟨h1,h2,h3,h4⟩:=hB q ad e;exact⟨h2,aA,h3,h4⟩⟩);have HJ:=aI hJ;have H7:=aI G9;have HY:=aI hY;have WZ:=aI ha.words;have WY:=aI hb.words;have HZ:=aI hz;have C1:=aI hy;have HN:=aI hN;have F7:=aI F5;have F8:=aI F6;have H8:Q<w0.heap.size:=aO E3;have H9:R<w0.heap.size:=aO E4;have D9:Q≠l:=aA;have E0:R≠l:=aA;have KA:=aI (show ∀k,K k→k≠Q from fun k h=>by subst eK;exact h.2.2.1);have KB:=aI (show ∀k,K k→k≠R from fun k h=>by subst eK;exact h.2.2.2);have KM:=aI (show ∀k,K k→¬(M k∨k=l)from fun k h=>by subst eK;exact fun q=>q.elim h.1 h.2.1);clear hJ G9 hY E3 E4 ha hb B A hA hB hz hy F5 F6 hN eK;refine callsIn_of_wp func233 rfl trivial ?_ rfl;simp only[ntmps233,List.size_toArray,List.length_cons,List.length_nil,Nat.reduceAdd,Nat.reduceSub,Array.replicate_succ,Array.replicate_zero,List.push_toArray,List.append_toArray,List.nil_append,List.cons_append];gi_wp2;gi_loopw [4] (fun c wr=>∃k:Nat,k<N∧c=.int .u64 (fr zs ys k)∧J k wr∧Lst wr Q K zs (fr zs ys k)∧Lst wr R K ys (fr zs ys k)∧W.heap.size≤wr.heap.size)
  (fun c _=>nP (nO zs ++ nO ys) (intOf c))
 case atStart=>exact⟨0,HN.pos,rfl,h0,I,L,Nat.le_refl _⟩
 clear h0 I L;obtain⟨k,hk,rfl,G0,G1,G2,I1⟩:=hrel;have JK:=aI G0;have I:=aI G1;have L:=aI G2;clear G0 G1 G2;obtain⟨f,ef⟩:=aH (fr zs ys k);have EF:=aI ef;rw[← ef]at I L ⊢;clear ef;gi_wp2;gi_loopw [23] (fun _ wq=>J k wq∧Lst wq Q K zs f∧Lst wq R K ys f∧W.heap.size≤wq.heap.size) (fun _ wq=>IE (wq.cell? ⟨Q,0,none⟩))
 case atStart=>exact⟨JK,I,L,aA⟩
 clear JK I L;obtain⟨D1,⟨i,a1,Z,hi,T,hP,A9,B3,D2⟩,A6,H1⟩:=hrel;have JQ:=aI D1;have LO:=aI A6;have HP:=aI hP;have A0:=aI T;have A4:=aI D2;have A1:=aI B3;have B9:wr.cell? ⟨Q,0,none⟩=some (.slice a1 (zs.length-i) Z):=by simp[PF,T]
 have E7:wr.frozen? ⟨Q,0,none⟩=false:=frozen_of_row _ _ 0 _ _ T;clear D1 A6 hP T D2 B3;obtain⟨m,em⟩:=aG (zs.length-i);rw[em]at A9 B9 HP A0;have EM:=aI em;obtain⟨hv,D3⟩:=aG (Hi zs i);have A5:=aI D3;clear em D3;gi_upto_region 1 with fail;refine wpIn_wide.2 ?_;go_cut [21] from 11 to 23 (fun s wx=>s=.bool (decide (0<m∧hv<f))∧wx=wr)
 case first=>
  by_cases g0:m=0
  ·have q0:¬(0:Int)<(m:Int):=aA;subst g0;go_wp2;go_meet;exact⟨aD,rfl⟩
  obtain⟨b',off,rfl,H2,D4,D5⟩:=HP.cells 0 aA;have e1:Hi (zs.drop i) 0=hv:=by rw[← A5.out];unfold Hi;simp[PH,PG]
  rw[e1]at D5;clear e1 D4;have q0:(0:Int)<(m:Int):=aA;have q1:0<m:=aA;go_wp2;go_meet;exact⟨by simp[q1],rfl⟩
 obtain⟨rfl,rfl⟩:=hcut;by_cases g:0<m∧hv<f
 ·rw[decide_eq_true g];obtain⟨a2,H3,B4,B5⟩:=Fx HP g.1 A9;have Y:=aI B4;have C2:=aI B5;clear B4 B5;gi_wp2;go_roundw
  case rel=>
   have hO:Only (fun k=>k=Q) wc (wc.setCell ⟨Q,0,none⟩ (.slice a2 (m-1) (Z-1))):=(Only.refl (fun k=>k=Q) wc).setCell (p:=⟨Q,0,none⟩) (.inl rfl) _;have A6:=LO.only hO (fun e=>H0 e.symm) (fun k hk e=>KA k hk e);have hL:Lst (wc.setCell ⟨Q,0,none⟩ (.slice a2 (m-1) (Z-1))) Q K zs f:=by
    have C3:zs.length-(i+1)=m-1:=by have:=EM.out;omega
    refine⟨i+1,a2,Z-1,by have:=EM.out;omega,by rw[C3];exact heap_setCell_same _ _ 0 _ _ _ A0,?_,aA,fun j hj=>?_,fun _ ad e=>?_⟩
    ·rw[C3,← PJ];refine mJ Y hO fun ad e=>?_;obtain⟨C0,e0,eb⟩:=C2.out ad e;rw[eb];exact KA _ (A4 (by have:=EM.out;omega) C0 e0)
    ·by_cases q:j=i
     ·subst q;rw[A5.out];exact g.2
     exact A1 j aA
    obtain⟨C0,e0,eb⟩:=C2.out ad e;rw[eb];exact A4 (by have:=EM.out;omega) C0 e0
   (repeat apply PD)
   exact⟨HJ _ _ _ JQ (hO.wide fun k hk=>.inl hk),hL,A6,by have:=hO.size;omega⟩
  have E8:(wc.setCell ⟨Q,0,none⟩ (.slice a2 (m-1) (Z-1))).cell? ⟨Q,0,none⟩=some (.slice a2 (m-1) (Z-1)):=by
   have:=heap_setCell_same _ _ 0 _ _ (.slice a2 (m-1) (Z-1)) A0;simp[PF,this]
  rw[E8,B9];show m-1<m;omega
 rw[decide_eq_false g];have LX:=aI (show LstD wc Q K zs f from by
  refine⟨i,a1,Z,hi,by rw[EM.out];exact A0,by rw[EM.out];exact HP,by rw[EM.out];exact A9,A1,A4,?_⟩;have:=EM.out;by_cases q:i=zs.length
  ·exact .inl q
  refine .inr ?_;rw[A5.out];by_cases q2:hv<f
  ·exact absurd ⟨aA,q2⟩ g
  omega)
 clear HP A0 A4 A1 B9 E7 EM A5 g A9 hi;have JK:=aI JQ;have QX:=aI LX;have QO:=aI LO;clear LX LO JQ;have I:=aI QX;have L:=aI QO;clear QX QO;gi_wp2;gi_loopw [36] (fun _ wq=>J k wq∧LstD wq Q K zs f∧Lst wq R K ys f∧W.heap.size≤wq.heap.size) (fun _ wq=>IE (wq.cell? ⟨R,0,none⟩))
 case atStart=>exact⟨JK,I,L,aA⟩
 clear JK I L;obtain⟨D1,A6,⟨i,a1,Z,hi,T,hP,A9,B3,D2⟩,H1⟩:=hrel;have JQ:=aI D1;have LO:=aI A6;have HP:=aI hP;have A0:=aI T;have A4:=aI D2;have A1:=aI B3;have B9:wr.cell? ⟨R,0,none⟩=some (.slice a1 (ys.length-i) Z):=by simp[PF,T]
 have E7:wr.frozen? ⟨R,0,none⟩=false:=frozen_of_row _ _ 0 _ _ T;clear D1 A6 hP T D2 B3;obtain⟨m,em⟩:=aG (ys.length-i);rw[em]at A9 B9 HP A0;have EM:=aI em;obtain⟨hv,D3⟩:=aG (Hi ys i);have A5:=aI D3;clear em D3;gi_upto_region 3 with fail;refine wpIn_wide.2 ?_;go_cut [34] from 24 to 36 (fun s wx=>s=.bool (decide (0<m∧hv<f))∧wx=wr)
 case first=>
  by_cases g0:m=0
  ·have q0:¬(0:Int)<(m:Int):=aA;subst g0;go_wp2;go_meet;exact⟨aD,rfl⟩
  obtain⟨b',off,rfl,H2,D4,D5⟩:=HP.cells 0 aA;have e1:Hi (ys.drop i) 0=hv:=by rw[← A5.out];unfold Hi;simp[PH,PG]
  rw[e1]at D5;clear e1 D4;have q0:(0:Int)<(m:Int):=aA;have q1:0<m:=aA;go_wp2;go_meet;exact⟨by simp[q1],rfl⟩
 obtain⟨rfl,rfl⟩:=hcut;by_cases g:0<m∧hv<f
 ·rw[decide_eq_true g];obtain⟨a2,H3,B4,B5⟩:=Fx HP g.1 A9;have Y:=aI B4;have C2:=aI B5;clear B4 B5;gi_wp2;go_roundw
  case rel=>
   have hO:Only (fun k=>k=R) wc (wc.setCell ⟨R,0,none⟩ (.slice a2 (m-1) (Z-1))):=(Only.refl (fun k=>k=R) wc).setCell (p:=⟨R,0,none⟩) (.inl rfl) _;have A6:=LO.only hO (fun e=>H0 e) (fun k hk e=>KB k hk e);have hL:Lst (wc.setCell ⟨R,0,none⟩ (.slice a2 (m-1) (Z-1))) R K ys f:=by
    have C3:ys.length-(i+1)=m-1:=by have:=EM.out;omega
    refine⟨i+1,a2,Z-1,by have:=EM.out;omega,by rw[C3];exact heap_setCell_same _ _ 0 _ _ _ A0,?_,aA,fun j hj=>?_,fun _ ad e=>?_⟩
    ·rw[C3,← PJ];refine mJ Y hO fun ad e=>?_;obtain⟨C0,e0,eb⟩:=C2.out ad e;rw[eb];exact KB _ (A4 (by have:=EM.out;omega) C0 e0)
    ·by_cases q:j=i
     ·subst q;rw[A5.out];exact g.2
     exact A1 j aA
    obtain⟨C0,e0,eb⟩:=C2.out ad e;rw[eb];exact A4 (by have:=EM.out;omega) C0 e0
   (repeat apply PD)
   exact⟨HJ _ _ _ JQ (hO.wide fun k hk=>.inr hk),A6,hL,by have:=hO.size;omega⟩
  have E8:(wc.setCell ⟨R,0,none⟩ (.slice a2 (m-1) (Z-1))).cell? ⟨R,0,none⟩=some (.slice a2 (m-1) (Z-1)):=by
   have:=heap_setCell_same _ _ 0 _ _ (.slice a2 (m-1) (Z-1)) A0;simp[PF,this]
  rw[E8,B9];show m-1<m;omega
 rw[decide_eq_false g];have LX:=aI (show LstD wc R K ys f from by
  refine⟨i,a1,Z,hi,by rw[EM.out];exact A0,by rw[EM.out];exact HP,by rw[EM.out];exact A9,A1,A4,?_⟩;have:=EM.out;by_cases q:i=ys.length
  ·exact .inl q
  refine .inr ?_;rw[A5.out];by_cases q2:hv<f
  ·exact absurd ⟨aA,q2⟩ g
  omega)
 clear HP A0 A4 A1 B9 E7 EM A5 g A9 hi;have JK:=aI JQ;have QX:=aI LX;have QO:=aI LO;clear LX LO JQ;have L:=aI QX;have I:=aI QO;clear QX QO;obtain⟨i,a1,Z,G3,u,G4,D4,D6,G5,G6⟩:=I.out;obtain⟨j,a2,c2,G7,H,B4,D5,E1,B5,G8⟩:=L.out;have C:wc.cell? ⟨Q,0,none⟩=some (.slice a1 (zs.length-i) Z):=by simp[PF,u]
 have D:wc.cell? ⟨R,0,none⟩=some (.slice a2 (ys.length-j) c2):=by simp[PF,H]
 have NA:=aI (show i=zs.length→¬aV zs f from fun e=>Ho (by rw[← e];exact D6));have NB:=aI (show j=ys.length→¬aV ys f from fun e=>Ho (by rw[← e];exact E1));have FA:=aI (show i<zs.length→(aV zs f↔Lo zs i≤f)from fun e=>Av F7 e D6 (G6.resolve_left aA));have FB:=aI (show j<ys.length→(aV ys f↔Lo ys j≤f)from fun e=>Av F8 e E1 (G8.resolve_left aA));have SA:=aI (show dC (zs.drop i) f=dC zs f from qT zs i f fun q hq=>⟨(F7 q aA).1,D6 q hq⟩);have SB:=aI (show dC (ys.drop j) f=dC ys f from qT ys j f fun q hq=>⟨(F8 q aA).1,E1 q hq⟩);have A7:=aI G4;have Y:=aI B4;obtain⟨m1,E9⟩:=aG (zs.length-i);obtain⟨m2,F0⟩:=aG (ys.length-j);rw[E9]at C A7;rw[F0]at D Y;have C4:=aI G5;have C5:=aI B5;have MM:=aI (PC E9 F0);have II:=aI (PC G3 G7);clear u G4 D4 D6 G5 G6 H B4 D5 E1 B5 G8 E9 F0 G3 G7;gi_upto_region 5 with fail;rename World=>wb
 refine wpIn_wide.2 ?_;go_cut [5] from 37 to 59 (fun s wx=>∃Bs,s=.pointer (some ⟨Bs,0,none⟩)∧wb.heap.size≤Bs∧wx.heap[Bs]?=some (.cells #[.bool (decide (aV zs f)),.bool (decide (aV ys f))] 215 (0,0))∧Only (fun _=>False) wb wx)
 case first=>
  by_cases ga:m1=0
  ·by_cases gb:m2=0
   ·have ea:decide (aV zs f)=false:=decide_eq_false (NA (by have:=MM.1;have:=II.1;omega));have qa:¬(0:Int)<(m1:Int):=aA;subst ga;have eb:decide (aV ys f)=false:=decide_eq_false (NB (by have:=MM.2;have:=II.2;omega));have qb:¬(0:Int)<(m2:Int):=aA;subst gb;have EA:=aI ea;have EB:=aI eb;clear ea eb NA NB FA FB SA SB MM II A7 Y C4 C5;refine wp_region_held_drew (S:=Only (fun _=>False) wb) D8 (Only.refl _ _).drew (fun hS=>?_);generalize wb.drew=wq at hS ⊢;refine dL 0 37 (.slice a1 0 Z) ?_ ?_
    ·intro X r;have x1:=r.cell (fun e=>e) C;have x2:=r.cell (fun e=>e) D;go_simp
    refine aP 1 38 (.int .i64 0) ?_;refine aP 2 39 (.bool false) ?_;refine aP 3 40 (.bool false) ?_;refine jB 4 41 ?_;refine jB 5 42 ?_;refine jB 6 43 ?_;refine jB 7 44 ?_;refine jB 8 45 ?_;refine jB 9 46 ?_;refine aP 10 47 (.bool false) ?_;refine dL 11 48 (.slice a2 0 c2) ?_ ?_
    ·intro X r;have x1:=r.cell (fun e=>e) C;have x2:=r.cell (fun e=>e) D;go_simp
    refine aP 12 49 (.int .i64 0) ?_;refine aP 13 50 (.bool false) ?_;refine aP 14 51 (.bool false) ?_;refine jB 15 52 ?_;refine jB 16 53 ?_;refine jB 17 54 ?_;refine jB 18 55 ?_;refine jB 19 56 ?_;refine jB 20 57 ?_;refine aP 21 58 (.bool false) ?_;refine aP 22 59 (.agg #[.bool false,.bool false]) ?_;refine cW 23 fun K hK=>?_;go_simp;refine hK _ _ (hS.alloc _) (fun F3=>?_);clear hK K;refine cW 24 fun K hK=>?_;go_simp;refine hK _ _ (hS.alloc _) (fun F4=>?_);clear hK K;refine iM ?_;go_wp2;go_meet;exact⟨wq.heap.size,rfl,hS.size,by rw[EA.out,EB.out];exact aK _ _ rfl,hS.alloc _⟩
   have ea:decide (aV zs f)=false:=decide_eq_false (NA (by have:=MM.1;have:=II.1;omega));have qa:¬(0:Int)<(m1:Int):=aA;subst ga;obtain⟨bb,ob,F1,H4,A,_⟩:=Y.cells 0 aA;subst F1;have C6:Lo (ys.drop j) 0=Lo ys j:=by unfold Lo;simp[PH,PG]
   simp only[PM,PN]at A;rw[C6]at A;have eb:decide (aV ys f)=decide (Lo ys j≤f):=decide_eq_decide.2 (FB (by have:=MM.2;have:=II.2;omega));have qb:(0:Int)<(m2:Int):=aA;have rb:0<m2:=aA;obtain⟨B0,B6⟩:=aG (Lo ys j);rw[B6]at A eb;clear C6 B6;have EA:=aI ea;have EB:=aI eb;clear ea eb NA NB FA FB SA SB MM II A7 Y C4 C5;refine wp_region_held_drew (S:=Only (fun _=>False) wb) D8 (Only.refl _ _).drew (fun hS=>?_);generalize wb.drew=wq at hS ⊢;refine dL 0 37 (.slice a1 0 Z) ?_ ?_
   ·intro X r;have x1:=r.cell (fun e=>e) C;have x2:=r.cell (fun e=>e) D;have x4:=r.cell (fun e=>e) A;go_simp
   refine aP 1 38 (.int .i64 0) ?_;refine aP 2 39 (.bool false) ?_;refine aP 3 40 (.bool false) ?_;refine jB 4 41 ?_;refine jB 5 42 ?_;refine jB 6 43 ?_;refine jB 7 44 ?_;refine jB 8 45 ?_;refine jB 9 46 ?_;refine aP 10 47 (.bool false) ?_;refine dL 11 48 (.slice (some ⟨bb,ob,none⟩) m2 c2) ?_ ?_
   ·intro X r;have x1:=r.cell (fun e=>e) C;have x2:=r.cell (fun e=>e) D;have x4:=r.cell (fun e=>e) A;go_simp
   refine aP 12 49 (.int .i64 (m2:Int)) ?_;refine aP 13 50 (.bool true) ?_;refine aP 14 51 (.bool true) ?_;refine dL 15 52 (.slice (some ⟨bb,ob,none⟩) m2 c2) ?_ ?_
   ·intro X r;have x1:=r.cell (fun e=>e) C;have x2:=r.cell (fun e=>e) D;have x4:=r.cell (fun e=>e) A;go_simp
   refine aP 16 53 (.pointer (some ⟨bb,ob,none⟩)) ?_;refine aP 17 54 (.pointer (some ⟨bb,ob,none⟩)) ?_;refine dL 18 55 (.int .u64 B0) ?_ ?_
   ·intro X r;have x1:=r.cell (fun e=>e) C;have x2:=r.cell (fun e=>e) D;have x4:=r.cell (fun e=>e) A;go_simp
   refine aP 19 56 (.int .u64 f) ?_;refine aP 20 57 (.bool (decide (B0≤f))) ?_;refine aP 21 58 (.bool (decide (B0≤f))) ?_;refine aP 22 59 (.agg #[.bool false,.bool (decide (B0≤f))]) ?_;refine cW 23 fun K hK=>?_;go_simp;refine hK _ _ (hS.alloc _) (fun F3=>?_);clear hK K;refine cW 24 fun K hK=>?_;go_simp;refine hK _ _ (hS.alloc _) (fun F4=>?_);clear hK K;refine iM ?_;go_wp2;go_meet;exact⟨wq.heap.size,rfl,hS.size,by rw[EA.out,EB.out];exact aK _ _ rfl,hS.alloc _⟩
  by_cases gb:m2=0
  ·obtain⟨ba,oa,F2,H5,B,_⟩:=A7.cells 0 aA;subst F2;have C7:Lo (zs.drop i) 0=Lo zs i:=by unfold Lo;simp[PH,PG]
   simp only[PM,PN]at B;rw[C7]at B;have ea:decide (aV zs f)=decide (Lo zs i≤f):=decide_eq_decide.2 (FA (by have:=MM.1;have:=II.1;omega));have qa:(0:Int)<(m1:Int):=aA;have ra:0<m1:=aA;obtain⟨B1,B7⟩:=aG (Lo zs i);rw[B7]at B ea;clear C7 B7;have eb:decide (aV ys f)=false:=decide_eq_false (NB (by have:=MM.2;have:=II.2;omega));have qb:¬(0:Int)<(m2:Int):=aA;subst gb;have EA:=aI ea;have EB:=aI eb;clear ea eb NA NB FA FB SA SB MM II A7 Y C4 C5;refine wp_region_held_drew (S:=Only (fun _=>False) wb) D8 (Only.refl _ _).drew (fun hS=>?_);generalize wb.drew=wq at hS ⊢;refine dL 0 37 (.slice (some ⟨ba,oa,none⟩) m1 Z) ?_ ?_
   ·intro X r;have x1:=r.cell (fun e=>e) C;have x2:=r.cell (fun e=>e) D;have x3:=r.cell (fun e=>e) B;go_simp
   refine aP 1 38 (.int .i64 (m1:Int)) ?_;refine aP 2 39 (.bool true) ?_;refine aP 3 40 (.bool true) ?_;refine dL 4 41 (.slice (some ⟨ba,oa,none⟩) m1 Z) ?_ ?_
   ·intro X r;have x1:=r.cell (fun e=>e) C;have x2:=r.cell (fun e=>e) D;have x3:=r.cell (fun e=>e) B;go_simp
   refine aP 5 42 (.pointer (some ⟨ba,oa,none⟩)) ?_;refine aP 6 43 (.pointer (some ⟨ba,oa,none⟩)) ?_;refine dL 7 44 (.int .u64 B1) ?_ ?_
   ·intro X r;have x1:=r.cell (fun e=>e) C;have x2:=r.cell (fun e=>e) D;have x3:=r.cell (fun e=>e) B;go_simp
   refine aP 8 45 (.int .u64 f) ?_;refine aP 9 46 (.bool (decide (B1≤f))) ?_;refine aP 10 47 (.bool (decide (B1≤f))) ?_;refine dL 11 48 (.slice a2 0 c2) ?_ ?_
   ·intro X r;have x1:=r.cell (fun e=>e) C;have x2:=r.cell (fun e=>e) D;have x3:=r.cell (fun e=>e) B;go_simp
   refine aP 12 49 (.int .i64 0) ?_;refine aP 13 50 (.bool false) ?_;refine aP 14 51 (.bool false) ?_;refine jB 15 52 ?_;refine jB 16 53 ?_;refine jB 17 54 ?_;refine jB 18 55 ?_;refine jB 19 56 ?_;refine jB 20 57 ?_;refine aP 21 58 (.bool false) ?_;refine aP 22 59 (.agg #[.bool (decide (B1≤f)),.bool false]) ?_;refine cW 23 fun K hK=>?_;go_simp;refine hK _ _ (hS.alloc _) (fun F3=>?_);clear hK K;refine cW 24 fun K hK=>?_;go_simp;refine hK _ _ (hS.alloc _) (fun F4=>?_);clear hK K;refine iM ?_;go_wp2;go_meet;exact⟨wq.heap.size,rfl,hS.size,by rw[EA.out,EB.out];exact aK _ _ rfl,hS.alloc _⟩
  obtain⟨ba,oa,F2,H5,B,_⟩:=A7.cells 0 aA;subst F2;have C7:Lo (zs.drop i) 0=Lo zs i:=by unfold Lo;simp[PH,PG]
  simp only[PM,PN]at B;rw[C7]at B;have ea:decide (aV zs f)=decide (Lo zs i≤f):=decide_eq_decide.2 (FA (by have:=MM.1;have:=II.1;omega));have qa:(0:Int)<(m1:Int):=aA;have ra:0<m1:=aA;obtain⟨B1,B7⟩:=aG (Lo zs i);rw[B7]at B ea;clear C7 B7;obtain⟨bb,ob,F1,H4,A,_⟩:=Y.cells 0 aA;subst F1;have C6:Lo (ys.drop j) 0=Lo ys j:=by unfold Lo;simp[PH,PG]
  simp only[PM,PN]at A;rw[C6]at A;have eb:decide (aV ys f)=decide (Lo ys j≤f):=decide_eq_decide.2 (FB (by have:=MM.2;have:=II.2;omega));have qb:(0:Int)<(m2:Int):=aA;have rb:0<m2:=aA;obtain⟨B0,B6⟩:=aG (Lo ys j);rw[B6]at A eb;clear C6 B6;have EA:=aI ea;have EB:=aI eb;clear ea eb NA NB FA FB SA SB MM II A7 Y C4 C5;refine wp_region_held_drew (S:=Only (fun _=>False) wb) D8 (Only.refl _ _).drew (fun hS=>?_);generalize wb.drew=wq at hS ⊢;refine dL 0 37 (.slice (some ⟨ba,oa,none⟩) m1 Z) ?_ ?_
  ·intro X r;have x1:=r.cell (fun e=>e) C;have x2:=r.cell (fun e=>e) D;have x3:=r.cell (fun e=>e) B;have x4:=r.cell (fun e=>e) A;go_simp
  refine aP 1 38 (.int .i64 (m1:Int)) ?_;refine aP 2 39 (.bool true) ?_;refine aP 3 40 (.bool true) ?_;refine dL 4 41 (.slice (some ⟨ba,oa,none⟩) m1 Z) ?_ ?_
  ·intro X r;have x1:=r.cell (fun e=>e) C;have x2:=r.cell (fun e=>e) D;have x3:=r.cell (fun e=>e) B;have x4:=r.cell (fun e=>e) A;go_simp
  refine aP 5 42 (.pointer (some ⟨ba,oa,none⟩)) ?_;refine aP 6 43 (.pointer (some ⟨ba,oa,none⟩)) ?_;refine dL 7 44 (.int .u64 B1) ?_ ?_
  ·intro X r;have x1:=r.cell (fun e=>e) C;have x2:=r.cell (fun e=>e) D;have x3:=r.cell (fun e=>e) B;have x4:=r.cell (fun e=>e) A;go_simp
  refine aP 8 45 (.int .u64 f) ?_;refine aP 9 46 (.bool (decide (B1≤f))) ?_;refine aP 10 47 (.bool (decide (B1≤f))) ?_;refine dL 11 48 (.slice (some ⟨bb,ob,none⟩) m2 c2) ?_ ?_
  ·intro X r;have x1:=r.cell (fun e=>e) C;have x2:=r.cell (fun e=>e) D;have x3:=r.cell (fun e=>e) B;have x4:=r.cell (fun e=>e) A;go_simp
  refine aP 12 49 (.int .i64 (m2:Int)) ?_;refine aP 13 50 (.bool true) ?_;refine aP 14 51 (.bool true) ?_;refine dL 15 52 (.slice (some ⟨bb,ob,none⟩) m2 c2) ?_ ?_
  ·intro X r;have x1:=r.cell (fun e=>e) C;have x2:=r.cell (fun e=>e) D;have x3:=r.cell (fun e=>e) B;have x4:=r.cell (fun e=>e) A;go_simp
  refine aP 16 53 (.pointer (some ⟨bb,ob,none⟩)) ?_;refine aP 17 54 (.pointer (some ⟨bb,ob,none⟩)) ?_;refine dL 18 55 (.int .u64 B0) ?_ ?_
  ·intro X r;have x1:=r.cell (fun e=>e) C;have x2:=r.cell (fun e=>e) D;have x3:=r.cell (fun e=>e) B;have x4:=r.cell (fun e=>e) A;go_simp
  refine aP 19 56 (.int .u64 f) ?_;refine aP 20 57 (.bool (decide (B0≤f))) ?_;refine aP 21 58 (.bool (decide (B0≤f))) ?_;refine aP 22 59 (.agg #[.bool (decide (B1≤f)),.bool (decide (B0≤f))]) ?_;refine cW 23 fun K hK=>?_;go_simp;refine hK _ _ (hS.alloc _) (fun F3=>?_);clear hK K;refine cW 24 fun K hK=>?_;go_simp;refine hK _ _ (hS.alloc _) (fun F4=>?_);clear hK K;refine iM ?_;go_wp2;go_meet;exact⟨wq.heap.size,rfl,hS.size,by rw[EA.out,EB.out];exact aK _ _ rfl,hS.alloc _⟩
 obtain⟨Bs,rfl,I2,E2,B8⟩:=hcut;have s0:wc.cell? ⟨Bs,0,none⟩=some (.bool (decide (aV zs f))):=by simp[PF,E2]
 have s1:wc.cell? ⟨Bs,1,none⟩=some (.bool (decide (aV ys f))):=by simp[PF,E2]
 have JC:=aI (HJ _ _ _ JK (B8.wide fun _ h=>h.elim));have I:=aI (I.only B8 (fun h=>h) (fun _ _ h=>h));have L:=aI (L.only B8 (fun h=>h) (fun _ _ h=>h));have y1:wc.cell? ⟨Q,0,none⟩=some (.slice a1 m1 Z):=B8.cell (fun h=>h) C;have y2:wc.cell? ⟨R,0,none⟩=some (.slice a2 m2 c2):=B8.cell (fun h=>h) D;have O:=aI (fun W (hW:Only (fun _=>False) wb W)=>xQ a1 m1 Z (zs.drop i) f W (mJ A7 hW (fun _ _ h=>h)));have P:=aI (fun W (hW:Only (fun _=>False) wb W)=>xQ a2 m2 c2 (ys.drop j) f W (mJ Y hW (fun _ _ h=>h)));rw[SA.out]at O;rw[SB.out]at P;have OX:=aI B8;have sB:Bs<wc.heap.size:=aO E2;have I0:Q<wc.heap.size:=block_lt_of_cell y1;have C8:R<wc.heap.size:=block_lt_of_cell y2;have H6:W.heap.size≤wc.heap.size:=by have:=B8.size;omega
 have F9:∀o,nx zs ys f=o→(∀x,o=some x→k+1<N∧fr zs ys (k+1)=x∧uL zs ys N k=x-1∧f<x∧x<18446744073709551616∧nP (nO zs ++ nO ys) x<nP (nO zs ++ nO ys) f)∧(o=none→k+1=N∧uL zs ys N k=18446744073709551615):=by
  intro o ho;constructor
  ·rintro x rfl;have C9:k+1<N:=by
    by_cases q:k+1<N
    ·exact q
    have e:N-1=k:=aA;have:=HN.last;rw[e,← EF.out,ho]at this
    cases this
   have e2:=HN.next k C9;rw[← EF.out,ho]at e2;have e3:=Option.some.inj e2;obtain⟨p1,p2,p3,_⟩:=pG HZ C1 WZ WY ho;exact⟨C9,e3.symm,by unfold uL;rw[if_pos C9,← e3],p1,p2,yU p1 p3⟩
  intro q;have C9:¬k+1<N:=fun q2=>by
   have e2:=HN.next k q2;rw[← EF.out,ho,q]at e2
   cases e2
  exact⟨aA,by unfold uL;rw[if_neg C9]⟩
 have A3:=aI F9;clear F9 JK E2 B8 C D A7 Y SA SB NA NB FA FB MM II C4 C5
 cases ha:dC zs f with
 | none=>
   cases hb:dC ys f with
   | none=>
     have HX:=aI (show nx zs ys f=none from by unfold nx;rw[ha,hb]);rw[ha,show lG none=.tuple #[.int .u64 0,.bool false] from rfl]at O;rw[hb,show lG none=.tuple #[.int .u64 0,.bool false] from rfl]at P;clear ha hb;obtain⟨g1,g3⟩:=(A3 _ HX).2 rfl;clear HX A3;gi_wp2_with fail;refine⟨trivial,?_⟩;refine(callsIn_wide.2 (O _ OX)).mono ?_;rintro e w1 ⟨rfl,u⟩;have z2:=aM u C8 y2;have A8:=aI (OX.call u);have E:=aI u;clear O u;gi_wp2_with fail;refine⟨trivial,?_⟩;refine(callsIn_wide.2 (P _ A8)).mono ?_;rintro e w2 ⟨rfl,H⟩;have F:=aI (E.trans (H.mono E.size));clear P H z2 E;have t0:=aM F sB s0;have t1:=aM F sB s1;have J2:=HJ.out _ _ _ JC (Only.of_below F);obtain⟨fn,tmps,assign,body,hy,hR⟩:=HY.out k w2 J2 hk (by have:=F.size;omega);have HR:=aI hR;clear hR J2 s0 s1;dsimp only [yL]at hy
     rw[g3,← EF.out]at hy;clear g3;have G:=aI g1;clear g1;gi_wp2;refine HR.mono ?_;rintro e W3 (⟨rfl,U,z⟩ | ⟨rfl,V⟩)
     ·have J3:=aI U;clear U z hy;gi_wp2;refine bodyPost_ret (results_none rfl _ _ _) rfl ?_;exact⟨⟨_,rfl⟩,.inl (by rw[← G.out];exact J3)⟩
     gi_wp2;refine bodyPost_ret (results_none rfl _ _ _) rfl ?_;exact⟨⟨_,rfl⟩,.inr ⟨k,hk,V⟩⟩
   | some y=>
     have HX:=aI (show nx zs ys f=some y from by unfold nx;rw[ha,hb]);rw[ha,show lG none=.tuple #[.int .u64 0,.bool false] from rfl]at O;rw[hb,show lG (some y)=.tuple #[.int .u64 y,.bool true] from rfl]at P;clear ha hb;obtain⟨g1,g2,g3,g4,g5,g6⟩:=(A3 _ HX).1 _ rfl;have G:=aI (PC g1 (PC g2 (PC g4 g6)));have qw:IntKind.u64.wrap (y-1)=y-1:=by rw[PE];have:=(lK HZ C1 WZ WY HN k hk).1;rw[← EF.out]at this;omega
     clear g1 g2 g4 g5 g6 HX A3;gi_wp2_with fail;refine⟨trivial,?_⟩;refine(callsIn_wide.2 (O _ OX)).mono ?_;rintro e w1 ⟨rfl,u⟩;have z2:=aM u C8 y2;have A8:=aI (OX.call u);have E:=aI u;clear O u;gi_wp2_with fail;refine⟨trivial,?_⟩;refine(callsIn_wide.2 (P _ A8)).mono ?_;rintro e w2 ⟨rfl,H⟩;have F:=aI (E.trans (H.mono E.size));clear P H z2 E;have t0:=aM F sB s0;have t1:=aM F sB s1;have J2:=HJ.out _ _ _ JC (Only.of_below F);obtain⟨fn,tmps,assign,body,hy,hR⟩:=HY.out k w2 J2 hk (by have:=F.size;omega);have HR:=aI hR;clear hR J2 s0 s1;dsimp only [yL]at hy
     rw[g3,← EF.out]at hy;clear g3;have I:=aI ((I.only (may:=fun _=>False) (Only.of_below F) (fun h=>h) (fun _ _ h=>h)));have L:=aI ((L.only (may:=fun _=>False) (Only.of_below F) (fun h=>h) (fun _ _ h=>h)));have D0:W.heap.size≤w2.heap.size:=by have:=F.size;omega
     gi_wp2;refine HR.mono ?_;rintro e W3 (⟨rfl,U,z⟩ | ⟨rfl,V⟩)
     ·have I:=aI ((I.only z (fun h=>h.elim E5 D9) (fun q hq=>KM q hq)).lst.rise (show f≤fr zs ys (k+1)from by rw[G.2.1];have:=G.2.2.1;omega));have L:=aI ((L.only z (fun h=>h.elim E6 E0) (fun q hq=>KM q hq)).lst.rise (show f≤fr zs ys (k+1)from by rw[G.2.1];have:=G.2.2.1;omega));have J3:=aI U;have A2:W.heap.size≤W3.heap.size:=by have:=z.size;omega
      clear U z hy;gi_wp2;go_roundw
      case rel=>
       (repeat apply PD)
       exact⟨G.1,by rw[G.2.1],J3,I,L,A2⟩
      exact G.2.2.2
     gi_wp2;refine bodyPost_ret (results_none rfl _ _ _) rfl ?_;exact⟨⟨_,rfl⟩,.inr ⟨k,hk,V⟩⟩
 | some x=>
   cases hb:dC ys f with
   | none=>
     have HX:=aI (show nx zs ys f=some x from by unfold nx;rw[ha,hb]);rw[ha,show lG (some x)=.tuple #[.int .u64 x,.bool true] from rfl]at O;rw[hb,show lG none=.tuple #[.int .u64 0,.bool false] from rfl]at P;clear ha hb;obtain⟨g1,g2,g3,g4,g5,g6⟩:=(A3 _ HX).1 _ rfl;have G:=aI (PC g1 (PC g2 (PC g4 g6)));have qw:IntKind.u64.wrap (x-1)=x-1:=by rw[PE];have:=(lK HZ C1 WZ WY HN k hk).1;rw[← EF.out]at this;omega
     clear g1 g2 g4 g5 g6 HX A3;gi_wp2_with fail;refine⟨trivial,?_⟩;refine(callsIn_wide.2 (O _ OX)).mono ?_;rintro e w1 ⟨rfl,u⟩;have z2:=aM u C8 y2;have A8:=aI (OX.call u);have E:=aI u;clear O u;gi_wp2_with fail;refine⟨trivial,?_⟩;refine(callsIn_wide.2 (P _ A8)).mono ?_;rintro e w2 ⟨rfl,H⟩;have F:=aI (E.trans (H.mono E.size));clear P H z2 E;have t0:=aM F sB s0;have t1:=aM F sB s1;have J2:=HJ.out _ _ _ JC (Only.of_below F);obtain⟨fn,tmps,assign,body,hy,hR⟩:=HY.out k w2 J2 hk (by have:=F.size;omega);have HR:=aI hR;clear hR J2 s0 s1;dsimp only [yL]at hy
     rw[g3,← EF.out]at hy;clear g3;have I:=aI ((I.only (may:=fun _=>False) (Only.of_below F) (fun h=>h) (fun _ _ h=>h)));have L:=aI ((L.only (may:=fun _=>False) (Only.of_below F) (fun h=>h) (fun _ _ h=>h)));have D0:W.heap.size≤w2.heap.size:=by have:=F.size;omega
     gi_wp2;refine HR.mono ?_;rintro e W3 (⟨rfl,U,z⟩ | ⟨rfl,V⟩)
     ·have I:=aI ((I.only z (fun h=>h.elim E5 D9) (fun q hq=>KM q hq)).lst.rise (show f≤fr zs ys (k+1)from by rw[G.2.1];have:=G.2.2.1;omega));have L:=aI ((L.only z (fun h=>h.elim E6 E0) (fun q hq=>KM q hq)).lst.rise (show f≤fr zs ys (k+1)from by rw[G.2.1];have:=G.2.2.1;omega));have J3:=aI U;have A2:W.heap.size≤W3.heap.size:=by have:=z.size;omega
      clear U z hy;gi_wp2;go_roundw
      case rel=>
       (repeat apply PD)
       exact⟨G.1,by rw[G.2.1],J3,I,L,A2⟩
      exact G.2.2.2
     gi_wp2;refine bodyPost_ret (results_none rfl _ _ _) rfl ?_;exact⟨⟨_,rfl⟩,.inr ⟨k,hk,V⟩⟩
   | some y=>
     by_cases hyx:y<x
     ·have HX:=aI (show nx zs ys f=some y from by unfold nx;rw[ha,hb];simp only;rw[if_pos hyx]);rw[ha,show lG (some x)=.tuple #[.int .u64 x,.bool true] from rfl]at O;rw[hb,show lG (some y)=.tuple #[.int .u64 y,.bool true] from rfl]at P;clear ha hb;obtain⟨g1,g2,g3,g4,g5,g6⟩:=(A3 _ HX).1 _ rfl;have G:=aI (PC g1 (PC g2 (PC g4 g6)));have qw:IntKind.u64.wrap (y-1)=y-1:=by rw[PE];have:=(lK HZ C1 WZ WY HN k hk).1;rw[← EF.out]at this;omega
      clear g1 g2 g4 g5 g6 HX A3;gi_wp2_with fail;refine⟨trivial,?_⟩;refine(callsIn_wide.2 (O _ OX)).mono ?_;rintro e w1 ⟨rfl,u⟩;have z2:=aM u C8 y2;have A8:=aI (OX.call u);have E:=aI u;clear O u;gi_wp2_with fail;refine⟨trivial,?_⟩;refine(callsIn_wide.2 (P _ A8)).mono ?_;rintro e w2 ⟨rfl,H⟩;have F:=aI (E.trans (H.mono E.size));clear P H z2 E;have t0:=aM F sB s0;have t1:=aM F sB s1;have J2:=HJ.out _ _ _ JC (Only.of_below F);obtain⟨fn,tmps,assign,body,hy,hR⟩:=HY.out k w2 J2 hk (by have:=F.size;omega);have HR:=aI hR;clear hR J2 s0 s1;dsimp only [yL]at hy
      rw[g3,← EF.out]at hy;clear g3;have I:=aI ((I.only (may:=fun _=>False) (Only.of_below F) (fun h=>h) (fun _ _ h=>h)));have L:=aI ((L.only (may:=fun _=>False) (Only.of_below F) (fun h=>h) (fun _ _ h=>h)));have D0:W.heap.size≤w2.heap.size:=by have:=F.size;omega
      gi_wp2;refine HR.mono ?_;rintro e W3 (⟨rfl,U,z⟩ | ⟨rfl,V⟩)
      ·have I:=aI ((I.only z (fun h=>h.elim E5 D9) (fun q hq=>KM q hq)).lst.rise (show f≤fr zs ys (k+1)from by rw[G.2.1];have:=G.2.2.1;omega));have L:=aI ((L.only z (fun h=>h.elim E6 E0) (fun q hq=>KM q hq)).lst.rise (show f≤fr zs ys (k+1)from by rw[G.2.1];have:=G.2.2.1;omega));have J3:=aI U;have A2:W.heap.size≤W3.heap.size:=by have:=z.size;omega
       clear U z hy;gi_wp2;go_roundw
       case rel=>
        (repeat apply PD)
        exact⟨G.1,by rw[G.2.1],J3,I,L,A2⟩
       exact G.2.2.2
      gi_wp2;refine bodyPost_ret (results_none rfl _ _ _) rfl ?_;exact⟨⟨_,rfl⟩,.inr ⟨k,hk,V⟩⟩
     have HX:=aI (show nx zs ys f=some x from by unfold nx;rw[ha,hb];simp only;rw[if_neg hyx]);rw[ha,show lG (some x)=.tuple #[.int .u64 x,.bool true] from rfl]at O;rw[hb,show lG (some y)=.tuple #[.int .u64 y,.bool true] from rfl]at P;clear ha hb;obtain⟨g1,g2,g3,g4,g5,g6⟩:=(A3 _ HX).1 _ rfl;have G:=aI (PC g1 (PC g2 (PC g4 g6)));have qw:IntKind.u64.wrap (x-1)=x-1:=by rw[PE];have:=(lK HZ C1 WZ WY HN k hk).1;rw[← EF.out]at this;omega
     clear g1 g2 g4 g5 g6 HX A3;gi_wp2_with fail;refine⟨trivial,?_⟩;refine(callsIn_wide.2 (O _ OX)).mono ?_;rintro e w1 ⟨rfl,u⟩;have z2:=aM u C8 y2;have A8:=aI (OX.call u);have E:=aI u;clear O u;gi_wp2_with fail;refine⟨trivial,?_⟩;refine(callsIn_wide.2 (P _ A8)).mono ?_;rintro e w2 ⟨rfl,H⟩;have F:=aI (E.trans (H.mono E.size));clear P H z2 E;have t0:=aM F sB s0;have t1:=aM F sB s1;have J2:=HJ.out _ _ _ JC (Only.of_below F);obtain⟨fn,tmps,assign,body,hy,hR⟩:=HY.out k w2 J2 hk (by have:=F.size;omega);have HR:=aI hR;clear hR J2 s0 s1;dsimp only [yL]at hy
     rw[g3,← EF.out]at hy;clear g3;have I:=aI ((I.only (may:=fun _=>False) (Only.of_below F) (fun h=>h) (fun _ _ h=>h)));have L:=aI ((L.only (may:=fun _=>False) (Only.of_below F) (fun h=>h) (fun _ _ h=>h)));have D0:W.heap.size≤w2.heap.size:=by have:=F.size;omega
     gi_wp2;refine HR.mono ?_;rintro e W3 (⟨rfl,U,z⟩ | ⟨rfl,V⟩)
     ·have I:=aI ((I.only z (fun h=>h.elim E5 D9) (fun q hq=>KM q hq)).lst.rise (show f≤fr zs ys (k+1)from by rw[G.2.1];have:=G.2.2.1;omega));have L:=aI ((L.only z (fun h=>h.elim E6 E0) (fun q hq=>KM q hq)).lst.rise (show f≤fr zs ys (k+1)from by rw[G.2.1];have:=G.2.2.1;omega));have J3:=aI U;have A2:W.heap.size≤W3.heap.size:=by have:=z.size;omega
      clear U z hy;gi_wp2;go_roundw
      case rel=>
       (repeat apply PD)
       exact⟨G.1,by rw[G.2.1],J3,I,L,A2⟩
      exact G.2.2.2
     gi_wp2;refine bodyPost_ret (results_none rfl _ _ _) rfl ?_;exact⟨⟨_,rfl⟩,.inr ⟨k,hk,V⟩⟩
end Go.Proofs.YtbkkolfpegplgaaGreatDoor
