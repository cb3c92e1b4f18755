import Derived.Test.YtbkkolfpegplgaaGreatDoorTG21
import Derived.Lib.AppendZerosOnto
import Derived.Lib.Overlaps
import Derived.Shelf.RegionOpenPlain
open Array renaming length_toList→PC,toList_append→PD
open Go.Act renaming eval→PE,put→PF
open Go.Builtin renaming zeroCells→PG,copy_→PH,append_→PI,firstCells→PJ
open Go.IntKind renaming wrap_i64→PM
open Go.Value renaming int→PN,agg→PO
open Go.World renaming cell?→PQ,frozen?→PS,shape?→PT
open List renaming length_take→PU,length_append→PV,length_drop→PX,size_toArray→PY,take_of_length_le→PZ,append_assoc→QA,take_append_of_le_length→QB,mem_of_mem_drop→QC,take_left'→QE,getElem?_take→QF,getElem?_drop→QG,drop_of_length_le→QH,append_nil→QI
open Nat renaming min_def→QJ,le_refl→QK
open Go.Proofs.Tryz
set_option maxHeartbeats 6400000
set_option maxRecDepth 100000
set_option linter.unusedVariables false
set_option linter.unusedSimpArgs false
namespace Go.Proofs.YtbkkolfpegplgaaGreatDoor
open Go Go.RowKit
theorem cK{P:Program}(w:World)(A C D b:TypeId)(g o l r:Nat)(a:Addr)(n s:Nat)(cur:Array Value)(t:TypeId)(p:List Value)(k m:Nat)
  (E:P.underlying A=some (.slice b)) (hs:(P.info? b).map (·.size)=some k)
  (F:w.heap[g]?=some (.cells cur t (0,0))) (G:m=Nat.min n l) (H:p.length=m * k)
  (u:∀j v,p[j]?=some v→w.cell? (a.add j)=some v) (y:o+p.length≤cur.size) (h1:∀v∈p,v.oneCell'=true) :
  (PH #[A,C] D #[.slice (some ⟨g,o,none⟩) l r,.slice (some a) n s]).run P w =
    .ok (goInt m) (w.setRow g (cur.toList.take o ++ p ++ cur.toList.drop (o+p.length)).toArray):=by
 have B:=run_loadCells_list (P:=P) w a p u;have z:=run_storeCells_at P g o t p 0 cur w F (by simpa using y) h1
 cases hq:P.info? b with
 | none=>simp[hq]at hs
 | some i=>
   have hi:i.size=k:=by simpa[hq]using hs
   simp[PH,run_underlying E,Builtin.lenOf,PJ,sizeOf,typeInfo,hq,hi,← G,← H,B,z]
theorem gZ{P:Program}{b:Array Oper}{o:Oper}{a:Act}{w:World}{K:Act→World→Prop}{Q:Exit→Act→World→Prop}{E:Prop}
  (r:o.guard=none) (d x:Operand) (l m:TypeId) (j:o.op=Op.call { callee:=Callee.builtin Builtin.copy,args:=#[d,x],argTypes:=#[l,m] })
  (v u:Value) (s:a.eval d=v) (y:a.eval x=u) {n:Value} {w':World} (z:(PH #[l,m] o.type #[v,u]).run P w=.ok n w') (A:K (a.put o.dst n) w') :
  if Region.wanted o (yielded b a.tmps)=true then Oper.wp P o a w K Q else E:=by
 have p:Region.wanted o (yielded b a.tmps)=true:=by simp[Region.wanted,r]
 rw[if_pos p];unfold Oper.wp;simp[execOp,j,resolve,invoke,builtin,s,y,z,Result.andThen];exact A
theorem Only.setRow{may:Nat→Prop}{A B:World}(h:Only may A B){g:Nat}(b:may g∨A.heap.size≤g)(l:Array Value):Only may A (B.setRow g l):=
 ⟨h.os,h.tape,h.output,by simpa using h.size,fun i hi j=>(setRow_other B g i l (by rintro rfl;rcases b with b | b<;>first | exact j b | omega)).trans (h.block i hi j)⟩
theorem bW{w:World}{b:Nat}{ys:List Value}{t:TypeId}{f:Nat×Nat}(h:w.heap[b]?=some (.cells ys.toArray t f)):∀j v,ys[j]?=some v→w.cell? ((⟨b,0,none⟩:Addr).add j)=some v:=by
 intro j v m;have l:(⟨b,0,none⟩:Addr).add j=⟨b,0+j,none⟩:=by unfold Addr.add;split<;>simp_all
 rw[l];simp[PQ,h,m]
theorem jH{α:Type}(l:List α){a b:Nat}(h:a≤b):(l.take b).take a=l.take a:=by rw[List.take_take];congr 1;omega
theorem sF(cur ys:List Value)(p k n:Nat)(l:p≤n)(m:ys.length=k)(r:n+k≤cur.length) :
  ((((cur.take (p+k) ++ (cur.take n).drop p ++ cur.drop (p+k+(n-p))).take p ++ ys ++ (cur.take (p+k) ++ (cur.take n).drop p ++ cur.drop (p+k+(n-p))).drop (p+k))).take (n+k))=(cur.take n).take p ++ ys ++ (cur.take n).drop p:=by
 have b:(cur.take (p+k) ++ (cur.take n).drop p ++ cur.drop (p+k+(n-p))).take p=(cur.take n).take p:=by
  rw[QA,QB (by rw[PU];omega),jH _ aA,jH _ l]
 have j:(cur.take (p+k) ++ (cur.take n).drop p ++ cur.drop (p+k+(n-p))).drop (p+k)=(cur.take n).drop p ++ cur.drop (p+k+(n-p)):=by
  rw[QA];exact List.drop_left' (by rw[PU];omega)
 rw[b,j,← QA];exact QE (by simp only[PV,PU,PX,m];omega)
theorem tB{P:Program}(w:World)(t j l e m:TypeId)(n:P.underlying t=some (.slice e))(b:P.underlying j=some (.slice m))(v x:Value) :
  (PI #[t,j] l #[v,x]).run P w=(PI #[t,t] l #[v,x]).run P w:=by
 unfold PI
 cases v<;>simp[run_underlying n,run_underlying b]
theorem dK{P:Program}(w:World){A:Array Oper}{rest:List Oper}{o:Oper}{a:Act}{Q:Exit→Act→World→Prop}(C:o.guard=none)(s x:Operand)(t D:TypeId)
  (ho:o.op=.call { callee:=.builtin .append,args:=#[s,x],argTypes:=#[t,D] })
  (base:Nat) (e L:TypeId) (i:TypeInfo) (z:Value) (size bytes:Nat) (M:P.underlying t=some (.slice e)) (E:P.underlying D=some (.slice L)) (hi:P.info? e=some i) (R:i.zero=some z)
  (p:i.size=size) (F:i.bytes=bytes) (G:z.cells.size=size) (H:0<size)
  (v:Value) (n:Nat) (xs:List Value) (hs:a.eval s=v) (B:w.ownsRow base e size v n xs)
  (ad:Addr) (m c:Nat) (news:List Value) (S:a.eval x=.slice (some ad) m c) (T:news.length=m * size) (r:∀j u,news[j]?=some u→w.cell? (ad.add j)=some u) (h1:∀u∈news,u.oneCell'=true)
  (I:n+m≤maxLen) (b:(n+m) * bytes≤140737488355328) (y:base≤w.heap.size)
  (h:∀l w',w'.ownsRow base e size l (n+m) (xs ++ news)→w.grownBy w' v.ownBlock→(l=.slice none 0 0↔v=.slice none 0 0∧m=0)→(l.ownBlock=v.ownBlock∨l.ownBlock=some w.heap.size)→wpList P A Q rest (a.put o.dst l) w') :
  wpList P A Q (o :: rest) a w:=by
 refine wpList_plain C fun K O=>?_;obtain⟨l,w',J,h2,h3,h4,N⟩:=run_append_own_at (P:=P) w base t o.type e i z size bytes M hi R p F G H v n xs B ad m c news T r h1 I b y;rw[← tB w t D o.type e L M E]at J;unfold Oper.wp execOp;simp only[ho,resolve,invoke,builtin,Sem.run_bind,Sem.run_pure,Result.andThen_ok,List.map_toArray,List.map_cons,List.map_nil,hs,S,J];exact O _ _ (h l w' h2 h3 h4 N)
theorem nL:(prog.info? 57).map (fun i=>(i.zero,i.size,i.bytes))=some (some (.int .u64 0),1,8):=aC
theorem Hm(base n:Nat)(v:Value)(xs:List Value)(vb:Nat)(ys:List Value)(w:World)(h:w.ownsRow base 57 1 v n xs)(O:n≤4000000000)(l:base≤w.heap.size)(A:∀u∈ys,u.oneCell'=true)(B:ys.length=1)
  (C:w.heap[vb]?=some (.cells ys.toArray 57 (0,0))) :
  Calls prog 192 #[v,.int .i64 n,.slice (some ⟨vb,0,none⟩) 1 1] w fun e w'=>∃D,e=.returned D∧w'.ownsRow base 57 1 D (n+1) (xs ++ ys)∧w.grownBy w' v.ownBlock:=by
 obtain⟨I,hi,s,y,z⟩:=info_parts nL;have H:=aI h;have m:=aI B;have p:=aI (bW C);have r:=aI A;clear C B A;rcases h.2 with⟨rfl,rfl⟩ | ⟨g,cap,cur,rfl,hg,hcells,hnc,hcm,hsz,htk⟩
 ·clear h;go_enter func192,ntmps192;go_wp2_with(at_builtin;go_loud(refine dK _ rfl _ _ 89 89 rfl base 57 57 I (.int .u64 0) 1 8 underlying89 underlying89 hi s y z rfl aB _ _ _ rfl H ⟨vb,0,none⟩ 1 1 ys rfl m p r aB aB l ?_);intro D L j b _ _;have E:=aI j;have F:=aI b;clear j b);go_ret;exact⟨_,rfl,E,F⟩
 clear h htk hcells hsz;have G:cap≤9223372036854775807:=by unfold maxLen at hcm;omega
 have M:=aI hcm;have J:n+1≤maxLen:=by unfold maxLen;omega
 have K:(n+1) * 8≤140737488355328:=aA;clear hcm;by_cases e:cap=n;subst e;rotate_left;have N:n<cap:=aA;rotate_left
 all_goals
  go_enter func192,ntmps192;go_wp2_with(at_builtin;go_loud(refine dK _ rfl _ _ 89 89 rfl base 57 57 I (.int .u64 0) 1 8 underlying89 underlying89 hi s y z rfl aB _ _ _ rfl H ⟨vb,0,none⟩ 1 1 ys rfl m p r J K l ?_);intro D L j b _ _;have E:=aI j;have F:=aI b;clear j b);go_ret;exact⟨_,rfl,E,F⟩
theorem zG(g cap n i:Nat)(cur:Array Value)(vb:Nat)(ys:List Value)(w:World)(hi:i<n)(A5:n+1≤cap)(C1:cap≤9223372036854775807)(K:w.heap[g]?=some (.cells cur 57 (0,0)))(C:cur.size=cap * 1)
  (h1:∀u∈cur.toList.take (n * 1),u.oneCell'=true) (A6:∀u∈ys,u.oneCell'=true) (p:ys.length=1) (z:w.heap[vb]?=some (.cells ys.toArray 57 (0,0))) (Y:vb≠g) :
  Calls prog 192 #[.slice (some ⟨g,0,none⟩) n cap,.int .i64 i,.slice (some ⟨vb,0,none⟩) 1 1] w fun e w'=>e=.returned (.slice (some ⟨g,0,none⟩) (n+1) cap)∧∃y:Array Value,w'.heap[g]?=some (.cells y 57 (0,0))∧y.size=cap * 1 ∧
   y.toList.take ((n+1) * 1)=(cur.toList.take (n * 1)).take (i * 1) ++ ys ++ (cur.toList.take (n * 1)).drop (i * 1)∧Only (fun b=>b=g) w w':=by
 have A0:prog.follows .mixedOrders=true:=aC;have A7:((1:Int) == 0)=false:=aB;have A8:¬((i:Int)=(n:Int)):=aA;have A:cur.toList.length=cap * 1:=by simpa using C
 obtain⟨i0,U,B9,V,C0⟩:=info_parts nL;have D:(prog.info? 57).map (·.size)=some 1:=by rw[U];simp[V]
 have L:w.shape? vb=some (57,1):=by simp[PT,z,p]
 have M:w.shape? g=some (57,cap * 1):=by simp[PT,K,C]
 have A1:∀o lb cb,(callFunc 231 #[.slice (some ⟨vb,0,none⟩) 1 1,.slice (some ⟨g,o,none⟩) lb cb]).run prog w=.ok (.value (.bool false)) w:=fun o lb cb=>by
  rw[run_callFunc_extern func231 aC aC aC (e:=Extern.SlicesOverlaps.overlaps #[89,89] #[4]) aC,
   Lib.run_overlaps_apart w 89 4 57 underlying89 1 (fun w=>by simp[Go.sizeOf,typeInfo,U,V]) ⟨vb,0,none⟩ ⟨g,o,none⟩ 1 1 lb cb Y 57 57 1 (cap * 1) L M aA (by simp[PS,z]) (by simp[PS,z])]
  rfl
 obtain⟨E,s⟩:=aH ((cur.toList.take (n * 1)).drop (i * 1));have r:E.length=(n-i) * 1:=by rw[s,PX,PU,A];omega
 have N:∀u∈E,u.oneCell'=true:=fun u hu=>h1 u (by rw[s]at hu;exact QC hu);have O:∀j u,E[j]?=some u→cur[i+j]?=some u:=fun j u J=>by
  rw[s,QG,QF]at J;split at J
  ·simpa[Nat.mul_one]using J
  cases J
 obtain⟨l,Z⟩:=aH ((cur.toList.take (i+1) ++ E ++ cur.toList.drop (i+1+E.length)).toArray);have F:l.size=cap * 1:=by rw[Z];simp only[PY,PV,PU,PX,A,r];omega
 obtain⟨m,e2⟩:=aH ((l.toList.take (i) ++ ys ++ l.toList.drop (i+ys.length)).toArray);have P:m.size=cap * 1:=by rw[e2];simp only[PY,PV,PU,PX,PC,F,p];omega
 have Q:m.toList.take ((n+1) * 1)=(cur.toList.take (n * 1)).take (i * 1) ++ ys ++ (cur.toList.take (n * 1)).drop (i * 1):=by
  rw[e2,Z,r,p,s];have:=sF cur.toList ys (i) 1 (n * 1) aA p (by rw[A];omega);rw[show n * 1-(i)=(n-i) * 1 by omega,show i+1=i+1 by omega]at this;rw[show i * 1=i by omega,show i+1=i+1 by omega];rw[show(n+1) * 1=n * 1+1 by omega];exact this
 have A2:=aI Q;have A3:=aI P;have R:∀(W:World),W.heap=w.heap→∀H I sc,(PH #[89,89] H #[.slice (some ⟨g,i+1,none⟩) (n-i) I,.slice (some ⟨g,i,none⟩) (n+1-i) sc]).run prog W=.ok (goInt (n-i:Nat)) (W.setRow g l):=fun W B H I sc=>by
  rw[cK W 89 89 H 57 g (i+1) (n-i) I ⟨g,i,none⟩ (n+1-i) sc cur 57 E 1 (n-i) underlying89 D (by rw[B];exact K) (by simp only[QJ];split<;>omega) r
   (fun j u J=>by
     have ea:(⟨g,i,none⟩:Addr).add j=⟨g,i+j,none⟩:=by unfold Addr.add;split<;>simp_all
     have:=O j u J;rw[ea];simp[PQ,B,K,this]) (by rw[r,C];omega) N,Z]
 have G:∀(W:World),W.heap=w.heap→(W.setRow g l).heap[g]?=some (.cells l 57 (0,0)):=fun W B=>setRow_heap W g cur l 57 (0,0) (by rw[B];exact K);have S:∀(W:World),W.heap=w.heap→(W.setRow g l).heap[vb]?=some (.cells ys.toArray 57 (0,0)):=fun W B=>(setRow_other W g vb l Y).trans (by rw[B];exact z);have T:∀(W W0:World),W0.heap=w.heap→W.heap=(W0.setRow g l).heap→∀H I,(PH #[89,89] H #[.slice (some ⟨g,i,none⟩) (n+1-i) I,.slice (some ⟨vb,0,none⟩) 1 1]).run prog W=.ok (goInt (1:Nat)) (W.setRow g m):=fun W W0 X B H I=>by
  rw[cK W 89 89 H 57 g (i) (n+1-i) I ⟨vb,0,none⟩ 1 1 l 57 ys 1 1 underlying89 D (by rw[B];exact G W0 X) (by simp only[QJ];split<;>omega) (by rw[p])
   (bW (by rw[B];exact S W0 X)) (by rw[F,p];omega) A6,e2]
 have A9:=T (w.drew.setRow g l) w.drew rfl rfl;have B0:IntKind.i64.wrap ((i:Int)+1)=(i:Int)+1:=by rw[PM];omega
 have B1:IntKind.i64.wrap ((n:Int)+1)=(n:Int)+1:=by rw[PM];omega
 have B2:(0:Int)≤(i:Int)+1:=aA;have B3:i≤n:=aA;have B4:((i:Int)+1).toNat=i+1:=aA;have B5:((n:Int)+1).toNat=n+1:=aA;have B6:¬(cap=i+1):=aA;have B7:(i:Int)≤(n:Int)+1:=aA;have B8:¬(cap=i):=aA;have HG:=aI K;have A4:=aI G;clear Z e2 Q P O N h1 r s F A C K z L M S G;go_enter func192,ntmps192;go_wp2_with(simp only[A1]);go_region_law_o (refine gZ rfl _ _ 89 89 rfl (.slice (some ⟨g,i+1,none⟩) (n-i) (cap-(i+1))) (.slice (some ⟨g,i,none⟩) (n+1-i) (cap-i)) (by simp[PE,PF]) (by simp[PE,PF]) (R w.drew rfl 3 (cap-(i+1)) (cap-i)) ?_);go_wp2;go_ret;refine⟨rfl,m,setRow_heap _ g l m _ _ (A4 _ rfl),A3,A2,?_⟩;exact(((Only.refl (fun b=>b=g) w).drew.setRow (.inl rfl) l)).setRow (.inl rfl) m
theorem Dk(g n i:Nat)(cur:Array Value)(vb:Nat)(ys:List Value)(w:World)(hi:i<n)(hn:n≤4000000000)(hg:w.heap[g]?=some (.cells cur 57 (0,0)))(H:cur.size=n * 1)
  (h1:∀u∈cur.toList,u.oneCell'=true) (C2:∀u∈ys,u.oneCell'=true) (A:ys.length=1) (V:w.heap[vb]?=some (.cells ys.toArray 57 (0,0))) :
  Calls prog 192 #[.slice (some ⟨g,0,none⟩) n n,.int .i64 i,.slice (some ⟨vb,0,none⟩) 1 1] w fun e w'=>∃(G:Nat) (B:Array Value),e=.returned (.slice (some ⟨w.heap.size,0,none⟩) (n+1) G)∧w'.heap[w.heap.size]?=some (.cells B 57 (0,0))∧n+1≤G∧G≤maxLen∧B.size=G * 1 ∧
   B.toList.take ((n+1) * 1)=cur.toList.take (i * 1) ++ ys ++ cur.toList.drop (i * 1)∧Below w.heap.size w w':=by
 have B1:prog.follows .mixedOrders=true:=aC;have C5:((1:Int) == 0)=false:=aB;have C6:¬((i:Int)=(n:Int)):=aA;have C7:(n:Int)<(n:Int)+1:=aA;have C:cur.toList.length=n * 1:=by simpa using H
 obtain⟨i0,A7,C1,A8,A9⟩:=info_parts nL;have I:(prog.info? 57).map (·.size)=some 1:=by rw[A7];simp[A8]
 have B2:=aO hg;have B3:=aO V;have X:(n:Int)+1-(i:Int)=((n+1-i:Nat):Int):=aA;have O:i+(n+1-i)=n+1:=aA;have J:(PJ i0.size i (.slice (some ⟨g,0,none⟩) i n)).run prog w.drew=.ok (cur.toList.take (i)).toArray w.drew:=by
  rw[A8];exact run_firstCells_some w.drew 1 i ⟨g,0,none⟩ i n (cur.toList.take (i)) (by rw[PU,C];omega) (fun j u E=>by
   have ea:(⟨g,0,none⟩:Addr).add j=⟨g,0+j,none⟩:=by unfold Addr.add;split<;>simp_all
   rw[ea];rw[QF]at E;split at E
   ·have B4:w.drew.heap[g]?=some (.cells cur 57 (0,0)):=hg;simpa[PQ,B4]using E
   cases E)
 have P:∀z,(PI #[89,3] z #[.slice (some ⟨g,0,none⟩) i n,.int .i64 ((n:Int)+1-(i:Int))]).run prog w =
   .ok (.slice (some ⟨w.heap.size,0,none⟩) (n+1) (grownCap w (n+1) n 57)) (w.drew.alloc (.cells ((cur.toList.take (i)).toArray ++ PG (PN .u64 0).cells (n+1-i) ++ PG (PN .u64 0).cells (grownCap w (n+1) n 57-(n+1))) 57)):=fun z=>by
  have h:=Lib.run_append_grow_zeros w 89 3 z 57 i0 _ .i64 .i64 underlying89 underlying3 A7 C1 (some ⟨g,0,none⟩) i n (cur.toList.take (i)) J (n+1-i) aA aA aA aA (by rw[A9];omega) (by rw[A9,O];exact growslice_fits aA aA);rw[O]at h;rw[X];exact h
 obtain⟨G,hG⟩:=aH (grownCap w (n+1) n 57);obtain⟨m,r⟩:=aH ((cur.toList.take (i)).toArray ++ PG (PN .u64 0).cells (n+1-i) ++ PG (PN .u64 0).cells (G-(n+1)):Array Value);rw[← hG]at P;rw[← r]at P;have B5:n+1≤G:=by rw[hG];exact grownCap_ge w _ _ _
 have Q:G≤maxLen:=by
  rw[hG];exact grownCap_le_maxLen w (n+1) n 57 (by unfold maxLen;omega)
 have C3:G≤9223372036854775807:=by unfold maxLen at Q;omega
 have D:m.size=G * 1:=by
  rw[r];simp[PG,Value.cells,H];omega
 have Y:m.toList.take (i)=cur.toList.take (i):=by
  rw[r,PD,PD,QA,QB (by simp[H];omega)];exact jH _ (QK _)
 obtain⟨l,eA⟩:=aH ((m.toList.take (i) ++ ys ++ m.toList.drop (i+ys.length)).toArray);have R:l.size=G * 1:=by rw[eA];simp only[PY,PV,PU,PX,PC,D,A];omega
 obtain⟨M,y⟩:=aH (cur.toList.drop (i));have s:M.length=(n-i) * 1:=by rw[y,PX,C];omega
 have Z:∀u∈M,u.oneCell'=true:=fun u hu=>h1 u (by rw[y]at hu;exact QC hu);have A0:∀j u,M[j]?=some u→cur[i+j]?=some u:=fun j u E=>by
  rw[y,QG]at E;simpa using E
 obtain⟨p,eB⟩:=aH ((l.toList.take (i+1) ++ M ++ l.toList.drop (i+1+M.length)).toArray);have A1:p.size=G * 1:=by rw[eB];simp only[PY,PV,PU,PX,PC,R,s];omega
 have A2:p.toList.take ((n+1) * 1)=cur.toList.take (i * 1) ++ ys ++ cur.toList.drop (i * 1):=by
  have e1:l.toList.take (i+1)=cur.toList.take (i) ++ ys:=by
   rw[eA,← Y];exact QE (by simp only[PV,PU,PC,D,A];omega)
  rw[eB,e1,show i * 1=i by omega,← y];exact QE (by simp only[PV,PU,C,A,s];omega)
 have B6:=aI A2;have B7:=aI A1;obtain⟨N,eN⟩:=aH w.heap.size;have S:(w.alloc (.cells m 57)).heap[w.heap.size]?=some (.cells m 57 (0,0)):=aK _ _ rfl;have A3:(w.alloc (.cells m 57)).heap[g]?=some (.cells cur 57 (0,0)):=aT _ _ B2 hg;have A4:(w.alloc (.cells m 57)).heap[vb]?=some (.cells ys.toArray 57 (0,0)):=aT _ _ B3 V;have K:∀(W:World),W.heap=(w.alloc (.cells m 57)).heap→∀z U,(PH #[89,89] z #[.slice (some ⟨w.heap.size,i,none⟩) (n+1-i) U,.slice (some ⟨vb,0,none⟩) 1 1]).run prog W=.ok (goInt (1:Nat)) (W.setRow w.heap.size l):=fun W F z U=>by
  rw[cK W 89 89 z 57 w.heap.size (i) (n+1-i) U ⟨vb,0,none⟩ 1 1 m 57 ys 1 1 underlying89 I (by rw[F];exact S) (by simp only[QJ];split<;>omega) (by rw[A])
   (bW (by rw[F];exact A4)) (by rw[D,A];omega) C2,eA]
 have T:∀(W:World),W.heap=(w.alloc (.cells m 57)).heap→(W.setRow w.heap.size l).heap[w.heap.size]?=some (.cells l 57 (0,0)):=fun W F=>setRow_heap W _ m l 57 (0,0) (by rw[F];exact S);have A5:∀(W:World),W.heap=(w.alloc (.cells m 57)).heap→(W.setRow w.heap.size l).heap[g]?=some (.cells cur 57 (0,0)):=fun W F=>(setRow_other W _ g l aA).trans (by rw[F];exact A3);have L:∀(W W0:World),W0.heap=(w.alloc (.cells m 57)).heap→W.heap=(W0.setRow w.heap.size l).heap→∀z U sc,(PH #[89,89] z #[.slice (some ⟨w.heap.size,i+1,none⟩) (n-i) U,.slice (some ⟨g,i,none⟩) (n-i) sc]).run prog W=.ok (goInt (n-i:Nat)) (W.setRow w.heap.size p):=fun W W0 B0 F z U sc=>by
  rw[cK W 89 89 z 57 w.heap.size (i+1) (n-i) U ⟨g,i,none⟩ (n-i) sc l 57 M 1 (n-i) underlying89 I (by rw[F];exact T W0 B0) (by simp only[QJ];split<;>omega) s
   (fun j u E=>by
     have ea:(⟨g,i,none⟩:Addr).add j=⟨g,i+j,none⟩:=by unfold Addr.add;split<;>simp_all
     have:=A0 j u E;have A6:=A5 W0 B0;rw[← F]at A6;rw[ea];simp[PQ,A6,this]) (by rw[s,R];omega) Z,eB]
 have C8:=K ((w.alloc (.cells m 57)).drew) rfl;have B8:=L ((((w.alloc (.cells m 57)).drew.setRow w.heap.size l)).drew) ((w.alloc (.cells m 57)).drew) rfl rfl;have C9:IntKind.i64.wrap ((i:Int)+1)=(i:Int)+1:=by rw[PM];omega
 have D0:IntKind.i64.wrap ((n:Int)+1)=(n:Int)+1:=by rw[PM];omega
 have D1:IntKind.i64.wrap ((n:Int)+1-i)=(n:Int)+1-i:=by rw[PM];omega
 have D2:(0:Int)≤(i:Int)+1:=aA;have D3:i≤n:=aA;have D4:((i:Int)+1).toNat=i+1:=aA;have D5:¬(G=i):=aA;have C4:¬(G=i+1):=aA;have D6:¬(n=i):=aA;have D7:(i:Int)≤(n:Int):=aA;have HG:=aI B5;have B9:=aI Q;have C0:=aI T;clear X O J r hG D eN Y eA R y s Z A0 eB A1 A2 S A3 A4 T A5 Q K L h1 C H hg V;go_enter func192,ntmps192;go_wp2_with(at_builtin;refine Lib.wpList_append_run _ rfl _ _ _ _ rfl _ _ rfl rfl _ _ (P _) ?_);go_region_law_o (refine gZ rfl _ _ 89 89 rfl (.slice (some ⟨w.heap.size,i+1,none⟩) (n-i) (G-(i+1))) (.slice (some ⟨g,i,none⟩) (n-i) (n-i)) (by simp[PE,PF]) (by simp[PE,PF]) (B8 3 (G-(i+1)) (n-i)) ?_);go_wp2;go_ret;refine⟨G,p,rfl,setRow_heap _ _ l p _ _ (C0 ((w.alloc (.cells m 57)).drew) rfl),HG,B9,B7,B6,?_⟩;exact(((((Only.refl (fun b=>b=w.heap.size) w).alloc (.cells m 57)).drew.setRow (.inl rfl) l).drew).setRow (.inl rfl) p).below (n:=w.heap.size) (QK _) (fun k hk=>aA)
theorem Hn(base n i:Nat)(v:Value)(xs:List Value)(vb:Nat)(ys:List Value)(w:World)(h:w.ownsRow base 57 1 v n xs)(hi:i≤n)(I:n≤4000000000)(m:base≤w.heap.size)(h1:∀u∈xs,u.oneCell'=true)(y:∀u∈ys,u.oneCell'=true)(p:ys.length=1)
  (z:w.heap[vb]?=some (.cells ys.toArray 57 (0,0))) (H:v.ownBlock≠some vb) :
  Calls prog 192 #[v,.int .i64 i,.slice (some ⟨vb,0,none⟩) 1 1] w fun e w'=>∃C,e=.returned C∧w'.ownsRow base 57 1 C (n+1) (xs.take (i * 1) ++ ys ++ xs.drop (i * 1))∧Only (fun b=>v.ownBlock=some b) w w':=by
 have A:=h.1;by_cases e:i=n
 ·subst e;refine(Hm base i v xs vb ys w h I m y p z).mono ?_;rintro e w' ⟨C,rfl,J,B⟩;rw[PZ aA,QH aA,QI];exact⟨C,rfl,J,⟨B.os,B.tape,B.output,B.size,fun k F M=>B.block k F (fun e=>M e.symm)⟩⟩
 rcases h.2 with⟨rfl,rfl⟩ | ⟨g,cap,cur,rfl,hgb,hcells,hnc,hcm,hsz,htk⟩
 ·omega
 have D:vb≠g:=fun e=>H (by rw[e];rfl);by_cases hr:n+1≤cap
 ·refine(zG g cap n i cur vb ys w aA hr (by unfold maxLen at hcm;omega) hcells hsz (by rw[htk];exact h1) y p z D).mono ?_;rintro e w' ⟨rfl,j,r,s,l,ho⟩;rw[htk]at l;refine⟨_,rfl,⟨?_,.inr ⟨g,cap,j,rfl,hgb,r,hr,hcm,s,l⟩⟩,ho.wide fun k F=>by rw[F];rfl⟩;simp only[PV,PU,PX,p,A];omega
 obtain rfl:cap=n:=aA;rw[PZ (by simp[hsz])]at htk;refine(Dk g cap i cur vb ys w aA I hcells hsz (by rw[htk];exact h1) y p z).mono ?_;rintro e w' ⟨G,j,rfl,r,K,E,s,l,L⟩;rw[htk]at l;refine⟨_,rfl,⟨?_,.inr ⟨w.heap.size,G,j,rfl,m,r,K,E,s,l⟩⟩,Only.of_below L⟩;simp only[PV,PU,PX,p,A];omega
theorem fK:(prog.info? 80).map (fun i=>(i.zero,i.size,i.bytes))=some (some (.agg #[.slice none 0 0,.slice none 0 0]),2,48):=aC
theorem Dl(base n:Nat)(v:Value)(xs:List Value)(vb:Nat)(ys:List Value)(w:World)(h:w.ownsRow base 80 2 v n xs)(O:n≤4000000000)(l:base≤w.heap.size)(A:∀u∈ys,u.oneCell'=true)(B:ys.length=2)
  (C:w.heap[vb]?=some (.cells ys.toArray 80 (0,0))) :
  Calls prog 140 #[v,.int .i64 n,.slice (some ⟨vb,0,none⟩) 1 1] w fun e w'=>∃D,e=.returned D∧w'.ownsRow base 80 2 D (n+1) (xs ++ ys)∧w.grownBy w' v.ownBlock:=by
 obtain⟨I,hi,s,y,z⟩:=info_parts fK;have H:=aI h;have m:=aI B;have p:=aI (bW C);have r:=aI A;clear C B A;rcases h.2 with⟨rfl,rfl⟩ | ⟨g,cap,cur,rfl,hg,hcells,hnc,hcm,hsz,htk⟩
 ·clear h;go_enter func140,ntmps140;go_wp2_with(at_builtin;go_loud(refine dK _ rfl _ _ 23 22 rfl base 80 80 I (.agg #[.slice none 0 0,.slice none 0 0]) 2 48 underlying23 underlying22 hi s y z rfl aB _ _ _ rfl H ⟨vb,0,none⟩ 1 1 ys rfl m p r aB aB l ?_);intro D L j b _ _;have E:=aI j;have F:=aI b;clear j b);go_ret;exact⟨_,rfl,E,F⟩
 clear h htk hcells hsz;have G:cap≤9223372036854775807:=by unfold maxLen at hcm;omega
 have M:=aI hcm;have J:n+1≤maxLen:=by unfold maxLen;omega
 have K:(n+1) * 48≤140737488355328:=aA;clear hcm;by_cases e:cap=n;subst e;rotate_left;have N:n<cap:=aA;rotate_left
 all_goals
  go_enter func140,ntmps140;go_wp2_with(at_builtin;go_loud(refine dK _ rfl _ _ 23 22 rfl base 80 80 I (.agg #[.slice none 0 0,.slice none 0 0]) 2 48 underlying23 underlying22 hi s y z rfl aB _ _ _ rfl H ⟨vb,0,none⟩ 1 1 ys rfl m p r J K l ?_);intro D L j b _ _;have E:=aI j;have F:=aI b;clear j b);go_ret;exact⟨_,rfl,E,F⟩
theorem yD(g cap n i:Nat)(cur:Array Value)(vb:Nat)(ys:List Value)(w:World)(hi:i<n)(A5:n+1≤cap)(C1:cap≤9223372036854775807)(K:w.heap[g]?=some (.cells cur 80 (0,0)))(C:cur.size=cap * 2)
  (h1:∀u∈cur.toList.take (n * 2),u.oneCell'=true) (A6:∀u∈ys,u.oneCell'=true) (p:ys.length=2) (z:w.heap[vb]?=some (.cells ys.toArray 80 (0,0))) (Y:vb≠g) :
  Calls prog 140 #[.slice (some ⟨g,0,none⟩) n cap,.int .i64 i,.slice (some ⟨vb,0,none⟩) 1 1] w fun e w'=>e=.returned (.slice (some ⟨g,0,none⟩) (n+1) cap)∧∃y:Array Value,w'.heap[g]?=some (.cells y 80 (0,0))∧y.size=cap * 2 ∧
   y.toList.take ((n+1) * 2)=(cur.toList.take (n * 2)).take (i * 2) ++ ys ++ (cur.toList.take (n * 2)).drop (i * 2)∧Only (fun b=>b=g) w w':=by
 have A0:prog.follows .mixedOrders=true:=aC;have A7:((1:Int) == 0)=false:=aB;have A8:¬((i:Int)=(n:Int)):=aA;have A:cur.toList.length=cap * 2:=by simpa using C
 obtain⟨i0,U,B9,V,C0⟩:=info_parts fK;have D:(prog.info? 80).map (·.size)=some 2:=by rw[U];simp[V]
 have L:w.shape? vb=some (80,2):=by simp[PT,z,p]
 have M:w.shape? g=some (80,cap * 2):=by simp[PT,K,C]
 have A1:∀o lb cb,(callFunc 196 #[.slice (some ⟨vb,0,none⟩) 1 1,.slice (some ⟨g,o,none⟩) lb cb]).run prog w=.ok (.value (.bool false)) w:=fun o lb cb=>by
  rw[run_callFunc_extern func196 aC aC aC (e:=Extern.SlicesOverlaps.overlaps #[22,22] #[4]) aC,
   Lib.run_overlaps_apart w 22 4 80 underlying22 2 (fun w=>by simp[Go.sizeOf,typeInfo,U,V]) ⟨vb,0,none⟩ ⟨g,o,none⟩ 1 1 lb cb Y 80 80 2 (cap * 2) L M aA (by simp[PS,z]) (by simp[PS,z])]
  rfl
 obtain⟨E,s⟩:=aH ((cur.toList.take (n * 2)).drop (i * 2));have r:E.length=(n-i) * 2:=by rw[s,PX,PU,A];omega
 have N:∀u∈E,u.oneCell'=true:=fun u hu=>h1 u (by rw[s]at hu;exact QC hu);have O:∀j u,E[j]?=some u→cur[i * 2+j]?=some u:=fun j u J=>by
  rw[s,QG,QF]at J;split at J
  ·simpa[Nat.mul_one]using J
  cases J
 obtain⟨l,Z⟩:=aH ((cur.toList.take ((i+1) * 2) ++ E ++ cur.toList.drop ((i+1) * 2+E.length)).toArray);have F:l.size=cap * 2:=by rw[Z];simp only[PY,PV,PU,PX,A,r];omega
 obtain⟨m,e2⟩:=aH ((l.toList.take (i * 2) ++ ys ++ l.toList.drop (i * 2+ys.length)).toArray);have P:m.size=cap * 2:=by rw[e2];simp only[PY,PV,PU,PX,PC,F,p];omega
 have Q:m.toList.take ((n+1) * 2)=(cur.toList.take (n * 2)).take (i * 2) ++ ys ++ (cur.toList.take (n * 2)).drop (i * 2):=by
  rw[e2,Z,r,p,s];have:=sF cur.toList ys (i * 2) 2 (n * 2) aA p (by rw[A];omega);rw[show n * 2-(i * 2)=(n-i) * 2 by omega,show i * 2+2=(i+1) * 2 by omega]at this;rw[show i * 2=i * 2 by omega,show i * 2+2=(i+1) * 2 by omega];rw[show(n+1) * 2=n * 2+2 by omega];exact this
 have A2:=aI Q;have A3:=aI P;have R:∀(W:World),W.heap=w.heap→∀H I sc,(PH #[23,23] H #[.slice (some ⟨g,(i+1) * 2,none⟩) (n-i) I,.slice (some ⟨g,i * 2,none⟩) (n+1-i) sc]).run prog W=.ok (goInt (n-i:Nat)) (W.setRow g l):=fun W B H I sc=>by
  rw[cK W 23 23 H 80 g ((i+1) * 2) (n-i) I ⟨g,i * 2,none⟩ (n+1-i) sc cur 80 E 2 (n-i) underlying23 D (by rw[B];exact K) (by simp only[QJ];split<;>omega) r
   (fun j u J=>by
     have ea:(⟨g,i * 2,none⟩:Addr).add j=⟨g,i * 2+j,none⟩:=by unfold Addr.add;split<;>simp_all
     have:=O j u J;rw[ea];simp[PQ,B,K,this]) (by rw[r,C];omega) N,Z]
 have G:∀(W:World),W.heap=w.heap→(W.setRow g l).heap[g]?=some (.cells l 80 (0,0)):=fun W B=>setRow_heap W g cur l 80 (0,0) (by rw[B];exact K);have S:∀(W:World),W.heap=w.heap→(W.setRow g l).heap[vb]?=some (.cells ys.toArray 80 (0,0)):=fun W B=>(setRow_other W g vb l Y).trans (by rw[B];exact z);have T:∀(W W0:World),W0.heap=w.heap→W.heap=(W0.setRow g l).heap→∀H I,(PH #[23,22] H #[.slice (some ⟨g,i * 2,none⟩) (n+1-i) I,.slice (some ⟨vb,0,none⟩) 1 1]).run prog W=.ok (goInt (1:Nat)) (W.setRow g m):=fun W W0 X B H I=>by
  rw[cK W 23 22 H 80 g (i * 2) (n+1-i) I ⟨vb,0,none⟩ 1 1 l 80 ys 2 1 underlying23 D (by rw[B];exact G W0 X) (by simp only[QJ];split<;>omega) (by rw[p])
   (bW (by rw[B];exact S W0 X)) (by rw[F,p];omega) A6,e2]
 have A9:=T (w.drew.setRow g l) w.drew rfl rfl;have B0:IntKind.i64.wrap ((i:Int)+1)=(i:Int)+1:=by rw[PM];omega
 have B1:IntKind.i64.wrap ((n:Int)+1)=(n:Int)+1:=by rw[PM];omega
 have B2:(0:Int)≤(i:Int)+1:=aA;have B3:i≤n:=aA;have B4:((i:Int)+1).toNat=i+1:=aA;have B5:((n:Int)+1).toNat=n+1:=aA;have B6:¬(cap=i+1):=aA;have B7:(i:Int)≤(n:Int)+1:=aA;have B8:¬(cap=i):=aA;have HG:=aI K;have A4:=aI G;clear Z e2 Q P O N h1 r s F A C K z L M S G;go_enter func140,ntmps140;go_wp2_with(simp only[A1]);go_region_law_o (refine gZ rfl _ _ 23 23 rfl (.slice (some ⟨g,(i+1) * 2,none⟩) (n-i) (cap-(i+1))) (.slice (some ⟨g,i * 2,none⟩) (n+1-i) (cap-i)) (by simp[PE,PF]) (by simp[PE,PF]) (R w.drew rfl 3 (cap-(i+1)) (cap-i)) ?_);go_wp2;go_ret;refine⟨rfl,m,setRow_heap _ g l m _ _ (A4 _ rfl),A3,A2,?_⟩;exact(((Only.refl (fun b=>b=g) w).drew.setRow (.inl rfl) l)).setRow (.inl rfl) m
theorem zH(g n i:Nat)(cur:Array Value)(vb:Nat)(ys:List Value)(w:World)(hi:i<n)(hn:n≤4000000000)(hg:w.heap[g]?=some (.cells cur 80 (0,0)))(H:cur.size=n * 2)
  (h1:∀u∈cur.toList,u.oneCell'=true) (C2:∀u∈ys,u.oneCell'=true) (A:ys.length=2) (V:w.heap[vb]?=some (.cells ys.toArray 80 (0,0))) :
  Calls prog 140 #[.slice (some ⟨g,0,none⟩) n n,.int .i64 i,.slice (some ⟨vb,0,none⟩) 1 1] w fun e w'=>∃(G:Nat) (B:Array Value),e=.returned (.slice (some ⟨w.heap.size,0,none⟩) (n+1) G)∧w'.heap[w.heap.size]?=some (.cells B 80 (0,0))∧n+1≤G∧G≤maxLen∧B.size=G * 2 ∧
   B.toList.take ((n+1) * 2)=cur.toList.take (i * 2) ++ ys ++ cur.toList.drop (i * 2)∧Below w.heap.size w w':=by
 have B1:prog.follows .mixedOrders=true:=aC;have C5:((1:Int) == 0)=false:=aB;have C6:¬((i:Int)=(n:Int)):=aA;have C7:(n:Int)<(n:Int)+1:=aA;have C:cur.toList.length=n * 2:=by simpa using H
 obtain⟨i0,A7,C1,A8,A9⟩:=info_parts fK;have I:(prog.info? 80).map (·.size)=some 2:=by rw[A7];simp[A8]
 have B2:=aO hg;have B3:=aO V;have X:(n:Int)+1-(i:Int)=((n+1-i:Nat):Int):=aA;have O:i+(n+1-i)=n+1:=aA;have J:(PJ i0.size i (.slice (some ⟨g,0,none⟩) i n)).run prog w.drew=.ok (cur.toList.take (i * 2)).toArray w.drew:=by
  rw[A8];exact run_firstCells_some w.drew 2 i ⟨g,0,none⟩ i n (cur.toList.take (i * 2)) (by rw[PU,C];omega) (fun j u E=>by
   have ea:(⟨g,0,none⟩:Addr).add j=⟨g,0+j,none⟩:=by unfold Addr.add;split<;>simp_all
   rw[ea];rw[QF]at E;split at E
   ·have B4:w.drew.heap[g]?=some (.cells cur 80 (0,0)):=hg;simpa[PQ,B4]using E
   cases E)
 have P:∀z,(PI #[23,3] z #[.slice (some ⟨g,0,none⟩) i n,.int .i64 ((n:Int)+1-(i:Int))]).run prog w =
   .ok (.slice (some ⟨w.heap.size,0,none⟩) (n+1) (grownCap w (n+1) n 80)) (w.drew.alloc (.cells ((cur.toList.take (i * 2)).toArray ++ PG (PO #[.slice none 0 0,.slice none 0 0]).cells (n+1-i) ++ PG (PO #[.slice none 0 0,.slice none 0 0]).cells (grownCap w (n+1) n 80-(n+1))) 80)):=fun z=>by
  have h:=Lib.run_append_grow_zeros w 23 3 z 80 i0 _ .i64 .i64 underlying23 underlying3 A7 C1 (some ⟨g,0,none⟩) i n (cur.toList.take (i * 2)) J (n+1-i) aA aA aA aA (by rw[A9];omega) (by rw[A9,O];exact growslice_fits aA aA);rw[O]at h;rw[X];exact h
 obtain⟨G,hG⟩:=aH (grownCap w (n+1) n 80);obtain⟨m,r⟩:=aH ((cur.toList.take (i * 2)).toArray ++ PG (PO #[.slice none 0 0,.slice none 0 0]).cells (n+1-i) ++ PG (PO #[.slice none 0 0,.slice none 0 0]).cells (G-(n+1)):Array Value);rw[← hG]at P;rw[← r]at P;have B5:n+1≤G:=by rw[hG];exact grownCap_ge w _ _ _
 have Q:G≤maxLen:=by
  rw[hG];exact grownCap_le_maxLen w (n+1) n 80 (by unfold maxLen;omega)
 have C3:G≤9223372036854775807:=by unfold maxLen at Q;omega
 have D:m.size=G * 2:=by
  rw[r];simp[PG,Value.cells,H];omega
 have Y:m.toList.take (i * 2)=cur.toList.take (i * 2):=by
  rw[r,PD,PD,QA,QB (by simp[H];omega)];exact jH _ (QK _)
 obtain⟨l,eA⟩:=aH ((m.toList.take (i * 2) ++ ys ++ m.toList.drop (i * 2+ys.length)).toArray);have R:l.size=G * 2:=by rw[eA];simp only[PY,PV,PU,PX,PC,D,A];omega
 obtain⟨M,y⟩:=aH (cur.toList.drop (i * 2));have s:M.length=(n-i) * 2:=by rw[y,PX,C];omega
 have Z:∀u∈M,u.oneCell'=true:=fun u hu=>h1 u (by rw[y]at hu;exact QC hu);have A0:∀j u,M[j]?=some u→cur[i * 2+j]?=some u:=fun j u E=>by
  rw[y,QG]at E;simpa using E
 obtain⟨p,eB⟩:=aH ((l.toList.take ((i+1) * 2) ++ M ++ l.toList.drop ((i+1) * 2+M.length)).toArray);have A1:p.size=G * 2:=by rw[eB];simp only[PY,PV,PU,PX,PC,R,s];omega
 have A2:p.toList.take ((n+1) * 2)=cur.toList.take (i * 2) ++ ys ++ cur.toList.drop (i * 2):=by
  have e1:l.toList.take ((i+1) * 2)=cur.toList.take (i * 2) ++ ys:=by
   rw[eA,← Y];exact QE (by simp only[PV,PU,PC,D,A];omega)
  rw[eB,e1,show i * 2=i * 2 by omega,← y];exact QE (by simp only[PV,PU,C,A,s];omega)
 have B6:=aI A2;have B7:=aI A1;obtain⟨N,eN⟩:=aH w.heap.size;have S:(w.alloc (.cells m 80)).heap[w.heap.size]?=some (.cells m 80 (0,0)):=aK _ _ rfl;have A3:(w.alloc (.cells m 80)).heap[g]?=some (.cells cur 80 (0,0)):=aT _ _ B2 hg;have A4:(w.alloc (.cells m 80)).heap[vb]?=some (.cells ys.toArray 80 (0,0)):=aT _ _ B3 V;have K:∀(W:World),W.heap=(w.alloc (.cells m 80)).heap→∀z U,(PH #[23,22] z #[.slice (some ⟨w.heap.size,i * 2,none⟩) (n+1-i) U,.slice (some ⟨vb,0,none⟩) 1 1]).run prog W=.ok (goInt (1:Nat)) (W.setRow w.heap.size l):=fun W F z U=>by
  rw[cK W 23 22 z 80 w.heap.size (i * 2) (n+1-i) U ⟨vb,0,none⟩ 1 1 m 80 ys 2 1 underlying23 I (by rw[F];exact S) (by simp only[QJ];split<;>omega) (by rw[A])
   (bW (by rw[F];exact A4)) (by rw[D,A];omega) C2,eA]
 have T:∀(W:World),W.heap=(w.alloc (.cells m 80)).heap→(W.setRow w.heap.size l).heap[w.heap.size]?=some (.cells l 80 (0,0)):=fun W F=>setRow_heap W _ m l 80 (0,0) (by rw[F];exact S);have A5:∀(W:World),W.heap=(w.alloc (.cells m 80)).heap→(W.setRow w.heap.size l).heap[g]?=some (.cells cur 80 (0,0)):=fun W F=>(setRow_other W _ g l aA).trans (by rw[F];exact A3);have L:∀(W W0:World),W0.heap=(w.alloc (.cells m 80)).heap→W.heap=(W0.setRow w.heap.size l).heap→∀z U sc,(PH #[23,23] z #[.slice (some ⟨w.heap.size,(i+1) * 2,none⟩) (n-i) U,.slice (some ⟨g,i * 2,none⟩) (n-i) sc]).run prog W=.ok (goInt (n-i:Nat)) (W.setRow w.heap.size p):=fun W W0 B0 F z U sc=>by
  rw[cK W 23 23 z 80 w.heap.size ((i+1) * 2) (n-i) U ⟨g,i * 2,none⟩ (n-i) sc l 80 M 2 (n-i) underlying23 I (by rw[F];exact T W0 B0) (by simp only[QJ];split<;>omega) s
   (fun j u E=>by
     have ea:(⟨g,i * 2,none⟩:Addr).add j=⟨g,i * 2+j,none⟩:=by unfold Addr.add;split<;>simp_all
     have:=A0 j u E;have A6:=A5 W0 B0;rw[← F]at A6;rw[ea];simp[PQ,A6,this]) (by rw[s,R];omega) Z,eB]
 have C8:=K ((w.alloc (.cells m 80)).drew) rfl;have B8:=L ((((w.alloc (.cells m 80)).drew.setRow w.heap.size l)).drew) ((w.alloc (.cells m 80)).drew) rfl rfl;have C9:IntKind.i64.wrap ((i:Int)+1)=(i:Int)+1:=by rw[PM];omega
 have D0:IntKind.i64.wrap ((n:Int)+1)=(n:Int)+1:=by rw[PM];omega
 have D1:IntKind.i64.wrap ((n:Int)+1-i)=(n:Int)+1-i:=by rw[PM];omega
 have D2:(0:Int)≤(i:Int)+1:=aA;have D3:i≤n:=aA;have D4:((i:Int)+1).toNat=i+1:=aA;have D5:¬(G=i):=aA;have C4:¬(G=i+1):=aA;have D6:¬(n=i):=aA;have D7:(i:Int)≤(n:Int):=aA;have HG:=aI B5;have B9:=aI Q;have C0:=aI T;clear X O J r hG D eN Y eA R y s Z A0 eB A1 A2 S A3 A4 T A5 Q K L h1 C H hg V;go_enter func140,ntmps140;go_wp2_with(at_builtin;refine Lib.wpList_append_run _ rfl _ _ _ _ rfl _ _ rfl rfl _ _ (P _) ?_);go_region_law_o (refine gZ rfl _ _ 23 23 rfl (.slice (some ⟨w.heap.size,(i+1) * 2,none⟩) (n-i) (G-(i+1))) (.slice (some ⟨g,i * 2,none⟩) (n-i) (n-i)) (by simp[PE,PF]) (by simp[PE,PF]) (B8 3 (G-(i+1)) (n-i)) ?_);go_wp2;go_ret;refine⟨G,p,rfl,setRow_heap _ _ l p _ _ (C0 ((w.alloc (.cells m 80)).drew) rfl),HG,B9,B7,B6,?_⟩;exact(((((Only.refl (fun b=>b=w.heap.size) w).alloc (.cells m 80)).drew.setRow (.inl rfl) l).drew).setRow (.inl rfl) p).below (n:=w.heap.size) (QK _) (fun k hk=>aA)
theorem nK(base n i:Nat)(v:Value)(xs:List Value)(vb:Nat)(ys:List Value)(w:World)(h:w.ownsRow base 80 2 v n xs)(hi:i≤n)(I:n≤4000000000)(m:base≤w.heap.size)(h1:∀u∈xs,u.oneCell'=true)(y:∀u∈ys,u.oneCell'=true)(p:ys.length=2)
  (z:w.heap[vb]?=some (.cells ys.toArray 80 (0,0))) (H:v.ownBlock≠some vb) :
  Calls prog 140 #[v,.int .i64 i,.slice (some ⟨vb,0,none⟩) 1 1] w fun e w'=>∃C,e=.returned C∧w'.ownsRow base 80 2 C (n+1) (xs.take (i * 2) ++ ys ++ xs.drop (i * 2))∧Only (fun b=>v.ownBlock=some b) w w':=by
 have A:=h.1;by_cases e:i=n
 ·subst e;refine(Dl base i v xs vb ys w h I m y p z).mono ?_;rintro e w' ⟨C,rfl,J,B⟩;rw[PZ aA,QH aA,QI];exact⟨C,rfl,J,⟨B.os,B.tape,B.output,B.size,fun k F M=>B.block k F (fun e=>M e.symm)⟩⟩
 rcases h.2 with⟨rfl,rfl⟩ | ⟨g,cap,cur,rfl,hgb,hcells,hnc,hcm,hsz,htk⟩
 ·omega
 have D:vb≠g:=fun e=>H (by rw[e];rfl);by_cases hr:n+1≤cap
 ·refine(yD g cap n i cur vb ys w aA hr (by unfold maxLen at hcm;omega) hcells hsz (by rw[htk];exact h1) y p z D).mono ?_;rintro e w' ⟨rfl,j,r,s,l,ho⟩;rw[htk]at l;refine⟨_,rfl,⟨?_,.inr ⟨g,cap,j,rfl,hgb,r,hr,hcm,s,l⟩⟩,ho.wide fun k F=>by rw[F];rfl⟩;simp only[PV,PU,PX,p,A];omega
 obtain rfl:cap=n:=aA;rw[PZ (by simp[hsz])]at htk;refine(zH g cap i cur vb ys w aA I hcells hsz (by rw[htk];exact h1) y p z).mono ?_;rintro e w' ⟨G,j,rfl,r,K,E,s,l,L⟩;rw[htk]at l;refine⟨_,rfl,⟨?_,.inr ⟨w.heap.size,G,j,rfl,m,r,K,E,s,l⟩⟩,Only.of_below L⟩;simp only[PV,PU,PX,p,A];omega
end Go.Proofs.YtbkkolfpegplgaaGreatDoor
