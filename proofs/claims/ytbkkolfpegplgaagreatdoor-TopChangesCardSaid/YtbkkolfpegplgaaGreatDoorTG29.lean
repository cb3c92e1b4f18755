import Derived.Test.YtbkkolfpegplgaaGreatDoorTG25
import Derived.Test.YtbkkolfpegplgaaGreatDoorTG24
open And renaming intro→PC
open Array renaming replicate_zero→PD,replicate_succ→PE
open Exists renaming intro→PF
open Go.IntWalk renaming i64_in→PG
open Go.RowKit.Below renaming refl→PH
open Go.Value renaming int→PI,slice→PJ
open Go.World renaming cell?→PM,size_alloc→PN
open List renaming getElem?_eq_getElem→PO,getD→PQ,length_take→PS,getElem_mem→PT,length_append→PU,append_toArray→PV,take_succ_eq_append_getElem→PX,size_toArray→PY,push_toArray→PZ,append_assoc→QA,length_drop→QB,length_cons→QC,cons_append→QE,nil_append→QF,map_append→QG,length_nil→QH,length_map→QI,take_append_drop→QJ,length_singleton→QK,length_filter_le→QM,length→QN,range→QP,filter_append→QR,getElem_take→QT,take_length→QU,range_succ→QV,mem_append→QW
open Nat renaming le_refl→QY,zero_le→QZ,lt_or_ge→RA,le_trans→RB,reduceSub→RF,reduceAdd→RH,succ_mul→RI,mul_le_mul_right→RJ,lt_of_lt_of_le→RK
open Option renaming getD_some→RL
open Go.Proofs.Tryz
set_option maxHeartbeats 12800000
set_option maxRecDepth 100000
set_option linter.unusedVariables false
set_option linter.unusedSimpArgs false
namespace Go.Proofs.YtbkkolfpegplgaaGreatDoor
open Go Go.RowKit
theorem Xh(x:Int)(w:World):Calls prog 150 #[.int .u64 x] w fun e w'=>e=.returned (.bool false)∧Below w.heap.size w w':=by
 have b:((x:Int) != x)=false:=aD;go_enter func150,ntmps150;go_wp2;go_ret;exact⟨rfl,PH _ _⟩
theorem Tl(x:Int)(w:World):Calls prog 230 #[.int .u64 x] w fun e w'=>e=.returned (.bool false)∧Below w.heap.size w w':=by
 have b:((x:Int) != x)=false:=aD;go_enter func230,ntmps230;go_wp2;go_ret;exact⟨rfl,PH _ _⟩
theorem Vp(x y:Int)(w:World):Calls prog 229 #[.int .u64 x,.int .u64 y] w fun e w'=>e=.returned (.bool (decide (x<y)))∧Below w.heap.size w w':=by
 have K:=aI (fun W=>Xh x W);go_enter func229,ntmps229;go_wp2_with fail;refine(K _).mono ?_;rintro e l ⟨rfl,j⟩;have b:=aI j;clear j;by_cases h:x<y
 ·go_wp2;go_ret;exact⟨by simp[h],b⟩
 go_wp2;go_ret;exact⟨by simp[h],b⟩
theorem kN{xs:List Int}(h:xs.Pairwise (·<·)){i j:Nat}(b:i<j)(l:j<xs.length):xs.getD i 0<xs.getD j 0:=by
 have:=List.pairwise_iff_getElem.1 h i j aA l b;simpa[PQ,PO (show i<xs.length by omega),PO l]using this
theorem Is(a:Option Addr)(n cap:Nat)(xs:List Int)(x:Int)(w:World)(h:Ints .u64 w a n xs)(hs:xs.Pairwise (·<·))(hn:n≤4000000000) :
  Calls prog 191 #[.slice a n cap,.int .u64 x] w fun e w'=>∃k:Nat,e=.returned (.tuple #[.int .i64 k,.bool (decide (x∈xs))])∧k≤n∧(∀i,i<k→xs.getD i 0<x)∧(∀i,k≤i→i<n→x≤xs.getD i 0)∧Below w.heap.size w w':=by
 have H:=aI h;have L:=aI hs;have B:=aI h.length;clear h hs;go_enter func191,ntmps191;go_wp2;go_loopw [7,8] (fun i j wr=>∃k m:Nat,k≤m∧m≤n∧i=.int .i64 k∧j=.int .i64 m∧(∀i,i<k→xs.getD i 0<x)∧(∀i,m≤i→i<n→x≤xs.getD i 0)∧Below w.heap.size w wr) (fun i j _=>(intOf j).toNat-(intOf i).toNat)
 case atStart=>exact⟨0,n,QZ _,QY _,rfl,rfl,fun i h=>absurd h aA,fun i h h'=>absurd h aA,PH _ _⟩
 obtain⟨k,m,X,s,rfl,rfl,E,F,A⟩:=hrel;have G:=aI A;have l:=aI E;have p:=aI F;clear E F;have i0:(0:Int)≤(k:Int):=aA;by_cases hlt:k<m
 ·obtain⟨d,Y⟩:=aG ((k+m) / 2);have R:d<m:=aA;have N:k≤d:=aA;obtain⟨b,off,rfl,Q,u⟩:=(H.below A).cells d aA;obtain⟨y,z⟩:=aG (xs.getD d 0);rw[z]at u;have I:=aI z;have K:=aI (fun W=>Vp y x W);have T:(k:Int)<(m:Int):=aA;have q0:IntKind.i64.wrap ((k:Int)+m)=(k:Int)+m:=PG _ aA;have q1:IntKind.u64.wrap ((k:Int)+m)=(k:Int)+m:=by rw[IntKind.wrap_u64];omega
  have q2:((k:Int)+m) / 2=d:=aA;have q3:IntKind.u64.wrap (d:Int)=d:=by rw[IntKind.wrap_u64];omega
  have q4:IntKind.i64.wrap (d:Int)=d:=PG _ aA;have q5:(0:Int)≤(d:Int):=aA;have q6:(d:Int)<(n:Int):=aA;have q7:IntKind.i64.wrap ((d:Int)+1)=(d:Int)+1:=PG _ aA;clear z A Y;go_wp2_with fail;refine(K _).mono ?_;rintro e Z ⟨rfl,r⟩;have J:=aI (aN G r);clear r;by_cases hyx:y<x
  ·have O:decide (y<x)=true:=by simp[hyx]
   have P:=aI (show ∀i,i<d+1→xs.getD i 0<x from fun i hi=>by
    rcases RA i d with g | g
    ·have:=kN L g (by rw[B.out];omega);have:=I.out;omega
    obtain rfl:i=d:=aA;have:=I.out;omega)
   rw[O];go_wp2;go_roundw
   case rel=>exact⟨d+1,m,aA,s,by go_num,rfl,P,p,J⟩
   simp[intOf];omega
  have O:decide (y<x)=false:=by simp[hyx]
  have P:=aI (show ∀i,d≤i→i<n→x≤xs.getD i 0 from fun i hi A0=>by
   rcases RA d i with g | g
   ·have:=kN L g (by rw[B.out];omega);have:=I.out;omega
   obtain rfl:i=d:=aA;have:=I.out;omega)
  rw[O];go_wp2;go_roundw
  case rel=>exact⟨k,d,N,aA,rfl,rfl,l,P,J⟩
  simp[intOf];omega
 obtain rfl:k=m:=aA;have no:∀i,i<n→(xs.getD i 0=x→i=k):=fun i hi e=>by
  rcases RA i k with g | g
  ·have:=l.out i g;omega
  rcases RA k i with g' | g'
  ·have h1:=kN L g' (by rw[B.out];omega);have h2:=p.out k (QY _) aA;omega
  omega
 have mem:(x∈xs)↔k<n∧xs.getD k 0=x:=by
  constructor
  ·intro R;obtain⟨i,hi,e⟩:=List.mem_iff_getElem.1 R;have S:xs.getD i 0=x:=by simp[PQ,PO hi,e]
   have U:=B.out;obtain rfl:=no i aA S;exact⟨aA,S⟩
  rintro⟨h1,h2⟩;have U:=B.out;rw[← h2];simp[PQ,PO (show k<xs.length by omega)]
 have C:=aI mem;clear no mem;by_cases hkn:k<n
 ·obtain⟨b,off,rfl,Q,u⟩:=(H.below A).cells k hkn;obtain⟨y,z⟩:=aG (xs.getD k 0);rw[z]at u;have M:=C.out;rw[z]at M;have T:(k:Int)<(n:Int):=aA;clear z A;by_cases hyx:y=x
  ·subst hyx;have D:=aI (show decide (y∈xs)=true from by simp[M.2 ⟨hkn,rfl⟩]);have V:((y:Int) == y)=true:=aD;clear M;go_wp2;go_ret2;exact⟨k,(by rw[D.out];rfl),s,l,p,G⟩
  have D:=aI (show decide (x∈xs)=false from by simp[M,hyx]);have V:((y:Int) == x)=false:=by simp[hyx]
  have K:=aI (fun W=>Tl y W);clear M;go_wp2_with fail;refine(K _).mono ?_;rintro e Z ⟨rfl,r⟩;have J:=aI (aN G r);clear r;go_wp2;go_ret2;exact⟨k,(by rw[D.out];rfl),s,l,p,J⟩
 obtain rfl:k=n:=aA;have D:=aI (show decide (x∈xs)=false from by have M:=C.out;simp[M]);clear A;go_wp2;go_ret2;exact⟨k,(by rw[D.out];rfl),s,l,p,G⟩
theorem yC{xs:List Int}{x:Int}{k:Nat}(hs:xs.Pairwise (·<·))(D:k≤xs.length)(n:∀i,i<k→xs.getD i 0<x)(p:∀i,k≤i→i<xs.length→x≤xs.getD i 0)(C:x ∉ xs) :
  (xs.take k ++ [x] ++ xs.drop k).Pairwise (·<·)∧(∀y,y∈xs.take k ++ [x] ++ xs.drop k↔y=x∨y∈xs):=by
 have h1:∀y∈xs.take k,y<x:=fun y l=>by
  obtain⟨i,hi,e⟩:=List.mem_iff_getElem.1 l;rw[PS]at hi;have:=n i aA;rw[QT]at e;simpa[PQ,PO (show i<xs.length by omega),e]using this
 have h2:∀y∈xs.drop k,x<y:=fun y l=>by
  obtain⟨i,hi,e⟩:=List.mem_iff_getElem.1 l;rw[QB]at hi;have:=p (k+i) aA aA;rw[List.getElem_drop]at e;have s:y∈xs:=List.mem_of_mem_drop l;have u:x≠y:=fun e=>C (by rw[e];exact s);have:x≤y:=by simpa[PQ,PO (show k+i<xs.length by omega),e]using this
  omega
 have j:(xs.take k ++ xs.drop k).Pairwise (·<·):=by rw[QJ];exact hs
 obtain⟨z,A,B⟩:=List.pairwise_append.1 j;refine⟨?_,fun y=>?_⟩
 ·rw[QA];refine List.pairwise_append.2 ⟨z,List.pairwise_cons.2 ⟨h2,A⟩,fun a r b m=>?_⟩;rcases List.mem_cons.1 m with rfl | m
  ·exact h1 a r
  exact B a r b m
 have:y∈xs↔y∈xs.take k∨y∈xs.drop k:=by
  rw[← QW,QJ]
 rw[this];simp only[QW,List.mem_singleton];constructor
 ·rintro((h | h) | h)
  ·exact .inr (.inl h)
  ·exact .inl h
  exact .inr (.inr h)
 rintro(h | h | h)
 ·exact .inl (.inr h)
 ·exact .inl (.inl h)
 exact .inr h
theorem Ts(q base:Nat)(v:Value)(xs:List Int)(x:Int)(w:World)(Q:w.heap[q]?=some (.cells #[v] 210 (0,0)))(h:OwnI w base v xs)(hs:xs.Pairwise (·<·))(hx:aL x)(hn:xs.length≤3900000000)(Y:base≤w.heap.size)(P:x ∉ xs) :
  Calls prog 133 #[.pointer (some ⟨q,0,none⟩),.int .u64 x] w fun e w'=>∃W u,e=.returned (.tuple #[])∧w'.heap[q]?=some (.cells #[W] 210 (0,0))∧OwnI w' base W u∧u.Pairwise (·<·)∧(∀y,y∈u↔y=x∨y∈xs)∧u.length=xs.length+1∧Only (fun b=>b=q∨v.ownBlock=some b) w w':=by
 obtain⟨a,cap,rfl,hI,L⟩:=h.ints aA;have Z:=aI (Is a xs.length cap xs x w hI hs aA);have H:=aI h;have HS:=aI hs;have R:=aI Q;have HX:=aI hx;have S:=aI P;have D:∀k,(PJ a xs.length cap).ownBlock=some k→k≠q:=fun k C e=>by
  obtain⟨cs,l⟩:=aR h.row C;rw[e,Q]at l;injection l with l;injection l with _ l _;exact absurd l aB
 have E:=aI D;have c0:w.cell? ⟨q,0,none⟩=some (.slice a xs.length cap):=by simp[PM,Q]
 have HC:=aI (ints_oneCell .u64 xs);obtain⟨n,en⟩:=aG xs.length;have F:=aI en;rw[en]at Z c0 H R E hn ⊢;clear h hs hx P hI L Q D en;go_enter func133,ntmps133;go_wp2_with fail;refine Z.mono ?_;rintro e M ⟨k,rfl,C,N,O,s⟩;obtain⟨L1,L2⟩:=yC HS (by rw[F.out];exact C) N (fun i h1 h2=>O i h1 (by rw[← F.out];exact h2)) S;have B:=(s.block q (aO R)).trans R;have G:=aI B;have B1:=aI s;have O1:=aI (H.below s);have P1:=aI L1;have P2:=aI L2;have T:=aI C;have c1:M.cell? ⟨q,0,none⟩=some (.slice a n cap):=by simp[PM,B]
 clear N O L1 L2 s B;go_wp2_with fail;have U:=aI (show(M.alloc (.cells #[.int .u64 x] 57)).heap[q]?=some (.cells #[.slice a n cap] 210 (0,0))from aT _ _ (aO G) G);have I:(PJ a n cap).ownBlock≠some M.heap.size:=fun e=>by
  obtain⟨cs,l⟩:=aR O1.row e;exact absurd (aO l) aA
 have A:(M.alloc (.cells #[.int .u64 x] 57)).ownsRow base 57 1 (.slice a n cap) n (xs.map (PI .u64)):=by
  have:=O1.row.alloc (.cells #[.int .u64 x] 57);rw[F.out]at this;exact this
 refine(Hn base n k (.slice a n cap) (xs.map (PI .u64)) M.heap.size [.int .u64 x] _ A T aA (by have:=B1.size;simp<;>omega) HC (one_one x) rfl (aK _ _ rfl) I).mono ?_;rintro e w2 ⟨W,rfl,m,ho⟩;have r:=ho.obj (fun e=>E q e rfl) U;have y0:w2.cell? ⟨q,0,none⟩=some (.slice a n cap):=by simp[PM,r]
 have f0:w2.frozen? ⟨q,0,none⟩=false:=frozen_of_row _ _ 0 _ _ r;obtain⟨av,cv,rfl,_⟩:=aY m;have J:=aI r;have K:=aI m;have V:=aI ho;clear r m ho I A c1;go_wp2;refine bodyPost_end (results_none rfl _ _ _) rfl ?_;refine⟨.slice av (n+1) cv,xs.take k ++ [x] ++ xs.drop k,rfl,heap_setCell_same _ _ 0 _ _ _ J,⟨?_,fun z X=>?_⟩,P1,P2,?_,?_⟩
 ·have e1:(xs.take k ++ [x] ++ xs.drop k).length=n+1:=by
   have:=F.out;have:=T.out;simp only[PU,PS,QB,QK];omega
  have e2:(xs.take k ++ [x] ++ xs.drop k).map (PI .u64)=(xs.map (PI .u64)).take (k * 1) ++ [PI .u64 x] ++ (xs.map (PI .u64)).drop (k * 1):=by
   rw[Nat.mul_one,QG,QG,List.map_take,List.map_drop];rfl
  rw[e1,e2];refine bF K ((Only.refl (fun b=>b=q) w2).setCell (p:=⟨q,0,none⟩) (.inl rfl) _) fun j hj e=>?_;obtain⟨cs,l⟩:=aR K hj;rw[e,J.out]at l;injection l with l;injection l with _ l _;exact absurd l aB
 ·rcases(P2 z).1 X with rfl | X
  ·exact HX
  exact H.words z X
 ·have:=F.out;have:=T.out;simp only[PU,PS,QB,QK];omega
 refine Only.setCell ?_ (p:=⟨q,0,none⟩) (.inl (.inl rfl)) _;exact((Only.of_below B1).alloc _).trans (V.wide fun k C=>.inr C)
structure Xv (g:FuncId) (tk:Bool→Bool→Bool):Prop where
 ent:∀(args:Array Value) (w:World),(callFunc g args).run prog w=.ok (.enter g args) w
 off:tk false false=false
 set:∀(va vb:Value) (zs ys:List Iv) (w:World),RgAt w va zs→RgAt w vb ys→cL zs→cL ys→zs.length+ys.length≤3900000000→Calls prog g #[va,vb] w fun e w'=>Ln w tk zs ys e w'
theorem LH:Xv 81 vO:=⟨fun _ _=>aC,rfl,fun va vb zs ys w h1 h2 h3 h4 b=>zP va vb zs ys w h1 h2 h3 h4 b⟩
theorem LJ:Xv 169 uD:=⟨fun _ _=>aC,rfl,fun va vb zs ys w h1 h2 h3 h4 b=>Ak va vb zs ys w h1 h2 h3 h4 b⟩
def zL (tk:Bool→Bool→Bool) (es fs:List Ent) (r c:Int):Prop:=tk (decide (dN es r c)) (decide (dN fs r c))=true
theorem Kq{tk:Bool→Bool→Bool}(h0:tk false false=false){es b:List Ent}{r c:Int}(h:zL tk es b r c):dN es r c∨dN b r c:=by
 unfold zL at h;by_cases h1:dN es r c
 ·exact .inl h1
 by_cases h2:dN b r c
 ·exact .inr h2
 simp[h1,h2,h0]at h
theorem Hg{tk:Bool→Bool→Bool}(h0:tk false false=false){es b:List Ent}(m:∀e∈es,EntW e)(n:∀e∈b,EntW e){r:Int}{zs ys out:List Iv}(p:∀c,aV zs c↔dN es r c)(s:∀c,aV ys c↔dN b r c)
  (ho:∀x,aV out x↔0≤x∧x<18446744073709551616∧tk (decide (aV zs x)) (decide (aV ys x))=true) (c:Int):aV out c↔zL tk es b r c:=by
 rw[ho];have j:decide (aV zs c)=decide (dN es r c):=by simp[p]
 have l:decide (aV ys c)=decide (dN b r c):=by simp[s]
 rw[j,l];constructor
 ·exact fun h=>h.2.2
 intro h;have:0≤c∧c<18446744073709551616:=by
  rcases Kq h0 h with⟨e,hm,_,h1,h2,_⟩ | ⟨e,hm,_,h1,h2,_⟩
  ·have:=(m e hm).mx.2;omega
  have:=(n e hm).mx.2;omega
 exact⟨this.1,this.2,h⟩
structure LatO (tk:Bool→Bool→Bool) (es fs:List Ent) (A:Nat) (xs:List Int) (k:Nat) (lo:List EV):Prop where
 can:CanW (lo.map (·.1))
 rep:∀e∈lo.map (·.1),e.rep∈xs.take k
 kn:∀r c,dN (lo.map (·.1)) r c↔r∈xs.take k∧zL tk es fs r c
 len:lo.length≤k
 hs:∀p∈lo,p.1.hs.length≤A
theorem LatO.zero(tk:Bool→Bool→Bool)(es b:List Ent)(A:Nat)(xs:List Int):LatO tk es b A xs 0 []:=⟨CanW.nil,aD,fun r c=>⟨fun h=>absurd h (jN r c),fun h=>absurd h.1 aD⟩,QY _,aD⟩
theorem mM{xs:List Int}{k:Nat}(h:k<xs.length)(r:Int):r∈xs.take (k+1)↔r∈xs.take k∨r=xs.getD k 0:=by rw[wM h];simp
theorem LatO.none{tk:Bool→Bool→Bool}{es j:List Ent}{A:Nat}{xs:List Int}{k:Nat}{lo:List EV}(h:LatO tk es j A xs k lo)(l:k<xs.length)(n:∀c,¬zL tk es j (xs.getD k 0) c):LatO tk es j A xs (k+1) lo:=
 ⟨h.can,fun e m=>(mM l _).2 (.inl (h.rep e m)),fun r c=>by
  rw[h.kn,mM l];constructor
  ·rintro⟨a,b⟩;exact⟨.inl a,b⟩
  rintro⟨a | a,b⟩
  ·exact⟨a,b⟩
  rw[a]at b;exact absurd b (n c),by have:=h.len;omega,h.hs⟩
theorem LatO.snoc{tk:Bool→Bool→Bool}{es y:List Ent}{A:Nat}{xs:List Int}{k:Nat}{lo:List EV}(h:LatO tk es y A xs k lo)(n:k<xs.length)(D:xs.Pairwise (·<·)){en:Ent}{hv:Value}(E:en.rep=xs.getD k 0)(F:EntW en)(G:EntC en)(z:∀c,rH en c↔zL tk es y (xs.getD k 0) c)(H:en.hs.length≤A):LatO tk es y A xs (k+1) (lo ++ [(en,hv)]):=by
 have s:∀f∈lo.map (·.1),f.rep<en.rep:=fun f C=>by
  have B:=h.rep f C;obtain⟨i,hi,e⟩:=List.mem_iff_getElem.1 B;rw[PS]at hi;have:=kN D (i:=i) (j:=k) aA n;rw[QT]at e;have I:xs.getD i 0=f.rep:=by simp[PQ,PO (show i<xs.length by omega),e]
  omega
 have u:(lo ++ [(en,hv)]).map (·.1)=lo.map (·.1) ++ [en]:=aD;refine⟨by rw[u];exact h.can.snoc G F s,fun e l=>?_,fun r c=>?_,by have:=h.len;simp;omega,fun p m=>?_⟩
 ·rw[u]at l;rcases List.mem_append.1 l with l | l
  ·exact(mM n _).2 (.inl (h.rep e l))
  obtain rfl:e=en:=by simpa using l
  exact(mM n _).2 (.inr E)
 ·rw[u,xX,h.kn,mM n];constructor
  ·rintro(⟨a,b⟩ | ⟨a,b⟩)
   ·exact⟨.inl a,b⟩
   have e:r=xs.getD k 0:=aA;exact⟨.inr e,by rw[e];exact(z c).1 b⟩
  rintro⟨a | a,b⟩
  ·exact .inl ⟨a,b⟩
  refine .inr ⟨aA,(z c).2 ?_⟩;rw[a]at b;exact b
 rcases List.mem_append.1 m with m | m
 ·exact h.hs p m
 obtain rfl:p=(en,hv):=by simpa using m
 exact H
def HolB (base:Nat) (l:List EV):Prop:=∀p∈l,∀k,p.2.ownBlock=some k→base≤k
theorem HolB.mono{base base':Nat}{l:List EV}(h:HolB base l)(m:base'≤base):HolB base' l:=fun p b k j=>RB m (h p b k j)
theorem HolB.snoc{base:Nat}{l:List EV}{p:EV}(h:HolB base l)(j:∀k,p.2.ownBlock=some k→base≤k):HolB base (l ++ [p]):=fun q b=>by
 rcases List.mem_append.1 b with b | b
 ·exact h q b
 obtain rfl:q=p:=by simpa using b
 exact j
theorem RowF.onlyB{w w':World}{base:Nat}{v:Value}{l:List EV}{may:Nat→Prop}(h:RowF w base v l)(A:HolB base l)(ho:Only may w w')(r:∀k,may k→k<base):RowF w' base v l:=
 ⟨bF h.row ho (fun k j z=>by have:=(h.row.lt k j).1;have:=r k z;omega),fun p n=>by
  obtain⟨a,cap,hv,h1,h2,h3,h4⟩:=h.fins p n;have m:∀ad,a=some ad→¬may ad.block:=fun ad e j=>by
   have:=A p n ad.block (by rw[hv,e];rfl);have:=r _ j;omega
  refine⟨a,cap,hv,h1.only ho (fun b off e=>m _ e),h2,h3,fun ad e=>?_⟩;obtain⟨s,u,y⟩:=h4 ad e;exact⟨RK s ho.size,u,ho.obj (m ad e) y⟩,h.words⟩
theorem Nd(g:FuncId)(tk:Bool→Bool→Bool)(hg:Xv g tk)(a:Option Addr)(len cap:Nat)(l:List EV)(a':Option Addr)(len' A4:Nat)(l':List EV)(A B:Nat)(w:World)(hE:EntsAt w a len l)(C1:EntsAt w a' len' l')(hR:bY (l.map (·.1)))(I0:bY (l'.map (·.1)))
  (hs:∀p∈l,p.1.hs.length≤A) (I1:∀p∈l',p.1.hs.length≤B) (L5:A+B≤3000000000) (I2:len≤1000000000) (C2:len'≤1000000000) :
  Calls prog 80 #[.slice a len cap,.slice a' len' A4,.func (.func g) #[] #[]] w fun e w'=>∃v lo,e=.returned v∧RowF w' w.heap.size v lo∧HolB w.heap.size lo∧CanW (lo.map (·.1))∧(∀r c,dN (lo.map (·.1)) r c↔zL tk (l.map (·.1)) (l'.map (·.1)) r c)∧lo.length≤len+len'∧(∀p∈lo,p.1.hs.length≤A+B+3)∧Below w.heap.size w w':=by
 obtain⟨i0,hi,J7,J8,J9⟩:=info_parts iK;have KP:=aI (Uy a len cap l a' len' A4 l' A B w hE C1 hR I0 hs I1 aA aA I2 C2);have C3:∀e∈l.map (·.1),EntW e:=fun e he=>by
  obtain⟨p,hp,rfl⟩:=List.mem_map.1 he;exact hE.words p hp
 have X:∀e∈l'.map (·.1),EntW e:=fun e he=>by
  obtain⟨p,hp,rfl⟩:=List.mem_map.1 he;exact C1.words p hp
 have WE:=aI C3;have A5:=aI X;generalize l.map (·.1)=es at KP WE ⊢;generalize l'.map (·.1)=fs at KP A5 ⊢;have K4:=hg.ent;have HG:=aI hg;clear hE C1 hR I0 hs I1 C3 X hg;go_enter func80,ntmps80;go_wp2_with fail;refine KP.mono ?_;rintro e w1 ⟨M,f,rfl,L1,hM,hP,E5⟩;have HM:=aI hM;have HP:=aI hP;have B1:=aI E5;have K5:=hM.lt;clear hM hP E5;go_wp2_with(at_range;refine jU _ rfl _ 207 212 rfl underlying207 M (len+len') f rfl (HM.below (aJ (PH _ _) _)) ?_;intro w2 H2 H3 S C0 H4);go_frame;obtain⟨R,eR⟩:=aG w1.heap.size;have e1:(w1.alloc (.cells #[.slice none 0 0] 210)).heap.size=R+1:=by simp[eR]
 have q0:w2.heap[R]?=some (.cells #[.slice none 0 0] 210 (0,0)):=(C0.block R aA aD).trans (by rw[← eR];exact aK _ _ rfl);have B2:=aI (show Below R w1 w2 from by
  rw[← eR];exact(aJ (PH w1.heap.size w1) (.cells #[.slice none 0 0] 210)).grown C0 aD (fun j hj=>by cases hj))
 rw[e1]at S H4 ⊢;have ER:=aI eR;rw[eR];have K6:M<R:=aA;clear e1 eR C0;go_loopw [20] (fun _ wr=>∃(left:Int→Bool) (C:Nat) (v:Value) (xs:List Int),RangeR wr M (R+1) (len+len') f left C∧wr.heap[R]?=some (.cells #[v] 210 (0,0))∧OwnI wr (R+2) v xs∧xs.Pairwise (·<·)∧(∀y,aL y→(y∈xs↔(f y).isSome=true∧left y=false))∧xs.length+C≤len+len'∧Below R w1 wr)
  (fun _ wr=>wr.rangeLeft M (R+1))
 case atStart=>
  exact⟨_,H2,_,[],S,q0,OwnI.nil _ _,List.Pairwise.nil,(fun y _=>⟨fun h=>(by cases h),fun h=>(by have h1:=h.1;have h2:=h.2;rw[h1]at h2;cases h2)⟩),by simp;exact H3,B2⟩
 obtain⟨left,C,v,xs,E6,hq,hO,E7,A2,L2,U⟩:=hrel;have I:=aI E6;have HQ:=aI hq;have HO:=aI hO;have C4:=aI E7;have G:=aI A2;have HB:=aI U;clear E6 hq hO E7 A2 U q0 S H4;go_wp2_with(at_next;refine lP _ rfl _ rfl M (R+1) (len+len') f left C rfl I ?_ ?_)
 ·intro K3 H5;have I3:=aI (show ∀y,aL y→(y∈xs↔(f y).isSome=true)from fun y hy=>by
   rw[G.out y hy,H5 y hy];simp)
  obtain⟨ax,cx,rfl,hI,_⟩:=HO.ints aA;have WX:=aI HO.words;obtain⟨N,eN⟩:=aG xs.length;have EN:=aI eN;have HI:=aI hI;have y0:wr.cell? ⟨R,0,none⟩=some (.slice ax N cx):=by rw[← eN];simp[PM,HQ.out]
  have C5:=aI I.map;have I4:N≤len+len':=aA;rw[eN]at HI;have C6:=aI (HP.below (HB.mono (by have:=ER.out;omega)));have C7:=aI HB;have J:=aI (show w.heap.size≤wr.heap.size from by have:=B1.size;have:=ER.out;have:=HB.size;omega);clear H5 hI eN HQ HO I G K3;go_wp2;clear y0;obtain⟨WR,E8⟩:=aG wr;rw[E8]at HI C5 C6 C7 J ⊢;clear E8;obtain⟨S0,A8⟩:=aG WR.heap.size;rw[A8]at J;have H:=aI A8;clear A8;go_loopw [10,29] (fun o c wq=>∃(k:Nat) (lo:List EV),k≤N∧c=.int .i64 k∧LatO tk es fs (A+B+3) xs k lo∧RowF wq S0 o lo∧HolB S0 lo∧Below S0 WR wq) (fun _ c _=>N-(intOf c).toNat)
  case atStart=>exact⟨0,[],QZ _,rfl,LatO.zero _ _ _ _ _,RowF.nil _ _,(fun p hp=>by cases hp),PH _ _⟩
  obtain⟨k,lo,D,rfl,hL,hF,E9,A9⟩:=hrel;have A6:=aI E9;have U:Below WR.heap.size WR wr:=by rw[H.out];exact A9
  have Y:=aI hL;have HF:=aI hF;have C8:=aI A9;have I5:=aI U;have K7:(0:Int)≤(k:Int):=aA;clear hL hF A9 E9;by_cases hlt:k<N
  ·have i1:(k:Int)<(N:Int):=aA;obtain⟨b,off,rfl,K1,K2⟩:=(HI.below U).cells k hlt;have K:k<xs.length:=by rw[EN.out];exact hlt
   have L:xs.getD k 0∈xs:=by
    simp only[PQ,PO K,RL];exact PT K
   have z:aL (xs.getD k 0):=WX.out _ L;obtain⟨_,va,vb,hv,⟨zs,F0,F1,F2,F6⟩,⟨ys,F7,F8,F9,G0⟩⟩:=(C6.below U) _ z;have I6:=aI (HG.set va vb zs ys wr F0 F7 F1 F8 aA);have C9:=aI (fun out ho c=>Hg (tk:=tk) HG.off WE A5 (r:=xs.getD k 0) (zs:=zs) (ys:=ys) (out:=out) F2 F9 ho c);have D0:=aI (fun hn=>Y.none K hn);have D1:=aI (fun(en:Ent) (hv:Value) hr hw hc hn hl=>Y.snoc K C4 (en:=en) (hv:=hv) hr hw hc hn hl);obtain⟨x,ex⟩:=aG (xs.getD k 0);rw[ex]at K2 z hv C9 D0 D1;have K8:(Instr.lookup 207 (.map (some M)) (.int .u64 x) false).run prog wr=.ok (.agg #[va,vb]) wr:=by
    rw[(C5.below U).look underlying207 (qI _) z,hv]
   have K9:∀W:World,(Instr.index 212 (.agg #[va,vb]) (.int .i64 0)).run prog W=.ok va W:=fun W=>by rfl
   have L0:∀W:World,(Instr.index 212 (.agg #[va,vb]) (.int .i64 1)).run prog W=.ok vb W:=fun W=>by rfl
   have D2:=aI z;have D3:=aI (PC F6 G0);have D4:=aI Y.len;clear ex L K hv F0 F1 F2 F6 F7 F8 F9 G0 K1 U z;go_wp2_with fail;refine I6.mono ?_;rintro e w3 ⟨⟨v,out,rfl,hO,B0,B6,B7⟩,O⟩;have B3:=aI (aN I5 O);have F3:=aI (HF.only (may:=fun _=>False) (Only.of_below O) (fun _ h=>h.elim));have V:=C9.out out B6;by_cases hn0:out=[]
   ·subst hn0;obtain⟨av,cv,rfl,_,_,_⟩:=hO.prs;have NX:=aI (D0 (fun c h=>cY c ((V c).2 h)));have K0:=aI (fun W=>Zj x av cv W);clear hO B0 B6 B7 O V;go_wp2_with fail;refine(K0 _).mono ?_;rintro e w4 ⟨rfl,E⟩;have B4:=aI (aN B3 E);have F4:=aI (F3.only (may:=fun _=>False) (Only.of_below E) (fun _ h=>h.elim));clear E;go_wp2;go_roundw
    case rel=>
     exact⟨k+1,lo,aA,aD,NX,F4.only (may:=fun _=>False) (Only.of_below (aJ (PH _ _) _)) (fun _ h=>h.elim),A6,by rw[← H.out];exact aJ B4 _⟩
    simp[intOf];omega
   have KO:=aI (Mp x v out w3 hO.rg B0 D2 hn0 (by have:=D3.out;omega));have D5:=aI B7;obtain⟨av,cv,rfl,_,_,_⟩:=hO.prs;have I7:=aI V;have I8:=aI O.size;have I9:=aI (show S0≤wr.heap.size from by have:=C8.size;have:=H.out;omega);clear hO B0 B6 B7 O V hn0;obtain⟨m0,G2⟩:=aG out.length;rw[G2]at KO D5 ⊢;clear G2;go_wp2_with fail;refine KO.mono ?_;rintro e w4 ⟨en,hv,rfl,P,Q,B8,G3,G4,G5,E⟩;have B4:=aI (aN B3 E);have F4:=aI (F3.only (may:=fun _=>False) (Only.of_below E) (fun _ h=>h.elim));have NX:=aI (D1 en hv P B8 G3 (fun c=>(G4 c).trans (I7 c)) (by have:=D5.out;have:=D3.out;omega));obtain⟨rp,mx,hs⟩:=en;simp only at P Q G5;subst P;obtain⟨ah,ch,rfl,_,_,_⟩:=Q.prs;have OH:=aI (show OwnL w4 S0 123 (.slice ah hs.length ch) hs from⟨bC Q.row (RB I9 I8),Q.words⟩);have EW:=aI B8;clear Q B8 G3 G4 G5 E;obtain⟨m,em⟩:=aG hs.length;rw[em]at OH NX ⊢;clear em;obtain⟨ao,co,rfl,_⟩:=aY F4.row;go_wp2_with(at_builtin;go_loud(refine wpList_append_own_at _ rfl _ _ 76 rfl S0 96 i0 (.agg #[.int .u64 0,.int .u64 0,.slice none 0 0]) 3 40 underlying76 hi J7 J8 J9 rfl aB _ _ _ rfl ((F4.row.alloc _).alloc _) ⟨w4.heap.size+1,0,none⟩ 1 1 [.int .u64 rp,.int .u64 mx,.slice ah m ch] rfl rfl ?z1 ?z2 ?z3 ?z4 ?z5 ?_))
   case z1=>exact iI (aK _ _ aD)
   case z2=>intro u hu;simp at hu;rcases hu with rfl | rfl | rfl<;>rfl
   case z3=>have:=D4.out;unfold maxLen;omega
   case z4=>have:=D4.out;omega
   case z5=>have:=B4.size;have:=H.out;simp;omega
   intro v' w5 A3 F _ _;have F5:=aI (RowF.push (e:=⟨rp,mx,hs⟩) (o:=.cells #[.int .u64 rp,.int .u64 mx,.slice ah m ch] 96) (F4.only (may:=fun _=>False) (Only.of_below (aJ (PH w4.heap.size w4) (.cells #[.int .u64 rp,.int .u64 mx,.slice ah m ch] 96))) (fun _ h=>h.elim))
    (⟨bF OH.row ((Only.refl (fun _=>False) w4).alloc _) (fun _ _ h=>h),OH.words⟩) EW A3 F)
   have B5:=aI ((aN B4 (aJ (aJ (PH w4.heap.size w4) (.cells #[.int .u64 rp,.int .u64 mx,.slice ah m ch] 96)) (.cells #[.int .u64 rp,.int .u64 mx,.slice ah m ch] 96))).grown F (by have:=B4.size;simp<;>omega) (fun q hq=>by have:=(F4.row.lt q hq).1;have:=H.out;omega));clear A3 F;go_wp2;go_roundw
   case rel=>
    have s:∃(k':Nat) (lo:List EV),k'≤N∧(.int .i64 ((k:Int)+1):Value)=.int .i64 k'∧LatO tk es fs (A+B+3) xs k' lo∧RowF w5 S0 v' lo∧HolB S0 lo∧Below S0 WR w5:=⟨k+1,_,aA,aD,NX,F5,A6.snoc (fun k D=>(OH.row.lt k D).1),by rw[← H.out];exact B5⟩;first | exact s | ((repeat apply PF);exact⟨s,rfl⟩)
   simp[intOf];omega
  obtain rfl:N=k:=aA;have D6:=aI (show ∀r c,dN (lo.map (·.1)) r c↔zL tk es fs r c from fun r c=>by
   rw[Y.kn,List.take_of_length_le (by rw[EN.out];exact QY _)];constructor
   ·exact fun h=>h.2
   intro h;refine⟨?_,h⟩;have D7:(∃e∈es,e.rep=r)∨(∃e∈fs,e.rep=r):=by
    rcases Kq HG.off h with⟨e,h1,h2,_⟩ | ⟨e,h1,h2,_⟩
    ·exact .inl ⟨e,h1,h2⟩
    exact .inr ⟨e,h1,h2⟩
   have D8:aL r:=by
    rcases D7 with⟨e,h1,h2⟩ | ⟨e,h1,h2⟩
    ·rw[← h2];exact(WE e h1).rep
    rw[← h2];exact(A5 e h1).rep
   exact(I3 r D8).2 (((HP r D8).1).2 D7))
  have Z:=aI Y.can;have A0:=aI (RB Y.len I4);have D9:=aI Y.hs;have BE:=aI ((B1.trans (C7.mono (by have:=ER.out;have:=B1.size;omega))).trans (C8.mono J));have FE:=aI (HF.base J);have HE:=aI (A6.mono J);clear Y U;go_wp2;go_ret
  first | exact⟨_,rfl,lo,FE,HE,Z,D6,A0,D9,BE⟩ | exact⟨_,lo,rfl,FE,HE,Z,D6,A0,D9,BE⟩
 intro x c w3 H6 z H7 H8 T hlt H9 L3 L4;have g1:Only (fun k=>k=R+1) wr w3:=(Only.refl (fun k=>k=R+1) wr).grown H9 (fun k D=>by injection D with D;exact D.symm);have E0:=g1.obj aA HQ;have E1:=HO.keep g1 (fun k D=>aA);have E2:x ∉ xs:=fun hm=>by
  have:=((G x z).1 hm).2;rw[H7]at this
  cases this
 have E3:∀k,v.ownBlock=some k→R+2≤k:=fun k D=>(HO.row.lt k D).1;have KA:=aI (Ts R (R+2) v xs x w3 E0 E1 C4 z aA (by have:=T.lt;omega) E2);have A1:=aI T;have A7:=aI E3;have G1:=aI g1;have D2:=aI z;have J0:=aI H8;clear T H9 g1 E0 E1 E2 E3 z H8 H7;go_wp2_with fail;refine KA.mono ?_;rintro e w4 ⟨v',G6,rfl,G7,G8,G9,H0,H1,B9⟩;have E4:=aI (A1.only B9 (fun h=>by
  rcases h with h | h
  ·omega
  ·have:=A7.out _ h;omega) (fun h=>by
  rcases h with h | h
  ·omega
  have:=A7.out _ h;omega))
 have J1:=aI ((HB.trans (G1.below (n:=R) (by have:=I.lt;omega) (fun k D=>aA))).trans (B9.below (n:=R) (by have:=A1.lt;omega) (fun k D=>by
  rcases D with D | D
  ·omega
  have:=A7.out _ D;omega)))
 have J2:=aI G7;have J3:=aI G8;have J4:=aI G9;have J5:=aI (show ∀y,aL y→(y∈G6↔(f y).isSome=true∧(left y && !decide (y=x))=false)from fun y hy=>by
  rw[H0,G.out y hy];by_cases e:y=x
  ·subst e;simp[J0.out]
  simp[e])
 have J6:=aI H1;clear G7 G8 G9 H0 H1 B9;go_wp2;go_roundw
 case rel=>
  have s:∃(left:Int→Bool) (C:Nat) (v:Value) (xs:List Int),RangeR w4 M (R+1) (len+len') f left C∧w4.heap[R]?=some (.cells #[v] 210 (0,0))∧OwnI w4 (R+2) v xs∧xs.Pairwise (·<·)∧(∀y,aL y→(y∈xs↔(f y).isSome=true∧left y=false))∧xs.length+C≤len+len'∧Below R w1 w4:=
   ⟨_,H6,v',G6,E4,J2,J3,J4,J5,by have:=J6.out;omega,J1⟩
  first | exact s | ((repeat apply PF);exact⟨s,rfl⟩)
 rw[E4.left_eq,I.left_eq];exact hlt
def VecAt (w:World) (v:Value) (l:List EV):Prop:=∃a cap,v=.slice a l.length cap∧EntsN w a l.length l∧l.length≤cap
theorem VecAt.below{w w':World}{v:Value}{l:List EV}(h:VecAt w v l)(b:Below w.heap.size w w'):VecAt w' v l:=by
 obtain⟨a,cap,h1,h2,h3⟩:=h;exact⟨a,cap,h1,h2.below b,h3⟩
theorem RowF.vecAt{w:World}{base:Nat}{v:Value}{l:List EV}(h:RowF w base v l):VecAt w v l:=h.entsN
theorem VecAt.nil(w:World):VecAt w nU []:=(RowF.nil w 0).vecAt
theorem Pi:bY []:=⟨fun i hi=>absurd hi aD,fun i _ hi=>absurd hi aD⟩
def Sb (w:World) (tk:Bool→Bool→Bool) (es fs:List Ent) (n A:Nat) (e:Ending) (w':World):Prop:=∃v lo,e=.returned v∧RowF w' w.heap.size v lo∧HolB w.heap.size lo∧CanW (lo.map (·.1))∧(∀r c,dN (lo.map (·.1)) r c↔zL tk es fs r c)∧lo.length≤n∧(∀p∈lo,p.1.hs.length≤A)∧Below w.heap.size w w'
theorem qW(va vb:Value)(l b:List EV)(A B:Nat)(w:World)(E:VecAt w va l)(u:VecAt w vb b)(z:bY (l.map (·.1)))(n:bY (b.map (·.1)))
  (hs:∀p∈l,p.1.hs.length≤A) (r:∀p∈b,p.1.hs.length≤B) (y:A+B≤3000000000) (s:l.length≤1000000000) (j:b.length≤1000000000) :
  Calls prog 35 #[va,vb] w fun e w'=>Sb w vO (l.map (·.1)) (b.map (·.1)) (l.length+b.length) (A+B+3) e w':=by
 obtain⟨a,cap,rfl,h1,_⟩:=E;obtain⟨D,m,rfl,h2,_⟩:=u;have K:=aI (Nd 81 vO LH a l.length cap l D b.length m b A B w h1.at' h2.at' z n hs r y s j);clear h1 h2 z n hs r;go_enter func35,ntmps35;go_wp2_with fail;refine K.mono ?_;rintro e F ⟨v,lo,rfl,h⟩;have C:=aI h;clear h;go_wp2;go_ret;exact⟨v,lo,rfl,C⟩
theorem Kj(va vb:Value)(l b:List EV)(A B:Nat)(w:World)(E:VecAt w va l)(u:VecAt w vb b)(z:bY (l.map (·.1)))(n:bY (b.map (·.1)))
  (hs:∀p∈l,p.1.hs.length≤A) (r:∀p∈b,p.1.hs.length≤B) (y:A+B≤3000000000) (s:l.length≤1000000000) (j:b.length≤1000000000) :
  Calls prog 113 #[va,vb] w fun e w'=>Sb w uD (l.map (·.1)) (b.map (·.1)) (l.length+b.length) (A+B+3) e w':=by
 obtain⟨a,cap,rfl,h1,_⟩:=E;obtain⟨D,m,rfl,h2,_⟩:=u;have K:=aI (Nd 169 uD LJ a l.length cap l D b.length m b A B w h1.at' h2.at' z n hs r y s j);clear h1 h2 z n hs r;go_enter func113,ntmps113;go_wp2_with fail;refine K.mono ?_;rintro e F ⟨v,lo,rfl,h⟩;have C:=aI h;clear h;go_wp2;go_ret;exact⟨v,lo,rfl,C⟩
theorem Zt{en:Ent}{rep x:Int}(h:∀c,rH en c↔aV [(x,x)] c)(c:Int):rH en c↔c=x:=by
 rw[h,dU];constructor
 ·rintro⟨a,b⟩;simp at a b;omega
 rintro rfl;exact⟨Int.le_refl _,Int.le_refl _⟩
theorem Vs(rep x:Int)(w:World)(hr:aL rep)(hx:aL x) :
  Calls prog 72 #[.slice none 0 0,.int .u64 rep,.int .u64 x] w fun e w'=>∃v lo,e=.returned v∧RowF w' w.heap.size v lo∧HolB w.heap.size lo∧CanW (lo.map (·.1))∧(∀r c,dN (lo.map (·.1)) r c↔r=rep∧c=x)∧lo.length≤1∧(∀p∈lo,p.1.hs.length≤10)∧Below w.heap.size w w':=by
 have K:=aI (fun W (h:W.heap[w.heap.size]?=some (.cells #[.int .u64 x,.int .u64 x] 123 (0,0)))=>Mp rep (.slice (some ⟨w.heap.size,0,none⟩) 1 1) [(x,x)] W ⟨_,_,rfl,mZ hx hx h,QY _⟩ (Ny (Int.le_refl _)) hr aD aD);go_enter func72,ntmps72;go_wp2_with fail;refine(K _ (aK _ _ rfl)).mono ?_;rintro e B ⟨en,hv,rfl,z,hO,I,J,L,M,N⟩;have B1:=aI (aN (aJ (PH w.heap.size w) (.cells #[.int .u64 x,.int .u64 x] 123)) N);obtain⟨n,s,rfl,_,_,_⟩:=hO.prs;have X:=aI (Zt (rep:=rep) L);have E:=aI hO;have F:=aI I;have Y:=aI J;have Z:=aI M;have G:=aI z;obtain⟨m,V⟩:=aG en.hs.length;obtain⟨mx,C⟩:=aG en.mx;have EM:=aI V;have A0:=aI C;rw[V]at E;rw[V,C];clear hO I J L M N z V C;go_wp2_with fail;obtain⟨W2,u⟩:=aG ((B.alloc (.cells #[.int .u64 rep,.int .u64 mx,.slice n m s] 96)).alloc (.cells #[.int .u64 rep,.int .u64 mx,.slice n m s] 96));have y:W2.heap[B.heap.size+1]?=some (.cells #[.int .u64 rep,.int .u64 mx,.slice n m s] 96 (0,0)):=by rw[← u];exact aK _ _ aD
 have j:Below B.heap.size B W2:=by rw[← u];exact aJ (aJ (PH _ _) _) _
 have A:=E.only (may:=fun _=>False) (Only.of_below j) (fun _ h=>h.elim);have l:=G.out;have H:=A0.out;have A1:=EM.out;have hF:RowF W2 (w.heap.size+1) (.slice (some ⟨B.heap.size+1,0,none⟩) 1 1) [(en,.slice n m s)]:=by
  refine⟨⟨by simp[cI],.inr ⟨B.heap.size+1,1,_,rfl,by have:=B1.size;omega,y,QY _,aB,aD,by simp[cI,l,H]⟩⟩,fun p D=>?_,fun p D=>?_⟩
  ·obtain rfl:p=(en,.slice n m s):=by simpa using D
   refine(HoleF.of_own (w:=W2) (base:=w.heap.size+1) ⟨?_,A.words⟩);have:=A.row;rw[PN]at this;exact this
  obtain rfl:p=(en,.slice n m s):=by simpa using D
  exact F
 have A2:∀p∈[(en,PJ n m s)],p.1.hs.length≤3:=fun p D=>by
  obtain rfl:p=(en,.slice n m s):=by simpa using D
  have h2:=Z.out;simp at h2;show en.hs.length≤3;omega
 have KU:=aI (qW nU (.slice (some ⟨B.heap.size+1,0,none⟩) 1 1) [] [(en,.slice n m s)] 0 3 W2 (VecAt.nil _) hF.vecAt Pi (CanV.right (CanW.v ⟨by simpa using Y.out,by simpa using F.out,aD⟩)) aD A2 aA aD aD);have B2:=aI (aN B1 j);rw[u];clear y j A hF u;refine KU.mono ?_;rintro e w3 ⟨v,lo,rfl,O,P,Q,R,S,T,U⟩;have F3:=aI (O.base (RB (QY _) B2.size));have B3:=aI (aN B2 U);have H3:=aI (P.mono B2.size);have C3:=aI Q;have A3:=aI (show ∀r c,dN (lo.map (·.1)) r c↔r=rep∧c=x from fun r c=>by
  rw[R];unfold zL vO;have e1:decide (dN ([]:List Ent) r c)=false:=by simpa using jN r c
  have e2:dN [en] r c↔r=rep∧c=x:=by
   rw[Vt,X.out c];constructor
   ·rintro(⟨a,b⟩ | h)
    ·exact⟨by rw[← a,l],b⟩
    exact absurd h (jN r c)
   rintro⟨a,b⟩;exact .inl ⟨by rw[a,l],b⟩
  show(decide (dN ([]:List Ent) r c) || decide (dN [en] r c))=true↔_;rw[e1];simp[e2])
 have L3:=aI S;have S3:=aI T;clear O P Q R S T U l H A1;go_wp2;go_ret;exact⟨v,lo,rfl,F3,H3,C3,A3,by simpa using L3.out,fun p D=>by have:=S3.out p D;omega,B3⟩
attribute [local go_sem] Oper.semAt_some
structure FV where
 items:List Iv
 iv:Value
 vec:List EV
 vv:Value
def FV.z:FV:=⟨[],nU,[],nU⟩
def FV.frag (f:FV):Frag:=⟨f.items,f.vec.map (·.1)⟩
structure FragAt (w:World) (f:FV):Prop where
 items:RgAt w f.iv f.items
 vec:VecAt w f.vv f.vec
theorem FragAt.below{w w':World}{f:FV}(h:FragAt w f)(b:Below w.heap.size w w'):FragAt w' f:=⟨h.items.below b,h.vec.below b⟩
structure KnowAt (w:World) (a:Option Addr) (len:Nat) (l:List FV):Prop where
 length:l.length=len
 frags:∀f∈l,FragAt w f
 cells:∀i,i<len→∃b off,a=some ⟨b,off,none⟩∧b<w.heap.size∧w.cell? ⟨b,off+i * 2,none⟩=some (l.getD i FV.z).iv∧w.cell? ⟨b,off+i * 2+1,none⟩=some (l.getD i FV.z).vv
theorem KnowAt.below{w w':World}{a:Option Addr}{len:Nat}{l:List FV}(h:KnowAt w a len l)(m:Below w.heap.size w w'):KnowAt w' a len l:=
 ⟨h.length,fun f n=>(h.frags f n).below m,fun i hi=>by
  obtain⟨b,off,e,j,h1,h2⟩:=h.cells i hi;exact⟨b,off,e,RK j m.size,aM m j h1,aM m j h2⟩⟩
theorem KnowAt.mem{w:World}{a:Option Addr}{len:Nat}{l:List FV}(h:KnowAt w a len l){i:Nat}(hi:i<len):l.getD i FV.z∈l:=by
 have:=h.length;rw[PQ,PO aA,RL];exact PT aA
def KnwAt (w:World) (v:Value) (l:List FV):Prop:=∃a cap,v=.slice a l.length cap∧KnowAt w a l.length l∧l.length≤cap
theorem KnwAt.below{w w':World}{v:Value}{l:List FV}(h:KnwAt w v l)(b:Below w.heap.size w w'):KnwAt w' v l:=by
 obtain⟨a,cap,h1,h2,h3⟩:=h;exact⟨a,cap,h1,h2.below b,h3⟩
structure Sa (l:List FV) (I V A:Nat):Prop where
 cor:∀f∈l,cL f.items
 right:∀f∈l,bY (f.vec.map (·.1))
 items:∀f∈l,f.items.length≤I
 vec:∀f∈l,f.vec.length≤V
 hs:∀f∈l,∀p∈f.vec,p.1.hs.length≤A
def aX (l:List FV) (x:Int) (k:Nat):List Nat:=(QP k).filter (fun i=>decide (aV (l.getD i FV.z).items x))
theorem mG{l:List FV}{x:Int}{k:Nat}(h:aV (l.getD k FV.z).items x):aX l x (k+1)=aX l x k ++ [k]:=by
 unfold aX;rw[QV,QR];congr 1
 rw[List.filter_cons_of_pos (by simpa using h)];rfl
theorem pB{l:List FV}{x:Int}{k:Nat}(h:¬aV (l.getD k FV.z).items x):aX l x (k+1)=aX l x k:=by
 unfold aX;rw[QV,QR,List.filter_cons_of_neg (by simpa using h)];simp
theorem Tn(l:List FV)(x:Int){k m:Nat}(h:k≤m):∃t,aX l x m=aX l x k ++ t:=by
 induction m with
 | zero=>obtain rfl:k=0:=aA
         exact⟨[],aD⟩
 | succ m ih=>
   rcases RA k (m+1)with g | g
   ·obtain⟨t,e⟩:=ih aA;by_cases hm:aV (l.getD m FV.z).items x
    ·exact⟨t ++ [m],by rw[mG hm,e,QA]⟩
    exact⟨t,by rw[pB hm,e]⟩
   obtain rfl:k=m+1:=aA;exact⟨[],aD⟩
theorem Lz{l:List FV}{x:Int}{k m:Nat}(h:k<m)(b:aV (l.getD k FV.z).items x):(aX l x m).getD (aX l x k).length 0=k∧(aX l x k).length<(aX l x m).length:=by
 obtain⟨t,e⟩:=Tn l x (k:=k+1) (m:=m) h;rw[mG b,QA]at e;rw[e];constructor
 ·simp[PQ]
 simp
theorem dG{l:List FV}{x:Int}{m i:Nat}:i∈aX l x m↔i<m∧aV (l.getD i FV.z).items x:=by
 unfold aX;simp
def AJ (l:List FV) (s:List Nat) (k:Nat):Array Value:=#[.int .i64 (s.getD k 0:Nat),.agg #[(l.getD (s.getD k 0) FV.z).iv,(l.getD (s.getD k 0) FV.z).vv]]
theorem Ei(v:Value)(x:Int)(a:Option Addr)(len cap:Nat)(hv:v=.slice a len cap)(w:World) :
  Calls prog 68 #[v,.int .u64 x] w fun e w'=>e=.returned (.func (.func 118) #[] #[.pointer (some ⟨w.heap.size,0,none⟩),.pointer (some ⟨w.heap.size+1,0,none⟩)])∧w'=(w.alloc (.cells #[v] 23)).alloc (.cells #[.int .u64 x] 57):=by
 subst hv;go_enter func68,ntmps68;go_wp2;go_ret;exact⟨rfl,rfl⟩
theorem zN(n:Nat)(hn:1≤n)(B1 D:Nat)(a:Option Addr)(len cap:Nat)(l:List FV)(x:Int)(r w0:World)(hE:KnowAt r a len l)(I:Below r.heap.size r w0)
  (h1:w0.heap[B1]?=some (.cells #[.slice a len cap] 23 (0,0))) (h2:w0.heap[D]?=some (.cells #[.int .u64 x] 57 (0,0)))
  (M:Nat→Prop) (hM:∀k,M k→r.heap.size≤k∧k<w0.heap.size) (D5:¬M B1) (C3:¬M D) (hC:∀f∈l,cL f.items) (hs:∀f∈l,f.items.length≤3900000000) (C5:len≤3900000000)
  (t:TypeId) (D6:t≠23) (C4:t≠57) :
  Lp Fence.wide n prog 118 #[.pointer (some ⟨B1,0,none⟩),.pointer (some ⟨D,0,none⟩)] (AJ l (aX l x len)) M t r.heap.size (aX l x len).length w0:=by
 intro ll J Jx W hW D3 D4 hJ B7 hY h0;have hl:=hE.length;have HJ:=aI hJ;have C6:=aI B7;have HY:=aI hY;have HE:=aI hE;have HM:=aI hM;have A3:=aI (show Below r.heap.size r W from I.trans (hW.mono I.size));have C7:=I.size;have C8:=hW.size;have l1:=aO h1;have l2:=aO h2;have A4:=(hW.block _ l1).trans h1;have u:=(hW.block _ l2).trans h2;have C9:B1≠ll:=aA;have B8:D≠ll:=aA;have HC:=aI hC;have HS:=aI hs;have c1:W.cell? ⟨B1,0,none⟩=some (.slice a len cap):=by simp[PM,A4]
 have A5:=aI (show ∀(E W2:World),Below r.heap.size r E→Only (fun b=>M b∨b=ll∨r.heap.size≤b∧Typed E t b) E W2→Below r.heap.size r W2 from fun E W2 h1 h2=>h1.trans (h2.below h1.size fun k Y=>by
  rcases Y with Y | Y | Y
  ·exact(hM k Y).1
  ·omega
  exact Y.1))
 have S:=aI (show ∀(E W2:World),E.heap[D]?=some (.cells #[.int .u64 x] 57 (0,0))→Only (fun b=>M b∨b=ll∨r.heap.size≤b∧Typed E t b) E W2→W2.heap[D]?=some (.cells #[.int .u64 x] 57 (0,0))from fun E W2 k1 k2=>k2.obj (fun h=>h.elim C3 (fun h=>h.elim B8 (fun h=>Typed.ne h.2 (show Typed E 57 D from⟨_,k1⟩) C4 rfl))) k1);have J0:=aI (show J (aX l x 0).length W from h0);have A6:=aI u;clear hJ B7 hY hE hM I hW h1 h2 A4 u hC hs h0;refine callsIn_of_wp func118 rfl trivial ?_ rfl;simp only[ntmps118,PY,QC,QH,RH,RF,PE,PD,PZ,PV,QF,QE];gi_wp2;gi_loopw [8] (fun c wr=>∃k:Nat,k≤len∧c=.int .i64 k∧J (aX l x k).length wr∧Below r.heap.size r wr∧wr.heap[D]?=some (.cells #[.int .u64 x] 57 (0,0))∧W.heap.size≤wr.heap.size) (fun c _=>len-(intOf c).toNat)
 case atStart=>exact⟨0,QZ _,rfl,J0,A3,A6,QY _⟩
 obtain⟨k,Y,rfl,A9,C,u,D1⟩:=hrel;have JK:=aI A9;have BK:=aI C;have H2:=aI u;clear A9 u J0 A6 A3;have i0:(0:Int)≤(k:Int):=aA;by_cases hlt:k<len
 ·have i1:(k:Int)<(len:Int):=aA;have F:=HE.below C;obtain⟨b,off,rfl,D2,Z,A0⟩:=F.cells k hlt;have s:=F.mem hlt;have y:=F.frags _ s;have A:=HC.out _ s;have T:=HS.out _ s;have U:=aI (fun hx=>Lz (l:=l) (x:=x) (k:=k) (m:=len) hlt hx);have V:=aI (fun hx=>mG (l:=l) (x:=x) (k:=k) hx);have NO:=aI (fun hx=>pB (l:=l) (x:=x) (k:=k) hx);obtain⟨p,ep⟩:=aG (l.getD k FV.z);have EP:=aI ep;rw[ep]at Z A0 y A T U V NO;have HK:=aI (fun W (hW:Below wr.heap.size wr W)=>Mh p.iv p.items x W (y.items.below hW) A T);have k2:wr.cell? ⟨D,0,none⟩=some (.int .u64 x):=by simp[PM,H2.out]
  obtain⟨N,O,ei,_,_⟩:=y.items;obtain⟨P,Q,ev,_,_⟩:=y.vec;obtain⟨items,iv,vec,vv⟩:=p;simp only at Z A0 HK ei ev U V NO;subst ei;subst ev;obtain⟨ni,A1⟩:=aG items.length;obtain⟨nv,A2⟩:=aG vec.length;have X:=EP.out;rw[A1,A2]at X;rw[A1]at Z HK;rw[A2]at A0;have EP:=aI X;obtain⟨Be,C1⟩:=aG wr.heap.size;have BA:=aI (show Below r.heap.size r (wr.alloc (.cells #[.slice N ni O,.slice P nv Q] 80))from C.alloc C.size _);have JA:=aI (HJ _ _ _ JK ((Only.refl (fun _=>False) wr).alloc (.cells #[.slice N ni O,.slice P nv Q] 80)));have CA:=aI (show(wr.alloc (.cells #[.slice N ni O,.slice P nv Q] 80)).heap[Be]?=some (.cells #[.slice N ni O,.slice P nv Q] 80 (0,0))from aK _ _ C1.symm);have C2:=aI (show(wr.alloc (.cells #[.slice N ni O,.slice P nv Q] 80)).heap[D]?=some (.cells #[.int .u64 x] 57 (0,0))from aT _ _ (aO H2) H2);have G:=aI (HK _ (aJ (PH wr.heap.size wr) (.cells #[.slice N ni O,.slice P nv Q] 80)));clear ep C F s y A T X A1 A2 HK;have k3:(wr.alloc (.cells #[.slice N ni O,.slice P nv Q] 80)).cell? ⟨D,0,none⟩=some (.int .u64 x):=by simp[PM,C2.out]
  clear k2;by_cases hin:aV items x
  ·obtain⟨B0,R⟩:=U.out hin;have K:=V.out hin;have d:decide (aV items x)=true:=by simp[hin]
   rw[d]at G;have B9:=aI B0;have L:=aI R;have A7:=aI K;clear B0 R K d hin;gi_wp2_with (refine⟨trivial,?_⟩;gi_at_call 119;refine(callsIn_wide.2 G).mono ?_;rintro e W4 ⟨rfl,j⟩;have B4:=aI (BA.trans (j.mono BA.size));have J4:=aI (HJ _ _ _ JA (Only.of_below j));have q4:=(j.block _ (aO CA)).trans CA;have q2:=aI ((j.block _ (aO C2)).trans C2);have y0:W4.cell? ⟨Be,0,none⟩=some (.slice N ni O):=(by simp[PM,q4]);have y1:W4.cell? ⟨Be,1,none⟩=some (.slice P nv Q):=(by simp[PM,q4]);have s4:=j.size;have s5:W.heap.size≤W4.heap.size:=(by simp at s4;omega);obtain⟨fn,tmps,assign,body,hy,hR⟩:=HY.out _ W4 J4 L s5;have HR:=aI hR;simp only[AJ,B9.out,EP.out]at hy;clear hR j q4 s4);refine HR.mono ?_;rintro e W5 (⟨rfl,B3,H⟩ | ⟨rfl,B6⟩)
   ·have B5:=aI (A5 _ W5 B4 H);have J5:=aI (show J (aX l x (k+1)).length W5 from by rw[A7.out,PU];exact B3);have Q5:=aI (S _ W5 q2 H);have s6:=H.size;clear B3 H hy;gi_wp2;go_roundw
    case rel=>first | exact⟨k+1,aA,by go_num,J5,B5,Q5,aA⟩ | ((repeat apply PF);exact⟨⟨k+1,aA,by go_num,J5,B5,Q5,aA⟩,rfl⟩)
    simp[intOf];omega
   gi_wp2;refine bodyPost_ret (results_none rfl _ _ _) rfl ?_;exact⟨⟨_,rfl⟩,.inr ⟨_,L,B6⟩⟩
  have A8:=NO.out hin;have d:decide (aV items x)=false:=by simp[hin]
  rw[d]at G;have C0:=aI A8;clear A8 d hin;gi_wp2_with (refine⟨trivial,?_⟩;gi_at_call 119;refine(callsIn_wide.2 G).mono ?_;rintro e W4 ⟨rfl,j⟩;have B4:=aI (BA.trans (j.mono BA.size));have J4:=aI (HJ _ _ _ JA (Only.of_below j));have q2:=aI ((j.block _ (aO C2)).trans C2);have s4:=j.size;have s5:W.heap.size≤W4.heap.size:=(by simp at s4;omega);clear j s4);have J5:=aI (show J (aX l x (k+1)).length W4 from by rw[C0.out];exact J4);refine⟨fun _ h=>(by cases h),?_⟩;gi_wp2;go_roundw
  case rel=>first | exact⟨k+1,aA,by go_num,J5,B4,q2,aA⟩ | ((repeat apply PF);exact⟨⟨k+1,aA,by go_num,J5,B4,q2,aA⟩,rfl⟩)
  simp[intOf];omega
 obtain rfl:len=k:=aA;have D0:¬(len:Int)<(len:Int):=aA;gi_wp2;go_end0;exact⟨⟨_,rfl⟩,.inl JK⟩
end Go.Proofs.YtbkkolfpegplgaaGreatDoor
namespace Go.Proofs.YtbkkolfpegplgaaGreatDoor
open Go Go.RowKit
def RiTo (l:List EV) (k:Nat):Prop:=AscTo l k∧∀i,i<k→lX (l.getD i EV.z).1
theorem RiTo.zero(l:List EV):RiTo l 0:=⟨fun i _ hi=>absurd hi aA,fun i hi=>absurd hi aA⟩
theorem RiTo.succ{l:List EV}{k:Nat}(h:RiTo l k)(h1:0<k→(l.getD (k-1) EV.z).1.rep<(l.getD k EV.z).1.rep)(h2:lX (l.getD k EV.z).1):RiTo l (k+1):=⟨h.1.succ h1,fun i hi=>by
 by_cases e:i=k
 ·subst e;exact h2
 exact h.2 i aA⟩
theorem RiTo.all{l:List EV}{k:Nat}(h:RiTo l k)(b:l.length=k):bY (l.map (·.1)):=by
 refine⟨fun i hi=>?_,fun i h0 hi=>?_⟩
 ·rw[cF];exact h.2 i (by rw[QI]at hi;omega)
 rw[cF,cF];exact h.1 i h0 (by rw[QI]at hi;omega)
theorem Js(a:Option Addr)(len cap:Nat)(l:List EV)(w:World)(h:EntsAt w a len l) :
  Calls prog 122 #[.slice a len cap] w fun e w'=>yX (bY (l.map (·.1))) e∧Below w.heap.size w w':=by
 have H:=aI h;have hm:=h.most;clear h;go_enter func122,ntmps122;go_wp2;go_loopw [4] (fun c wr=>∃k:Nat,k≤len∧c=.int .i64 k∧RiTo l k∧Below w.heap.size w wr)
  (fun c _=>len-(intOf c).toNat)
 case atStart=>exact⟨0,QZ _,rfl,RiTo.zero _,PH _ _⟩
 obtain⟨k,hk,rfl,A,u⟩:=hrel;have F:=aI A;have G:=aI u;clear A;have i0:(0:Int)≤(k:Int):=aA;by_cases hlt:k<len
 ·obtain⟨b,off,rfl,Z,n,B,C⟩:=(H.below u).cells k hlt;have i1:(k:Int)<(len:Int):=aA;have D:=aI (fun W (hW:Below wr.heap.size wr W)=>Fu (l.getD k EV.z) W (((H.below u).below hW).holes _ (H.mem hlt)));unfold kO at D;obtain⟨x,E⟩:=aG ((l.getD k EV.z).1.rep);obtain⟨y,M⟩:=aG ((l.getD k EV.z).1.mx);obtain⟨hv,N⟩:=aG ((l.getD k EV.z).2);rw[E,M,N]at D;rw[E]at n;rw[M]at B;rw[N]at C;have T:=aI E;clear E M N;by_cases hk0:k=0
  ·have Q:¬(0:Int)<(k:Int):=aA;have U:decide ((0:Int)<(k:Int))=false:=decide_eq_false Q;have V:decide (0<k)=false:=decide_eq_false aA;have r:=aI (fun P=>F.succ (fun h=>aA) P);clear hk0 u;go_wp2_with fail;refine(D _ (PH _ _)).mono ?_;rintro e w1 ⟨⟨c,i,rfl,j⟩,m⟩;have s:=aI (aN G m);clear m;by_cases hc:c=0
   ·subst hc;have r:=aI (r (j rfl));clear j;go_wp2_with fail;go_quiet (fail);go_wp2;go_roundw
    case rel=>exact⟨k+1,aA,by go_num,r,aU s _⟩
    simp[intOf];omega
   have q:(c != 0)=true:=by simpa using hc
   have I:=aI hc;clear hc j;go_wp2;go_ret2;exact⟨⟨c,k,rfl,fun h=>absurd h I⟩,s⟩
  obtain⟨b2,off2,S,_,p,_,_⟩:=(H.below u).cells (k-1) aA;obtain⟨rfl,rfl⟩:b=b2∧off=off2:=by simpa using S
  obtain⟨q,O⟩:=aG ((l.getD (k-1) EV.z).1.rep);rw[O]at p;have X:=aI O;have Q:(0:Int)<(k:Int):=aA;have U:(0:Int)≤(k:Int)-1:=aA;have V:(k:Int)-1<(len:Int):=aA;have n3:IntKind.i64.wrap ((k:Int)-1)=(k:Int)-1:=PG _ aA;have n4:((k:Int)-1).toNat=k-1:=aA;have Y:0<k:=aA;have r:=aI (fun(hh:q<x) P=>F.succ (fun _=>by rw[T.out,X.out];exact hh) P);clear S O hk0 u;go_wp2_with fail;refine(D _ (PH _ _)).mono ?_;rintro e w1 ⟨⟨c,i,rfl,j⟩,m⟩;have s:=aI (aN G m);have d1:=eV m n;have d0:=eV m p;clear m n B C p;by_cases hc:c=0
  ·subst hc;have J:=aI (j rfl);clear j;by_cases hle:x≤q
   ·go_wp2_with fail;go_quiet (fail);go_wp2;go_ret2;exact⟨⟨3,k,rfl,fun h=>by cases h⟩,aU s _⟩
   have K:=aI (r aA J);have R:decide (x≤q)=false:=decide_eq_false hle;clear r;go_wp2_with fail;go_quiet (fail);go_wp2;go_roundw
   case rel=>exact⟨k+1,aA,by go_num,K,aU s _⟩
   simp[intOf];omega
  have q:(c != 0)=true:=by simpa using hc
  have I:=aI hc;clear hc j;go_wp2;go_ret2;exact⟨⟨c,k,rfl,fun h=>absurd h I⟩,s⟩
 obtain rfl:k=len:=aA;have L:=aI (F.all H.length);go_wp2;go_ret2;exact⟨⟨0,-1,rfl,fun _=>L⟩,G⟩
structure BM (l:List FV):Prop where
 len:l.length≤12
 items:∀f∈l,f.items.length≤20
 vec:∀f∈l,f.vec.length≤20
 hs:∀f∈l,∀p∈f.vec,p.1.hs.length≤30
structure FewTo (l:List FV) (k:Nat):Prop where
 items:∀i,i<k→(l.getD i FV.z).items.length≤20
 few:∀i,i<k→FewV ((l.getD i FV.z).vec.map (·.1))
theorem FewTo.zero(l:List FV):FewTo l 0:=⟨fun i h=>absurd h aA,fun i h=>absurd h aA⟩
theorem FewTo.succ{l:List FV}{k:Nat}(h:FewTo l k)(h1:(l.getD k FV.z).items.length≤20)(h2:FewV ((l.getD k FV.z).vec.map (·.1))):FewTo l (k+1):=
 ⟨fun i hi=>by
  by_cases e:i=k
  ·subst e;exact h1
  ·exact h.items i aA,fun i hi=>by
  by_cases e:i=k
  ·subst e;exact h2
  exact h.few i aA⟩
theorem IC{l:List FV}{f:FV}(b:f∈l):∃i,i<l.length∧l.getD i FV.z=f:=by
 obtain⟨i,hi,e⟩:=List.mem_iff_getElem.1 b;exact⟨i,hi,by simp[PQ,PO hi,e]⟩
theorem FewV.hs{l:List EV}(h:FewV (l.map (·.1))):∀p∈l,p.1.hs.length≤30:=fun p j=>by
 obtain⟨i,hi,e⟩:=List.mem_iff_getElem.1 j;have:=h.2 i (by rw[QI];exact hi);rw[cF]at this;have b:l.getD i EV.z=p:=by simp[PQ,PO hi,e]
 rwa [b]at this
theorem FewTo.all{l:List FV}(h:FewTo l l.length)(j:l.length≤12):BM l:=by
 refine⟨j,fun f b=>?_,fun f b=>?_,fun f b=>?_⟩;all_goals obtain⟨i,hi,rfl⟩:=IC b
 ·exact h.items i hi
 ·have:=(h.few i hi).1;simpa using this
 exact(h.few i hi).hs
theorem Rf(v:Value)(l:List FV)(w:World)(hE:KnwAt w v l)(E:l.length≤9223372036854775807) :
  Calls prog 27 #[v] w fun e w'=>mU (BM l) e∧Below w.heap.size w w':=by
 obtain⟨a,cap,rfl,T,_⟩:=hE;have H:=aI T;obtain⟨len,j⟩:=aG l.length;have O:=aI j;rw[j]at H E ⊢;clear T j;go_enter func27,ntmps27;go_wp2;go_loopw [3] (fun c wr=>∃k:Nat,k≤len∧c=.int .i64 k∧FewTo l k∧Below w.heap.size w wr)
  (fun c _=>len-(intOf c).toNat)
 case atStart=>exact⟨0,QZ _,rfl,FewTo.zero _,PH _ _⟩
 obtain⟨k,hk,rfl,B,L⟩:=hrel;have P:=aI B;have F:=aI L;clear B;have i0:(0:Int)≤(k:Int):=aA;by_cases hlt:k<len
 ·have i1:(k:Int)<(len:Int):=aA;have G:=H.below L;obtain⟨b,off,rfl,M,n,r⟩:=G.cells k hlt;have m:=G.mem hlt;have A:=G.frags _ m;obtain⟨p,N⟩:=aG (l.getD k FV.z);have Q:=aI N;rw[N]at n r A;obtain⟨⟨ai,ci,U,V,_⟩,⟨av,cv,X,s,_⟩⟩:=A;obtain⟨items,iv,vec,vv⟩:=p;simp only at n r U X V s;subst U;subst X;have R:=aI (fun W (hW:Below wr.heap.size wr W)=>AC av vec.length cv vec W (s.at'.below hW));obtain⟨ni,u⟩:=aG items.length;obtain⟨nv,C⟩:=aG vec.length;have I:=aI u;rw[u]at n;rw[C]at r R;clear N L M G m V s u C;by_cases h20:20<(ni:Int)
  ·have J:decide (20<(ni:Int))=true:=decide_eq_true h20;go_wp2;go_ret;exact⟨oR _,F⟩
  have J:decide (20<(ni:Int))=false:=decide_eq_false h20;go_wp2_with fail;refine(R _ (PH _ _)).mono ?_;rintro e w3 ⟨⟨bb,rfl,y⟩,D⟩;have S:=aI (aN F D);clear D
  cases bb with
  | false=>
    clear y;go_wp2;go_ret;exact⟨oR _,S⟩
  | true=>
    have Y:=aI (P.succ (by rw[Q.out];show items.length≤20;have:=I.out;omega) (by rw[Q.out];exact y rfl));clear y;go_wp2;go_roundw
    case rel=>exact⟨k+1,aA,by go_num,Y,S⟩
    simp[intOf];omega
 obtain rfl:len=k:=aA;by_cases h12:(len:Int)≤12
 ·have K:decide ((len:Int)≤12)=true:=decide_eq_true h12;have Z:=aI (show BM l from(show FewTo l l.length from by rw[O.out];exact P).all (by rw[O.out];omega));go_wp2;go_ret;exact⟨Dy Z,F⟩
 have K:decide ((len:Int)≤12)=false:=decide_eq_false h12;go_wp2;go_ret;exact⟨oR _,F⟩
structure yV (l:List FV):Prop where
 cor:∀f∈l,cL f.items
 vec:∀f∈l,bY (f.vec.map (·.1))
structure RiK (l:List FV) (k:Nat):Prop where
 cor:∀i,i<k→cL (l.getD i FV.z).items
 vec:∀i,i<k→bY ((l.getD i FV.z).vec.map (·.1))
theorem RiK.zero(l:List FV):RiK l 0:=⟨fun i h=>absurd h aA,fun i h=>absurd h aA⟩
theorem RiK.succ{l:List FV}{k:Nat}(h:RiK l k)(h1:cL (l.getD k FV.z).items)(h2:bY ((l.getD k FV.z).vec.map (·.1))):RiK l (k+1):=
 ⟨fun i hi=>by
  by_cases e:i=k
  ·subst e;exact h1
  ·exact h.cor i aA,fun i hi=>by
  by_cases e:i=k
  ·subst e;exact h2
  exact h.vec i aA⟩
theorem RiK.all{l:List FV}(h:RiK l l.length):yV l:=by
 refine⟨fun f b=>?_,fun f b=>?_⟩;all_goals obtain⟨i,hi,rfl⟩:=IC b
 ·exact h.cor i hi
 exact h.vec i hi
theorem Ig(v:Value)(l:List FV)(w:World)(hE:KnwAt w v l)(F:l.length≤9223372036854775807) :
  Calls prog 71 #[v] w fun e w'=>yX (yV l) e∧Below w.heap.size w w':=by
 obtain⟨a,cap,rfl,X,_⟩:=hE;have H:=aI X;obtain⟨len,m⟩:=aG l.length;have EL:=aI m;rw[m]at H F ⊢;clear X m;go_enter func71,ntmps71;go_wp2;go_loopw [4] (fun c wr=>∃k:Nat,k≤len∧c=.int .i64 k∧RiK l k∧Below w.heap.size w wr)
  (fun c _=>len-(intOf c).toNat)
 case atStart=>exact⟨0,QZ _,rfl,RiK.zero _,PH _ _⟩
 obtain⟨k,hk,rfl,B,K⟩:=hrel;have P:=aI B;have Q:=aI K;clear B;have i0:(0:Int)≤(k:Int):=aA;by_cases hlt:k<len
 ·have i1:(k:Int)<(len:Int):=aA;have G:=H.below K;obtain⟨b,off,rfl,L,n,j⟩:=G.cells k hlt;have u:=G.mem hlt;have A:=G.frags _ u;obtain⟨p,M⟩:=aG (l.getD k FV.z);have R:=aI M;rw[M]at n j A;obtain⟨⟨ai,ci,Y,N,_⟩,⟨av,cv,Z,y,_⟩⟩:=A;obtain⟨items,iv,vec,vv⟩:=p;simp only at n j Y Z N y;subst Y;subst Z;have S:=aI (fun W (O:Below wr.heap.size wr W)=>Bm ai items.length ci items W (N.below O));have T:=aI (fun W (O:Below wr.heap.size wr W)=>Js av vec.length cv vec W (y.at'.below O));obtain⟨ni,C⟩:=aG items.length;obtain⟨nv,D⟩:=aG vec.length;rw[C]at n S;rw[D]at j T;clear M K G u N y C D;go_wp2_with fail;refine(S _ (PH _ _)).mono ?_;rintro e w3 ⟨⟨c,i,rfl,r⟩,s⟩;have U:=aI (aN Q s);have I:=aI s;have d2:=aM s L j;rcases r with⟨rfl,hC⟩ | ⟨hc,_⟩
  ·have HC:=aI hC;clear s hC n j;go_wp2_with fail;refine(T _ I).mono ?_;rintro e w4 ⟨⟨c,i2,rfl,r⟩,E⟩;have V:=aI (aN U E);clear E;by_cases hc:c=0
   ·subst hc;have HS:=aI (P.succ (by rw[R.out];exact HC) (by rw[R.out];exact r rfl));clear r;go_wp2;go_roundw
    case rel=>exact⟨k+1,aA,by go_num,HS,V⟩
    simp[intOf];omega
   have q:(c != 0)=true:=by simpa using hc
   have J:=aI hc;clear hc r;go_wp2;go_ret2;exact⟨⟨c,k,rfl,fun h=>absurd h J⟩,V⟩
  clear s n j;rcases hc with rfl | rfl
  all_goals
   go_wp2;go_ret2;exact⟨⟨_,k,rfl,fun h=>(by cases h)⟩,U⟩
 obtain rfl:len=k:=aA;have OK:=aI (show yV l from(show RiK l l.length from by rw[EL.out];exact P).all);go_wp2;go_ret2;exact⟨⟨0,-1,rfl,fun _=>OK⟩,Q⟩
theorem Fo(v:Value)(l:List FV)(w:World)(p:KnwAt w v l)(m:l.length≤9223372036854775807) :
  Calls prog 28 #[v] w fun e w'=>mU (yV l) e∧Below w.heap.size w w':=by
 have K:=aI (Ig v l w p m);obtain⟨a,cap,rfl,s,_⟩:=p;clear s;go_enter func28,ntmps28;go_wp2_with fail;refine K.mono ?_;rintro e u ⟨⟨c,i,rfl,b⟩,j⟩;have n:=aI j;clear j;by_cases hc:c=0
 ·subst hc;have r:=aI (b rfl);clear b;go_wp2;go_ret;exact⟨Dy r,n⟩
 have q:(c == 0)=false:=by simpa using hc
 clear b hc;go_wp2;go_ret;exact⟨oR _,n⟩
theorem AA{l b:List FV}(e:l.map FV.frag=b.map FV.frag)(i:Nat)(h:i<l.length):(l.getD i FV.z).frag=(b.getD i FV.z).frag:=by
 have m:l.length=b.length:=by simpa using congrArg QN e
 have j:(l.map FV.frag)[i]?=(b.map FV.frag)[i]?:=by rw[e]
 simp only[List.getElem?_map,PO h,PO (show i<b.length by omega),Option.map_some]at j;simp only[PQ,PO h,PO (show i<b.length by omega),RL];exact Option.some.inj j
theorem Jo(v v':Value)(l l':List FV)(w:World)(hE:KnwAt w v l)(A6:KnwAt w v' l')(he:l.map FV.frag=l'.map FV.frag)(A3:l.length≤9223372036854775807) :
  Calls prog 12 #[v,v'] w fun e w'=>e=.returned (.bool true)∧Below w.heap.size w w':=by
 have A4:prog.follows .mixedOrders=true:=aC;have hl:l'.length=l.length:=by simpa using (congrArg QN he).symm
 obtain⟨a,cap,rfl,J,_⟩:=hE;obtain⟨a2,L,e2,M,_⟩:=A6;rw[hl]at e2 M;subst e2;have H:=aI J;have H2:=aI M;have FA:=aI (AA he);obtain⟨len,y⟩:=aG l.length;have EL:=aI y;rw[y]at H H2 A3 FA ⊢;clear J M y hl he;go_enter func12,ntmps12;go_wp2;go_loopw [5] (fun c wr=>∃k:Nat,k≤len∧c=.int .i64 k∧Below w.heap.size w wr) (fun c _=>len-(intOf c).toNat)
 case atStart=>exact⟨0,QZ _,rfl,PH _ _⟩
 obtain⟨k,hk,rfl,D⟩:=hrel;have HB:=aI D;have i0:(0:Int)≤(k:Int):=aA;by_cases hlt:k<len
 ·have i1:(k:Int)<(len:Int):=aA;have Hr:=H.below D;have C:=H2.below D;obtain⟨b,off,rfl,A5,E,F⟩:=Hr.cells k hlt;obtain⟨b2,j,rfl,Q,G,A⟩:=C.cells k hlt;have P:=Hr.frags _ (Hr.mem hlt);have I:=C.frags _ (C.mem hlt);have u:=FA.out k hlt;obtain⟨p,ep⟩:=aG (l.getD k FV.z);obtain⟨p2,R⟩:=aG (l'.getD k FV.z);rw[ep]at E F P u;rw[R]at G A I u;obtain⟨⟨ai,ci,ei,hP,_⟩,⟨av,cv,ev,N,_⟩⟩:=P;obtain⟨⟨T,U,V,O,_⟩,⟨Y,Z,A0,m,_⟩⟩:=I;obtain⟨items,iv,vec,vv⟩:=p;obtain⟨items2,A7,r,A8⟩:=p2;simp only at E F ei ev hP N G A V A0 O m;subst ei;subst ev;subst V;subst A0;have f1:items=items2:=congrArg Frag.items u;have f2:vec.map (·.1)=r.map (·.1):=congrArg Frag.vec u;subst f1;have f3:r.length=vec.length:=by simpa using (congrArg QN f2).symm
  rw[f3]at A m;have q1:qB items items=true:=by unfold qB;simp
  have q2:wS vec r=true:=by unfold wS;simpa using f2
  have K1:=aI (fun W (s:Only (fun _=>False) wr W)=>Fg ai T items.length ci items.length U items items W (hP.below (s.below (n:=wr.heap.size) (QY _) (fun _ h=>h.elim))) (O.below (s.below (n:=wr.heap.size) (QY _) (fun _ h=>h.elim))));have K2:=aI (fun W (s:Only (fun _=>False) wr W)=>Oj av Y vec.length cv vec.length Z vec r W (N.at'.below (s.below (n:=wr.heap.size) (QY _) (fun _ h=>h.elim))) (m.at'.below (s.below (n:=wr.heap.size) (QY _) (fun _ h=>h.elim))));rw[q1]at K1;rw[q2]at K2;obtain⟨ni,A1⟩:=aG items.length;obtain⟨nv,A2⟩:=aG vec.length;rw[A1]at E G K1;rw[A2]at F A K2;clear ep R Hr C u hP O N m A1 A2 f2 f3 q1 q2 A5 Q;go_wp2_with fail;refine wp_region_held_drew (S:=Only (fun _=>False) wr) A4 (Only.refl _ _).drew (fun B=>?_);refine aP 0 17 (.slice (some ⟨b,off,none⟩) len cap) ?_;refine aP 1 18 (.int .i64 k) ?_;refine aP 2 19 (.pointer (some ⟨b,off+k * 2,none⟩)) ?_;refine aP 3 20 (.pointer (some ⟨b,off+k * 2,none⟩)) ?_;refine dL 4 21 (.slice ai ni ci) ?_ ?_
  ·intro X s;have x0:=s.cell (fun h=>h) E;go_simp
  refine aP 5 22 (.slice (some ⟨b2,j,none⟩) len L) ?_;refine aP 6 23 (.int .i64 k) ?_;refine aP 7 24 (.pointer (some ⟨b2,j+k * 2,none⟩)) ?_;refine aP 8 25 (.pointer (some ⟨b2,j+k * 2,none⟩)) ?_;refine dL 9 26 (.slice T ni U) ?_ ?_
  ·intro X s;have x0:=s.cell (fun h=>h) G;go_simp
  refine cW 10 fun K J=>?_;go_simp;refine(K1 _ B).mono ?_;rintro e wq ⟨rfl,D⟩;have B:=B.call D;clear D;go_simp;refine J _ _ B (fun _=>?_);clear J K;refine aP 11 28 (.bool false) ?_;refine aP 12 29 (.bool false) ?_;refine aP 13 30 (.slice (some ⟨b,off,none⟩) len cap) ?_;refine aP 14 31 (.int .i64 k) ?_;refine aP 15 32 (.pointer (some ⟨b,off+k * 2,none⟩)) ?_;refine aP 16 33 (.pointer (some ⟨b,off+k * 2+1,none⟩)) ?_;refine dL 17 34 (.slice av nv cv) ?_ ?_
  ·intro X s;have x0:=s.cell (fun h=>h) F;go_simp
  refine aP 18 35 (.slice (some ⟨b2,j,none⟩) len L) ?_;refine aP 19 36 (.int .i64 k) ?_;refine aP 20 37 (.pointer (some ⟨b2,j+k * 2,none⟩)) ?_;refine aP 21 38 (.pointer (some ⟨b2,j+k * 2+1,none⟩)) ?_;refine dL 22 39 (.slice Y nv Z) ?_ ?_
  ·intro X s;have x0:=s.cell (fun h=>h) A;go_simp
  refine cW 23 fun K J=>?_;go_simp;refine(K2 _ B).mono ?_;rintro e wq ⟨rfl,D⟩;have B:=B.call D;clear D;go_simp;refine J _ _ B (fun _=>?_);clear J K;refine aP 24 41 (.bool false) ?_;refine aP 25 42 (.bool false) ?_;refine iM ?_;have B5:=aI (HB.trans (B.below (n:=w.heap.size) HB.size (fun _ h=>h.elim)));clear B;go_wp2;go_roundw
  case rel=>exact⟨k+1,aA,by go_num,B5⟩
  simp[intOf];omega
 obtain rfl:len=k:=aA;go_wp2;go_ret;exact⟨rfl,HB⟩
end Go.Proofs.YtbkkolfpegplgaaGreatDoor
namespace Go.Proofs.YtbkkolfpegplgaaGreatDoor
open Go Go.RowKit
attribute [local go_sem] Oper.semAt_some
theorem AV(va vb iv:Value)(i:Int)(l j:List EV)(A B:Nat)(w:World)(M:VecAt w va l)(u:VecAt w vb j)(N:bY (l.map (·.1)))(y:bY (j.map (·.1)))
  (hs:∀p∈l,p.1.hs.length≤A) (z:∀p∈j,p.1.hs.length≤B) (D:A+B≤3000000000) (C:l.length≤1000000000) (m:j.length≤1000000000) (E:∃a n c,iv=.slice a n c) :
  Calls prog 131 #[va,.int .i64 i,.agg #[iv,vb]] w fun e w'=>Sb w vO (l.map (·.1)) (j.map (·.1)) (l.length+j.length) (A+B+3) e w':=by
 obtain⟨Q,ni,R,rfl⟩:=E;have K:=aI (fun W (O:Below w.heap.size w W)=>qW va vb l j A B W (M.below O) (u.below O) N y hs z D C m);obtain⟨a,cap,rfl,_,_⟩:=M;obtain⟨S,r,rfl,_,_⟩:=u;clear N y hs z;go_enter func131,ntmps131;go_wp2_with fail;have b:=aI (aJ (PH w.heap.size w) (.cells #[.slice Q ni R,.slice S j.length r] 80));refine(K _ b).mono ?_;rintro e T ⟨v,lo,rfl,F,G,H,I,J,L,s⟩;have P:=aI (show Sb w vO (l.map (·.1)) (j.map (·.1)) (l.length+j.length) (A+B+3) (.returned v) T from⟨v,lo,rfl,F.base b.size,G.mono b.size,H,I,J,L,aN b s⟩);clear F G H I J L s b;go_wp2;go_ret;exact P
def Xw (l:List FV) (s:List Nat) (r c:Int):Prop:=∃i∈s,dN ((l.getD i FV.z).vec.map (·.1)) r c
structure OutV (w:World) (D:Nat) (l:List FV) (V A:Nat) (s:List Nat) (W:World):Prop where
 out:∃v lo,W.heap[w.heap.size]?=some (.cells #[v] 76 (0,0))∧RowF W D v lo∧HolB D lo∧CanW (lo.map (·.1))∧(∀r c,dN (lo.map (·.1)) r c↔Xw l s r c)∧lo.length≤s.length * V∧(∀p∈lo,p.1.hs.length≤s.length * (A+3))
 fn:W.heap[w.heap.size+1]?=some (.cells #[.func (.func 131) #[] #[]] 205 (0,0))
 bl:Below w.heap.size w W
theorem OutV.only{w:World}{D:Nat}{l:List FV}{V A:Nat}{s:List Nat}{X X':World}{may:Nat→Prop}(h:OutV w D l V A s X)(ho:Only may X X')(h0:∀k,may k→w.heap.size+2≤k)(y:∀k,may k→k<D):OutV w D l V A s X':=by
 obtain⟨⟨v,lo,m,n,b,p⟩,r,j⟩:=h;exact⟨⟨v,lo,ho.obj (fun h=>by have:=h0 _ h;omega) m,n.onlyB b ho y,b,p⟩,ho.obj (fun h=>by have:=h0 _ h;omega) r,j.trans (ho.below j.size (fun k u=>by have:=h0 k u;omega))⟩
theorem Ra(B1 B2:Nat)(a:Option Addr)(len cap:Nat)(l:List FV)(x:Int)(I V A:Nat)(w:World)(hE:KnowAt w a len l)(hO:Sa l I V A)
  (h1:w.heap[B1]?=some (.cells #[.slice a len cap] 23 (0,0))) (h2:w.heap[B2]?=some (.cells #[.int .u64 x] 57 (0,0)))
  (hI:I≤3900000000) (hV:V≤2000000000) (hA:A≤2000000000) (A9:len≤3900000000) (N:Nat) (hN:(aX l x len).length≤N) (B9:(N+1) * V≤1000000000) (C0:(N+1) * (A+3)≤2000000000) :
  Calls prog 130 #[.func (.func 118) #[] #[.pointer (some ⟨B1,0,none⟩),.pointer (some ⟨B2,0,none⟩)],.slice none 0 0,.func (.func 131) #[] #[]] w fun e w'=>∃v lo,e=.returned v∧RowF w' w.heap.size v lo∧HolB w.heap.size lo∧CanW (lo.map (·.1))∧(∀r c,dN (lo.map (·.1)) r c↔Xw l (aX l x len) r c)∧lo.length≤(aX l x len).length * V∧(∀p∈lo,p.1.hs.length≤(aX l x len).length * (A+3))∧Below w.heap.size w w':=by
 have B0:(aX l x len).length≤len:=by
  have:=QM (fun i=>decide (aV (l.getD i FV.z).items x)) (QP len);simpa[aX]using this
 have l1:=aO h1;have l2:=aO h2;have A3:∀V1,Below w.heap.size w V1→w.heap.size<V1.heap.size→_:=fun V1 u A0=>zN 5 aA B1 B2 a len cap l x w V1 hE u ((u.block _ l1).trans h1) ((u.block _ l2).trans h2) (fun b=>b=w.heap.size) (fun k m=>aA) aA aA hO.cor (fun f hf=>RB (hO.items f hf) hI) A9 3 aB aB;have SQ:=aI A3;have C:∀i∈aX l x len,i<len:=fun i hi=>(dG.1 hi).1;obtain⟨s,es⟩:=aG (aX l x len);rw[es]at SQ B0 C hN ⊢;have HE:=aI hE;have HO:=aI hO;have SM:=aI C;clear A3 h1 h2 hE hO es C;refine(callsIn_wide (n:=6)).1 ?_;refine callsIn_of_wp_marks func130 rfl trivial ?_ rfl;simp only[ntmps130,PY,QC,QH,RH,RF,PE,PD,PZ,PV,QF,QE];gi_wp2;obtain⟨V1,y⟩:=aG ((w.alloc (.cells #[.slice none 0 0] 76)).alloc (.cells #[.func (.func 131) #[] #[]] 205));have hB:V1.heap.size=w.heap.size+2:=by rw[← y];simp
 have u:Below w.heap.size w V1:=by rw[← y];exact aJ (aJ (PH _ _) _) _
 have q1:V1.heap[w.heap.size]?=some (.cells #[.slice none 0 0] 76 (0,0)):=by rw[← y];exact aT _ _ aD (aK _ _ rfl)
 have q2:V1.heap[w.heap.size+1]?=some (.cells #[.func (.func 131) #[] #[]] 205 (0,0)):=by rw[← y];exact aK _ _ aD
 rw[y];clear y;have B3:=aI (SQ V1 u aA);have B6:∀args W,(callFunc 131 args).run prog W=.ok (.enter 131 args) W:=fun _ _=>aC;refine gL (gf:=118) (lb:=#[.pointer (some ⟨B1,0,none⟩),.pointer (some ⟨B2,0,none⟩)]) rfl aA rfl trivial (enters_of func118 aC rfl)
  B3 (PH _ _) (fun _=>rfl) (fun k m=>aA)
  (fun k W=>OutV w (V1.heap.size+2) l V A (s.take k) W)
  (fun _ _ _=>False) ?hI (fun _ _ _ _ h _=>h) ⟨⟨_,[],q1,RowF.nil _ _,(fun p hp=>by cases hp),CanW.nil,(fun r c=>⟨fun h=>absurd h (jN r c),fun⟨_,h,_⟩=>by cases h⟩),aD,(fun p hp=>by cases hp)⟩,q2,u⟩
  (fun k a₁ W=>OutV w (V1.heap.size+2) l V A (s.take k) W∧∃j,V1.heap.size+2≤j∧W.heap[j]?=some (.cells #[(l.getD (s.getD k 0) FV.z).iv,(l.getD (s.getD k 0) FV.z).vv] 80 (0,0)) ∧
    a₁={ tmps:=#[.func (.func 118) #[] #[.pointer (some ⟨B1,0,none⟩),.pointer (some ⟨B2,0,none⟩)],.slice none 0 0,.func (.func 131) #[] #[],undef,.pointer (some ⟨w.heap.size,0,none⟩),.pointer (some ⟨w.heap.size+1,0,none⟩),.slice none 0 0,.int .i64 (s.getD k 0:Nat),.pointer (some ⟨j,0,none⟩),.func (.func 118) #[] #[.pointer (some ⟨B1,0,none⟩),.pointer (some ⟨B2,0,none⟩)],.int .i64 (s.getD k 0:Nat),.agg #[(l.getD (s.getD k 0) FV.z).iv,(l.getD (s.getD k 0) FV.z).vv],undef,undef,undef,undef,undef,undef],defers:=[] })
  ?hAx ?assign ?body ?done (fun _ _ _ _ _ _ h _=>h.elim)
 case hI=>
  intro k X Y h ho;exact h.only ho (fun q F=>aA) (fun q F=>aA)
 case hAx=>
  rintro k a₁ X Y ⟨h,j,hb,F,e⟩ ho;exact⟨h.only ho (fun q F=>aA) (fun q F=>aA),j,hb,ho.obj (fun m=>aA) F,e⟩
 case assign=>
  rintro ll k W A0 h m;have T:=HE.mem (SM (s.getD k 0) (by simp only[PQ,PO m,RL];exact PT m));obtain⟨⟨ai,ci,ei,_⟩,⟨av,cv,ev,_⟩⟩:=HE.frags _ T;simp only[AJ];obtain⟨p,ep⟩:=aG (l.getD (s.getD k 0) FV.z);rw[ep]at ei ev ⊢;obtain⟨i,G⟩:=aG (s.getD k 0);rw[G];obtain⟨items,iv,vec,vv⟩:=p;simp only at ei ev ⊢;subst ei;subst ev;have HH:=aI h;clear h T ep G;gi_wp2;exact⟨(Only.refl _ W).alloc _,HH.only (may:=fun _=>False) ((Only.refl _ W).alloc _) (fun _ h=>h.elim) (fun _ h=>h.elim),W.heap.size,aA,aK _ _ rfl,rfl⟩
 case body=>
  rintro ll k a₁ W A0 ⟨h,j,B8,F,rfl⟩ m;have A4:s.getD k 0∈s:=by simp only[PQ,PO m,RL];exact PT m
  have T:=HE.mem (SM _ A4);have E1:=aI (show s.take (k+1)=s.take k ++ [s.getD k 0] from by
   rw[PX m];simp[PQ,PO m])
  obtain⟨⟨v,lo,hv,hF,hH,hC,P,hl,hh⟩,hf,B⟩:=h;have L:=(HE.frags _ T).below B;have B4:(s.take k).length=k:=by rw[PS];omega
  rw[B4]at hl hh;obtain⟨p,ep⟩:=aG (l.getD (s.getD k 0) FV.z);have U:=HO.right _ T;have M:=HO.vec _ T;have O:=HO.hs _ T;have A5:=aI (show ∀r c,Xw l (s.take (k+1)) r c↔Xw l (s.take k) r c∨dN (p.vec.map (·.1)) r c from fun r c=>by
   unfold Xw;rw[E1.out,← ep];constructor
   ·rintro⟨i,hi,h⟩;rcases List.mem_append.1 hi with hi | hi
    ·exact .inl ⟨i,hi,h⟩
    obtain rfl:i=s.getD k 0:=by simpa using hi
    exact .inr h
   rintro(⟨i,hi,h⟩ | h)
   ·exact⟨i,List.mem_append_left _ hi,h⟩
   exact⟨s.getD k 0,aD,h⟩)
  rw[ep]at F L U M O ⊢;have B7:k+1≤N:=aA;have m1:(k+1) * V≤(N+1) * V:=RJ _ aA;have m2:(k+1) * (A+3)≤(N+1) * (A+3):=RJ _ aA;rw[RI]at m1 m2;have M1:=aI (RI k V);have M2:=aI (RI k (A+3));obtain⟨kv,A7⟩:=aG (k * V);obtain⟨ka,A8⟩:=aG (k * (A+3));rw[A7]at hl m1 M1;rw[A8]at hh m2 M2;have KA:=aI (AV v p.vv p.iv (s.getD k 0:Nat) lo p.vec ka A W hF.vecAt L.vec (CanV.right (CanW.v hC)) U hh O aA aA aA (by obtain⟨a',c',e',_⟩:=L.items;exact⟨a',_,c',e'⟩));obtain⟨i,G⟩:=aG (s.getD k 0);rw[G]at KA ⊢;obtain⟨⟨ai,ci,ei,_⟩,⟨av,cv,ev,_⟩⟩:=L;obtain⟨ao,co,eo,_⟩:=hF.vecAt;obtain⟨items,iv,vec,vv⟩:=p;simp only at ei ev F KA A5 M O;subst ei;subst ev;subst eo;have v0:W.cell? ⟨w.heap.size,0,none⟩=some (.slice ao lo.length co):=by simp[PM,hv]
  have v1:W.cell? ⟨w.heap.size+1,0,none⟩=some (.func (.func 131) #[] #[]):=by simp[PM,hf]
  have v2:W.cell? ⟨j,0,none⟩=some (.slice ai items.length ci):=by simp[PM,F]
  have v3:W.cell? ⟨j,1,none⟩=some (.slice av vec.length cv):=by simp[PM,F]
  have HV:=aI hv;have HF:=aI hf;have A6:=aI B;have B5:=aI P;have HL:=aI (PC hl M);have Z:=aI A0;clear hv hF hH hC P hh hf B F U O T A4 ep G A7 A8 M hl;gi_wp2_with (refine⟨trivial,?_⟩;gi_at_call 131;refine(callsIn_wide.2 KA).mono ?_;rintro e W4 ⟨v',A1,rfl,H,J,Q,R,A2,S,K⟩;obtain⟨a4,c4,rfl,_⟩:=H.vecAt;have R4:=aI (PC H (PC J (PC Q (PC R (PC A2 (PC S K))))));have q4:=(K.block _ (aO HV)).trans HV;have y0:W4.cell? ⟨w.heap.size,0,none⟩=some (.slice ao lo.length co):=(by simp[PM,q4]);have y1:W4.frozen? ⟨w.heap.size,0,none⟩=false:=frozen_of_row W4 _ 0 _ _ q4;have Q4:=aI q4;clear H J Q R A2 S K q4);obtain⟨H,J,Q,R,A2,S,K⟩:=R4.out;have o1:=aI ((Only.of_below (may:=fun b=>b=w.heap.size) K).setCell (p:=⟨w.heap.size,0,none⟩) (.inl rfl) (.slice a4 A1.length c4));have o2:Only (fun b=>b=w.heap.size) W4 (W4.setCell ⟨w.heap.size,0,none⟩ (.slice a4 A1.length c4)):=(Only.refl (fun b=>b=w.heap.size) W4).setCell (p:=⟨w.heap.size,0,none⟩) (.inl rfl) _;refine⟨o1.wide (fun b hb=>.inl hb),⟨⟨_,A1,heap_setCell_same _ _ 0 _ _ _ Q4,(H.base (base':=V1.heap.size+2) Z).onlyB (J.mono Z) o2 (fun k m=>aA),J.mono Z,Q,fun r c=>?_,?_,fun p hp=>?_⟩,o1.obj (fun h=>aA) HF,A6.trans (o1.below (n:=w.heap.size) A6.size (fun k m=>aA))⟩⟩
  ·rw[R,A5.out,← B5.out];show(decide _ || decide _)=true↔_;simp
  ·have E:(s.take (k+1)).length=k+1:=by rw[PS];omega
   have:=HL.out;rw[E,M1.out];omega
  have E:(s.take (k+1)).length=k+1:=by rw[PS];omega
  have:=S p hp;rw[E,M2.out];omega
 rintro D W hD h hK;rw[QU]at h;obtain⟨⟨v,lo,hv,hF,hH,hC,P,hl,hh⟩,hf,B⟩:=h;have v0:W.cell? ⟨w.heap.size,0,none⟩=some v:=by simp[PM,hv]
 gi_wp2;refine⟨aD,.inl ⟨_,_,rfl,run_takeDeferred hK,?_⟩⟩;have oD:=Only.putObj (may:=fun x=>x=D) W D (.deferred none) rfl;have nD:∀t,t≠0→¬Typed W t D:=fun t _ ⟨cs,hc⟩=>by rw[hK]at hc;cases hc
 refine⟨_,results_tmp rfl _ _ _,v,lo,rfl,(hF.only oD (fun k m=>by rw[m];exact⟨fun⟨cs,hc⟩=>(by rw[hK]at hc;cases hc),fun⟨cs,hc⟩=>(by rw[hK]at hc;cases hc)⟩)).base aA,hH.mono aA,hC,P,hl,hh,B.trans (oD.below (n:=w.heap.size) B.size (fun k (m:k=D)=>aA))⟩
theorem rZ{l:List FV}{x r c:Int}:Xw l (aX l x l.length) r c↔fH (l.map FV.frag) x r c:=by
 constructor
 ·rintro⟨i,hi,h⟩;obtain⟨h1,h2⟩:=dG.1 hi;refine⟨(l.getD i FV.z).frag,List.mem_map.2 ⟨_,?_,rfl⟩,h2,h⟩;rw[PQ,PO h1,RL];exact PT h1
 rintro⟨f,j,h1,h2⟩;obtain⟨g,m,rfl⟩:=List.mem_map.1 j;obtain⟨i,hi,e⟩:=List.mem_iff_getElem.1 m;have b:l.getD i FV.z=g:=by rw[PQ,PO hi,RL,e]
 exact⟨i,dG.2 ⟨hi,by rw[b];exact h1⟩,by rw[b];exact h2⟩
theorem Li(v:Value)(l:List FV)(x:Int)(I V A:Nat)(w:World)(P:KnwAt w v l)(L:Sa l I V A)(Q:I≤3900000000)(R:V≤2000000000)(S:A≤2000000000)(n:l.length≤3900000000)(N:Nat)(T:(aX l x l.length).length≤N)(s:(N+1) * V≤1000000000)(u:(N+1) * (A+3)≤2000000000) :
  Calls prog 79 #[v,.int .u64 x] w fun e w'=>∃v lo,e=.returned v∧RowF w' w.heap.size v lo∧HolB w.heap.size lo∧CanW (lo.map (·.1))∧(∀r c,dN (lo.map (·.1)) r c↔fH (l.map FV.frag) x r c)∧lo.length≤(aX l x l.length).length * V∧(∀p∈lo,p.1.hs.length≤(aX l x l.length).length * (A+3))∧Below w.heap.size w w':=by
 obtain⟨a,cap,rfl,E,_⟩:=P;obtain⟨W,b⟩:=aG ((w.alloc (.cells #[.slice a l.length cap] 23)).alloc (.cells #[.int .u64 x] 57));have y:Below w.heap.size w W:=by rw[← b];exact aJ (aJ (PH _ _) _) _
 have B:W.heap[w.heap.size]?=some (.cells #[.slice a l.length cap] 23 (0,0)):=by rw[← b];exact aT _ _ aD (aK _ _ rfl)
 have C:W.heap[w.heap.size+1]?=some (.cells #[.int .u64 x] 57 (0,0)):=by rw[← b];exact aK _ _ aD
 have D:=aI (Ei (.slice a l.length cap) x a l.length cap rfl w);have M:=aI (Ra w.heap.size (w.heap.size+1) a l.length cap l x I V A W (E.below y) L B C Q R S n N T s u);rw[b]at D;have z:=aI y;clear E L s u b y B C;go_enter func79,ntmps79;go_wp2_with fail;refine D.mono ?_;rintro e U ⟨rfl,rfl⟩;go_wp2_with fail;refine M.mono ?_;rintro e w2 ⟨v,lo,rfl,F,G,H,j,J,K,m⟩;have O:=aI (PC (F.base z.size) (PC (G.mono z.size) (PC H (PC (fun r c=>(j r c).trans rZ) (PC J (PC K (aN z m)))))));clear F G H j J K m;go_wp2;go_ret;exact⟨v,lo,rfl,O⟩
end Go.Proofs.YtbkkolfpegplgaaGreatDoor
namespace Go.Proofs.YtbkkolfpegplgaaGreatDoor
open Go Go.RowKit
attribute [local go_sem] Oper.semAt_some
def iW (s:List Nat):List Value:=s.map (fun(i:Nat)=>PI .i64 (i:Int))
def OwnJ (w:World) (base:Nat) (v:Value) (s:List Nat):Prop:=w.ownsRow base 3 1 v s.length (iW s)
theorem OwnJ.nil(w:World)(base:Nat):OwnJ w base (.slice none 0 0) []:=World.ownsRow_nil _ _ _ _
theorem yF:(prog.info? 3).map (fun i=>(i.zero,i.size,i.bytes))=some (some (.int .i64 0),1,8):=aC
theorem Gn(x:Int):∀u∈[PI .i64 x],u.oneCell'=true:=by
 intro u b;simp at b;subst b;rfl
theorem Vl(base:Nat)(v iv vv:Value)(s:List Nat)(i:Nat)(w:World)(h:OwnJ w base v s)(M:s.length≤3900000000)(y:base≤w.heap.size)(z:∃a n c,iv=.slice a n c)(A:∃a n c,vv=.slice a n c) :
  Calls prog 189 #[v,.int .i64 (i:Int),.agg #[iv,vv]] w fun e w'=>∃m,e=.returned m∧OwnJ w' base m (s ++ [i])∧Only (fun b=>v.ownBlock=some b) w w':=by
 obtain⟨K,hi,p,r,u⟩:=info_parts yF;obtain⟨B,ni,C,rfl⟩:=z;obtain⟨D,E,F,rfl⟩:=A;have H:=aI h;obtain⟨a,cap,rfl,_⟩:=aY h;clear h;obtain⟨n,en⟩:=aG s.length;have G:=aI en;unfold OwnJ at H;rw[en]at H M ⊢;clear en;go_enter func189,ntmps189;go_wp2_with(at_builtin;go_loud(refine wpList_append_own_at _ rfl _ _ 86 rfl base 3 K (.int .i64 0) 1 8 underlying86 hi p r u rfl aB _ _ _ rfl ((H.alloc _).alloc _) ⟨w.heap.size+1,0,none⟩ 1 1 [.int .i64 (i:Int)] rfl rfl ?c1 (Gn _) ?c2 ?c3 ?c4 ?_))
 case c1=>
  have:=cell_one_new (w.alloc (.cells #[.slice B ni C,.slice D E F] 80)) (.int .i64 (i:Int)) 3;simp only[PN]at this;exact this
 case c2=>unfold maxLen;omega
 case c3=>omega
 case c4=>simp;omega
 intro m w2 l j _ _;have I:=aI l;have J:=aI ((((Only.refl (fun b=>(PJ a n cap).ownBlock=some b) w).alloc (.cells #[.slice B ni C,.slice D E F] 80)).alloc (.cells #[.int .i64 (i:Int)] 3)).grown j (fun k L=>L));clear l j;go_wp2;go_ret;refine⟨m,rfl,?_,J⟩;unfold OwnJ iW;rw[QG,PU,G.out];exact I
structure OutJ (w:World) (D:Nat) (s:List Nat) (W:World):Prop where
 out:∃v,W.heap[w.heap.size]?=some (.cells #[v] 86 (0,0))∧OwnJ W D v s
 fn:W.heap[w.heap.size+1]?=some (.cells #[.func (.func 189) #[] #[]] 287 (0,0))
 bl:Below w.heap.size w W
theorem OutJ.only{w:World}{D:Nat}{s:List Nat}{X X':World}{may:Nat→Prop}(h:OutJ w D s X)(ho:Only may X X')(h0:∀k,may k→w.heap.size+2≤k)(p:∀k,may k→k<D):OutJ w D s X':=by
 obtain⟨⟨v,j,l⟩,m,b⟩:=h;exact⟨⟨v,ho.obj (fun h=>by have:=h0 _ h;omega) j,eU l ho p⟩,ho.obj (fun h=>by have:=h0 _ h;omega) m,b.trans (ho.below b.size (fun k n=>by have:=h0 k n;omega))⟩
theorem Rb(Q R:Nat)(a:Option Addr)(len cap:Nat)(l:List FV)(x:Int)(w:World)(hE:KnowAt w a len l)(L:∀f∈l,cL f.items)(M:∀f∈l,f.items.length≤3900000000)
  (h1:w.heap[Q]?=some (.cells #[.slice a len cap] 23 (0,0))) (h2:w.heap[R]?=some (.cells #[.int .u64 x] 57 (0,0))) (A5:len≤1000000000) :
  Calls prog 188 #[.func (.func 118) #[] #[.pointer (some ⟨Q,0,none⟩),.pointer (some ⟨R,0,none⟩)],.slice none 0 0,.func (.func 189) #[] #[]] w fun e w'=>∃v,e=.returned v∧OwnJ w' w.heap.size v (aX l x len)∧Below w.heap.size w w':=by
 have A2:(aX l x len).length≤len:=by
  have:=QM (fun i=>decide (aV (l.getD i FV.z).items x)) (QP len);simpa[aX]using this
 have l1:=aO h1;have l2:=aO h2;have S:∀V1,Below w.heap.size w V1→w.heap.size<V1.heap.size→_:=fun V1 y J=>zN 5 aA Q R a len cap l x w V1 hE y ((y.block _ l1).trans h1) ((y.block _ l2).trans h2) (fun b=>b=w.heap.size) (fun k H=>aA) aA aA L M aA 3 aB aB;have SQ:=aI S;have F:∀i∈aX l x len,i<len:=fun i hi=>(dG.1 hi).1;obtain⟨s,es⟩:=aG (aX l x len);rw[es]at SQ A2 F ⊢;have HE:=aI hE;have SM:=aI F;clear S h1 h2 hE L M es F;refine(callsIn_wide (n:=6)).1 ?_;refine callsIn_of_wp_marks func188 rfl trivial ?_ rfl;simp only[ntmps188,PY,QC,QH,RH,RF,PE,PD,PZ,PV,QF,QE];gi_wp2;obtain⟨V1,A⟩:=aG ((w.alloc (.cells #[.slice none 0 0] 86)).alloc (.cells #[.func (.func 189) #[] #[]] 287));have hB:V1.heap.size=w.heap.size+2:=by rw[← A];simp
 have y:Below w.heap.size w V1:=by rw[← A];exact aJ (aJ (PH _ _) _) _
 have q1:V1.heap[w.heap.size]?=some (.cells #[.slice none 0 0] 86 (0,0)):=by rw[← A];exact aT _ _ aD (aK _ _ rfl)
 have q2:V1.heap[w.heap.size+1]?=some (.cells #[.func (.func 189) #[] #[]] 287 (0,0)):=by rw[← A];exact aK _ _ aD
 rw[A];clear A;have A3:=aI (SQ V1 y aA);have A6:∀args W,(callFunc 189 args).run prog W=.ok (.enter 189 args) W:=fun _ _=>aC;refine gL (gf:=118) (lb:=#[.pointer (some ⟨Q,0,none⟩),.pointer (some ⟨R,0,none⟩)]) rfl aA rfl trivial (enters_of func118 aC rfl)
  A3 (PH _ _) (fun _=>rfl) (fun k H=>aA)
  (fun k W=>OutJ w (V1.heap.size+2) (s.take k) W)
  (fun _ _ _=>False) ?hI (fun _ _ _ _ h _=>h) ⟨⟨_,q1,OwnJ.nil _ _⟩,q2,y⟩
  (fun k a₁ W=>OutJ w (V1.heap.size+2) (s.take k) W∧∃u,V1.heap.size+2≤u∧W.heap[u]?=some (.cells #[(l.getD (s.getD k 0) FV.z).iv,(l.getD (s.getD k 0) FV.z).vv] 80 (0,0)) ∧
    a₁={ tmps:=#[.func (.func 118) #[] #[.pointer (some ⟨Q,0,none⟩),.pointer (some ⟨R,0,none⟩)],.slice none 0 0,.func (.func 189) #[] #[],undef,.pointer (some ⟨w.heap.size,0,none⟩),.pointer (some ⟨w.heap.size+1,0,none⟩),.slice none 0 0,.int .i64 (s.getD k 0:Nat),.pointer (some ⟨u,0,none⟩),.func (.func 118) #[] #[.pointer (some ⟨Q,0,none⟩),.pointer (some ⟨R,0,none⟩)],.int .i64 (s.getD k 0:Nat),.agg #[(l.getD (s.getD k 0) FV.z).iv,(l.getD (s.getD k 0) FV.z).vv],undef,undef,undef,undef,undef,undef],defers:=[] })
  ?hAx ?assign ?body ?done (fun _ _ _ _ _ _ h _=>h.elim)
 case hI=>
  intro k X Y h ho;exact h.only ho (fun q j=>aA) (fun q j=>aA)
 case hAx=>
  rintro k a₁ X Y ⟨h,u,hb,j,e⟩ ho;exact⟨h.only ho (fun q j=>aA) (fun q j=>aA),u,hb,ho.obj (fun H=>aA) j,e⟩
 case assign=>
  rintro ll k W J h H;have T:=HE.mem (SM (s.getD k 0) (by simp only[PQ,PO H,RL];exact PT H));obtain⟨⟨ai,ci,N,_⟩,⟨av,cv,O,_⟩⟩:=HE.frags _ T;simp only[AJ];obtain⟨p,ep⟩:=aG (l.getD (s.getD k 0) FV.z);rw[ep]at N O ⊢;obtain⟨i,I⟩:=aG (s.getD k 0);rw[I];obtain⟨items,iv,vec,vv⟩:=p;simp only at N O ⊢;subst N;subst O;have HH:=aI h;clear h T ep I;gi_wp2;exact⟨(Only.refl _ W).alloc _,HH.only (may:=fun _=>False) ((Only.refl _ W).alloc _) (fun _ h=>h.elim) (fun _ h=>h.elim),W.heap.size,aA,aK _ _ rfl,rfl⟩
 case body=>
  rintro ll k a₁ W J ⟨h,u,A8,j,rfl⟩ H;have U:s.getD k 0∈s:=by simp only[PQ,PO H,RL];exact PT H
  have T:=HE.mem (SM _ U);have E1:=aI (show s.take (k+1)=s.take k ++ [s.getD k 0] from by
   rw[PX H];simp[PQ,PO H])
  obtain⟨⟨v,hv,K⟩,hf,B⟩:=h;have G:=(HE.frags _ T).below B;have V:(s.take k).length=k:=by rw[PS];omega
  obtain⟨i,I⟩:=aG (s.getD k 0);rw[I]at j G E1 ⊢;obtain⟨p,ep⟩:=aG (l.getD i FV.z);rw[ep]at j G ⊢;have KA:=aI (Vl (V1.heap.size+2) v p.iv p.vv (s.take k) i W K aA J (by obtain⟨a',c',e',_⟩:=G.items;exact⟨a',_,c',e'⟩) (by obtain⟨a',c',e',_⟩:=G.vec;exact⟨a',_,c',e'⟩));obtain⟨⟨ai,ci,N,_⟩,⟨av,cv,O,_⟩⟩:=G;have r:∀q,v.ownBlock=some q→V1.heap.size+2≤q∧Typed W 3 q:=fun q j=>⟨(K.lt q j).1,aR K j⟩;obtain⟨ao,co,eo,_⟩:=aY K;obtain⟨items,iv,vec,vv⟩:=p;simp only at N O j KA;subst N;subst O;subst eo;rw[V]at hv KA r;have v0:W.cell? ⟨w.heap.size,0,none⟩=some (.slice ao k co):=by simp[PM,hv]
  have v1:W.cell? ⟨w.heap.size+1,0,none⟩=some (.func (.func 189) #[] #[]):=by simp[PM,hf]
  have v2:W.cell? ⟨u,0,none⟩=some (.slice ai items.length ci):=by simp[PM,j]
  have v3:W.cell? ⟨u,1,none⟩=some (.slice av vec.length cv):=by simp[PM,j]
  have HV:=aI hv;have HF:=aI hf;have Z:=aI B;have A7:=aI J;have A0:=aI r;have nC:¬(PJ ao k co).ownBlock=some w.heap.size:=fun e=>by have:=(r _ e).1;omega
  have A1:¬(PJ ao k co).ownBlock=some (w.heap.size+1):=fun e=>by have:=(r _ e).1;omega
  have NC:=aI nC;have A4:=aI A1;clear hv K hf B j T U ep I r nC A1 V;gi_wp2_with (refine⟨trivial,?_⟩;gi_at_call 189;refine(callsIn_wide.2 KA).mono ?_;rintro e P ⟨v',rfl,C,E⟩;obtain⟨a4,c4,rfl,_⟩:=aY C;obtain⟨m4,em⟩:=aG ((s.take k ++ [i]).length);rw[em]at C ⊢;clear em;have R4:=aI (PC C E);have q4:=E.obj NC HV;have y0:P.cell? ⟨w.heap.size,0,none⟩=some (.slice ao k co):=(by simp[PM,q4]);have y1:P.frozen? ⟨w.heap.size,0,none⟩=false:=frozen_of_row P _ 0 _ _ q4;have Q4:=aI q4;clear C E q4);obtain⟨C,E⟩:=R4.out;have o1:=aI (((E.wide (may':=fun b=>b=w.heap.size∨w.heap.size≤b∧Typed W 3 b) (fun b hb=>.inr ⟨by have:=(A0 b hb).1;omega,(A0 b hb).2⟩))).setCell (p:=⟨w.heap.size,0,none⟩) (.inl (.inl rfl)) (.slice a4 m4 c4));have o2:Only (fun b=>b=w.heap.size) P (P.setCell ⟨w.heap.size,0,none⟩ (.slice a4 m4 c4)):=(Only.refl (fun b=>b=w.heap.size) P).setCell (p:=⟨w.heap.size,0,none⟩) (.inl rfl) _;refine⟨o1,?_⟩;show OutJ w (V1.heap.size+2) (s.take (k+1)) _;rw[E1.out];refine⟨⟨_,heap_setCell_same _ _ 0 _ _ _ Q4,eU C o2 (fun q j=>aA)⟩,?_,Z.trans (o1.below (n:=w.heap.size) Z.size (fun q j=>aA))⟩;exact o2.obj (fun h=>aA) (E.obj A4 HF)
 rintro D W hD h hK;rw[QU]at h;obtain⟨⟨v,hv,K⟩,hf,B⟩:=h;have v0:W.cell? ⟨w.heap.size,0,none⟩=some v:=by simp[PM,hv]
 gi_wp2;refine⟨aD,.inl ⟨_,_,rfl,run_takeDeferred hK,?_⟩⟩;have oD:=Only.putObj (may:=fun x=>x=D) W D (.deferred none) rfl;have nD:∀q,v.ownBlock=some q→¬q=D:=fun q j e=>by
  obtain⟨cs,hc⟩:=aR K j;rw[e,hK]at hc
  cases hc
 exact⟨_,results_tmp rfl _ _ _,v,rfl,bC (bF K oD nD) aA,B.trans (oD.below (n:=w.heap.size) B.size (fun k (H:k=D)=>aA))⟩
theorem uP(v:Value)(l:List FV)(x:Int)(w:World)(E:KnwAt w v l)(b:∀f∈l,cL f.items)(j:∀f∈l,f.items.length≤3900000000)(p:l.length≤1000000000) :
  Calls prog 129 #[v,.int .u64 x] w fun e w'=>∃v,e=.returned v∧OwnJ w' w.heap.size v (aX l x l.length)∧Below w.heap.size w w':=by
 obtain⟨a,cap,rfl,A,_⟩:=E;obtain⟨W,m⟩:=aG ((w.alloc (.cells #[.slice a l.length cap] 23)).alloc (.cells #[.int .u64 x] 57));have r:Below w.heap.size w W:=by rw[← m];exact aJ (aJ (PH _ _) _) _
 have s:W.heap[w.heap.size]?=some (.cells #[.slice a l.length cap] 23 (0,0)):=by rw[← m];exact aT _ _ aD (aK _ _ rfl)
 have u:W.heap[w.heap.size+1]?=some (.cells #[.int .u64 x] 57 (0,0)):=by rw[← m];exact aK _ _ aD
 have y:=aI (Ei (.slice a l.length cap) x a l.length cap rfl w);have C:=aI (Rb w.heap.size (w.heap.size+1) a l.length cap l x W (A.below r) b j s u p);rw[m]at y;have z:=aI r;clear A b j m r s u;go_enter func129,ntmps129;go_wp2_with fail;refine y.mono ?_;rintro e F ⟨rfl,rfl⟩;go_wp2_with fail;refine C.mono ?_;rintro e w2 ⟨v,rfl,B,n⟩;have D:=aI (PC (bC B z.size) (aN z n));clear B n;go_wp2;go_ret;exact⟨v,rfl,D⟩
end Go.Proofs.YtbkkolfpegplgaaGreatDoor
namespace Go.Proofs.YtbkkolfpegplgaaGreatDoor
open Go Go.RowKit
structure Jc (g:FuncId) (tk:Bool→Bool→Bool):Prop where
 ent:∀(args:Array Value) (w:World),(callFunc g args).run prog w=.ok (.enter g args) w
 off:tk false false=false
 run:∀(va vb:Value) (l l':List EV) (A B:Nat) (w:World),VecAt w va l→VecAt w vb l'→bY (l.map (·.1))→bY (l'.map (·.1))→(∀p∈l,p.1.hs.length≤A)→(∀p∈l',p.1.hs.length≤B)→A+B≤3000000000→l.length≤1000000000→l'.length≤1000000000 →
  Calls prog g #[va,vb] w fun e w'=>Sb w tk (l.map (·.1)) (l'.map (·.1)) (l.length+l'.length) (A+B+3) e w'
theorem DU:Jc 34 vO:=⟨fun _ _=>aC,rfl,fun va vb l C A B w u j y m hs n r p b=>by
 have K:=aI (qW va vb l C A B w u j y m hs n r p b);obtain⟨a,cap,rfl,_⟩:=u;obtain⟨D,s,rfl,_⟩:=j;clear y m hs n;go_enter func34,ntmps34;go_wp2_with fail;refine K.mono ?_;rintro e E ⟨v,lo,rfl,h⟩;have z:=aI h;clear h;go_wp2;go_ret;exact⟨v,lo,rfl,z⟩⟩
theorem Vx:Jc 112 uD:=⟨fun _ _=>aC,rfl,fun va vb l C A B w u j y m hs n r p b=>by
 have K:=aI (Kj va vb l C A B w u j y m hs n r p b);obtain⟨a,cap,rfl,_⟩:=u;obtain⟨D,s,rfl,_⟩:=j;clear y m hs n;go_enter func112,ntmps112;go_wp2_with fail;refine K.mono ?_;rintro e E ⟨v,lo,rfl,h⟩;have z:=aI h;clear h;go_wp2;go_ret;exact⟨v,lo,rfl,z⟩⟩
end Go.Proofs.YtbkkolfpegplgaaGreatDoor
namespace Go.Proofs.YtbkkolfpegplgaaGreatDoor
open Go Go.RowKit
theorem qQ(v:Value)(l:List FV)(w:World)(hE:KnwAt w v l)(s:∀f∈l,cL f.items)(hR:∀f∈l,bY (f.vec.map (·.1)))(J:l.length≤1000000000) :
  Calls prog 42 #[v] w fun e w'=>e=.returned .nilIface∧Below w.heap.size w w':=by
 obtain⟨a,cap,rfl,hK,_⟩:=hE;have H:=aI hK;have HC:=aI s;have HR:=aI hR;obtain⟨len,r⟩:=aG l.length;rw[r]at H J ⊢;clear hK s hR r;go_enter func42,ntmps42;go_wp2;go_loopw [9] (fun c wr=>∃k:Nat,k≤len∧c=.int .i64 k∧Below w.heap.size w wr) (fun c _=>len-(intOf c).toNat)
 case atStart=>exact⟨0,QZ _,rfl,PH _ _⟩
 obtain⟨k,hk,rfl,Q⟩:=hrel;have N:=aI Q;have A0:(0:Int)≤(k:Int):=aA;by_cases hlt:k<len
 ·have i1:(k:Int)<(len:Int):=aA;have K:=H.below Q;obtain⟨b,off,rfl,R,u,y⟩:=K.cells k hlt;have j:=K.mem hlt;have C:=K.frags _ j;have m:=HC.out _ j;have n:=HR.out _ j;obtain⟨p,ep⟩:=aG (l.getD k FV.z);rw[ep]at u y C m n;obtain⟨⟨L,M,ei,S,_⟩,⟨D,E,ev,A,_⟩⟩:=C;obtain⟨items,iv,vec,vv⟩:=p;simp only at u y ei ev S A m n;subst ei;subst ev;have U:=aI (fun W (T:Below wr.heap.size wr W)=>xE L items.length M items W (S.below T) m);have V:=aI (fun W (T:Below wr.heap.size wr W)=>Cc D vec.length E vec W (A.at'.below T) n);obtain⟨ni,F⟩:=aG items.length;obtain⟨nv,G⟩:=aG vec.length;rw[F]at u U;rw[G]at y V;have X:(wr.alloc (.cells #[.slice L ni M,.slice D nv E] 80)).heap[wr.heap.size]?=some (.cells #[.slice L ni M,.slice D nv E] 80 (0,0)):=aK _ _ rfl;have Y:=aI X;have O:=aI (aJ (PH wr.heap.size wr) (.cells #[.slice L ni M,.slice D nv E] 80));clear ep Q R K j m n S A F G X;go_wp2_with fail;refine(U _ O).mono ?_;rintro e w3 ⟨rfl,B⟩;have Z:=(B.block _ (aO Y)).trans Y;have y1:w3.cell? ⟨wr.heap.size,1,none⟩=some (.slice D nv E):=by simp[PM,Z]
  have P:=aI (O.trans (B.mono O.size));clear B Z;go_wp2_with fail;refine(V _ P).mono ?_;rintro e w4 ⟨rfl,I⟩;have B4:=aI (N.trans ((P.trans (I.mono P.size)).mono N.size));clear I;go_wp2;go_roundw
  case rel=>first | exact⟨k+1,aA,by go_num,B4⟩ | ((repeat apply PF);exact⟨⟨k+1,aA,by go_num,B4⟩,rfl⟩)
  simp[intOf];omega
 obtain rfl:len=k:=aA;go_wp2;go_ret;exact⟨rfl,N⟩
theorem Gu(s:ByteArray)(w:World):Calls prog 77 #[.string s,.nilIface] w fun e w'=>e=.returned (.tuple #[])∧w'=w:=by
 go_enter func77,ntmps77;go_wp2;go_end0;exact⟨rfl,rfl⟩
end Go.Proofs.YtbkkolfpegplgaaGreatDoor
