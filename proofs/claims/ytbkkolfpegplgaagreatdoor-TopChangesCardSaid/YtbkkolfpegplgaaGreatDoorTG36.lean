import Derived.Test.YtbkkolfpegplgaaGreatDoorTG35
import Derived.Test.YtbkkolfpegplgaaGreatDoorTG29
open And renaming intro→PC
open Array renaming getElem?_toList→PD,getElem?_modify→PE
open Exists renaming intro→PF
open Go.IntWalk renaming i64_in→PG
open Go.RowKit.Below renaming refl→PH
open Go.Sort renaming putCells→PI,putRow→PJ,ahead→PM,heap_grow_old→PN,mapBlock→PO
open Go.Value renaming slice→PQ,int→PS
open Go.World renaming cell?→PT,ownsRow_nil→PU
open List renaming getElem?_eq_getElem→PV,getD→PX,getElem_mem→PY,getElem?_take_of_lt→PZ,length_append→QA,take_append_drop→QB,flatMap_cons→QC,append_assoc→QE,length_cons→QF,mem_or_eq_of_mem_set→QG,mem_append→QH,length_map→QI,mem_of_mem_take→QJ,mem_of_mem_drop→QK,mem_append_left→QM,set_cons_succ→QN,take_length→QP,length_nil→QR,setIfInBounds_toArray→QT,length→QU,set_cons_zero→QV,pairwise_map→QW,cons_append→QY
open List.Pairwise renaming nil→QZ
open Nat renaming le_refl→RA,le_trans→RB,zero_le→RF,lt_or_ge→RH,zero_add→RI,succ_mul→RJ,mul_le_mul_right→RK
open Option renaming getD_some→RL
open Go.Proofs.Tryz
set_option maxHeartbeats 16000000
set_option maxRecDepth 100000
set_option linter.unusedVariables false
set_option linter.unusedSimpArgs false
namespace Go.Proofs.YtbkkolfpegplgaaGreatDoor
open Go Go.RowKit
theorem Qx{w:World}{g n:Nat}{os:Array Obj}{cur:Array Value}{e:TypeId}{fr:Nat×Nat}(d:Array Int)(b:w.heap[g]?=some (.cells cur e fr)) :
  (Sort.grow (PJ (PS .u64) (PM w n) g 0 d) os).heap[g]?=some (.cells (PI (PS .u64) 0 d cur) e fr):=by
 have j:g<w.heap.size:=(Array.getElem?_eq_some_iff.1 b).1;rw[PN _ _ (by simpa using j)];simp[PJ,PO,PM,PE,b,Sort.onCells]
theorem Qi{w:World}{g n:Nat}{os:Array Obj}(d:Array Int):Only (fun b=>b=g) w (Sort.grow (PJ (PS .u64) (PM w n) g 0 d) os):=by
 refine⟨rfl,rfl,rfl,aD,fun k l j=>?_⟩;rw[PN _ _ (by simpa using l)];have:g≠k:=fun e=>j e.symm;simp[PJ,PO,PM,PE,this]
theorem Oq(cur:Array Value)(b:List Int)(h:b.length≤cur.size):(PI (PS .u64) 0 b.toArray cur).toList.take b.length=b.map (PS .u64):=by
 apply List.ext_getElem?;intro j;by_cases hj:j<b.length
 ·rw[PZ hj,PD];simp[PI,hj,show j<cur.size by omega]
 rw[List.getElem?_take_eq_none aA,List.getElem?_eq_none (by simp;omega)]
def pY (zs:List Int):List Int:=zs.mergeSort fun x y=>decide (x≤y)
theorem zV(zs:List Int)(x:Int):x∈pY zs↔x∈zs:=by unfold pY;exact List.mem_mergeSort
theorem rM(zs:List Int):(pY zs).length=zs.length:=by unfold pY;exact List.length_mergeSort _
theorem Ow{zs:List Int}(h:zs.Nodup):(pY zs).Pairwise (·<·):=by
 have h1:(pY zs).Pairwise (fun a b=>decide (a≤b)=true):=List.pairwise_mergeSort (fun a b c h1 h2=>by simp at *;omega) (fun a b=>by simp;omega) zs;have h2:(pY zs).Nodup:=(List.mergeSort_perm zs _).nodup_iff.2 h;exact(h1.and h2).imp (fun {a b} h=>by have h3:=h.1;have h4:=h.2;simp at h3;omega)
theorem Tj(base g cap:Nat)(zs:List Int)(w:World)(h:OwnI w base (.slice (some ⟨g,0,none⟩) zs.length cap) zs)(h0:zs≠[])(y:zs.length≤1000000000) :
  Calls prog 187 #[.slice (some ⟨g,0,none⟩) zs.length cap] w fun e w'=>e=.returned (.tuple #[])∧OwnI w' base (.slice (some ⟨g,0,none⟩) zs.length cap) (pY zs)∧Only (fun b=>b=g) w w':=by
 rcases h.row.2 with⟨hv,hl⟩ | ⟨g',cap',cur,hv,hb,hc,h1,h2,h3,h4⟩
 ·exact absurd (List.length_eq_zero_iff.1 hl) h0
 injection hv with e1 _ e3;injection e1 with e1;injection e1 with e1 _ _;subst e1;subst e3;have p:=aO hc;have r:Sort.Holds (PS .u64) w g 0 zs.toArray:=by
  intro j s;have l:j<zs.length:=by simpa using s
  refine⟨?_,by simp[World.frozen?,hc]⟩;have m:(cur.toList.take zs.length)[j]?=(zs.map (PS .u64))[j]?:=by rw[← h4,Nat.mul_one]
  rw[PZ l]at m;simp only[PT,hc,RI];simp only[Option.isSome_none,Bool.false_eq_true,if_false];rw[← PD,m];simp[l]
 refine(qO g 0 cap zs w r p aA).mono ?_;rintro e w' ⟨rfl,n,os,rfl⟩;have hl:=rM zs;refine⟨rfl,⟨⟨by simp[hl],.inr ⟨g,cap,_,by rw[hl],hb,Qx _ hc,by rw[hl];exact h1,h2,by simp[PI,h3],?_⟩⟩,fun z u=>h.words z ((zV zs z).1 u)⟩,Qi _⟩;rw[Nat.mul_one];exact Oq cur (pY zs) (by rw[hl];omega)
theorem MapR.put{w:World}{b n:Nat}{f:Int→Option Value}{t e:TypeId}(h:MapR w b n f)(p:prog.underlying t=some (.map 57 e))(s:n<maxLen){r:Int}(j:aL r)(v:Value) :
  ∃w',(Instr.mapUpdate t (.map (some b)) (.int .u64 r) v).run prog w=.ok () w'∧MapR w' b (n+1) (kS f r (some v))∧w.grownBy w' (some b):=by
 obtain⟨D,h,m⟩:=h;have l:=h.isMap;obtain⟨w',h1,h2,h3⟩:=h.update key_u64 p s (xZ j) (d:=.held v) (ps:=[]) rfl;exact⟨w',h1,⟨_,h2,m.put l j v⟩,h3⟩
def Wt (xs ys:List Int):Bool:=decide (xs=ys)
theorem Qz{xs ys:List Int}(b:xs.length=ys.length)(h:∀i,i<xs.length→xs.getD i 0=ys.getD i 0):xs=ys:=by
 refine List.ext_getElem b fun i h1 h2=>?_;have:=h i h1;simpa[PX,PV h1,PV h2]using this
theorem La(a K:Option Addr)(len cap j u:Nat)(xs ys:List Int)(w:World)(h:Ints .i64 w a len xs)(z:Ints .i64 w K j ys) :
  Calls prog 186 #[.slice a len cap,.slice K j u] w fun e w'=>e=.returned (.bool (Wt xs ys))∧Below w.heap.size w w':=by
 have H:=aI h;have L:=aI z;have A:=aI h.length;have p:=aI z.length;have O:=h.most;have M:=z.most;clear h z;by_cases hn:len=j
 ·subst hn;go_enter func186,ntmps186;go_wp2;go_loopw [13] (fun c wr=>∃k:Nat,k≤len∧c=.int .i64 k∧(∀i,i<k→xs.getD i 0=ys.getD i 0)∧Below w.heap.size w wr)
   (fun c _=>len-(intOf c).toNat)
  case atStart=>exact⟨0,RF _,rfl,(fun i h=>absurd h aA),PH _ _⟩
  obtain⟨k,R,rfl,hs,s⟩:=hrel;have D:=aI hs;clear hs;by_cases hlt:k<len
  ·obtain⟨b,off,rfl,N,n⟩:=(H.below s).cells k hlt;obtain⟨S,I,rfl,J,l⟩:=(L.below s).cells k hlt;have P:(0:Int)≤(k:Int):=aA;have Q:(k:Int)<(len:Int):=aA;obtain⟨x,B⟩:=aH (xs.getD k 0);obtain⟨y,C⟩:=aH (ys.getD k 0);rw[← B]at n;rw[← C]at l;have E:=aI B;have F:=aI C;clear B C;by_cases hxy:x=y
   ·subst hxy;have G:((x:Int) != x)=false:=aD;go_wp2;go_quiet (fail);go_wp2;go_roundw
    case rel=>exact⟨k+1,aA,by go_num,(fun i hi=>by
     by_cases e:i=k
     ·subst e;rw[← E.out,← F.out]
     exact D i aA),aU s _⟩
    simp[intOf];omega
   have G:((x:Int) != y)=true:=by simp[hxy]
   have m:=aI (show Wt xs ys=false from decide_eq_false (fun e=>hxy (by rw[E.out,F.out,e])));clear hxy;go_wp2;go_quiet (fail);go_wp2;go_ret;exact⟨iC m.symm,aU s _⟩
  obtain rfl:k=len:=aA;have r:=aI (show Wt xs ys=true from decide_eq_true (Qz (A.trans p.symm) (fun i hi=>D i (by rw[A.out]at hi;exact hi))));go_wp2;go_ret;exact⟨iC r.symm,s⟩
 have G:((len:Int) != (j:Int))=true:=by simp;omega
 have m:=aI (show Wt xs ys=false from decide_eq_false (fun e=>hn (by rw[← A.out,← p.out,e])));go_enter func186,ntmps186;go_wp2;go_ret;exact⟨iC m.symm,PH _ _⟩
theorem OwnJ.ints{w:World}{base:Nat}{v:Value}{s:List Nat}(h:OwnJ w base v s)(m:s.length≤1000000000)(l:∀x∈s,x≤1000000000):∃a cap,v=.slice a s.length cap∧Ints .i64 w a s.length (s.map (fun(i:Nat)=>(i:Int))):=by
 have b:w.ownsRow base 3 1 v (s.map (fun(i:Nat)=>(i:Int))).length ((s.map (fun(i:Nat)=>(i:Int))).map (PS .i64)):=by
  rw[QI,List.map_map];exact h
 obtain⟨a,cap,hv,h1,_,h3⟩:=oL b (by rw[QI];omega) (fun z j=>by
  obtain⟨i,hi,rfl⟩:=List.mem_map.1 j;have:=l i hi;simp[Lit.wf,IntKind.min,IntKind.max,IntKind.signed,IntKind.bits];omega)
 rw[QI]at hv h3;exact⟨a,cap,hv,h3⟩
theorem AF(base base':Nat)(v n:Value)(xs ys:List Nat)(w:World)(h:OwnJ w base v xs)(u:OwnJ w base' n ys)(y:xs.length≤1000000000)(m:ys.length≤1000000000)(z:∀x∈xs,x≤1000000000)(A:∀x∈ys,x≤1000000000) :
  Calls prog 186 #[v,n] w fun e w'=>e=.returned (.bool (decide (xs=ys)))∧Below w.heap.size w w':=by
 obtain⟨a,cap,rfl,p⟩:=h.ints y z;obtain⟨r,j,rfl,l⟩:=u.ints m A;refine(La a r xs.length cap ys.length j _ _ w p l).mono ?_;rintro e w' ⟨rfl,s⟩;refine⟨?_,s⟩;unfold Wt;have:(xs.map (fun(i:Nat)=>(i:Int))=ys.map (fun(i:Nat)=>(i:Int)))↔xs=ys:=by
  constructor
  ·intro e;exact(List.map_inj_right (fun a b h=>Int.ofNat.inj h)).1 e
  intro e;rw[e]
 simp[this]
theorem oC(l:List FV)(x:Int)(k:Nat):(aX l x k).length≤k:=by
 have:=List.length_filter_le (fun i=>decide (aV (l.getD i FV.z).items x)) (List.range k);simpa[aX]using this
def bD:List FV→Nat
 | []=>0
 | f :: l=>f.items.length+bD l
theorem bN(a b:List FV):bD (a ++ b)=bD a+bD b:=by
 induction a with
 | nil=>simp[bD]
 | cons x xs ih=>simp only[QY,bD,ih];omega
theorem fC{l:List FV}{k:Nat}(h:k<l.length):l.take (k+1)=l.take k ++ [l.getD k FV.z]:=by
 rw[List.take_succ_eq_append_getElem h];simp[PX,PV h]
theorem jP{l:List FV}{k:Nat}(h:k<l.length):bD (l.take (k+1))=bD (l.take k)+(l.getD k FV.z).items.length:=by
 rw[fC h,bN];simp[bD]
theorem oW(l:List FV)(k:Nat):bD (l.take k)≤bD l:=by
 have:=bN (l.take k) (l.drop k);rw[QB]at this;omega
def HasZ (f:Int→Option Value) (z:Iv):Prop:=(f z.1).isSome=true∧(z.2<18446744073709551615→(f (z.2+1)).isSome=true)
def EndsF (l:List FV) (k:Nat) (f:Int→Option Value):Prop:=(f 0).isSome=true∧∀i,i<k→∀z∈(l.getD i FV.z).items,HasZ f z
theorem oY{f:Int→Option Value}{x:Int}(h:(f x).isSome=true)(r:Int)(v:Value):(kS f r (some v) x).isSome=true:=by
 unfold kS;split
 ·rfl
 exact h
theorem pA(f:Int→Option Value)(r:Int)(v:Value):(kS f r (some v) r).isSome=true:=by unfold kS;rw[if_pos rfl];rfl
theorem HasZ.put{f:Int→Option Value}{z:Iv}(h:HasZ f z)(r:Int)(v:Value):HasZ (kS f r (some v)) z:=⟨oY h.1 r v,fun g=>oY (h.2 g) r v⟩
theorem EndsF.put{l:List FV}{k:Nat}{f:Int→Option Value}(h:EndsF l k f)(r:Int)(v:Value):EndsF l k (kS f r (some v)):=⟨oY h.1 r v,fun i hi z b=>(h.2 i hi z b).put r v⟩
def NoCh2 (l:List FV) (f:Int→Option Value):Prop:=∀x,aL x→0<x→(f x).isSome=false→aX l x l.length=aX l (x-1) l.length
theorem EndsF.no{l:List FV}{f:Int→Option Value}(h:EndsF l l.length f):NoCh2 l f:=by
 intro x p h0 m;unfold aX;refine List.filter_congr fun i hi=>?_;have n:i<l.length:=by simpa using hi
 have j:∀z∈(l.getD i FV.z).items,(z.1≤x∧x≤z.2)↔(z.1≤x-1∧x-1≤z.2):=fun z j=>by
  obtain⟨h1,h2⟩:=h.2 i n z j;have r:z.1≠x:=fun e=>by rw[e]at h1;rw[h1]at m;cases m
  have s:z.2+1≠x:=fun e=>by
   have h3:=h2 (by have:=p.2;omega);rw[e]at h3;rw[h3]at m;cases m
  omega
 have:aV (l.getD i FV.z).items x↔aV (l.getD i FV.z).items (x-1):=by
  constructor
  ·rintro⟨z,b,h⟩;exact⟨z,b,(j z b).1 h⟩
  rintro⟨z,b,h⟩;exact⟨z,b,(j z b).2 h⟩
 exact decide_eq_decide.2 this
theorem NoCh2.del{l:List FV}{f:Int→Option Value}(h:NoCh2 l f){r:Int}(m:aX l r l.length=aX l (r-1) l.length):NoCh2 l (kS f r none):=by
 intro x j h0 b;by_cases e:x=r
 ·rw[e];exact m
 refine h x j h0 ?_;unfold kS at b;rw[if_neg e]at b;exact b
theorem Jh(v:Value)(l:List FV)(w:World)(hE:KnwAt w v l)(C5:∀f∈l,cL f.items)(A7:∀f∈l,f.items.length≤1000000000)(K7:bD l≤400000000)(I1:l.length≤400000000) :
  Calls prog 128 #[v] w fun e w'=>∃v ss,e=.returned v∧OwnI w' w.heap.size v ss∧ss.Pairwise (·<·)∧0∈ss∧(∀x,aL x→0<x→x ∉ ss→aX l x l.length=aX l (x-1) l.length)∧ss.length≤1+2 * bD l∧Below w.heap.size w w':=by
 obtain⟨i0,hi,J5,J6,J7⟩:=info_parts iD;have KM:=aI (fun W (F:Below w.heap.size w W) x=>uP v l x W (hE.below F) C5 (fun f hf=>by have:=A7 f hf;omega) aA);obtain⟨a,cap,rfl,hK,_⟩:=hE;have H:=aI hK;have E5:=aI A7;have K8:∀W,(Instr.makeMap 283 none).run prog W=.ok (.map (some W.heap.size)) (W.alloc (.map #[] 0)):=fun W=>by simp[Instr.makeMap]
 have E6:=MapR.made w;obtain⟨w1,K4,G5,L⟩:=E6.put (t:=283) (e:=4) underlying283 (by unfold maxLen;omega) (r:=0) ⟨aB,aB⟩ (.bool true);obtain⟨M,eM⟩:=aG w.heap.size;have B1:=aI (((aJ (PH w.heap.size w) (.map #[] 0))).grown L aD (fun j hj=>by injection hj with hj;omega));have I2:=aI (show MapR w1 M 1 (kS (fun _=>none) 0 (some (.bool true)))from by rw[← eM];exact G5);have EM:=aI eM;obtain⟨len,Z⟩:=aG l.length;have EL:=aI Z;rw[Z]at H I1 KM ⊢;clear hK E6 G5 L A7 C5 eM Z;go_enter func128,ntmps128;go_wp2;rw[EM.out];go_loopw [19] (fun c wr=>∃(k n:Nat) (f:Int→Option Value),k≤len∧c=.int .i64 k∧MapR wr M n f∧n≤1+2 * bD (l.take k)∧EndsF l k f∧Below w.heap.size w wr) (fun c _=>len-(intOf c).toNat)
 case atStart=>exact⟨0,1,_,RF _,rfl,I2,aA,⟨pA _ _ _,fun i hi=>absurd hi aA⟩,B1⟩
 obtain⟨k,n,f,I,rfl,hM,hn,hF,F⟩:=hrel;have V:=aI hM;have HF:=aI hF;have A:=aI F;have K9:(0:Int)≤(k:Int):=aA;clear hM hF;by_cases hlt:k<len
 ·have i1:(k:Int)<(len:Int):=aA;have Hr:=H.below F;obtain⟨b,off,rfl,L3,D5,G6⟩:=Hr.cells k hlt;have E7:=H.frags _ (H.mem hlt);have C6:=E5.out _ (Hr.mem hlt);have TT:=aI (jP (l:=l) (k:=k) (by rw[EL.out];exact hlt));have TL:=aI (oW l k);obtain⟨p,ep⟩:=aG (l.getD k FV.z);have EP:=aI ep;rw[ep]at D5 G6 E7 C6 TT;obtain⟨⟨ai,ci,ei,D6,L4⟩,⟨av,cv,ev,_⟩⟩:=E7;obtain⟨items,iv,vec,vv⟩:=p;simp only at D5 G6 ei ev D6 C6 TT;subst ei;subst ev;have C7:=aI D6;obtain⟨ni,D7⟩:=aG items.length;have E8:=aI D7;rw[D7]at D5 C7 C6 TT;have E9:=aI (aJ (PH wr.heap.size wr) (.cells #[.slice ai ni ci,.slice av vec.length cv] 80));clear ep D7 D6 F Hr;go_wp2;obtain⟨W0,B2⟩:=aG (wr.alloc (.cells #[.slice ai ni ci,.slice av vec.length cv] 80));have F1:=aI (show MapR W0 M n f from by rw[← B2];exact V.below E9);have F2:=aI (show Below w.heap.size w W0 from by rw[← B2];exact A.trans (E9.mono A.size));rw[B2];clear B2;go_loopw [26] (fun c X=>∃(j n:Nat) (f:Int→Option Value),j≤ni∧c=.int .i64 j∧MapR X M n f∧n≤1+2 * bD (l.take k)+2 * j∧EndsF l k f∧(∀z∈items.take j,HasZ f z)∧Below w.heap.size w X) (fun c _=>ni-(intOf c).toNat)
  case atStart=>exact⟨0,n,f,RF _,rfl,F1,aA,HF,aD,F2⟩
  clear F1 F2 V HF A hn;obtain⟨j,n,f,hj,rfl,hM,hn,hF,hZ,F⟩:=hrel;have V:=aI hM;have HF:=aI hF;have HZ:=aI hZ;have A:=aI F;have j0:(0:Int)≤(j:Int):=aA;clear hM hF hZ;by_cases hjm:j<ni
  ·have j1:(j:Int)<(ni:Int):=aA;have I3:j<items.length:=by rw[E8.out];exact hjm
   have J:=C7.word (i:=j) hjm;have E1:=aI (Oo items j I3);obtain⟨b2,K5,rfl,G7,J8,J9⟩:=(C7.below F).cells j hjm;obtain⟨lo,G8⟩:=aG (Lo items j);obtain⟨hv,G9⟩:=aG (Hi items j);rw[G8]at J8 J E1;rw[G9]at J9 J E1;have F3:=aI J;have F4:=aI (V.below (aJ (PH wr.heap.size wr) (.cells #[.int .u64 lo,.int .u64 hv] 123)));have A8:=aI (A.trans ((aJ (PH wr.heap.size wr) (.cells #[.int .u64 lo,.int .u64 hv] 123)).mono A.size));have C1:=aI (show(wr.alloc (.cells #[.int .u64 lo,.int .u64 hv] 123)).heap[wr.heap.size]?=some (.cells #[.int .u64 lo,.int .u64 hv] 123 (0,0))from aK _ _ rfl);have F5:=aI V.lt;have nb:n+1≤2900000000:=by have:=TL.out;omega
   clear G8 G9 F G7;by_cases hmax:hv<18446744073709551615
   ·have KN:=aI (fun W=>Ms hv J.2 hmax W);have F6:aL (hv+1):=⟨by have:=J.2.1;omega,aA⟩;have I4:=aI F6;clear J F6;go_wp2_with(at_mapUpdate;go_loud(refine gW _ rfl _ _ _ 283 4 rfl underlying283 M n f rfl F4 (by unfold maxLen;omega) lo (.bool true) rfl F3.1 rfl ?_);intro w2 A2 U;have C8:=aI A2;have c2:=kG U aD (fun e=>by have:=F5.out;injection e with e;omega) C1;have y2:w2.cell? ⟨wr.heap.size,1,none⟩=some (.int .u64 hv):=(by simp[PT,c2]);have C:=aI (A8.grown U (by have:=A8.size;omega) (fun q G=>by injection G with G;have:=EM.out;omega));clear A2 U c2);refine(KN _).mono ?_;rintro e w3 ⟨rfl,rfl⟩;go_wp2_with(at_mapUpdate;go_loud(refine gW _ rfl _ _ _ 283 4 rfl underlying283 M (n+1) _ rfl C8 (by unfold maxLen;omega) (hv+1) (.bool true) rfl I4 rfl ?_);intro w4 H7 H8;have C9:=aI H7;have D0:=aI (C.grown H8 (by have:=C.size;omega) (fun q G=>by injection G with G;have:=EM.out;omega));clear H7 H8);go_roundw
    case rel=>
     have s:∃(j' n:Nat) (f:Int→Option Value),j'≤ni∧(.int .i64 ((j:Int)+1):Value)=.int .i64 j'∧MapR w4 M n f∧n≤1+2 * bD (l.take k)+2 * j'∧EndsF l k f∧(∀z∈items.take j',HasZ f z)∧Below w.heap.size w w4:=
      ⟨j+1,n+2,_,aA,aD,C9,aA,(HF.put _ _).put _ _,fun z B=>by
       rw[← E1.out]at B;rcases List.mem_append.1 B with B | B
       ·exact((HZ z B).put _ _).put _ _
       obtain rfl:z=(lo,hv):=by simpa using B
       exact⟨oY (pA _ _ _) _ _,fun _=>pA _ _ _⟩,D0⟩
     first | exact s | ((repeat apply PF);exact⟨s,rfl⟩)
    simp[intOf];omega
   obtain rfl:hv=18446744073709551615:=by have:=J.2.2;omega
   have KN:=aI (fun W=>Gq W);clear J;go_wp2_with(at_mapUpdate;go_loud(refine gW _ rfl _ _ _ 283 4 rfl underlying283 M n f rfl F4 (by unfold maxLen;omega) lo (.bool true) rfl F3.1 rfl ?_);intro w2 A2 U;have C8:=aI A2;have c2:=kG U aD (fun e=>by have:=F5.out;injection e with e;omega) C1;have y2:w2.cell? ⟨wr.heap.size,1,none⟩=some (.int .u64 18446744073709551615):=(by simp[PT,c2]);have C:=aI (A8.grown U (by have:=A8.size;omega) (fun q G=>by injection G with G;have:=EM.out;omega));clear A2 U c2);refine(KN _).mono ?_;rintro e w3 ⟨rfl,rfl⟩;go_wp2;go_roundw
   case rel=>
    have s:∃(j' n:Nat) (f:Int→Option Value),j'≤ni∧(.int .i64 ((j:Int)+1):Value)=.int .i64 j'∧MapR w2 M n f∧n≤1+2 * bD (l.take k)+2 * j'∧EndsF l k f∧(∀z∈items.take j',HasZ f z)∧Below w.heap.size w w2:=
     ⟨j+1,n+1,_,aA,aD,C8,aA,HF.put _ _,fun z B=>by
      rw[← E1.out]at B;rcases List.mem_append.1 B with B | B
      ·exact(HZ z B).put _ _
      obtain rfl:z=(lo,18446744073709551615):=by simpa using B
      exact⟨pA _ _ _,fun h=>absurd h (by show ¬(18446744073709551615:Int)<18446744073709551615;omega)⟩,C⟩
    first | exact s | ((repeat apply PF);exact⟨s,rfl⟩)
   simp[intOf];omega
  obtain rfl:ni=j:=aA;have I5:=aI (show EndsF l (k+1) f from⟨HF.1,fun i hi z B=>by
   by_cases e:i=k
   ·subst e;rw[EP.out]at B;exact HZ z (by rw[List.take_of_length_le (by rw[E8.out];exact RA _)];exact B)
   exact HF.2 i aA z B⟩)
  clear F;go_wp2;go_roundw
  case rel=>
   have s:∃(k' n:Nat) (f:Int→Option Value),k'≤len∧(.int .i64 ((k:Int)+1):Value)=.int .i64 k'∧MapR wr M n f∧n≤1+2 * bD (l.take k')∧EndsF l k' f∧Below w.heap.size w wr:=⟨k+1,n,f,aA,aD,V,by rw[TT.out];omega,I5,A⟩;first | exact s | ((repeat apply PF);exact⟨s,rfl⟩)
  simp[intOf];omega
 obtain rfl:len=k:=aA;have NC:=aI (EndsF.no (l:=l) (f:=f) (by rw[EL.out];exact HF));have F0:=aI HF.1;have nb:n≤1+2 * bD l:=RB hn (by have:=oW l len;omega);have L0:n≤900000000:=aA;clear F hn HF;go_wp2_with(at_range;refine jU _ rfl _ 283 4 rfl underlying283 M n f rfl V ?_;intro w2 O A3 P A4 E3);go_frame;obtain⟨R,eR⟩:=aG wr.heap.size;have C:=aI (A.grown A4 A.size (fun j hj=>by cases hj));have K:=aI (show RangeR w2 M R n f _ O from by rw[← eR];exact P);rw[eR];have MR:M<R:=by rw[← eR];exact V.lt
 have WR:=aI (show w.heap.size≤R from by rw[← eR];exact A.size);clear P A4 E3 eR V A;go_loopw [46] (fun _ X=>∃(left:Int→Bool) (u:Nat) (f:Int→Option Value),RangeR X M R n f left u∧(f 0).isSome=true∧NoCh2 l f∧Below w.heap.size w X) (fun _ X=>X.rangeLeft M R)
 case atStart=>exact⟨_,O,f,K,F0,NC,C⟩
 clear K F0 NC C;obtain⟨left,u,f,A0,H0,H1,F⟩:=hrel;have E:=aI A0;have F0:=aI H0;have NC:=aI H1;have A:=aI F;clear A0 H0 H1 F;go_wp2_with(at_next;refine lP _ rfl _ rfl M R n f left u rfl E ?_ ?_)
 ·intro K1 B9;have V:=aI E.map;clear E B9;go_wp2_with(at_range;refine jU _ rfl _ 283 4 rfl underlying283 M n f rfl V ?_;intro w2 O A3 P A4 E3);go_frame;obtain⟨R2,A1⟩:=aG wr.heap.size;have C:=aI (A.grown A4 A.size (fun j hj=>by cases hj));have K:=aI (show RangeR w2 M R2 n f _ O from by rw[← A1];exact P);rw[A1];have L1:M<R2:=by rw[← A1];exact V.lt
  have A9:=aI (show w.heap.size≤R2 from by rw[← A1];exact A.size);clear P A4 E3 A1 V A;go_loopw [13,69] (fun o _ X=>∃(left:Int→Bool) (u:Nat) (xs:List Int),RangeR X M R2 n f left u∧OwnI X (R2+1) o xs∧xs.Nodup∧(∀y,aL y→(y∈xs↔(f y).isSome=true∧left y=false))∧xs.length+u≤n∧Below w.heap.size w X) (fun _ _ X=>X.rangeLeft M R2)
  case atStart=>exact⟨_,O,[],K,OwnI.nil _ _,List.nodup_nil,(fun y _=>⟨fun h=>(by cases h),fun h=>(by have h1:=h.1;have h2:=h.2;rw[h1]at h2;cases h2)⟩),by simp;exact A3,C⟩
  clear K C A3;obtain⟨left,u,xs,A0,hO,H2,C3,K0,F⟩:=hrel;have E:=aI A0;have HO:=aI hO;have F7:=aI H2;have Y:=aI C3;have A:=aI F;clear A0 H2 C3 F;obtain⟨ax,cx,rfl,_⟩:=aY hO.row;clear hO;obtain⟨N,eN⟩:=aG xs.length;have EN:=aI eN;rw[eN]at HO K0 ⊢;clear eN;go_wp2_with(at_next;refine lP _ rfl _ rfl M R2 n f left u rfl E ?_ ?_)
  ·intro K1 B9;have F8:=aI (show ∀y,aL y→(y∈xs↔(f y).isSome=true)from fun y hy=>by
    rw[Y.out y hy,B9 y hy];simp)
   have z0:=aI ((F8 0 ⟨aB,aB⟩).2 F0);have D1:xs≠[]:=fun e=>by have:=z0.out;rw[e]at this;cases this
   have L2:0<N:=by rw[← EN.out];exact List.length_pos_iff.2 D1
   rcases HO.row.2 with⟨hv,hl⟩ | ⟨g,cap',cur,hv,hgb,hcells,_⟩
   ·have:=EN.out;omega
   injection hv with e1 e2 e3;clear e2 hcells;subst e1;subst e3;have KS:=aI (fun W (hW:OwnI W (R2+1) (.slice (some ⟨g,0,none⟩) xs.length cx) xs)=>Tj (R2+1) g cx xs W hW D1 (by rw[EN.out];omega));rw[EN.out]at KS;clear B9;go_wp2_with fail;refine(KS _ HO).mono ?_;rintro e w5 ⟨rfl,H3,H4⟩;have O5:=aI H3;have B5:=aI (A.trans (H4.below (n:=w.heap.size) A.size (fun k I=>by have:=A9.out;omega)));have SA:=aI (Ow F7);have SM:=aI (fun x=>zV xs x);have SL:=aI (rM xs);clear H3 H4 D1;go_wp2;go_ret;have F9:∃v ss,(.returned (.slice (some ⟨g,0,none⟩) N cx):Ending)=.returned v∧OwnI w5 w.heap.size v ss∧ss.Pairwise (·<·)∧0∈ss∧(∀x,aL x→0<x→x ∉ ss→aX l x len=aX l (x-1) len)∧ss.length≤1+2 * bD l∧Below w.heap.size w w5:=
    ⟨_,pY xs,rfl,⟨bC O5.row (by have:=A9.out;omega),O5.words⟩,SA,(SM 0).2 z0,fun x hx h0 hn=>by
     have:=NC.out x hx h0 (by
      cases G:(f x).isSome
      ·rfl
      exact absurd ((SM x).2 ((F8 x hx).2 G)) hn)
     rw[EL.out]at this;exact this,by rw[SL.out,EN.out];omega,B5⟩
   first | exact F9 | (obtain⟨v,ss,h1,h2⟩:=F9;exact⟨v,h1,ss,h2⟩)
  intro x c w3 Q S C0 C2 T hlt L E4 K2;have g1:Only (fun k=>k=R2) wr w3:=(Only.refl (fun k=>k=R2) wr).grown L (fun k I=>by injection I with I;exact I.symm);have O3:=aI (HO.keep g1 (fun k I=>aA));have B3:=aI (A.trans (g1.below (n:=w.heap.size) A.size (fun k I=>by have:=A9.out;omega)));have G0:x ∉ xs:=fun hm=>by
   have:=((Y x S).1 hm).2;rw[C0]at this
   cases this
  have I6:=aI G0;have D:=aI T;have D2:=aI S;have I7:=aI C2;clear T L g1 G0 S C2 C0 E4;go_wp2_with(at_builtin;go_loud(refine wpList_append_own_at _ rfl _ _ 89 rfl (R2+1) 57 i0 (.int .u64 0) 1 8 underlying89 hi J5 J6 J7 rfl aB _ _ _ rfl (eU O3.row ((Only.refl (fun _=>False) w3).alloc _) (fun k h=>h.elim)) ⟨w3.heap.size,0,none⟩ 1 1 [.int .u64 x] rfl rfl (cell_one_new _ _ _) (one_one _) ?c1 ?c2 ?c3 ?_))
  case c1=>rw[EN.out];unfold maxLen;omega
  case c2=>rw[EN.out];omega
  case c3=>have:=D.lt;simp;omega
  intro v' w4 A5 A6 _ _;have B0:∀k,(PQ ax N cx).ownBlock=some k→R2+1≤k:=fun k I=>(O3.row.lt k I).1;have D3:Only (fun b=>(PQ ax N cx).ownBlock=some b) w3 w4:=((Only.refl (fun b=>(PQ ax N cx).ownBlock=some b) w3).alloc (.cells #[.int .u64 x] 57)).grown A6 (fun k I=>I);have G1:=aI (D.only D3 (fun h=>by have:=B0 _ h;omega) (fun h=>by have:=B0 _ h;omega));have D0:=aI (B3.trans (D3.below (n:=w.heap.size) B3.size (fun k I=>by have:=B0 _ I;have:=A9.out;omega)));have O4:=aI (show OwnI w4 (R2+1) v' (xs ++ [x])from⟨by rw[List.map_append,QA];exact A5,fun z B=>by
   rcases List.mem_append.1 B with B | B
   ·exact HO.words z B
   obtain rfl:z=x:=by simpa using B
   exact D2⟩)
  have I8:=aI (show(xs ++ [x]).Nodup from List.nodup_append.2 ⟨F7,aD,fun a ha b F e=>by
   obtain rfl:b=x:=by simpa using F
   exact I6 (e ▸ ha)⟩)
  have C9:=aI (show ∀y,aL y→(y∈xs ++ [x]↔(f y).isSome=true∧(left y && !decide (y=x))=false)from fun y hy=>by
   rw[QH,Y.out y hy];by_cases e:y=x
   ·subst e;simp[I7.out]
   simp[e])
  clear A5 A6 D3 B0;go_wp2;go_roundw
  case rel=>
   have s:∃(left:Int→Bool) (u:Nat) (xs:List Int),RangeR w4 M R2 n f left u∧OwnI w4 (R2+1) v' xs∧xs.Nodup∧(∀y,aL y→(y∈xs↔(f y).isSome=true∧left y=false))∧xs.length+u≤n∧Below w.heap.size w w4:=
    ⟨_,Q,xs ++ [x],G1,O4,I8,C9,by rw[QA,EN.out];simp;omega,D0⟩
   first | exact s | ((repeat apply PF);exact⟨s,rfl⟩)
  rw[G1.left_eq,E.left_eq];exact hlt
 intro x c w3 Q S C0 C2 T hlt L E4 K2;have g1:Only (fun k=>k=R) wr w3:=(Only.refl (fun k=>k=R) wr).grown L (fun k I=>by injection I with I;exact I.symm);have B3:=aI (A.trans (g1.below (n:=w.heap.size) A.size (fun k I=>by have:=WR.out;omega)));have D:=aI T;have D2:=aI S;clear T L g1 C2 C0 E4;by_cases hx0:x=0
 ·subst hx0;have KP:=aI (fun W=>Pw W);go_wp2_with fail;refine(KP _).mono ?_;rintro e w4 ⟨rfl,rfl⟩;go_wp2;go_roundw
  case rel=>
   have s:∃(left:Int→Bool) (u:Nat) (f:Int→Option Value),RangeR w3 M R n f left u∧(f 0).isSome=true∧NoCh2 l f∧Below w.heap.size w w3:=⟨_,Q,f,D,F0,NC,B3⟩;first | exact s | ((repeat apply PF);exact⟨s,rfl⟩)
  rw[D.left_eq,E.left_eq];exact hlt
 have I9:0<x:=by have:=S.1;omega
 have KP:=aI (fun W=>Ur x S I9 W);clear S;go_wp2_with fail;refine(KP _).mono ?_;rintro e w4 ⟨rfl,rfl⟩;go_wp2_with fail;refine(KM _ B3 (x-1)).mono ?_;rintro e w5 ⟨v1,rfl,D8,D9⟩;have B5:=aI (B3.trans (D9.mono B3.size));have J0:=aI (D.below D9);obtain⟨a1,c1,rfl,_⟩:=aY D8;have G2:=aI D8;obtain⟨m1,H5⟩:=aG ((aX l (x-1) len).length);rw[H5]at G2 ⊢;clear D8 D9 H5;go_wp2_with fail;refine(KM _ B5 x).mono ?_;rintro e w6 ⟨v2,rfl,E0,B4⟩;have B6:=aI (B5.trans (B4.mono B5.size));have J2:=aI (J0.below B4);have J1:=aI (uU G2 B4);obtain⟨a2,c2,rfl,_⟩:=aY E0;have G3:=aI E0;obtain⟨m2,H6⟩:=aG ((aX l x len).length);rw[H6]at G3 ⊢;clear E0 B4 H6;go_wp2_with fail;refine(AF _ _ _ _ (aX l (x-1) len) (aX l x len) w6 J1 G3 (by have:=oC l (x-1) len;omega) (by have:=oC l x len;omega) (fun i hi=>by have:=(dG.1 hi).1;omega) (fun i hi=>by have:=(dG.1 hi).1;omega)).mono ?_;rintro e w7 ⟨rfl,E2⟩;have B7:=aI (B6.trans (E2.mono B6.size));have D4:=aI (J2.below E2);clear E2;by_cases G:aX l (x-1) len=aX l x len
 ·have d:decide (aX l (x-1) len=aX l x len)=true:=decide_eq_true G;have J3:=aI (NC.del (r:=x) (by rw[EL.out];exact G.symm));have J4:=aI (show(kS f x none 0).isSome=true from by
   unfold kS;rw[if_neg aA];exact F0)
  rw[d];clear G d;go_wp2_with(at_delete;go_loud(refine vH _ rfl _ _ 283 4 rfl underlying283 M R n f _ Q rfl D4 x rfl D2 ?_);intro w8 H9 C4 K6 I0 K3;have G4:=aI C4;have B8:=aI (B7.grown I0 B7.size (fun q G=>by injection G with G;have:=EM.out;omega));clear C4 I0 K3);go_roundw
  case rel=>
   have s:∃(left:Int→Bool) (u:Nat) (f:Int→Option Value),RangeR w8 M R n f left u∧(f 0).isSome=true∧NoCh2 l f∧Below w.heap.size w w8:=⟨_,H9,_,G4,J4,J3,B8⟩;first | exact s | ((repeat apply PF);exact⟨s,rfl⟩)
  rw[G4.left_eq,E.left_eq];omega
 have d:decide (aX l (x-1) len=aX l x len)=false:=decide_eq_false G;rw[d];clear G d;go_wp2;go_roundw
 case rel=>
  have s:∃(left:Int→Bool) (u:Nat) (f:Int→Option Value),RangeR w7 M R n f left u∧(f 0).isSome=true∧NoCh2 l f∧Below w.heap.size w w7:=⟨_,Q,f,D4,F0,NC,B7⟩;first | exact s | ((repeat apply PF);exact⟨s,rfl⟩)
 rw[D4.left_eq,E.left_eq];exact hlt
structure lM (l:List FV) (ps:List Iv):Prop where
 le:∀p∈ps,p.1≤p.2
 asc:ps.Pairwise (fun a b=>a.2<b.1)
 same:∀p∈ps,∀x,p.1≤x→x≤p.2→aX l x l.length=aX l p.1 l.length
 some:∀p∈ps,aX l p.1 l.length≠[]
 all:∀x,aL x→aX l x l.length≠[]→∃p∈ps,p.1≤x∧x≤p.2
def nxt (ss:List Int) (k:Nat):Int:=if k+1<ss.length then ss.getD (k+1) 0-1 else 18446744073709551615
structure StOk (l:List FV) (ss:List Int):Prop where
 words:∀x∈ss,aL x
 asc:ss.Pairwise (·<·)
 zero:0∈ss
 no:∀x,aL x→0<x→x ∉ ss→aX l x l.length=aX l (x-1) l.length
theorem jS{xs:List Int}{k:Nat}(h:k<xs.length):xs.getD k 0∈xs:=by
 simp only[PX,PV h,RL];exact PY h
theorem StOk.le{l:List FV}{ss:List Int}(h:StOk l ss){k:Nat}(b:k<ss.length):ss.getD k 0≤nxt ss k∧nxt ss k≤18446744073709551615:=by
 unfold nxt;split
 ·rename_i h1;have:=kN h.asc (i:=k) (j:=k+1) aA h1;have:=(h.words _ (jS h1)).2;omega
 have:=(h.words _ (jS b)).2;omega
theorem StOk.same{l:List FV}{ss:List Int}(h:StOk l ss){k:Nat}(b:k<ss.length):∀(n:Nat) (x:Int),x=ss.getD k 0+n→x≤nxt ss k→aX l x l.length=aX l (ss.getD k 0) l.length
 | 0,x,hx,_=>by rw[hx];simp
 | n+1,x,hx,hn=>by
   have h0:=(h.words _ (jS b)).1;have m:=(h.le b).2;have j:x ∉ ss:=fun p=>by
    obtain⟨i,hi,e⟩:=List.mem_iff_getElem.1 p;have r:ss.getD i 0=x:=by simp[PX,PV hi,e]
    rcases RH k i with g | g
    ·have h1:k+1<ss.length:=aA;unfold nxt at hn;rw[if_pos h1]at hn;rcases RH (k+1) i with g' | g'
     ·have:=kN h.asc g' hi;omega
     obtain rfl:i=k+1:=aA;omega
    rcases RH i k with g' | g'
    ·have:=kN h.asc g' b;omega
    obtain rfl:i=k:=aA;omega
   rw[h.no x ⟨aA,aA⟩ aA j];exact h.same b n (x-1) aA aA
theorem StOk.cover{l:List FV}{ss:List Int}(h:StOk l ss){x:Int}(p:aL x):∃k,k<ss.length∧ss.getD k 0≤x∧x≤nxt ss k:=by
 obtain⟨i,hi,e⟩:=List.mem_iff_getElem.1 h.zero;have r:ss.getD i 0=0:=by simp[PX,PV hi,e]
 have b:∀(n k:Nat),k<ss.length→ss.length-k≤n→ss.getD k 0≤x→∃k,k<ss.length∧ss.getD k 0≤x∧x≤nxt ss k:=by
  intro n;induction n with
  | zero=>intro k m s _;omega
  | succ n ih=>
    intro k m s j;by_cases h1:k+1<ss.length
    ·by_cases h2:ss.getD (k+1) 0≤x
     ·exact ih (k+1) h1 aA h2
     exact⟨k,m,j,by unfold nxt;rw[if_pos h1];omega⟩
    exact⟨k,m,j,by unfold nxt;rw[if_neg h1];have:=p.2;omega⟩
 exact b ss.length i hi aA (by rw[r];exact p.1)
structure PsK (l:List FV) (ss:List Int) (k:Nat) (ps:List Iv):Prop where
 mem:∀p,p∈ps↔∃i,i<k∧p=(ss.getD i 0,nxt ss i)∧aX l (ss.getD i 0) l.length≠[]
 asc:ps.Pairwise (fun a b=>a.2<b.1)
 len:ps.length≤k
theorem PsK.zero(l:List FV)(ss:List Int):PsK l ss 0 []:=⟨fun p=>⟨fun h=>(by cases h),fun⟨i,h,_⟩=>absurd h aA⟩,QZ,RA _⟩
theorem PsK.skip{l:List FV}{ss:List Int}{k:Nat}{ps:List Iv}(h:PsK l ss k ps)(b:aX l (ss.getD k 0) l.length=[]):PsK l ss (k+1) ps:=
 ⟨fun p=>by
  rw[h.mem];constructor
  ·rintro⟨i,h1,h2⟩;exact⟨i,aA,h2⟩
  rintro⟨i,h1,h2,h3⟩;by_cases e:i=k
  ·subst e;exact absurd b h3
  exact⟨i,aA,h2,h3⟩,h.asc,by have:=h.len;omega⟩
theorem PsK.push{l:List FV}{ss:List Int}{k:Nat}{ps:List Iv}(h:PsK l ss k ps)(n:StOk l ss)(r:k<ss.length)(s:aX l (ss.getD k 0) l.length≠[]):PsK l ss (k+1) (ps ++ [(ss.getD k 0,nxt ss k)]):=by
 refine⟨fun p=>?_,?_,by have:=h.len;simp;omega⟩
 ·rw[QH,h.mem];constructor
  ·rintro(⟨i,h1,h2⟩ | h1)
   ·exact⟨i,aA,h2⟩
   exact⟨k,aA,by simpa using h1,s⟩
  rintro⟨i,h1,h2,h3⟩;by_cases e:i=k
  ·subst e;exact .inr (by simp[h2])
  exact .inl ⟨i,aA,h2,h3⟩
 refine List.pairwise_append.2 ⟨h.asc,aD,fun a j b m=>?_⟩;obtain rfl:b=(ss.getD k 0,nxt ss k):=by simpa using m
 obtain⟨i,h1,rfl,_⟩:=(h.mem a).1 j;show nxt ss i<ss.getD k 0;unfold nxt;rw[if_pos aA];rcases RH (i+1) k with g | g
 ·have:=kN n.asc g r;omega
 obtain rfl:i+1=k:=aA;omega
theorem PsK.ok{l:List FV}{ss:List Int}{ps:List Iv}(h:PsK l ss ss.length ps)(j:StOk l ss):lM l ps:=by
 refine⟨fun p b=>?_,h.asc,fun p b x h1 h2=>?_,fun p b=>?_,fun x r s=>?_⟩
 ·obtain⟨i,hi,rfl,_⟩:=(h.mem p).1 b;exact(j.le hi).1
 ·obtain⟨i,hi,rfl,_⟩:=(h.mem p).1 b;have n:ss.getD i 0≤x:=h1;exact j.same hi (x-ss.getD i 0).toNat x aA h2
 ·obtain⟨i,hi,rfl,h3⟩:=(h.mem p).1 b;exact h3
 obtain⟨k,m,h1,h2⟩:=j.cover r;refine⟨_,(h.mem _).2 ⟨k,m,rfl,?_⟩,h1,h2⟩;rw[← j.same m (x-ss.getD k 0).toNat x aA h2];exact s
theorem Mk(v:Value)(l:List FV)(w:World)(hE:KnwAt w v l)(C:∀f∈l,cL f.items)(D:∀f∈l,f.items.length≤1000000000)(K:bD l≤400000000)(A3:l.length≤400000000) :
  Calls prog 78 #[v] w fun e w'=>∃v ps,e=.returned v∧OwnL w' w.heap.size 123 v ps∧lM l ps∧ps.length≤1+2 * bD l∧Below w.heap.size w w':=by
 have KM:=aI (fun W (E:Below w.heap.size w W) x=>uP v l x W (hE.below E) C (fun f hf=>by have:=D f hf;omega) aA);have KS:=aI (Jh v l w hE C D K A3);obtain⟨a,cap,rfl,_⟩:=hE;have B6:=aI K;clear C D;go_enter func78,ntmps78;go_wp2_with fail;refine KS.mono ?_;rintro e p ⟨vs,ss,rfl,I,J,u,A0,A7,A1⟩;have P:=aI (show StOk l ss from⟨I.words,J,u,A0⟩);have S:=aI A1;obtain⟨a0,c0,rfl,hI,_⟩:=I.ints aA;obtain⟨N,eN⟩:=aG ss.length;have Q:=aI eN;rw[eN]at hI A7 ⊢;have HI:=aI hI;clear I J u A0 A1 eN hI;go_wp2;go_loopw [3,12] (fun o c wr=>∃(k:Nat) (ps:List Iv),k≤N∧c=.int .i64 k∧OwnL wr p.heap.size 123 o ps∧PsK l ss k ps∧Below p.heap.size p wr) (fun _ c _=>N-(intOf c).toNat)
 case atStart=>exact⟨0,[],RF _,rfl,⟨PU _ _ _ _,aD⟩,PsK.zero _ _,PH _ _⟩
 obtain⟨k,ps,hk,rfl,I,hP,E⟩:=hrel;have HO:=aI I;have R:=aI hP;have HB:=aI E;have B7:(0:Int)≤(k:Int):=aA;clear hP;by_cases hlt:k<N
 ·have i1:(k:Int)<(N:Int):=aA;have L:k<ss.length:=by rw[Q.out];exact hlt
  obtain⟨b,off,rfl,A8,A9⟩:=(HI.below E).cells k hlt;obtain⟨x,ex⟩:=aG (ss.getD k 0);have T:=aI ex;rw[ex]at A9;have WX:=aI (show aL x from by rw[← ex];exact P.words _ (jS L));have A5:=aI (KM.out wr (S.trans (E.mono S.size)) x);have c2:∀h:k+1<N,∃y,wr.cell? ⟨b,off+(k+1),none⟩=some (.int .u64 y)∧nxt ss k=y-1∧aL y∧0<y:=fun h=>by
   obtain⟨b',B5,e',_,B0⟩:=(HI.below E).cells (k+1) h;injection e' with e';injection e' with e1 e2 _;subst e1;subst e2;have U:=P.words _ (jS (k:=k+1) (xs:=ss) (by rw[Q.out];exact h));have:=kN P.asc (i:=k) (j:=k+1) aA (by rw[Q.out];exact h);have:=WX.1;refine⟨_,B0,?_,U,aA⟩;unfold nxt;rw[if_pos (by rw[Q.out];exact h)]
  have C2:=aI c2;obtain⟨ao,co,rfl,_⟩:=aY I.row;have PL:=aI R.len;clear I ex A8 c2;go_wp2_with fail;refine A5.mono ?_;rintro e w3 ⟨vm,rfl,hJ,r⟩;obtain⟨am,cm,rfl,_⟩:=aY hJ;have F:=aI (HB.trans (r.mono HB.size));have V:=aI (HO.only (may:=fun _=>False) (Only.of_below r) (fun _ h=>h.elim));obtain⟨m,em⟩:=aG ((aX l x l.length).length);rw[em];by_cases hm:m=0
  ·have G:aX l x l.length=[]:=List.length_eq_zero_iff.1 aA;have X:=aI (R.skip (by rw[T.out];exact G));subst hm;clear hJ r em G E;go_wp2;go_roundw
   case rel=>
    have n:∃(B:Nat) (A4:List Iv),B≤N∧(.int .i64 ((k:Int)+1):Value)=.int .i64 B∧OwnL w3 p.heap.size 123 (.slice ao ps.length co) A4∧PsK l ss B A4∧Below p.heap.size p w3:=⟨k+1,ps,aA,aD,V.out,X.out,F.out⟩;first | exact n | ((repeat apply PF);exact⟨n,rfl⟩)
   simp[intOf];omega
  have Y:aX l x l.length≠[]:=fun e=>hm (by rw[← em,e];rfl);have q1:((m:Int) == 0)=false:=by simp;omega
  have q2:¬(m:Int)=0:=aA;have q7:IntKind.i64.wrap ((k:Int)+1)=(k:Int)+1:=PG _ aA;by_cases h2:k+1<N
  ·obtain⟨y,U,A2,O,B2⟩:=C2.out h2;have H:b<wr.heap.size:=by
    rcases RH b wr.heap.size with g | g
    ·exact g
    have e:wr.heap[b]?=none:=by simp;omega
    simp[PT,e]at U
   have cy:w3.cell? ⟨b,off+(k+1),none⟩=some (.int .u64 y):=aM r H U;have A6:(k:Int)+1<(N:Int):=aA;have q8:IntKind.u64.wrap (y-1)=y-1:=by rw[IntKind.wrap_u64];have:=O.2;omega
   have q9:((k:Int)+1).toNat=k+1:=aA;have B8:(0:Int)≤(k:Int)+1:=aA;have WY:=aI (show aL (y-1)from⟨aA,by have:=O.2;omega⟩);have M:=aI A2;clear hJ r em U A2 O B2 H E hm;go_wp2_with(at_builtin;go_loud(refine fP rfl _ _ rfl p.heap.size _ ps rfl (V.only (may:=fun _=>False) ((Only.refl (fun _=>False) w3).alloc (.cells #[.int .u64 x,.int .u64 (y-1)] 123)) (fun _ h=>h.elim)) (some ⟨w3.heap.size,0,none⟩) 1 1 [(x,y-1)] rfl (mZ WX.out WY.out (aK _ _ rfl)) (fun h=>by cases h) ?c1 ?c2 ?_))
   case c1=>have:=PL.out;omega
   case c2=>have:=F.size;simp;omega
   intro v' w4 z A;have O4:=aI z;have s:∀q,(PQ ao ps.length co).ownBlock=some q→p.heap.size≤q:=fun q hq=>(V.row.lt q hq).1;have B4:=aI ((F.alloc F.size _).grown A (by have:=F.size;simp;omega) s);have X:=aI (show PsK l ss (k+1) (ps ++ [(x,y-1)])from by
    have:=R.push P.out L (by rw[T.out];exact Y);rw[T.out,M.out]at this;exact this)
   clear z A s;go_wp2;go_roundw
   case rel=>
    have n:∃(B:Nat) (ps:List Iv),B≤N∧(.int .i64 ((k:Int)+1):Value)=.int .i64 B∧OwnL w4 p.heap.size 123 v' ps∧PsK l ss B ps∧Below p.heap.size p w4:=⟨k+1,_,aA,aD,O4.out,X.out,B4.out⟩;first | exact n | ((repeat apply PF);exact⟨n,rfl⟩)
   simp[intOf];omega
  have A6:¬(k:Int)+1<(N:Int):=aA;have M:=aI (show nxt ss k=18446744073709551615 from by unfold nxt;rw[if_neg (by rw[Q.out];exact h2)]);clear hJ r em E hm;go_wp2_with(at_builtin;go_loud(refine fP rfl _ _ rfl p.heap.size _ ps rfl (V.only (may:=fun _=>False) ((Only.refl (fun _=>False) w3).alloc (.cells #[.int .u64 x,.int .u64 (18446744073709551615)] 123)) (fun _ h=>h.elim)) (some ⟨w3.heap.size,0,none⟩) 1 1 [(x,18446744073709551615)] rfl (mZ WX.out ⟨aB,aB⟩ (aK _ _ rfl)) (fun h=>by cases h) ?c1 ?c2 ?_))
  case c1=>have:=PL.out;omega
  case c2=>have:=F.size;simp;omega
  intro v' w4 z A;have O4:=aI z;have s:∀q,(PQ ao ps.length co).ownBlock=some q→p.heap.size≤q:=fun q hq=>(V.row.lt q hq).1;have B4:=aI ((F.alloc F.size _).grown A (by have:=F.size;simp;omega) s);have X:=aI (show PsK l ss (k+1) (ps ++ [(x,18446744073709551615)])from by
   have:=R.push P.out L (by rw[T.out];exact Y);rw[T.out,M.out]at this;exact this)
  clear z A s;go_wp2;go_roundw
  case rel=>
   have n:∃(B:Nat) (ps:List Iv),B≤N∧(.int .i64 ((k:Int)+1):Value)=.int .i64 B∧OwnL w4 p.heap.size 123 v' ps∧PsK l ss B ps∧Below p.heap.size p w4:=⟨k+1,_,aA,aD,O4.out,X.out,B4.out⟩;first | exact n | ((repeat apply PF);exact⟨n,rfl⟩)
  simp[intOf];omega
 obtain rfl:N=k:=aA;have OK:=aI (show lM l ps from PsK.ok (by rw[Q.out];exact R.out) P.out);have PL:=aI R.len;have OE:=aI (show OwnL wr w.heap.size 123 u3 ps from⟨bC HO.row S.size,HO.words⟩);have BE:=aI (S.trans (HB.mono S.size));clear I E;go_wp2;go_ret;have Z:∃v ps,(.returned u3:Ending)=.returned v∧OwnL wr w.heap.size 123 v ps∧lM l ps∧ps.length≤1+2 * bD l∧Below w.heap.size w wr:=⟨u3,ps,rfl,OE.out,OK.out,by have:=PL.out;omega,BE.out⟩;first | exact Z | (obtain⟨v,ps,h1,h2⟩:=Z;exact⟨v,h1,ps,h2⟩)
def FV.es (f:FV):List Ent:=f.vec.map (·.1)
def pS (l:List EV):Prop:=l.length≤4000000000∧(∀p∈l,p.1.hs.length≤4000000000)∧(bG (l.map (·.1))).length≤4000000000
theorem Wh(f:FV)(v:Value)(n:List EV)(w:World)(h:FragAt w f)(H:VecAt w v n)(m:pS f.vec)(s:pS n) :
  Calls prog 138 #[.agg #[f.iv,f.vv],v] w fun e w'=>e=.returned (.int .i64 (cQ (bG f.es) (bG (n.map (·.1)))))∧Below w.heap.size w w':=by
 obtain⟨items,iv,vec,vv⟩:=f;obtain⟨⟨E,F,u,_⟩,⟨y,z,A,p,_⟩⟩:=h;simp only at u A p m;subst u;subst A;obtain⟨G,c',rfl,b,_⟩:=H;obtain⟨b1,b2,B⟩:=m;obtain⟨r,j,l⟩:=s;have K:=aI (fun W (C:Below w.heap.size w W)=>mX y G vec.length z n.length c' vec n W (p.at'.below C) (b.at'.below C) b2 j b1 r B l);unfold FV.es;simp only;clear p b b2 j B l;go_enter func138,ntmps138;go_wp2_with fail;refine(K _ (aJ (PH _ _) _)).mono ?_;rintro e I ⟨rfl,m⟩;have D:=aI (aN (aJ (PH w.heap.size w) (.cells #[.slice E items.length F,.slice y vec.length z] 80)) m);clear m;go_wp2;go_ret;exact⟨rfl,D⟩
theorem vN{l:List FV}(h:(l.map FV.es).Pairwise lL){i j:Nat}(b:i<j)(m:j<l.length):lL (l.getD i FV.z).es (l.getD j FV.z).es:=by
 have:=List.pairwise_iff_getElem.1 h i j (by simp;omega) (by simpa using m) b;simpa[PX,PV (show i<l.length by omega),PV m]using this
theorem So{a b:List Ent}(h1:¬lL a b)(h2:cQ (bG a) (bG b)≠0):lL b a:=by
 unfold lL at *;rw[Bj (bG a) (bG b)];rcases Oa (bG a) (bG b)with h | h | h<;>omega
theorem Ht(a:Option Addr)(n cap:Nat)(l:List FV)(v:Value)(B:List EV)(w:World)(h:KnowAt w a n l)(h':VecAt w v B)(E:(l.map FV.es).Pairwise lL)(X:∀f∈l,pS f.vec)(Y:pS B)(hn:n≤3900000000) :
  Calls prog 137 #[.slice a n cap,v,.func (.func 138) #[] #[]] w fun e w'=>∃(k:Nat) (fb:Bool),e=.returned (.tuple #[.int .i64 k,.bool fb])∧k≤n∧(∀i,i<k→lL (l.getD i FV.z).es (B.map (·.1))) ∧
   (fb=true→k<n∧(l.getD k FV.z).es=B.map (·.1))∧(fb=false→∀i,k≤i→i<n→lL (B.map (·.1)) (l.getD i FV.z).es)∧Below w.heap.size w w':=by
 have H:=aI h;have HC:=aI E;have HL:=aI h.length;obtain⟨a',c',rfl,hV,O⟩:=h';have Z:=aI (fun W (hW:Below w.heap.size w W) d (hd:d<n)=>Wh (l.getD d FV.z) (.slice a' B.length c') B W (((h.frags _ (h.mem hd)).below hW)) ⟨a',c',rfl,hV.below hW,O⟩ (X _ (h.mem hd)) Y);have hE:∀args W,(callFunc 138 args).run prog W=.ok (.enter 138 args) W:=fun _ _=>aC;obtain⟨es,P⟩:=aG (B.map (·.1));rw[P]at Z ⊢;obtain⟨n',Q⟩:=aG B.length;rw[Q]at Z ⊢;clear h E hV X Y P Q O;go_enter func137,ntmps137;go_wp2;go_loopw [9,10] (fun i j wr=>∃k m:Nat,k≤m∧m≤n∧i=.int .i64 k∧j=.int .i64 m∧(∀i,i<k→lL (l.getD i FV.z).es es)∧(∀i,m≤i→i<n→¬lL (l.getD i FV.z).es es)∧Below w.heap.size w wr) (fun i j _=>(intOf j).toNat-(intOf i).toNat)
 case atStart=>exact⟨0,n,RF _,RA _,rfl,rfl,fun i h=>absurd h aA,fun i h h'=>absurd h aA,PH _ _⟩
 obtain⟨k,m,A3,I,rfl,rfl,R,S,C⟩:=hrel;have HB:=aI C;have F:=aI R;have L:=aI S;clear R S;have i0:(0:Int)≤(k:Int):=aA;by_cases hlt:k<m
 ·obtain⟨d,em⟩:=aG ((k+m) / 2);have hm:d<m:=aA;have A0:k≤d:=aA;obtain⟨b,off,rfl,J,u,y⟩:=(H.below C).cells d aA;have s:=(H.frags _ (H.mem (show d<n by omega)));have r:=Z.out wr C d aA;obtain⟨p,K⟩:=aG (l.getD d FV.z);have M:=aI K;rw[K]at u y s r;have r:=aI r;obtain⟨⟨ai,ci,T,_⟩,⟨av,cv,U,_⟩⟩:=s;obtain⟨items,iv,vec,vv⟩:=p;simp only at u y T U r;subst T;subst U;have i1:(k:Int)<(m:Int):=aA;have q0:IntKind.i64.wrap ((k:Int)+m)=(k:Int)+m:=PG _ aA;have q1:IntKind.u64.wrap ((k:Int)+m)=(k:Int)+m:=by rw[IntKind.wrap_u64];omega
  have q2:((k:Int)+m) / 2=d:=aA;have q3:IntKind.u64.wrap (d:Int)=d:=by rw[IntKind.wrap_u64];omega
  have q4:IntKind.i64.wrap (d:Int)=d:=PG _ aA;have q5:(0:Int)≤(d:Int):=aA;have q6:(d:Int)<(n:Int):=aA;have q7:IntKind.i64.wrap ((d:Int)+1)=(d:Int)+1:=PG _ aA;obtain⟨f,D⟩:=aG (cQ (bG (FV.mk items (.slice ai items.length ci) vec (.slice av vec.length cv)).es) (bG es));rw[D]at r;have EF:=aI D;clear K C em D J;go_wp2_with fail;refine r.mono ?_;rintro e w1 ⟨rfl,A⟩;have B1:=aI (aN HB A);clear A;by_cases hf:f<0
  ·have hv:lL (l.getD d FV.z).es es:=by rw[M.out];unfold lL;rw[EF.out];exact hf
   have L2:=aI (show ∀i,i<d+1→lL (l.getD i FV.z).es es from fun i V=>by
    rcases RH i d with g | g
    ·exact jO (vN HC g (by rw[HL.out];omega)) hv
    obtain rfl:i=d:=aA;exact hv)
   clear hv;go_wp2;go_roundw
   case rel=>exact⟨d+1,m,aA,I,by go_num,rfl,L2,L,B1⟩
   simp[intOf];omega
  have hv:¬lL (l.getD d FV.z).es es:=by rw[M.out];unfold lL;rw[EF.out];exact hf
  have L2:=aI (show ∀i,d≤i→i<n→¬lL (l.getD i FV.z).es es from fun i V A2 hc=>by
   rcases RH d i with g | g
   ·exact hv (jO (vN HC g (by rw[HL.out];omega)) hc)
   obtain rfl:i=d:=aA;exact hv hc)
  clear hv;go_wp2;go_roundw
  case rel=>exact⟨k,d,A0,aA,rfl,rfl,F,L2,B1⟩
  simp[intOf];omega
 obtain rfl:k=m:=aA;by_cases hkn:k<n
 ·obtain⟨b,off,rfl,J,u,y⟩:=(H.below C).cells k hkn;have s:=(H.frags _ (H.mem hkn));have r:=Z.out wr C k hkn;have G:=L.out k (RA _) hkn;obtain⟨p,K⟩:=aG (l.getD k FV.z);have M:=aI K;rw[K]at u y s r G;have r:=aI r;obtain⟨⟨ai,ci,T,_⟩,⟨av,cv,U,_⟩⟩:=s;obtain⟨items,iv,vec,vv⟩:=p;simp only at u y T U r;subst T;subst U;have i1:(k:Int)<(n:Int):=aA;obtain⟨f,D⟩:=aG (cQ (bG (FV.mk items (.slice ai items.length ci) vec (.slice av vec.length cv)).es) (bG es));rw[D]at r;have A1:=aI (show ∀i,f≠0→k≤i→i<n→lL es (l.getD i FV.z).es from fun i hf V A2=>by
   have h0:lL es (l.getD k FV.z).es:=by
    rw[M.out];exact So G (by rw[D];exact hf)
   rcases RH k i with g | g
   ·exact jO h0 (vN HC g (by rw[HL.out];omega))
   obtain rfl:i=k:=aA;exact h0)
  have N:=aI (show f=0→(l.getD k FV.z).es=es from fun hf=>by
   rw[M.out];exact Ja (Dv (by rw[D];exact hf)))
  clear K C D J G;go_wp2_with fail;refine r.mono ?_;rintro e w1 ⟨rfl,A⟩;have B1:=aI (aN HB A);clear A;go_wp2;go_ret2;exact⟨k,f == 0,rfl,I,F,fun h=>⟨hkn,N (by simpa using h)⟩,fun h i h1 h2=>A1 i (by simpa using h) h1 h2,B1⟩
 obtain rfl:k=n:=aA;clear C;go_wp2;go_ret2;exact⟨k,false,rfl,I,F,fun h=>(by cases h),fun _ i h1 h2=>absurd h2 aA,HB⟩
def ItT (w:World) (v:Value) (zs:List Iv):Prop:=∃a cap,v=.slice a zs.length cap∧Prs w a zs.length zs∧zs.length≤cap∧(a=none→cap=0)∧∀ad,a=some ad→Typed w 123 ad.block
theorem OwnL.itT{w:World}{base:Nat}{v:Value}{zs:List Iv}(h:OwnL w base 123 v zs):ItT w v zs:=by
 obtain⟨a,cap,hv,b,j,l⟩:=h.prs;exact⟨a,cap,hv,b,j,l,fun ad e=>aR h.row (by rw[hv,e];rfl)⟩
theorem ItT.rg{w:World}{v:Value}{zs:List Iv}(h:ItT w v zs):RgAt w v zs:=by
 obtain⟨a,cap,hv,b,j,_⟩:=h;exact⟨a,cap,hv,b,j⟩
theorem ItT.only{w w':World}{v:Value}{zs:List Iv}{may:Nat→Prop}(h:ItT w v zs)(ho:Only may w w')(y:∀k,may k→¬Typed w 123 k):ItT w' v zs:=by
 obtain⟨a,cap,hv,m,n,p,l⟩:=h;have j:∀ad,a=some ad→¬may ad.block:=fun ad e u=>y _ u (l ad e);exact⟨a,cap,hv,m.only ho (fun b off e=>j _ e),n,p,fun ad e=>by
  obtain⟨r,s⟩:=l ad e;exact⟨r,ho.obj (j ad e) s⟩⟩
structure FragT (w:World) (f:FV):Prop where
 items:ItT w f.iv f.items
 vec:RowF w 0 f.vv f.vec
theorem FragT.at{w:World}{f:FV}(h:FragT w f):FragAt w f:=⟨h.items.rg,h.vec.vecAt⟩
theorem FragT.only{w w':World}{f:FV}{may:Nat→Prop}(h:FragT w f)(ho:Only may w w')(b:∀k,may k→¬Typed w 96 k∧¬Typed w 123 k):FragT w' f:=
 ⟨h.items.only ho (fun k j=>(b k j).2),h.vec.only ho b⟩
theorem FragT.below{w w':World}{f:FV}(h:FragT w f)(b:Below w.heap.size w w'):FragT w' f:=h.only (may:=fun _=>False) (Only.of_below b) (fun _ h=>h.elim)
def bH (l:List FV):List Value:=l.flatMap fun f=>[f.iv,f.vv]
theorem iS(a b:List FV):bH (a ++ b)=bH a ++ bH b:=by simp[bH]
theorem qD(l:List FV):(bH l).length=l.length * 2:=by
 induction l with
 | nil=>rfl
 | cons f l ih=>simp only[bH,QC,QA,QF,QR]at ih ⊢;omega
theorem Ik(l:List FV)(k:Nat):bH (l.take k)=(bH l).take (k * 2):=by
 induction l generalizing k with
 | nil=>simp[bH]
 | cons f l ih=>
   cases k with
   | zero=>simp[bH]
   | succ k=>
     have:=ih k;simp only[bH,List.take_succ_cons,QC]at this ⊢;rw[this,show(k+1) * 2=k * 2+1+1 by omega];rfl
theorem Im(l:List FV)(k:Nat):bH (l.drop k)=(bH l).drop (k * 2):=by
 induction l generalizing k with
 | nil=>simp[bH]
 | cons f l ih=>
   cases k with
   | zero=>simp[bH]
   | succ k=>
     have:=ih k;simp only[bH,List.drop_succ_cons,QC]at this ⊢;rw[this,show(k+1) * 2=k * 2+1+1 by omega];rfl
theorem jT{l:List FV}{i:Nat}(h:i<l.length):(bH l)[i * 2]?=some (l.getD i FV.z).iv∧(bH l)[i * 2+1]?=some (l.getD i FV.z).vv:=by
 induction l generalizing i with
 | nil=>simp at h
 | cons f l ih=>
   cases i with
   | zero=>exact⟨rfl,rfl⟩
   | succ i=>
     obtain⟨h1,h2⟩:=ih (i:=i) (by simpa using h);rw[show(i+1) * 2=i * 2+1+1 by omega];exact⟨h1,h2⟩
structure KRow (w:World) (base:Nat) (v:Value) (l:List FV):Prop where
 row:w.ownsRow base 80 2 v l.length (bH l)
 frags:∀f∈l,FragT w f
theorem KRow.nil(w:World)(base:Nat):KRow w base (.slice none 0 0) []:=⟨PU _ _ _ _,aD⟩
theorem KRow.know{w:World}{base:Nat}{v:Value}{l:List FV}(h:KRow w base v l):KnwAt w v l:=by
 rcases h.row.2 with⟨hv,hl⟩ | ⟨g,cap,cur,hv,hb,hc,h1,h2,h3,h4⟩
 ·have e:=List.length_eq_zero_iff.1 hl;subst e;exact⟨none,0,hv,⟨rfl,aD,fun i hi=>absurd hi aD⟩,RA _⟩
 refine⟨_,cap,hv,⟨rfl,fun f j=>(h.frags f j).at,fun i hi=>⟨g,0,rfl,aO hc,?_,?_⟩⟩,h1⟩
 ·have b:(cur.toList.take (l.length * 2))[i * 2]?=(bH l)[i * 2]?:=by rw[h4]
  rw[PZ aA,(jT hi).1]at b;simp only[PT,hc,RI];simpa using b
 have b:(cur.toList.take (l.length * 2))[i * 2+1]?=(bH l)[i * 2+1]?:=by rw[h4]
 rw[PZ aA,(jT hi).2]at b;simp only[PT,hc,RI];simpa using b
theorem KRow.only{w w':World}{base:Nat}{v:Value}{l:List FV}{may:Nat→Prop}(h:KRow w base v l)(ho:Only may w w')(j:∀k,may k→¬Typed w 80 k∧¬Typed w 96 k∧¬Typed w 123 k):KRow w' base v l:=
 ⟨bF h.row ho (fun k b m=>(j k m).1 (aR h.row b)),fun f n=>(h.frags f n).only ho fun k b=>(j k b).2⟩
theorem KRow.below{w w':World}{base:Nat}{v:Value}{l:List FV}(h:KRow w base v l)(b:Below w.heap.size w w'):KRow w' base v l:=h.only (may:=fun _=>False) (Only.of_below b) (fun _ h=>h.elim)
theorem KRow.base{w:World}{base base':Nat}{v:Value}{l:List FV}(h:KRow w base v l)(b:base'≤base):KRow w base' v l:=⟨bC h.row b,h.frags⟩
theorem Vf(f:FV):bH [f]=[f.iv,f.vv]:=rfl
theorem Hx{w:World}{f:FV}(h:FragT w f):f.iv.oneCell'=true∧f.vv.oneCell'=true:=by
 obtain⟨a,cap,hv,_⟩:=h.items;obtain⟨l,j,b,_⟩:=h.vec.vecAt;rw[hv,b];exact⟨rfl,rfl⟩
theorem kL{w:World}{l:List FV}(h:∀f∈l,FragT w f):∀u∈bH l,u.oneCell'=true:=by
 intro u b;obtain⟨f,j,b⟩:=List.mem_flatMap.1 b;have:=Hx (h f j);simp at b;rcases b with rfl | rfl
 ·exact this.1
 exact this.2
theorem KRow.ins{w w':World}{base:Nat}{v r:Value}{l:List FV}{g:FV}{k:Nat}(h:KRow w base v l)(s:FragT w g)(y:k≤l.length)(ho:Only (fun b=>v.ownBlock=some b) w w')
  (u:w'.ownsRow base 80 2 r (l.length+1) ((bH l).take (k * 2) ++ [g.iv,g.vv] ++ (bH l).drop (k * 2))):KRow w' base r (l.take k ++ [g] ++ l.drop k):=by
 have n:∀b,v.ownBlock=some b→¬Typed w 96 b∧¬Typed w 123 b:=fun b p=>⟨Typed.not (aR h.row p) aB,Typed.not (aR h.row p) aB⟩;refine⟨?_,fun f j=>?_⟩
 ·rw[iS,iS,Ik,Im,Vf];have e:(l.take k ++ [g] ++ l.drop k).length=l.length+1:=by simp;omega
  rw[e];exact u
 have m:f∈l∨f=g:=by
  rcases List.mem_append.1 j with j | j
  ·rcases List.mem_append.1 j with j | j
   ·exact .inl (QJ j)
   exact .inr (by simpa using j)
  exact .inl (QK j)
 rcases m with j | rfl
 ·exact(h.frags f j).only ho n
 exact s.only ho n
def CanL (l:List FV):Prop:=CanK (l.map FV.frag)
def Bo (l:List FV) (zs:List Iv):Prop:=∀f∈l,∀x,¬(aV f.items x∧aV zs x)
def rB (l:List FV) (k:Nat) (g:FV):List FV:=l.take k ++ [g] ++ l.drop k
theorem cA{l:List FV}{k:Nat}{g f:FV}:f∈rB l k g↔f=g∨f∈l:=by
 have:f∈l↔f∈l.take k∨f∈l.drop k:=by rw[← QH,QB]
 rw[this];unfold rB;simp only[QH,List.mem_singleton];constructor
 ·rintro((h | h) | h)
  ·exact .inr (.inl h)
  ·exact .inl h
  exact .inr (.inr h)
 rintro(h | h | h)
 ·exact .inl (.inr h)
 ·exact .inl (.inl h)
 exact .inr h
theorem lJ{l:List FV}{k:Nat}{g:FV}(h:k≤l.length):(rB l k g).length=l.length+1:=by unfold rB;simp;omega
theorem xO{α:Type}{R:α→α→Prop}{l:List α}{k:Nat}{g:α}(h:l.Pairwise R)(h1:∀f∈l.take k,R f g)(h2:∀f∈l.drop k,R g f):(l.take k ++ [g] ++ l.drop k).Pairwise R:=by
 have hs:(l.take k ++ l.drop k).Pairwise R:=by rw[QB];exact h
 obtain⟨n,p,r⟩:=List.pairwise_append.1 hs;rw[QE];refine List.pairwise_append.2 ⟨n,List.pairwise_cons.2 ⟨h2,p⟩,fun a m b j=>?_⟩;rcases List.mem_cons.1 j with rfl | j
 ·exact h1 a m
 exact r a m b j
theorem bE{l:List FV}{f:Frag}:f∈l.map FV.frag↔∃g∈l,g.frag=f:=List.mem_map
theorem CanL.of{l:List FV}(h1:∀f∈l,cL f.items∧f.items≠[]∧CanW f.es∧f.es≠[])(h2:l.Pairwise (fun f g=>lL f.es g.es))(h3:l.Pairwise (fun f g=>∀x,¬(aV f.items x∧aV g.items x))):CanL l:=by
 refine⟨fun f j=>?_,fun f j=>?_,fun f j=>?_,fun f j=>?_,List.pairwise_map.2 h2,List.pairwise_map.2 h3⟩;all_goals
  obtain⟨g,b,rfl⟩:=bE.1 j
 ·exact(h1 g b).1
 ·exact(h1 g b).2.1
 ·exact(h1 g b).2.2.1
 exact(h1 g b).2.2.2
theorem CanL.at{l:List FV}(h:CanL l):∀f∈l,cL f.items∧f.items≠[]∧CanW f.es∧f.es≠[]:=fun f b=>
 ⟨h.cor _ (bE.2 ⟨f,b,rfl⟩),h.some _ (bE.2 ⟨f,b,rfl⟩),h.vec _ (bE.2 ⟨f,b,rfl⟩),h.vne _ (bE.2 ⟨f,b,rfl⟩)⟩
theorem CanL.asc'{l:List FV}(h:CanL l):l.Pairwise (fun f g=>lL f.es g.es):=(QW (f:=FV.frag) (R:=fun f g=>lL f.vec g.vec)).1 h.asc
theorem CanL.apart'{l:List FV}(h:CanL l):l.Pairwise (fun f g=>∀x,¬(aV f.items x∧aV g.items x)):=(QW (f:=FV.frag) (R:=fun f g=>∀x,¬(aV f.items x∧aV g.items x))).1 h.apart
theorem CanL.ess{l:List FV}(h:CanL l):(l.map FV.es).Pairwise lL:=List.pairwise_map.2 h.asc'
theorem vW{l:List FV}{k:Nat}{g:FV}{x r c:Int}:fH ((rB l k g).map FV.frag) x r c↔fH (l.map FV.frag) x r c∨(aV g.items x∧dN g.es r c):=by
 constructor
 ·rintro⟨f,j,h⟩;obtain⟨m,b,rfl⟩:=bE.1 j;rcases cA.1 b with rfl | b
  ·exact .inr h
  exact .inl ⟨_,bE.2 ⟨m,b,rfl⟩,h⟩
 rintro(⟨f,j,h⟩ | h)
 ·obtain⟨m,b,rfl⟩:=bE.1 j;exact⟨_,bE.2 ⟨m,cA.2 (.inr b),rfl⟩,h⟩
 exact⟨g.frag,bE.2 ⟨g,cA.2 (.inl rfl),rfl⟩,h⟩
theorem Dm{l:List FV}{k:Nat}{f:FV}(h:f∈l.take k):∃i,i<k∧i<l.length∧l.getD i FV.z=f:=by
 obtain⟨i,hi,e⟩:=List.mem_iff_getElem.1 h;rw[List.length_take]at hi;rw[List.getElem_take]at e;exact⟨i,aA,aA,by simp[PX,PV (show i<l.length by omega),e]⟩
theorem Dn{l:List FV}{k:Nat}{f:FV}(h:f∈l.drop k):∃i,k≤i∧i<l.length∧l.getD i FV.z=f:=by
 obtain⟨i,hi,e⟩:=List.mem_iff_getElem.1 h;rw[List.length_drop]at hi;rw[List.getElem_drop]at e;exact⟨k+i,aA,aA,by simp[PX,PV (show k+i<l.length by omega),e]⟩
theorem CanL.ins{l:List FV}(h:CanL l){k:Nat}{g:FV}(h1:∀i,i<k→i<l.length→lL (l.getD i FV.z).es g.es)(h2:∀i,k≤i→i<l.length→lL g.es (l.getD i FV.z).es)(p:cL g.items∧g.items≠[]∧CanW g.es∧g.es≠[])(n:Bo l g.items):CanL (rB l k g):=by
 refine CanL.of (fun f j=>?_) (xO h.asc' (fun f j=>?_) (fun f j=>?_)) (xO h.apart' (fun f j x=>?_) (fun f j x=>?_))
 ·rcases cA.1 j with rfl | j
  ·exact p
  exact h.at f j
 ·obtain⟨i,a,b,rfl⟩:=Dm j;exact h1 i a b
 ·obtain⟨i,a,b,rfl⟩:=Dn j;exact h2 i a b
 ·exact n f (QJ j) x
 exact fun m=>n f (QK j) x ⟨m.2,m.1⟩
def gM (l:List FV) (k:Nat) (zs:List Iv) (v:Value):List FV:=l.set k ⟨zs,v,(l.getD k FV.z).vec,(l.getD k FV.z).vv⟩
theorem sZ{l:List FV}{k:Nat}(h:k<l.length)(g:FV):l.set k g=l.take k ++ [g] ++ l.drop (k+1):=by
 rw[List.set_eq_take_append_cons_drop,if_pos h,QE];rfl
theorem rL{l:List FV}{k:Nat}(h:k<l.length):l=l.take k ++ [l.getD k FV.z] ++ l.drop (k+1):=by
 have e:l.getD k FV.z=l[k]:=by simp[PX,PV h]
 rw[e,QE];simp
theorem Gd{R:FV→FV→Prop}{l:List FV}{k:Nat}(r:k<l.length){g:FV}(h:l.Pairwise R)(h1:∀f∈l,R f (l.getD k FV.z)→R f g)(h2:∀f∈l,R (l.getD k FV.z) f→R g f):(l.set k g).Pairwise R:=by
 rw[sZ r];have hs:=h;rw[rL r,QE]at hs;obtain⟨s,u,n⟩:=List.pairwise_append.1 hs;obtain⟨y,A⟩:=List.pairwise_cons.1 u;rw[QE];refine List.pairwise_append.2 ⟨s,List.pairwise_cons.2 ⟨fun f p=>h2 f (QK p) (y f p),A⟩,fun a j b m=>?_⟩;rcases List.mem_cons.1 m with rfl | m
 ·exact h1 a (QJ j) (n a j _ aD)
 exact n a j b (List.mem_append_right _ m)
theorem CanL.set{l:List FV}(h:CanL l){k:Nat}(m:k<l.length){zs us:List Iv}{v:Value}(B:cL us)(hi:∀x,aV us x↔aV (l.getD k FV.z).items x∨aV zs x)(p:Bo l zs):CanL (gM l k us v):=by
 have r:l.getD k FV.z∈l:=by
  rw[PX,PV m,RL];exact PY m
 obtain⟨s,u,y,A⟩:=h.at _ r;have n:=h.apart';refine CanL.of (fun f j=>?_) (Gd m h.asc' (fun f _ h=>h) (fun f _ h=>h)) (Gd m n (fun f j h x b=>?_) (fun f j h x b=>?_))
 ·rcases QG j with j | rfl
  ·exact h.at f j
  refine⟨B,fun e=>?_,y,A⟩;obtain⟨x,b⟩:=tQ s u;have:=(hi x).2 (.inl b);simp only at e;rw[e]at this;exact cY x this
 ·rcases(hi x).1 b.2 with q | q
  ·exact h x ⟨b.1,q⟩
  exact p f j x ⟨b.1,q⟩
 rcases(hi x).1 b.1 with q | q
 ·exact h x ⟨q,b.2⟩
 exact p f j x ⟨b.2,q⟩
theorem Ng{l:List FV}{k:Nat}(hk:k<l.length){zs us:List Iv}{v:Value}(hi:∀x,aV us x↔aV (l.getD k FV.z).items x∨aV zs x){x r c:Int} :
  fH ((gM l k us v).map FV.frag) x r c↔fH (l.map FV.frag) x r c∨(aV zs x∧dN (l.getD k FV.z).es r c):=by
 have s:l.getD k FV.z∈l:=by
  rw[PX,PV hk,RL];exact PY hk
 have b:∀f,f∈gM l k us v↔f∈l.take k∨f=⟨us,v,(l.getD k FV.z).vec,(l.getD k FV.z).vv⟩∨f∈l.drop (k+1):=fun f=>by
  unfold gM;rw[sZ hk];simp[or_assoc]
 have j:∀f,f∈l↔f∈l.take k∨f=l.getD k FV.z∨f∈l.drop (k+1):=fun f=>by
  conv=>lhs;rw[rL hk]
  simp[or_assoc]
 constructor
 ·rintro⟨f,p,h1,h2⟩
  obtain⟨m,n,rfl⟩:=bE.1 p;rcases(b m).1 n with q | rfl | q
  ·exact .inl ⟨_,bE.2 ⟨m,(j m).2 (.inl q),rfl⟩,h1,h2⟩
  ·rcases(hi x).1 h1 with q | q
   ·exact .inl ⟨_,bE.2 ⟨_,s,rfl⟩,q,h2⟩
   exact .inr ⟨q,h2⟩
  exact .inl ⟨_,bE.2 ⟨m,(j m).2 (.inr (.inr q)),rfl⟩,h1,h2⟩
 rintro(⟨f,p,h1,h2⟩ | ⟨h1,h2⟩)
 ·obtain⟨m,n,rfl⟩:=bE.1 p
  rcases(j m).1 n with q | rfl | q
  ·exact⟨_,bE.2 ⟨m,(b m).2 (.inl q),rfl⟩,h1,h2⟩
  ·exact⟨_,bE.2 ⟨_,(b _).2 (.inr (.inl rfl)),rfl⟩,(hi x).2 (.inl h1),h2⟩
  exact⟨_,bE.2 ⟨m,(b m).2 (.inr (.inr q)),rfl⟩,h1,h2⟩
 exact⟨_,bE.2 ⟨_,(b _).2 (.inr (.inl rfl)),rfl⟩,(hi x).2 (.inr h1),h2⟩
theorem yQ{l:List FV}{k:Nat}(h:k<l.length)(us:List Iv)(u:Value):bH (gM l k us u)=(bH l).set (k * 2) u:=by
 unfold gM;induction l generalizing k with
 | nil=>simp at h
 | cons f l ih=>
   cases k with
   | zero=>rfl
   | succ k=>
     have:=ih (k:=k) (by simpa using h);rw[show(k+1) * 2=k * 2+1+1 by omega];simp only[bH,QN,QC,QY,List.nil_append,List.getD_cons_succ]at this ⊢;rw[this]
theorem lD(l:List FV)(k:Nat)(us:List Iv)(u:Value):(gM l k us u).length=l.length:=by unfold gM;simp
theorem KRow.set{w:World}{base j n cap:Nat}{l:List FV}{us:List Iv}{u:Value}{k b2:Nat}(h:KRow w base (.slice (some ⟨j,0,none⟩) n cap) l)(B:k<l.length)(C:OwnL w b2 123 u us) :
  KRow (w.setCell ⟨j,k * 2,none⟩ u) base (.slice (some ⟨j,0,none⟩) n cap) (gM l k us u):=by
 have m:=aR h.row (k:=j) rfl;have ho:Only (fun b=>b=j) w (w.setCell ⟨j,k * 2,none⟩ u):=(Only.refl (fun b=>b=j) w).setCell (p:=⟨j,k * 2,none⟩) (.inl rfl) _;have y:∀b,b=j→¬Typed w 96 b∧¬Typed w 123 b:=fun b s=>by
  rw[s];exact⟨Typed.not m aB,Typed.not m aB⟩
 refine⟨?_,fun f A=>?_⟩
 ·rw[lD,yQ B];rcases h.row.2 with⟨hv,hl⟩ | ⟨g',cap',cur,hv,s,hc,h1,h2,h3,h4⟩
  ·cases hv
  injection hv with e1 e2 e3;injection e1 with e1;injection e1 with e1 _ _;subst e1;subst e3;refine⟨by rw[List.length_set];exact h.row.1,.inr ⟨j,cap,_,by rw[e2],s,heap_setCell_same _ _ (k * 2) _ _ _ hc,h1,h2,by simpa using h3,?_⟩⟩;rw[Array.toList_setIfInBounds,List.take_set,h4]
 rcases QG A with A | rfl
 ·exact(h.frags f A).only ho y
 have r:l.getD k FV.z∈l:=by
  rw[PX,PV B,RL];exact PY B
 exact⟨C.itT.only ho (fun b s=>(y b s).2),((h.frags _ r).only ho y).vec⟩
theorem Eo{l:List FV}{k:Nat}(b:k<l.length)(us:List Iv)(u:Value):bD (gM l k us u)+(l.getD k FV.z).items.length=bD l+us.length:=by
 unfold gM;have h1:=congrArg bD (sZ b ⟨us,u,(l.getD k FV.z).vec,(l.getD k FV.z).vv⟩);have h2:=congrArg bD (rL b);rw[bN,bN]at h1 h2;simp only[bD]at h1 h2;omega
theorem rJ{l:List FV}{f:FV}(h:f∈l):f.items.length≤bD l:=by
 induction l with
 | nil=>cases h
 | cons x l ih=>
   simp only[bD];rcases List.mem_cons.1 h with rfl | h
   ·omega
   have:=ih h;omega
theorem Nw{l:List FV}{k:Nat}(n:k<l.length){zs us:List Iv}{u:Value}(hi:∀x,aV us x↔aV (l.getD k FV.z).items x∨aV zs x)(x:Int):(∃f∈gM l k us u,aV f.items x)↔(∃f∈l,aV f.items x)∨aV zs x:=by
 have p:l.getD k FV.z∈l:=by
  rw[PX,PV n,RL];exact PY n
 constructor
 ·rintro⟨f,j,h⟩;rcases QG j with j | rfl
  ·exact .inl ⟨f,j,h⟩
  rcases(hi x).1 h with h | h
  ·exact .inl ⟨_,p,h⟩
  exact .inr h
 have b:(⟨us,u,(l.getD k FV.z).vec,(l.getD k FV.z).vv⟩:FV)∈gM l k us u:=by
  unfold gM;exact List.mem_iff_getElem.2 ⟨k,by simpa using n,aD⟩
 rintro(⟨f,j,h⟩ | h)
 ·obtain⟨i,m,e⟩:=List.mem_iff_getElem.1 j;by_cases q:i=k
  ·subst q;have r:l.getD i FV.z=f:=by simp[PX,PV m,e]
   exact⟨_,b,(hi x).2 (.inl (by rw[r];exact h))⟩
  refine⟨f,?_,h⟩;unfold gM;exact List.mem_iff_getElem.2 ⟨i,by simpa using m,by rw[List.getElem_set_ne (fun e=>q e.symm)];exact e⟩
 exact⟨_,b,(hi x).2 (.inr h)⟩
structure MO (q base:Nat) (v:Value) (l:List FV) (g:FV) (w:World) (v':Value) (l':List FV) (w':World):Prop where
 cell:w'.heap[q]?=some (.cells #[v'] 137 (0,0))
 row:KRow w' base v' l'
 can:CanL l'
 kn:∀x r c,fH (l'.map FV.frag) x r c↔fH (l.map FV.frag) x r c∨(aV g.items x∧dN g.es r c)
 cov:∀x,(∃f∈l',aV f.items x)↔(∃f∈l,aV f.items x)∨aV g.items x
 len:l'.length≤l.length+1
 cmp:∀f∈l',pS f.vec
 tot:bD l'≤bD l+g.items.length
 only:Only (fun b=>b=q∨v.ownBlock=some b) w w'
theorem Wl(q base:Nat)(v:Value)(l:List FV)(g:FV)(w:World)(hq:w.heap[q]?=some (.cells #[v] 137 (0,0)))(j:KRow w base v l)(hC:CanL l)(hI:ItT w g.iv g.items)(hV:RowF w 0 g.vv g.vec)
  (hg:cL g.items∧g.items≠[]∧CanW g.es∧g.es≠[]) (ha:Bo l g.items) (hb:∀f∈l,pS f.vec) (D4:pS g.vec) (hl:l.length≤1000000000) (ht:bD l≤1000000000) (D5:g.items.length≤1000) (A8:base≤w.heap.size) :
  Calls prog 83 #[.pointer (some ⟨q,0,none⟩),.agg #[g.iv,g.vv]] w fun e w'=>∃v' l',e=.returned (.tuple #[])∧MO q base v l g w v' l' w':=by
 have C4:prog.follows .mixedOrders=true:=aC;obtain⟨a,cap,rfl,E5,_⟩:=j.know;have KS:=aI (fun W (hW:Below w.heap.size w W)=>Ht a l.length cap l g.vv g.vec W (E5.below hW) (hV.vecAt.below hW) hC.ess hb D4 aA);have HQ:=aI hq;have HK:=aI j;have HC:=aI hC;have HI:=aI hI;have HV:=aI hV;have HG:=aI hg;have HA:=aI ha;have B3:=aI hb;have C5:=aI D4;obtain⟨ai,ci,ei,_⟩:=hI.rg;obtain⟨A,B,ev,_⟩:=hV.vecAt;obtain⟨items,iv,vec,vv⟩:=g;simp only at ei ev;subst ei;subst ev;obtain⟨n,en⟩:=aG l.length;have V:=aI en;simp only at KS D5;rw[en]at KS HQ HK hl ⊢;obtain⟨W1,C1⟩:=aG (w.alloc (.cells #[.slice ai items.length ci,.slice A vec.length B] 80));have B1:=aI (show Below w.heap.size w W1 from by rw[← C1];exact aJ (PH _ _) _);have p1:W1.heap[w.heap.size]?=some (.cells #[.slice ai items.length ci,.slice A vec.length B] 80 (0,0)):=by rw[← C1];exact aK _ _ rfl
 have p2:W1.heap[q]?=some (.cells #[.slice a n cap] 137 (0,0)):=by rw[← C1];exact aT _ _ (aO HQ) HQ
 have c0:W1.cell? ⟨q,0,none⟩=some (.slice a n cap):=by simp[PT,p2]
 have c1:W1.cell? ⟨w.heap.size,0,none⟩=some (.slice ai items.length ci):=by simp[PT,p1]
 have c2:W1.cell? ⟨w.heap.size,1,none⟩=some (.slice A vec.length B):=by simp[PT,p1]
 obtain⟨ni,D1⟩:=aG items.length;obtain⟨nv,D2⟩:=aG vec.length;have P1:=aI p1;have P2:=aI p2;have EW:=aI C1;have B4:=aI D1;have C6:=aI D2;rw[D1]at c1 P1 EW D5 ⊢;rw[D2]at c2 P1 EW KS ⊢;clear hq j hC hI hV hg ha hb D4 E5 en C1 p1 p2 D1 D2;go_enter func83,ntmps83;go_wp2_with fail;rw[EW.out];refine wp_region_held_drew (S:=Only (fun _=>False) W1) C4 (Only.refl _ _).drew (fun P=>?_);refine aP 0 7 (.pointer (some ⟨q,0,none⟩)) ?_;refine aP 1 8 (.pointer (some ⟨q,0,none⟩)) ?_;refine aP 2 9 (.pointer (some ⟨q,0,none⟩)) ?_;refine dL 3 10 (.slice a n cap) ?_ ?_
 ·intro X hX;have x0:=hX.cell (fun h=>h) c0;go_simp
 refine aP 4 11 (.pointer (some ⟨w.heap.size,1,none⟩)) ?_;refine dL 5 12 (.slice A nv B) ?_ ?_
 ·intro X hX;have x0:=hX.cell (fun h=>h) c2;go_simp
 refine cW 6 fun K j=>?_;go_simp;refine(KS _ (B1.trans ((P.below (n:=w.heap.size) B1.size (fun _ h=>h.elim))))).mono ?_;rintro e Q ⟨k,fb,rfl,hk,E6,C3,E7,E8⟩;have P:=P.call E8;have C7:=aI E6;have D6:=aI C3;have F4:=aI E7;clear E6 C3 E7 E8;go_simp;refine j _ _ P (fun _=>?_);clear j K;refine aP 7 6 (.tuple #[.int .i64 k,.bool fb]) ?_;refine aP 8 14 (.int .i64 k) ?_;refine aP 9 15 (.bool fb) ?_;refine aP 10 4 (.int .i64 k) ?_;refine aP 11 5 (.bool fb) ?_;refine iM ?_;have HS:=aI P;clear P
 cases fb with
 | true=>
   go_wp2_with fail;obtain⟨G3,G4⟩:=D6.out trivial;have F:k<l.length:=by rw[V.out];exact G3
   have Y:l.getD k FV.z∈l:=by
    rw[PX,PV F,RL];exact PY F
   have Z:=aI (B1.trans (HS.below (n:=w.heap.size) B1.size (fun _ h=>h.elim)));rcases HK.row.2 with⟨_,h0⟩ | ⟨gb,cap',cur,hv,hgb,hcells,hr1,hr2,hr3,hr4⟩
   ·have:=V.out;omega
   injection hv with e1 e2 e3;clear e2 hr1 hr2;subst e1;subst e3;have D7:=aO hcells;have G8:=aR HK.row (k:=gb) rfl;have F5:q≠gb:=fun e=>by
    rw[← e,HQ.out]at hcells;injection hcells with hcells;injection hcells with _ hcells _;exact absurd hcells aB
   have D8:w.cell? ⟨gb,k * 2,none⟩=some (l.getD k FV.z).iv:=by
    have h5:(cur.toList.take (l.length * 2))[k * 2]?=(bH l)[k * 2]?:=by rw[hr4]
    rw[PZ aA,(jT F).1]at h5;simp only[PT,hcells];simpa using h5
   have gq:=(Z.block gb D7).trans hcells;have d2:Q.cell? ⟨gb,k * 2,none⟩=some (l.getD k FV.z).iv:=aM Z D7 D8;have d0:Q.cell? ⟨q,0,none⟩=some (.slice (some ⟨gb,0,none⟩) n cap):=HS.cell (fun h=>h) c0;have d1:Q.cell? ⟨w.heap.size,0,none⟩=some (.slice ai ni ci):=HS.cell (fun h=>h) c1;have nq:¬q=gb:=F5;have nb:¬w.heap.size=gb:=aA;obtain⟨G5,G6,_,_⟩:=HC.at _ Y;have D9:=(HK.frags _ Y).at.items;have G7:=rJ Y;have KU:=aI (fun W (hW:Below Q.heap.size Q W)=>zP (l.getD k FV.z).iv (.slice ai ni ci) (l.getD k FV.z).items items W ((D9.below Z).below hW) (by rw[← B4.out];exact((HI.rg).below Z).below hW) G5 HG.1 (by rw[B4.out];omega));obtain⟨a0,cz,e0,_⟩:=D9;obtain⟨n0,D3⟩:=aG ((l.getD k FV.z).items.length);rw[e0]at d2;rw[e0]at KU;rw[D3]at d2 KU;have F6:=aI D3;have F7:=aI (HK.frags _ Y).at.items.words;have i0:(0:Int)≤(k:Int):=aA;have i1:(k:Int)<(n:Int):=aA;clear G6 D3 e0 hcells hr3 hr4 D8;refine wp_region_held_drew (S:=Only (fun b=>b=gb) Q) C4 (Only.refl _ _).drew (fun P=>?_);refine aP 0 17 (.pointer (some ⟨q,0,none⟩)) ?_;refine aP 1 18 (.pointer (some ⟨q,0,none⟩)) ?_;refine aP 2 19 (.pointer (some ⟨q,0,none⟩)) ?_;refine dL 3 20 (.slice (some ⟨gb,0,none⟩) n cap) ?_ ?_
   ·intro X hX;have x0:=hX.cell (fun h=>nq h) d0;go_simp
   refine aP 4 21 (.int .i64 k) ?_;refine aP 5 22 (.pointer (some ⟨q,0,none⟩)) ?_;refine aP 6 23 (.pointer (some ⟨q,0,none⟩)) ?_;refine aP 7 24 (.pointer (some ⟨q,0,none⟩)) ?_;refine dL 8 25 (.slice (some ⟨gb,0,none⟩) n cap) ?_ ?_
   ·intro X hX;have x0:=hX.cell (fun h=>nq h) d0;go_simp
   refine aP 9 26 (.int .i64 k) ?_;refine aP 10 27 (.pointer (some ⟨gb,k * 2,none⟩)) ?_;refine aP 11 28 (.pointer (some ⟨gb,k * 2,none⟩)) ?_;refine aP 13 30 (.pointer (some ⟨w.heap.size,0,none⟩)) ?_;refine dL 14 31 (.slice ai ni ci) ?_ ?_
   ·intro X hX;have x1:=hX.cell (fun h=>nb h) d1;go_simp
   have f2:Q.frozen? ⟨gb,k * 2,none⟩=false:=frozen_of_row _ _ (k * 2) _ _ gq;refine cW 12 fun K j=>?_;go_simp;refine j _ _ P (fun _=>?_);clear j K;refine cW 15 fun K j=>?_;go_simp;refine(KU _ ((Only.refl (fun _=>False) Q).drew.below (n:=Q.heap.size) (RA _) (fun _ h=>h.elim))).mono ?_;rintro e w5 ⟨⟨u,us,rfl,hO,E9,F0,F1⟩,C2⟩;have P:=P.call C2;obtain⟨C,D,rfl,_,_,_⟩:=hO.prs;obtain⟨nu,U⟩:=aG us.length;have E0:=aI U;rw[U]at hO ⊢;have F8:=aI hO;have F9:=aI E9;have G0:=aI F0;have G1:=aI F1;have B5:=aI C2;have E1:=(C2.block gb (aO gq)).trans gq;have c5:w5.cell? ⟨gb,k * 2,none⟩=some (.slice a0 n0 cz):=aM C2 (aO gq) d2;have f5:w5.frozen? ⟨gb,k * 2,none⟩=false:=frozen_of_row _ _ (k * 2) _ _ E1;clear hO E9 F0 F1 C2 U;go_simp;refine j _ _ P (fun _=>?_);clear j K;refine aP 16 33 (.pointer (some ⟨gb,k * 2,none⟩)) ?_;refine aP 17 34 (.pointer (some ⟨gb,k * 2,none⟩)) ?_;refine cW 18 fun K j=>?_;have C8:=P.setCell (p:=⟨gb,k * 2,none⟩) (.inl rfl) (.slice C nu D);go_simp;refine j _ _ C8 (fun _=>?_);clear j K;refine iM ?_;have E2:=aI C8;clear P C8 d0 d1 d2 f2 c5 f5 gq E1;go_wp2;refine bodyPost_ret (results_none rfl _ _ _) rfl ?_;have C9:∀x,aV us x↔aV (l.getD k FV.z).items x∨aV items x:=fun x=>by
    rw[G0.out];have e1:vO (decide (aV (l.getD k FV.z).items x)) (decide (aV items x))=true↔aV (l.getD k FV.z).items x∨aV items x:=by
     show(decide _ || decide _)=true↔_;simp
    rw[e1];constructor
    ·exact fun h=>h.2.2
    intro h;have:0≤x∧x<18446744073709551616:=by
     rcases h with h | h
     ·exact cC F7 h
     exact cC HI.rg.words h
    exact⟨this.1,this.2,h⟩
   have K5:=(HK.below (Z)).only (may:=fun _=>False) ((Only.refl (fun _=>False) Q).drew.call B5) (fun _ h=>h.elim);have G9:=Eo F us (.slice C nu D);have ol:=G1.out;have e9:=F6.out;have e8:=B4.out;refine⟨_,gM l k us (.slice C nu D),rfl,?_,K5.set F F8,HC.set F F9 C9 HA,fun x r c=>?_,fun x=>Nw F C9 x,by rw[lD];have:=V.out;omega,fun f J=>?_,by show bD _≤bD l+items.length;omega,?_⟩
   ·exact E2.obj nq ((HS.obj (fun h=>h) P2))
   ·rw[Ng F C9];show _↔_∨(aV items x∧dN (vec.map (·.1)) r c);rw[show dN (l.getD k FV.z).es r c↔dN (vec.map (·.1)) r c from by rw[G4]]
   ·rcases QG J with J | rfl
    ·exact B3 f J
    show pS (l.getD k FV.z).vec;exact B3 _ Y
   refine((Only.of_below B1).trans ((HS.wide (fun _ h=>h.elim)))).trans (E2.wide fun b hb=>.inr ?_);rw[hb];rfl
 | false=>
   go_wp2_with fail;have D0:=aI (show ∀i,k≤i→i<n→lL (vec.map (·.1)) (l.getD i FV.z).es from F4 trivial);have Z:=aI (B1.trans (HS.below (n:=w.heap.size) B1.size (fun _ h=>h.elim)));have m:∀x,(PQ a n cap).ownBlock=some x→x<w.heap.size∧x≠q:=fun x hx=>⟨(HK.row.lt x hx).2,fun e=>by
    obtain⟨cs,hc⟩:=aR HK.row hx;rw[e,HQ.out]at hc;injection hc with hc;injection hc with _ hc _;exact absurd hc aB⟩
   have A9:=aI m;have G2:=aO HQ;have gq:=(Z.block q G2).trans HQ;have d0:Q.cell? ⟨q,0,none⟩=some (.slice a n cap):=HS.cell (fun h=>h) c0;have d1:Q.cell? ⟨w.heap.size,0,none⟩=some (.slice ai ni ci):=HS.cell (fun h=>h) c1;have d2:Q.cell? ⟨w.heap.size,1,none⟩=some (.slice A nv B):=HS.cell (fun h=>h) c2;have nb:¬(w.heap.size=q∨(PQ a n cap).ownBlock=some w.heap.size):=fun h=>h.elim (fun h=>aA) (fun h=>by have:=(m _ h).1;omega);obtain⟨a3,c3,e3,F2,_,F3,_⟩:=HI.out;have E3:PQ ai ni ci=.slice a3 items.length c3:=by rw[← B4.out];exact e3
   have KC:=aI (fun W (hW:Below Q.heap.size Q W)=>show Calls prog _ #[.slice ai ni ci] W _ from by rw[E3];exact Rp a3 items.length c3 items W ((F2.below Z).below hW) F3 (by rw[B4.out];exact D5));clear F2 F3 e3 m E3;refine wp_region_held_drew (S:=Only (fun b=>b=q∨(PQ a n cap).ownBlock=some b) Q) C4 (Only.refl _ _).drew (fun P=>?_);refine aP 0 35 (.pointer (some ⟨q,0,none⟩)) ?_;refine aP 1 36 (.pointer (some ⟨q,0,none⟩)) ?_;refine aP 2 37 (.pointer (some ⟨q,0,none⟩)) ?_;refine aP 3 38 (.pointer (some ⟨q,0,none⟩)) ?_;refine aP 5 40 (.int .i64 k) ?_;refine aP 6 41 (.pointer (some ⟨w.heap.size,0,none⟩)) ?_;refine dL 7 42 (.slice ai ni ci) ?_ ?_
   ·intro X hX;have x1:=hX.cell (fun h=>nb h) d1;go_simp
   refine aP 9 44 (.pointer (some ⟨w.heap.size,1,none⟩)) ?_;refine dL 10 45 (.slice A nv B) ?_ ?_
   ·intro X hX;have x2:=hX.cell (fun h=>nb h) d2;go_simp
   refine Se 4 8 (fun K j=>?_) fun K j=>?_
   ·go_simp;refine j _ _ P (fun _=>?_);clear j K;refine cW 8 fun K j=>?_;go_simp;refine(KC _ ((Only.refl (fun _=>False) Q).drew.below (n:=Q.heap.size) (RA _) (fun _ h=>h.elim))).mono ?_;rintro e R ⟨v1,rfl,hO,A7⟩;have P:=P.call A7;have B0:=aI hO;have B7:=aI ((Only.refl (fun _=>False) Q).drew.call A7);obtain⟨C,D,rfl,_,_,_⟩:=hO.prs;obtain⟨nu,U⟩:=aG items.length;have E0:=aI U;rw[U]at B0 ⊢;clear hO A7 U;go_simp;refine j _ _ P (fun _=>?_);clear j K;refine aP 11 46 (.agg #[.slice C nu D,.slice A nv B]) ?_;refine cW 12 fun K j=>?_;have B2:=P.alloc (.cells #[.slice C nu D,.slice A nv B] 80);go_simp;refine j _ _ B2 (fun _=>?_);clear j K;refine cW 13 fun K j=>?_;have L:=B7.alloc (.cells #[.slice C nu D,.slice A nv B] 80);have M:=Z.trans (L.below (n:=w.heap.size) Z.size (fun _ h=>h.elim));have N:=(HK.below M);have A0:=L.obj (fun h=>h) gq;have A1:(PQ a n cap).ownBlock≠some R.heap.size:=fun e=>by
     have h1:=(A9 _ e).1;have h2:=B7.size;have h3:=Z.size;omega
    have G:=N.row;rw[V.out]at G;have B6:=aI N;have B8:=aI M;have E4:=aI L;have n9:(R.alloc (.cells #[.slice C nu D,.slice A nv B] 80)).heap[R.heap.size]?=some (.cells #[.slice C nu D,.slice A nv B] 80 (0,0)):=aK _ _ rfl;have s:base≤(R.alloc (.cells #[.slice C nu D,.slice A nv B] 80)).heap.size:=RB A8 M.size;have KI:=aI (nK base n k (.slice a n cap) (bH l) R.heap.size [.slice C nu D,.slice A nv B] _ G hk aA s (kL N.frags) (by intro u hu;simp at hu;rcases hu with rfl | rfl<;>rfl) rfl n9 A1);clear L M N G n9 s A1;go_simp;refine KI.mono ?_;rintro e E ⟨v2,rfl,m,ho⟩;have H:=(by assumption:Only (fun b=>b=q∨(PQ a n cap).ownBlock=some b) Q (R.alloc (.cells #[.slice C nu D,.slice A nv B] 80))).trans (ho.wide (fun b hb=>.inr hb));have y:=ho.obj (fun h=>(A9 _ h).2 rfl) A0;have y0:E.cell? ⟨q,0,none⟩=some (.slice a n cap):=by simp[PT,y]
    have y1:E.frozen? ⟨q,0,none⟩=false:=frozen_of_row _ _ 0 _ _ y;obtain⟨a2,A6,rfl,_⟩:=aY m;have A2:=aI m;have A3:=aI ho;have O:=aI y;clear m ho y A0;go_simp;refine j _ _ H (fun _=>?_);clear j K;refine aP 14 49 (.pointer (some ⟨q,0,none⟩)) ?_;refine aP 15 50 (.pointer (some ⟨q,0,none⟩)) ?_;refine cW 16 fun K j=>?_;have I:=H.setCell (p:=⟨q,0,none⟩) (.inl (.inl rfl)) (.slice a2 (n+1) A6);go_simp;refine j _ _ I (fun _=>?_);clear j K;refine iM ?_;have A4:=aI I;clear H I d0 d1 d2 y0 y1;go_wp2;refine bodyPost_end (results_none rfl _ _ _) rfl ?_;have B9:Only (fun b=>b=q) E (E.setCell ⟨q,0,none⟩ (.slice a2 (n+1) A6)):=(Only.refl (fun b=>b=q) E).setCell (p:=⟨q,0,none⟩) (.inl rfl) _;have T:Typed E 137 q:=⟨_,O⟩;have C0:FragT (R.alloc (.cells #[.slice C nu D,.slice A nv B] 80)) ⟨items,.slice C nu D,vec,.slice A nv B⟩:=⟨(B0.only (may:=fun _=>False) ((Only.refl (fun _=>False) R).alloc _) (fun _ h=>h.elim)).itT,by have hv:=HV.out;rw[C6.out]at hv;exact hv.only (may:=fun _=>False) (Only.of_below B8) (fun _ h=>h.elim)⟩;have F:k≤l.length:=by rw[V.out];exact hk
    have A5:=B6.ins (g:=⟨items,.slice C nu D,vec,.slice A nv B⟩) C0 F A3 (by rw[V.out];exact A2);refine⟨_,rB l k ⟨items,.slice C nu D,vec,.slice A nv B⟩,rfl,heap_setCell_same _ _ 0 _ _ _ O,A5.only B9 (fun b hb=>by rw[hb];exact⟨Typed.not T aB,Typed.not T aB,Typed.not T aB⟩),HC.ins (fun i h1 _=>C7 i h1) (fun i h1 h2=>D0 i h1 (by rw[← V.out];exact h2)) HG HA,fun x r c=>vW,fun x=>?_,by rw[lJ F];have:=V.out;omega,fun f J=>?_,?_,?_⟩
    ·constructor
     ·rintro⟨f,J,h⟩;rcases cA.1 J with rfl | J
      ·exact .inr h
      exact .inl ⟨f,J,h⟩
     rintro(⟨f,J,h⟩ | h)
     ·exact⟨f,cA.2 (.inr J),h⟩
     exact⟨_,cA.2 (.inl rfl),h⟩
    ·rcases cA.1 J with rfl | J
     ·exact C5
     exact B3 f J
    ·have h1:=bN (l.take k) (l.drop k);rw[QB]at h1;unfold rB;rw[bN,bN];simp only[bD];omega
    exact((Only.of_below B1).trans (HS.wide (fun _ h=>h.elim))).trans A4
   go_simp;refine(KC _ ((Only.refl (fun _=>False) Q).drew.below (n:=Q.heap.size) (RA _) (fun _ h=>h.elim))).mono ?_;rintro e R ⟨v1,rfl,hO,A7⟩;have P:=P.call A7;have B0:=aI hO;have B7:=aI ((Only.refl (fun _=>False) Q).drew.call A7);obtain⟨C,D,rfl,_,_,_⟩:=hO.prs;obtain⟨nu,U⟩:=aG items.length;have E0:=aI U;rw[U]at B0 ⊢;clear hO A7 U;go_simp;refine j _ _ P (fun _=>?_);clear j K;refine aP 11 46 (.agg #[.slice C nu D,.slice A nv B]) ?_;refine Se 4 12 (fun K j=>?_) fun K j=>?_
   ·have x4:=(B7.cell (fun h=>h) d0);go_simp;refine j _ _ P (fun _=>?_);clear j K;refine cW 12 fun K j=>?_;have B2:=P.alloc (.cells #[.slice C nu D,.slice A nv B] 80);go_simp;refine j _ _ B2 (fun _=>?_);clear j K;refine cW 13 fun K j=>?_;have L:=B7.alloc (.cells #[.slice C nu D,.slice A nv B] 80);have M:=Z.trans (L.below (n:=w.heap.size) Z.size (fun _ h=>h.elim));have N:=(HK.below M);have A0:=L.obj (fun h=>h) gq;have A1:(PQ a n cap).ownBlock≠some R.heap.size:=fun e=>by
     have h1:=(A9 _ e).1;have h2:=B7.size;have h3:=Z.size;omega
    have G:=N.row;rw[V.out]at G;have B6:=aI N;have B8:=aI M;have E4:=aI L;have n9:(R.alloc (.cells #[.slice C nu D,.slice A nv B] 80)).heap[R.heap.size]?=some (.cells #[.slice C nu D,.slice A nv B] 80 (0,0)):=aK _ _ rfl;have s:base≤(R.alloc (.cells #[.slice C nu D,.slice A nv B] 80)).heap.size:=RB A8 M.size;have KI:=aI (nK base n k (.slice a n cap) (bH l) R.heap.size [.slice C nu D,.slice A nv B] _ G hk aA s (kL N.frags) (by intro u hu;simp at hu;rcases hu with rfl | rfl<;>rfl) rfl n9 A1);clear L M N G n9 s A1;go_simp;refine KI.mono ?_;rintro e E ⟨v2,rfl,m,ho⟩;have H:=(by assumption:Only (fun b=>b=q∨(PQ a n cap).ownBlock=some b) Q (R.alloc (.cells #[.slice C nu D,.slice A nv B] 80))).trans (ho.wide (fun b hb=>.inr hb));have y:=ho.obj (fun h=>(A9 _ h).2 rfl) A0;have y0:E.cell? ⟨q,0,none⟩=some (.slice a n cap):=by simp[PT,y]
    have y1:E.frozen? ⟨q,0,none⟩=false:=frozen_of_row _ _ 0 _ _ y;obtain⟨a2,A6,rfl,_⟩:=aY m;have A2:=aI m;have A3:=aI ho;have O:=aI y;clear m ho y A0;go_simp;refine j _ _ H (fun _=>?_);clear j K;refine aP 14 49 (.pointer (some ⟨q,0,none⟩)) ?_;refine aP 15 50 (.pointer (some ⟨q,0,none⟩)) ?_;refine cW 16 fun K j=>?_;have I:=H.setCell (p:=⟨q,0,none⟩) (.inl (.inl rfl)) (.slice a2 (n+1) A6);go_simp;refine j _ _ I (fun _=>?_);clear j K;refine iM ?_;have A4:=aI I;clear H I d0 d1 d2 y0 y1;go_wp2;refine bodyPost_end (results_none rfl _ _ _) rfl ?_;have B9:Only (fun b=>b=q) E (E.setCell ⟨q,0,none⟩ (.slice a2 (n+1) A6)):=(Only.refl (fun b=>b=q) E).setCell (p:=⟨q,0,none⟩) (.inl rfl) _;have T:Typed E 137 q:=⟨_,O⟩;have C0:FragT (R.alloc (.cells #[.slice C nu D,.slice A nv B] 80)) ⟨items,.slice C nu D,vec,.slice A nv B⟩:=⟨(B0.only (may:=fun _=>False) ((Only.refl (fun _=>False) R).alloc _) (fun _ h=>h.elim)).itT,by have hv:=HV.out;rw[C6.out]at hv;exact hv.only (may:=fun _=>False) (Only.of_below B8) (fun _ h=>h.elim)⟩;have F:k≤l.length:=by rw[V.out];exact hk
    have A5:=B6.ins (g:=⟨items,.slice C nu D,vec,.slice A nv B⟩) C0 F A3 (by rw[V.out];exact A2);refine⟨_,rB l k ⟨items,.slice C nu D,vec,.slice A nv B⟩,rfl,heap_setCell_same _ _ 0 _ _ _ O,A5.only B9 (fun b hb=>by rw[hb];exact⟨Typed.not T aB,Typed.not T aB,Typed.not T aB⟩),HC.ins (fun i h1 _=>C7 i h1) (fun i h1 h2=>D0 i h1 (by rw[← V.out];exact h2)) HG HA,fun x r c=>vW,fun x=>?_,by rw[lJ F];have:=V.out;omega,fun f J=>?_,?_,?_⟩
    ·constructor
     ·rintro⟨f,J,h⟩;rcases cA.1 J with rfl | J
      ·exact .inr h
      exact .inl ⟨f,J,h⟩
     rintro(⟨f,J,h⟩ | h)
     ·exact⟨f,cA.2 (.inr J),h⟩
     exact⟨_,cA.2 (.inl rfl),h⟩
    ·rcases cA.1 J with rfl | J
     ·exact C5
     exact B3 f J
    ·have h1:=bN (l.take k) (l.drop k);rw[QB]at h1;unfold rB;rw[bN,bN];simp only[bD];omega
    exact((Only.of_below B1).trans (HS.wide (fun _ h=>h.elim))).trans A4
   have x4:=((B7.alloc (.cells #[.slice C nu D,.slice A nv B] 80)).cell (fun h=>h) d0);have B2:=P.alloc (.cells #[.slice C nu D,.slice A nv B] 80);go_simp;refine j _ _ B2 (fun _=>?_);clear j K;refine cW 4 fun K j=>?_;go_simp;refine j _ _ B2 (fun _=>?_);clear j K;refine cW 13 fun K j=>?_;have L:=B7.alloc (.cells #[.slice C nu D,.slice A nv B] 80);have M:=Z.trans (L.below (n:=w.heap.size) Z.size (fun _ h=>h.elim));have N:=(HK.below M);have A0:=L.obj (fun h=>h) gq;have A1:(PQ a n cap).ownBlock≠some R.heap.size:=fun e=>by
    have h1:=(A9 _ e).1;have h2:=B7.size;have h3:=Z.size;omega
   have G:=N.row;rw[V.out]at G;have B6:=aI N;have B8:=aI M;have E4:=aI L;have n9:(R.alloc (.cells #[.slice C nu D,.slice A nv B] 80)).heap[R.heap.size]?=some (.cells #[.slice C nu D,.slice A nv B] 80 (0,0)):=aK _ _ rfl;have s:base≤(R.alloc (.cells #[.slice C nu D,.slice A nv B] 80)).heap.size:=RB A8 M.size;have KI:=aI (nK base n k (.slice a n cap) (bH l) R.heap.size [.slice C nu D,.slice A nv B] _ G hk aA s (kL N.frags) (by intro u hu;simp at hu;rcases hu with rfl | rfl<;>rfl) rfl n9 A1);clear L M N G n9 s A1;go_simp;refine KI.mono ?_;rintro e E ⟨v2,rfl,m,ho⟩;have H:=(by assumption:Only (fun b=>b=q∨(PQ a n cap).ownBlock=some b) Q (R.alloc (.cells #[.slice C nu D,.slice A nv B] 80))).trans (ho.wide (fun b hb=>.inr hb));have y:=ho.obj (fun h=>(A9 _ h).2 rfl) A0;have y0:E.cell? ⟨q,0,none⟩=some (.slice a n cap):=by simp[PT,y]
   have y1:E.frozen? ⟨q,0,none⟩=false:=frozen_of_row _ _ 0 _ _ y;obtain⟨a2,A6,rfl,_⟩:=aY m;have A2:=aI m;have A3:=aI ho;have O:=aI y;clear m ho y A0;go_simp;refine j _ _ H (fun _=>?_);clear j K;refine aP 14 49 (.pointer (some ⟨q,0,none⟩)) ?_;refine aP 15 50 (.pointer (some ⟨q,0,none⟩)) ?_;refine cW 16 fun K j=>?_;have I:=H.setCell (p:=⟨q,0,none⟩) (.inl (.inl rfl)) (.slice a2 (n+1) A6);go_simp;refine j _ _ I (fun _=>?_);clear j K;refine iM ?_;have A4:=aI I;clear H I d0 d1 d2 y0 y1;go_wp2;refine bodyPost_end (results_none rfl _ _ _) rfl ?_;have B9:Only (fun b=>b=q) E (E.setCell ⟨q,0,none⟩ (.slice a2 (n+1) A6)):=(Only.refl (fun b=>b=q) E).setCell (p:=⟨q,0,none⟩) (.inl rfl) _;have T:Typed E 137 q:=⟨_,O⟩;have C0:FragT (R.alloc (.cells #[.slice C nu D,.slice A nv B] 80)) ⟨items,.slice C nu D,vec,.slice A nv B⟩:=⟨(B0.only (may:=fun _=>False) ((Only.refl (fun _=>False) R).alloc _) (fun _ h=>h.elim)).itT,by have hv:=HV.out;rw[C6.out]at hv;exact hv.only (may:=fun _=>False) (Only.of_below B8) (fun _ h=>h.elim)⟩;have F:k≤l.length:=by rw[V.out];exact hk
   have A5:=B6.ins (g:=⟨items,.slice C nu D,vec,.slice A nv B⟩) C0 F A3 (by rw[V.out];exact A2);refine⟨_,rB l k ⟨items,.slice C nu D,vec,.slice A nv B⟩,rfl,heap_setCell_same _ _ 0 _ _ _ O,A5.only B9 (fun b hb=>by rw[hb];exact⟨Typed.not T aB,Typed.not T aB,Typed.not T aB⟩),HC.ins (fun i h1 _=>C7 i h1) (fun i h1 h2=>D0 i h1 (by rw[← V.out];exact h2)) HG HA,fun x r c=>vW,fun x=>?_,by rw[lJ F];have:=V.out;omega,fun f J=>?_,?_,?_⟩
   ·constructor
    ·rintro⟨f,J,h⟩;rcases cA.1 J with rfl | J
     ·exact .inr h
     exact .inl ⟨f,J,h⟩
    rintro(⟨f,J,h⟩ | h)
    ·exact⟨f,cA.2 (.inr J),h⟩
    exact⟨_,cA.2 (.inl rfl),h⟩
   ·rcases cA.1 J with rfl | J
    ·exact C5
    exact B3 f J
   ·have h1:=bN (l.take k) (l.drop k);rw[QB]at h1;unfold rB;rw[bN,bN];simp only[bD];omega
   exact((Only.of_below B1).trans (HS.wide (fun _ h=>h.elim))).trans A4
structure Jd (w:World) (l:List FV):Prop where
 it:∀f∈l,ItT w f.iv f.items
 cor:∀f∈l,cL f.items
 few:∀f∈l,f.items.length≤1000
 can:∀f∈l,CanW f.es
 cmp:∀f∈l,pS f.vec
 hs:∀f∈l,∀e∈f.es,e.hs.length≤3900000000
 len:∀f∈l,f.vec.length≤3900000000
 apart:l.Pairwise (fun f g=>∀x,¬(aV f.items x∧aV g.items x))
theorem AT{l l':List EV}(h:pS l)(e:l'.map (·.1)=l.map (·.1)):pS l':=by
 obtain⟨h1,h2,h3⟩:=h;have r:l'.length=l.length:=by simpa using congrArg QU e
 refine⟨aA,fun p n=>?_,by rw[e];exact h3⟩;have:p.1∈l.map (·.1):=by rw[← e];exact List.mem_map.2 ⟨p,n,rfl⟩
 obtain⟨j,b,m⟩:=List.mem_map.1 this;rw[← m];exact h2 j b
theorem xY{l:List FV}{k:Nat}(h:k<l.length){x r c:Int}:fH ((l.take (k+1)).map FV.frag) x r c↔fH ((l.take k).map FV.frag) x r c∨(aV (l.getD k FV.z).items x∧dN (l.getD k FV.z).es r c):=by
 rw[fC h];constructor
 ·rintro⟨f,n,j⟩;obtain⟨m,b,rfl⟩:=bE.1 n;rcases List.mem_append.1 b with b | b
  ·exact .inl ⟨_,bE.2 ⟨m,b,rfl⟩,j⟩
  obtain rfl:m=l.getD k FV.z:=by simpa using b
  exact .inr j
 rintro(⟨f,n,j⟩ | j)
 ·obtain⟨m,b,rfl⟩:=bE.1 n;exact⟨_,bE.2 ⟨m,QM _ b,rfl⟩,j⟩
 exact⟨_,bE.2 ⟨l.getD k FV.z,aD,rfl⟩,j⟩
structure GrpK (l:List FV) (k:Nat) (l':List FV):Prop where
 can:CanL l'
 kn:∀x r c,fH (l'.map FV.frag) x r c↔fH ((l.take k).map FV.frag) x r c
 cov:∀x,(∃f∈l',aV f.items x)→∃f∈l.take k,aV f.items x
 len:l'.length≤k
 cmp:∀f∈l',pS f.vec
 tot:bD l'≤bD (l.take k)
theorem GrpK.zero(l:List FV):GrpK l 0 []:=
 ⟨CanL.of aD QZ QZ,fun x r c=>Iff.rfl,(fun x h=>by
  obtain⟨f,b,_⟩:=h
  cases b),RA _,(fun f b=>by cases b),RA _⟩
theorem GrpK.skip{l l':List FV}{k:Nat}(h:GrpK l k l')(b:k<l.length)(p:(l.getD k FV.z).es=[]∨(l.getD k FV.z).items=[]):GrpK l (k+1) l':=
 ⟨h.can,fun x r c=>by
  rw[h.kn,xY b];constructor
  ·exact .inl
  ·rintro(h | ⟨h1,h2⟩)
   ·exact h
   rcases p with e | e
   ·rw[e]at h2;exact absurd h2 (jN r c)
   rw[e]at h1;exact absurd h1 (cY x),fun x n=>by
  obtain⟨f,j,m⟩:=h.cov x n;exact⟨f,by rw[fC b];exact QM _ j,m⟩,by have:=h.len;omega,h.cmp,by have:=h.tot;rw[jP b];omega⟩
theorem GrpK.apart{w:World}{l n:List FV}{k:Nat}(h:GrpK l k n)(u:Jd w l)(y:k<l.length):Bo n (l.getD k FV.z).items:=by
 intro f s x m;obtain⟨p,b,h2⟩:=h.cov x ⟨f,s,m.1⟩;have j:=u.apart;rw[rL y,QE]at j;obtain⟨_,_,r⟩:=List.pairwise_append.1 j;exact r p b _ aD x ⟨h2,m.2⟩
theorem Az(v:Value)(l:List FV)(w:World)(hE:KnwAt w v l)(hG:Jd w l)(B1:l.length≤1000000000)(B9:bD l≤1000000000) :
  Calls prog 38 #[v] w fun e w'=>∃v' u,e=.returned v'∧KRow w' w.heap.size v' u∧GrpK l l.length u∧Below w.heap.size w w':=by
 obtain⟨a,cap,rfl,hK,_⟩:=hE;have H:=aI hK;have M:=aI hG;obtain⟨q,eq⟩:=aG w.heap.size;have EQ:=aI eq;have B0:=aI (show Below w.heap.size w (w.alloc (.cells #[.slice none 0 0] 137))from aJ (PH _ _) _);have Q0:=aI (show(w.alloc (.cells #[.slice none 0 0] 137)).heap[q]?=some (.cells #[.slice none 0 0] 137 (0,0))from by rw[← eq];exact aK _ _ rfl);obtain⟨len,F⟩:=aG l.length;have EL:=aI F;rw[F]at H B1 ⊢;have A4:=aI (show q+1≤(w.alloc (.cells #[.slice none 0 0] 137)).heap.size from by rw[← eq];simp);have B8:∀args W,(callFunc 83 args).run prog W=.ok (.enter 83 args) W:=fun _ _=>aC;clear hK hG F;go_enter func38,ntmps38;go_wp2;obtain⟨w0,T⟩:=aG (w.alloc (.cells #[.slice none 0 0] 137));rw[T]at B0 Q0 A4;rw[T];clear T eq;go_loopw [11] (fun c wr=>∃(k:Nat) (v':Value) (u:List FV),k≤len∧c=.int .i64 k∧wr.heap[q]?=some (.cells #[v'] 137 (0,0))∧KRow wr (q+1) v' u∧GrpK l k u∧Below w.heap.size w wr∧q+1≤wr.heap.size) (fun c _=>len-(intOf c).toNat)
 case atStart=>exact⟨0,_,[],RF _,rfl,Q0.out,KRow.nil _ _,GrpK.zero _,B0.out,A4.out⟩
 obtain⟨k,v',u,hk,rfl,hq,hR,hP,G,B6⟩:=hrel;have HQ:=aI hq;have HR:=aI hR;have C:=aI hP;have HB:=aI G;have C0:(0:Int)≤(k:Int):=aA;clear hR hP;by_cases hlt:k<len
 ·have i1:(k:Int)<(len:Int):=aA;have B:k<l.length:=by rw[EL.out];exact hlt
  have Hr:=H.below G;obtain⟨b,off,rfl,B7,U,V⟩:=Hr.cells k hlt;have s:=Hr.mem hlt;have A5:=Hr.frags _ s;have A:=M.it _ s;have KV:=aI (fun W (hW:Below w.heap.size w W) a' cap' (hV:EntsN W a' (l.getD k FV.z).vec.length (l.getD k FV.z).vec)=>Sp a' _ cap' (l.getD k FV.z).vec W hV (M.can _ s) (M.hs _ s) (M.len _ s));obtain⟨p,ep⟩:=aG (l.getD k FV.z);have EP:=aI ep;rw[ep]at U V A5 A KV;have y:p∈l:=by rw[← ep];exact s
  obtain⟨⟨X,Y,ei,_⟩,⟨av,cv,ev,Z,_⟩⟩:=A5;obtain⟨items,iv,vec,vv⟩:=p;simp only at U V ei ev Z KV A;subst ei;subst ev;have D:=aI y;have A6:=aI A;have K1:=aI (KV.out _ (HB.trans ((aJ (PH wr.heap.size wr) (.cells #[.slice X items.length Y,.slice av vec.length cv] 80)).mono HB.size)) av cv (Z.below (aJ (PH _ _) _)));have n9:(wr.alloc (.cells #[.slice X items.length Y,.slice av vec.length cv] 80)).heap[wr.heap.size]?=some (.cells #[.slice X items.length Y,.slice av vec.length cv] 80 (0,0)):=aK _ _ rfl;have N9:=aI n9;have BA:=aI (aJ (PH wr.heap.size wr) (.cells #[.slice X items.length Y,.slice av vec.length cv] 80));obtain⟨ni,A0⟩:=aG items.length;obtain⟨nv,A1⟩:=aG vec.length;have R:=aI A0;have B2:=aI A1;have E:=M.few _ y;simp only at E;rw[A0]at U N9 K1 BA E A6;rw[A1]at V N9 K1 BA;clear hq G ep s A Z A0 A1 n9 Hr KV y B7;go_wp2_with fail;refine K1.mono ?_;rintro e I ⟨v2,Q,rfl,J,A2,A3⟩;have q3:=(A3.block _ (aO N9.out)).trans N9.out;have y0:I.cell? ⟨wr.heap.size,0,none⟩=some (.slice X ni Y):=by simp[PT,q3]
  have N:=aI (BA.trans (A3.mono BA.size));have B3:=aI (HB.trans (N.mono HB.size));have R3:=aI (HR.below N.out);have Q3:=aI ((N.block q (aO HQ.out)).trans HQ.out);obtain⟨a2,c2,rfl,_⟩:=A2.vecAt;have F2:=aI A2;have A7:=aI J;have A8:Q.length=nv:=by rw[← B2.out];simpa using congrArg QU J
  have C1:=aI A8;obtain⟨m,em⟩:=aG Q.length;rw[em]at F2 ⊢;have EM:=aI em;have O:=aI (show q+1≤I.heap.size from RB B6 N.size);clear J A2 A3 q3 A8 em;by_cases hm:m=0
  ·have P4:=aI (C.skip B (.inl (by
    rw[EP.out];show vec.map (·.1)=[];rw[← A7.out,List.length_eq_zero_iff.1 (show Q.length=0 by rw[EM.out];exact hm)];rfl)))
   subst hm;go_wp2;go_roundw
   case rel=>
    have j:∃(K:Nat) (v':Value) (u:List FV),K≤len∧(.int .i64 ((k:Int)+1):Value)=.int .i64 K∧I.heap[q]?=some (.cells #[v'] 137 (0,0))∧KRow I (q+1) v' u∧GrpK l K u∧Below w.heap.size w I∧q+1≤I.heap.size:=⟨k+1,v',u,aA,aD,Q3.out,R3.out,P4.out,B3.out,O.out⟩;first | exact j | ((repeat apply PF);exact⟨j,rfl⟩)
   simp[intOf];omega
  have m1:(0:Int)<(m:Int):=aA;by_cases hni:ni=0
  ·have P4:=aI (C.skip B (.inr (by
    rw[EP.out];exact List.length_eq_zero_iff.1 (show items.length=0 by rw[R.out];exact hni))))
   subst hni;go_wp2;go_roundw
   case rel=>
    have j:∃(K:Nat) (v':Value) (u:List FV),K≤len∧(.int .i64 ((k:Int)+1):Value)=.int .i64 K∧I.heap[q]?=some (.cells #[v'] 137 (0,0))∧KRow I (q+1) v' u∧GrpK l K u∧Below w.heap.size w I∧q+1≤I.heap.size:=⟨k+1,v',u,aA,aD,Q3.out,R3.out,P4.out,B3.out,O.out⟩;first | exact j | ((repeat apply PF);exact⟨j,rfl⟩)
   simp[intOf];omega
  have n1:(0:Int)<(ni:Int):=aA;have P:(Q.map (·.1))=vec.map (·.1):=A7.out;have S:=C.apart M.out B;rw[EP.out]at S;have tt:=C.tot;have tl:=oW l k;have KA:=aI (Wl q (q+1) v' u ⟨items,.slice X ni Y,Q,.slice a2 m c2⟩ I Q3.out R3.out C.can (A6.only (may:=fun _=>False) (Only.of_below B3.out) (fun _ h=>h.elim)) (by have:=F2.base (RF _);exact this)
   ⟨(show cL items from M.cor _ D.out),fun e=>hni (by rw[← R.out];exact List.length_eq_zero_iff.2 e),by show CanW (Q.map (·.1));rw[P];exact(show CanW (vec.map (·.1))from M.can _ D.out),fun e=>hm (by rw[← EM.out];have e':Q.map (·.1)=[]:=e;exact List.length_eq_zero_iff.2 (List.map_eq_nil_iff.1 e'))⟩
   S C.cmp (AT (show pS vec from M.cmp _ D.out) P) (by have:=C.len;omega) aA (by show items.length≤1000;rw[R.out];exact E) O.out)
  have B5:=aI P;clear P S;go_wp2_with fail;refine KA.mono ?_;rintro e w4 ⟨v4,l4,rfl,L⟩;have HA:=aI L;have A9:∀b,v'.ownBlock=some b→q+1≤b:=fun b G=>(R3.row.lt b G).1;have B4:=aI (B3.trans (L.only.below (n:=w.heap.size) B3.size (fun b G=>by
   have:=EQ.out;rcases G with G | G
   ·omega
   have:=A9 b G;omega)))
  have P4:=aI (show GrpK l (k+1) l4 from⟨L.can,fun x r c=>by
   rw[L.kn,C.kn,xY B,EP.out];show _∨(aV items x∧dN (Q.map (·.1)) r c)↔_∨(aV items x∧dN (vec.map (·.1)) r c);rw[B5.out],fun x hx=>by
   rw[fC B,EP.out];rcases(L.cov x).1 hx with h | h
   ·obtain⟨f,hf,h'⟩:=C.cov x h;exact⟨f,QM _ hf,h'⟩
   ·exact⟨⟨items,.slice X items.length Y,vec,.slice av vec.length cv⟩,aD,h⟩,by have:=L.len;have:=C.len;omega,L.cmp,by
   have h1:=L.tot;rw[jP B,EP.out];simp only at h1 ⊢;omega⟩)
  have S4:=aI (RB O.out L.only.size);clear L A9;go_wp2;go_roundw
  case rel=>
   have j:∃(K:Nat) (v':Value) (u:List FV),K≤len∧(.int .i64 ((k:Int)+1):Value)=.int .i64 K∧w4.heap[q]?=some (.cells #[v'] 137 (0,0))∧KRow w4 (q+1) v' u∧GrpK l K u∧Below w.heap.size w w4∧q+1≤w4.heap.size:=⟨k+1,v4,l4,aA,aD,HA.cell,HA.row,P4.out,B4.out,S4.out⟩;first | exact j | ((repeat apply PF);exact⟨j,rfl⟩)
  simp[intOf];omega
 obtain rfl:len=k:=aA;have y0:wr.cell? ⟨q,0,none⟩=some v':=by simp[PT,hq]
 have RE:=aI (HR.base (base':=w.heap.size) (by have:=EQ.out;omega));clear hq G;go_wp2;go_ret
 first | exact⟨_,rfl,u,RE.out,C.out,HB.out⟩ | exact⟨_,u,rfl,RE.out,C.out,HB.out⟩
structure PartK (ps:List Iv) (F:Int→Int→Int→Prop) (k:Nat) (l':List FV):Prop where
 len:l'.length=k
 items:∀i,i<k→(l'.getD i FV.z).items=[(Lo ps i,Hi ps i)]
 kn:∀i,i<k→∀r c,dN (l'.getD i FV.z).es r c↔F (Lo ps i) r c
theorem PartK.zero(ps:List Iv)(F:Int→Int→Int→Prop):PartK ps F 0 []:=⟨rfl,fun i h=>absurd h aA,fun i h=>absurd h aA⟩
theorem sJ{l:List FV}{f:FV}{i:Nat}(h:i<l.length):(l ++ [f]).getD i FV.z=l.getD i FV.z:=by
 simp only[PX];rw[List.getElem?_append_left h]
theorem sK{l:List FV}{f:FV}:(l ++ [f]).getD l.length FV.z=f:=by
 simp[PX]
theorem PartK.snoc{ps:List Iv}{F:Int→Int→Int→Prop}{k:Nat}{b:List FV}(h:PartK ps F k b){f:FV}(hi:f.items=[(Lo ps k,Hi ps k)])(n:∀r c,dN f.es r c↔F (Lo ps k) r c):PartK ps F (k+1) (b ++ [f]):=by
 have j:=h.len;refine⟨by simp[j],fun i m=>?_,fun i m=>?_⟩
 ·by_cases e:i<k
  ·rw[sJ aA];exact h.items i e
  have l:i=b.length:=aA;have p:i=k:=aA;rw[l,sK,hi,← j]
 by_cases e:i<k
 ·rw[sJ aA];exact h.kn i e
 have l:i=b.length:=aA;rw[l,sK,j];exact n
theorem PartK.know{b:List FV}{ps:List Iv}{F:Int→Int→Int→Prop}{n:List FV}(h:PartK ps F ps.length n)(D:lM b ps){r c:Int}(hs:∀x y,aX b x b.length=aX b y b.length→(F x r c↔F y r c))(K:∀x,F x r c→aL x∧aX b x b.length≠[])(x:Int) :
  fH (n.map FV.frag) x r c↔F x r c:=by
 have mem:∀i,i<ps.length→(Lo ps i,Hi ps i)∈ps:=fun i hi=>by
  rw[← cJ ps i hi];exact PY hi
 constructor
 ·rintro⟨f,I,h1,h2⟩;obtain⟨f',B,rfl⟩:=bE.1 I;obtain⟨i,hi,e⟩:=List.mem_iff_getElem.1 B;have l:i<ps.length:=by have:=h.len;omega
  have H:n.getD i FV.z=f':=by simp[PX,PV hi,e]
  have s:=h.items i l;have u:=h.kn i l r c;rw[H]at s u;have m:aV f'.items x:=h1;rw[s,dU]at m;have j:=D.same _ (mem i l) x m.1 m.2;exact(hs x (Lo ps i) j).2 (u.1 h2)
 intro G;obtain⟨J,C⟩:=K x G;obtain⟨p,E,h1,h2⟩:=D.all x J C;obtain⟨i,hi,e⟩:=List.mem_iff_getElem.1 E;rw[cJ ps i hi]at e;subst e;have j:=D.same _ E x h1 h2;have A:i<n.length:=by rw[h.len];exact hi
 refine⟨(n.getD i FV.z).frag,bE.2 ⟨_,?_,rfl⟩,?_,(h.kn i hi r c).2 ((hs x (Lo ps i) j).1 G)⟩
 ·rw[PX,PV A,RL];exact PY A
 show aV (n.getD i FV.z).items x;rw[h.items i hi,dU];exact⟨h1,h2⟩
theorem sC{l:List FV}{x y r c:Int}(h:aX l x l.length=aX l y l.length):fH (l.map FV.frag) x r c↔fH (l.map FV.frag) y r c:=by
 rw[← rZ,← rZ,h]
theorem KRow.app{w:World}{base:Nat}{v:Value}{l:List FV}{g:FV}{vb:Nat}(h:KRow w base v l)(D:FragT w g)(s:w.heap[vb]?=some (.cells #[g.iv,g.vv] 80 (0,0)))(J:l.length≤4000000000)(m:base≤w.heap.size)(E:TypeId) :
  ∃r w',(Builtin.append_ #[23,23] E #[v,.slice (some ⟨vb,0,none⟩) 1 1]).run prog w=.ok r w'∧KRow w' base r (l ++ [g])∧Only (fun b=>v.ownBlock=some b) w w':=by
 obtain⟨F,hi,y,z,A⟩:=info_parts fK;obtain⟨r,w',G,n,j,_,_⟩:=run_append_own_at (P:=prog) w base 23 E 80 F (.agg #[.slice none 0 0,.slice none 0 0]) 2 48 underlying23 hi y z A rfl aB v l.length (bH l) h.row ⟨vb,0,none⟩ 1 1 [g.iv,g.vv] rfl (bW s) (fun u C=>by
  have:=Hx D;simp at C;rcases C with rfl | rfl
  ·exact this.1
  exact this.2) (by unfold maxLen;omega) aA m
 have ho:Only (fun b=>v.ownBlock=some b) w w':=⟨j.os,j.tape,j.output,j.size,fun k H I=>j.block k H (fun e=>I e.symm)⟩;have B:∀b,v.ownBlock=some b→¬Typed w 96 b∧¬Typed w 123 b:=fun b s=>⟨Typed.not (aR h.row s) aB,Typed.not (aR h.row s) aB⟩;refine⟨r,w',G,⟨?_,fun f p=>?_⟩,ho⟩
 ·rw[iS,QA];exact n
 rcases List.mem_append.1 p with p | p
 ·exact(h.frags f p).only ho B
 obtain rfl:f=g:=by simpa using p
 exact D.only ho B
structure VecB (l:List FV) (V A:Nat):Prop where
 can:∀f∈l,CanW f.es
 vec:∀f∈l,f.vec.length≤V
 hs:∀f∈l,∀p∈f.vec,p.1.hs.length≤A
theorem VecB.nil(V A:Nat):VecB [] V A:=⟨aD,aD,aD⟩
theorem VecB.snoc{l:List FV}{V A:Nat}(h:VecB l V A){f:FV}(h1:CanW f.es)(h2:f.vec.length≤V)(h3:∀p∈f.vec,p.1.hs.length≤A):VecB (l ++ [f]) V A:=by
 refine⟨fun g b=>?_,fun g b=>?_,fun g b=>?_⟩;all_goals
  rcases List.mem_append.1 b with b | b
 ·exact h.can g b
 ·obtain rfl:g=f:=by simpa using b
  exact h1
 ·exact h.vec g b
 ·obtain rfl:g=f:=by simpa using b
  exact h2
 ·exact h.hs g b
 obtain rfl:g=f:=by simpa using b
 exact h3
theorem VecB.mono{l:List FV}{V A j A':Nat}(h:VecB l V A)(n:V≤j)(r:A≤A'):VecB l j A':=
 ⟨h.can,fun f b=>RB (h.vec f b) n,fun f b p m=>RB (h.hs f b p m) r⟩
theorem oU(e:Ent):(gQ e).length=3+2 * e.hs.length:=by
 unfold gQ;have:∀zs:List Iv,(zs.flatMap (fun z=>[z.1,z.2])).length=2 * zs.length:=by
  intro zs;induction zs with
  | nil=>rfl
  | cons z zs ih=>simp only[QC,QA,QF,QR]at ih ⊢;omega
 simp only[QA,QF,QR,this]
theorem wC{es:List Ent}{A:Nat}(h:∀e∈es,e.hs.length≤A):(bG es).length≤1+es.length * (3+2 * A):=by
 have b:(es.flatMap gQ).length≤es.length * (3+2 * A):=by
  induction es with
  | nil=>simp
  | cons e es ih=>
    have h1:=ih (fun f j=>h f (by simp[j]));have h2:=h e aD;simp only[QC,QA,oU,QF,RJ]at h1 ⊢;omega
 unfold bG;simp only[QF];omega
theorem VecB.cmp{l:List FV}{V A:Nat}(h:VecB l V A)(n:V≤10000)(r:A≤40000):∀f∈l,pS f.vec:=fun f j=>by
 have h1:=h.vec f j;have h2:=h.hs f j;refine⟨aA,fun p b=>by have:=h2 p b;omega,?_⟩;have h3:=wC (es:=f.vec.map (·.1)) (A:=A) (fun e m=>by
  obtain⟨p,b,rfl⟩:=List.mem_map.1 m;exact h2 p b)
 rw[QI]at h3;have h4:f.vec.length * (3+2 * A)≤10000 * (3+2 * 40000):=Nat.mul_le_mul aA aA;omega
theorem PartK.it{ps:List Iv}{F:Int→Int→Int→Prop}{k:Nat}{j:List FV}(h:PartK ps F k j){f:FV}(m:f∈j):∃i,i<k∧f=j.getD i FV.z∧f.items=[(Lo ps i,Hi ps i)]:=by
 obtain⟨i,hi,e⟩:=List.mem_iff_getElem.1 m;have b:i<k:=by have:=h.len;omega
 have l:j.getD i FV.z=f:=by simp[PX,PV hi,e]
 exact⟨i,b,l.symm,by rw[← l];exact h.items i b⟩
theorem Cz(ps:List Iv)(i:Nat)(hi:i<ps.length):(Lo ps i,Hi ps i)∈ps:=by
 rw[← cJ ps i hi];exact PY hi
theorem rD{a b:Int}(h:a≤b):cL [(a,b)]:=fun i hi=>by
 have:i=0:=by simpa using hi
 subst this;exact⟨h,fun h0=>absurd h0 aA⟩
theorem PartK.grp2{m:List FV}{ps:List Iv}{F:Int→Int→Int→Prop}{l':List FV}(h:PartK ps F ps.length l')(B:lM m ps){w:World}{base:Nat}{v:Value}(I:KRow w base v l'){V A:Nat}(s:VecB l' V A)(J:∀f∈l',pS f.vec)(N:V≤3900000000)(O:A≤3900000000):Jd w l':=by
 refine⟨fun f l=>(I.frags f l).items,fun f l=>?_,fun f l=>?_,s.can,J,fun f l e G=>?_,fun f l=>by have:=s.vec f l;omega,?_⟩
 ·obtain⟨i,hi,_,e⟩:=h.it l;rw[e];exact rD (B.le _ (Cz ps i hi))
 ·obtain⟨i,hi,_,e⟩:=h.it l;rw[e];simp
 ·obtain⟨p,n,rfl⟩:=List.mem_map.1 G;have:=s.hs f l p n;omega
 refine List.pairwise_iff_getElem.2 fun i j hi H r x=>?_;have K:=h.len;have C:l'.getD i FV.z=l'[i]:=by simp[PX,PV hi]
 have D:l'.getD j FV.z=l'[j]:=by simp[PX,PV H]
 have u:=h.items i aA;have y:=h.items j aA;rw[C]at u;rw[D]at y;rw[u,y,dU,dU];have n:=List.pairwise_iff_getElem.1 B.asc i j aA aA r;rw[cJ ps i aA,cJ ps j aA]at n;have E:Hi ps i<Lo ps j:=n;rintro⟨⟨_,a⟩,⟨b,_⟩⟩;have L:x≤Hi ps i:=a;have M:Lo ps j≤x:=b;omega
theorem PartK.grp{b:List FV}{ps:List Iv}{F:Int→Int→Int→Prop}{l':List FV}(h:PartK ps F ps.length l')(l:lM b ps){w:World}{base:Nat}{v:Value}(m:KRow w base v l'){V A:Nat}(j:VecB l' V A)(n:V≤10000)(p:A≤40000):Jd w l':=h.grp2 l m j (j.cmp n p) aA aA
theorem rQ{l:List FV}(h:l.Pairwise (fun f g=>∀x,¬(aV f.items x∧aV g.items x)))(x:Int):(aX l x l.length).length≤1:=by
 rcases RH 1 (aX l x l.length).length with g | g
 ·exfalso
  have hs:(aX l x l.length).Pairwise (·<·):=(List.pairwise_lt_range (n:=l.length)).filter _;have h0:=List.pairwise_iff_getElem.1 hs 0 1 aA g aA;obtain⟨a1,a2⟩:=dG.1 (PY (show 0<(aX l x l.length).length by omega));obtain⟨b1,b2⟩:=dG.1 (PY g);generalize (aX l x l.length)[0]=i at *;generalize (aX l x l.length)[1]=j at *;have:=List.pairwise_iff_getElem.1 h i j a1 b1 h0 x;rw[PX,PV a1,RL]at a2;rw[PX,PV b1,RL]at b2;exact this ⟨a2,b2⟩
 exact g
theorem Wf{w:World}{l D:List FV}(I:Jd w l)(h:GrpK l l.length D){f:FV}(J:f∈D):∃g∈l,f.es=g.es:=by
 obtain⟨K,L,E,z⟩:=h.can.at f J;obtain⟨x,M⟩:=tQ K L;have n:=fun r c=>CanK.at h.can (bE.2 ⟨f,J,rfl⟩) (f:=f.frag) M r c;have y:=fun r c=>h.kn x r c;rw[QP]at y;obtain⟨F,G,h0⟩:=E.ne_nil z;obtain⟨g,N,m,_⟩:=(y F G).1 ((n F G).2 h0);obtain⟨g,b,rfl⟩:=bE.1 N;refine⟨g,b,mV E (I.can g b) fun r c=>?_⟩;rw[show dN f.es r c↔fH (D.map FV.frag) x r c from(n r c).symm,y];constructor
 ·rintro⟨q,O,s,A⟩;obtain⟨q,B,rfl⟩:=bE.1 O;obtain⟨i,hi,C⟩:=List.mem_iff_getElem.1 b;obtain⟨j,H,u⟩:=List.mem_iff_getElem.1 B;have p:=List.pairwise_iff_getElem.1 I.apart;have:i=j:=by
   rcases Nat.lt_trichotomy i j with t | t | t
   ·exact absurd (by rw[C,u];exact⟨m,s⟩) (p i j hi H t x)
   ·exact t
   exact absurd (by rw[C,u];exact⟨s,m⟩) (p j i H hi t x)
  subst this;rw[C]at u;rw[u];exact A
 exact fun P=>⟨g.frag,bE.2 ⟨g,b,rfl⟩,m,P⟩
theorem Hu{w:World}{l n:List FV}{V A:Nat}(r:Jd w l)(h:GrpK l l.length n)(s:VecB l V A):VecB n V A:=by
 refine⟨fun f b=>(h.can.at f b).2.2.1,fun f b=>?_,fun f b p B=>?_⟩
 ·obtain⟨g,m,e⟩:=Wf r h b;have j:(f.vec.map (·.1)).length=(g.vec.map (·.1)).length:=congrArg QU e;have:=s.vec g m;simp at j;omega
 obtain⟨g,m,e⟩:=Wf r h b;have j:p.1∈g.vec.map (·.1):=by
  have u:f.vec.map (·.1)=g.vec.map (·.1):=e;rw[← u];exact List.mem_map.2 ⟨p,B,rfl⟩
 obtain⟨q,y,z⟩:=List.mem_map.1 j;rw[← z];exact s.hs g m q y
theorem lI{w:World}{b:Nat}{lo hi:Int}(h1:aL lo)(h2:aL hi)(h:w.heap[b]?=some (.cells #[.int .u64 lo,.int .u64 hi] 123 (0,0))):ItT w (.slice (some ⟨b,0,none⟩) 1 1) [(lo,hi)]:=
 ⟨_,_,rfl,mZ h1 h2 h,RA _,fun e=>(by cases e),fun ad e=>by
  injection e with e;subst e;exact⟨_,h⟩⟩
theorem cV{P:Program}{o:Oper}{a:Act}{w:World}{next:Act→World→Prop}{Q:Exit→Act→World→Prop}(s x:Operand)(t b:TypeId)
  (ho:o.op=.call { callee:=.builtin .append,args:=#[s,x],argTypes:=#[t,b] }) {v j l:Value} {w':World} (hs:a.eval s=v) (m:a.eval x=j)
  (n:(Builtin.append_ #[t,b] o.type #[v,j]).run P w=.ok l w') (h:next (a.put o.dst l) w'):Oper.wp P o a w next Q:=by
 unfold Oper.wp execOp;simp only[ho,resolve,invoke,builtin,Sem.run_bind,Sem.run_pure,Result.andThen_ok,List.map_toArray,List.map_cons,List.map_nil,hs,m,n];exact h
structure yW (l:List FV) (ps:List Iv) (V A:Nat) (k:Nat) (l':List FV):Prop where
 part:PartK ps (fH (l.map FV.frag)) k l'
 bnd:VecB l' V A
theorem Jq(v:Value)(l:List FV)(I V A N:Nat)(w:World)(hE:KnwAt w v l)(hO:Sa l I V A)(hI:I≤1000000)(C1:bD l≤4000000)(C7:l.length≤10000000)
  (hV:V≤1000000) (hA:A≤1000000) (hN:∀x,(aX l x l.length).length≤N) (C5:(N+1) * V≤5000000) (C6:(N+1) * (A+3)≤4000000) :
  Calls prog 39 #[v] w fun e w'=>∃U ps J,e=.returned U∧KRow w' w.heap.size U J∧lM l ps∧ps.length≤1+2 * bD l∧yW l ps (N * V) (N * (A+3)) ps.length J∧Below w.heap.size w w':=by
 have C2:prog.follows .mixedOrders=true:=aC;have KP:=aI (Mk v l w hE hO.cor (fun f hf=>by have:=hO.items f hf;omega) aA aA);have C3:=aI (fun W (M:Below w.heap.size w W) x=>Li v l x I V A W (hE.below M) hO aA aA aA aA N (hN x) aA aA);have MV:=aI (fun x=>RK V (hN x));have MA:=aI (fun x=>RK (A+3) (hN x));obtain⟨NV,A9⟩:=aG (N * V);obtain⟨NA,B0⟩:=aG (N * (A+3));rw[A9]at MV ⊢;rw[B0]at MA ⊢;obtain⟨a,cap,rfl,_⟩:=hE;have A1:=aI C1;clear hO hI hN C5 C6 A9 B0;go_enter func39,ntmps39;go_wp2_with fail;refine KP.mono ?_;rintro e L ⟨vp,ps,rfl,B2,B3,B4,B5⟩;obtain⟨ap,cp,rfl,B6,_,_⟩:=B2.prs;have B1:=aI B5;have PK:=aI B3;have PL:=aI B4;have HP:=aI B6;obtain⟨n,en⟩:=aG ps.length;have EN:=aI en;rw[en]at HP PL ⊢;have C8:n≤1000000000:=by have:=PL.out;have:=A1.out;omega
 clear B2 B3 B4 B6 B5 en;go_wp2;go_loopw [3,9] (fun o c wr=>∃(k:Nat) (J:List FV),k≤n∧c=.int .i64 k∧KRow wr L.heap.size o J∧yW l ps NV NA k J∧Below L.heap.size L wr) (fun _ c _=>n-(intOf c).toNat)
 case atStart=>exact⟨0,[],RF _,rfl,KRow.nil _ _,⟨PartK.zero _ _,VecB.nil _ _⟩,PH _ _⟩
 obtain⟨k,J,hk,rfl,hR,hP,M⟩:=hrel;have HR:=aI hR;have D:=aI hP;have HB:=aI M;have C9:(0:Int)≤(k:Int):=aA;clear hP;by_cases hlt:k<n;have i1:(k:Int)<(n:Int):=aA;have Hr:=HP.below M;obtain⟨b,off,rfl,C4,B8,B9⟩:=Hr.cells k hlt;have hw:=Hr.word hlt;obtain⟨lo,A2⟩:=aG (Lo ps k);obtain⟨hi,A3⟩:=aG (Hi ps k);have Y:=aI A2;have A4:=aI A3;rw[A2]at B8 hw;rw[A3]at B9 hw;have WD:=aI hw;obtain⟨ao,co,rfl,_⟩:=aY hR.row;obtain⟨m,em⟩:=aG J.length;have EM:=aI em;rw[em]at HR ⊢;clear A2 A3 hw Hr hR em;go_wp2_with fail;obtain⟨wq,Q⟩:=aG (wr.alloc (.cells #[.int .u64 lo,.int .u64 hi] 123));have BQ:=aI (show Below L.heap.size L wq from by rw[← Q];exact M.alloc M.size _);have p1:wq.heap[wr.heap.size]?=some (.cells #[.int .u64 lo,.int .u64 hi] 123 (0,0)):=by rw[← Q];exact aK _ _ rfl
 have RQ:=aI (show KRow wq L.heap.size (.slice ao m co) J from by rw[← Q];exact HR.below (aJ (PH _ _) _));have c0:wq.cell? ⟨wr.heap.size,0,none⟩=some (.int .u64 lo):=by simp[PT,p1]
 have c1:wq.cell? ⟨wr.heap.size,1,none⟩=some (.int .u64 hi):=by simp[PT,p1]
 have A5:∀x,(PQ ao m co).ownBlock=some x→x<wr.heap.size:=fun x hx=>(HR.row.lt x hx).2;have nq:¬(PQ ao m co).ownBlock=some wr.heap.size:=fun e=>by have:=A5 _ e;omega
 have KA:=aI (fun W (hX:Only (fun _=>False) wq W)=>C3 W (B1.trans ((BQ.trans (hX.below (n:=L.heap.size) BQ.size (fun _ h=>h.elim))).mono B1.size)) lo);rw[Q];clear B8 B9 C4 M Q p1 A5;refine wp_region_held_drew (S:=Only (fun b=>(PQ ao m co).ownBlock=some b) wq) C2 (Only.refl _ _).drew (fun j=>?_);refine aP 0 13 (.slice ao m co) ?_;refine dL 1 14 (.agg #[.int .u64 lo,.int .u64 hi]) ?_ ?_
 ·intro X hX;have x0:=hX.cell nq c0;have x1:=hX.cell nq c1;go_simp
 refine aP 3 16 (.slice a l.length cap) ?_;refine aP 4 17 (.pointer (some ⟨wr.heap.size,0,none⟩)) ?_;refine dL 5 18 (.int .u64 lo) ?_ ?_
 ·intro X hX;have x0:=hX.cell nq c0;go_simp
 refine Se 2 6 (fun K u=>?_) fun K u=>?_;have j:=j.alloc (.cells #[.int .u64 lo,.int .u64 hi] 123);go_simp;refine u _ _ j (fun _=>?_);clear u K;refine cW 6 fun K u=>?_;go_simp;refine(KA _ (((Only.refl (fun _=>False) wq).drew).alloc (.cells #[.int .u64 lo,.int .u64 hi] 123))).mono ?_;rintro e y ⟨vv,s,rfl,hF,hH,hC,R,hl,hh,F⟩;have j:=j.call F;obtain⟨G,H,rfl,_⟩:=hF.vecAt;have z:=aI (PC hC (PC R (PC hl hh)));have O:=aI (hF.base (RF _));have B7:=aI F;obtain⟨nv,T⟩:=aG s.length;rw[T]at O ⊢;clear hF hH hC R hl hh T F;go_simp;refine u _ _ j (fun _=>?_);clear u K;have X8:=aI (show Only (fun _=>False) wq y from(((Only.refl (fun _=>False) wq).drew).alloc (.cells #[.int .u64 lo,.int .u64 hi] 123)).call B7);have N8:=aI (show y.heap[wq.heap.size]?=some (.cells #[.int .u64 lo,.int .u64 hi] 123 (0,0))from(B7.block _ aD).trans (aK _ _ rfl));have F8:=aI (show RowF y 0 (.slice G nv H) s from O);refine aP 7 20 (.agg #[.slice (some ⟨wq.heap.size,0,none⟩) 1 1,.slice G nv H]) ?_;refine cW 8 fun K u=>?_;have j:=j.alloc (.cells #[.slice (some ⟨wq.heap.size,0,none⟩) 1 1,.slice G nv H] 80);go_simp;refine u _ _ j (fun _=>?_);clear u K;refine cW 9 fun K u=>?_;have E:Only (fun _=>False) wq (y.alloc (.cells #[.slice (some ⟨wq.heap.size,0,none⟩) 1 1,.slice G nv H] 80)):=X8.alloc _;have g8:FragT y ⟨[(lo,hi)],.slice (some ⟨wq.heap.size,0,none⟩) 1 1,s,.slice G nv H⟩:=⟨lI WD.1 WD.2 N8,F8⟩;obtain⟨U,w10,hr,B,C⟩:=KRow.app (vb:=y.heap.size) (g:=⟨[(lo,hi)],.slice (some ⟨wq.heap.size,0,none⟩) 1 1,s,.slice G nv H⟩) (RQ.only E (fun _ h=>h.elim)) (g8.below (aJ (PH _ _) _)) (aK _ _ aD) (by have h1:=D.part.len;have h2:=PL.out;have h3:=A1.out;omega) (by have h1:=E.size;have h2:=BQ.size;omega) 23;have j:=j.trans C;have A0:=aI B;clear B E g8 C;rw[if_pos (by rfl)];refine cV _ _ _ _ rfl rfl rfl hr ?_;refine u _ _ j (fun _=>?_);clear u K hr;simp only[Act.put,QT,QV,QN];refine aP 10 3 (U) ?_;refine iM ?_;have A6:=aI (BQ.trans ((j.below (n:=L.heap.size) BQ.size (fun b M=>(HR.row.lt b M).1)).mono (RA _)));have A7:=aI (show yW l ps NV NA (k+1) (J ++ [⟨[(lo,hi)],.slice (some ⟨wq.heap.size,0,none⟩) 1 1,s,.slice G nv H⟩])from⟨D.part.snoc (by show [(lo,hi)]=_;rw[Y.out,A4.out]) (fun r c=>by rw[Y.out];exact z.2.1 r c),D.bnd.snoc z.1 (RB z.2.2.1 (MV lo)) (fun p hp=>RB (z.2.2.2 p hp) (MA lo))⟩);rotate_left;go_simp;refine(KA _ ((Only.refl (fun _=>False) wq).drew)).mono ?_;rintro e y ⟨vv,s,rfl,hF,hH,hC,R,hl,hh,F⟩;have j:=j.call F;obtain⟨G,H,rfl,_⟩:=hF.vecAt;have z:=aI (PC hC (PC R (PC hl hh)));have O:=aI (hF.base (RF _));have B7:=aI F;obtain⟨nv,T⟩:=aG s.length;rw[T]at O ⊢;clear hF hH hC R hl hh T F;go_simp;refine u _ _ j (fun _=>?_);clear u K;refine cW 2 fun K u=>?_;have j:=j.alloc (.cells #[.int .u64 lo,.int .u64 hi] 123);go_simp;refine u _ _ j (fun _=>?_);clear u K;have X8:=aI (show Only (fun _=>False) wq (y.alloc (.cells #[.int .u64 lo,.int .u64 hi] 123))from(((Only.refl (fun _=>False) wq).drew).call B7).alloc _);have N8:=aI (show(y.alloc (.cells #[.int .u64 lo,.int .u64 hi] 123)).heap[y.heap.size]?=some (.cells #[.int .u64 lo,.int .u64 hi] 123 (0,0))from aK _ _ rfl);have F8:=aI (show RowF (y.alloc (.cells #[.int .u64 lo,.int .u64 hi] 123)) 0 (.slice G nv H) s from O.below (aJ (PH _ _) _));refine aP 7 20 (.agg #[.slice (some ⟨y.heap.size,0,none⟩) 1 1,.slice G nv H]) ?_;refine cW 8 fun K u=>?_;have j:=j.alloc (.cells #[.slice (some ⟨y.heap.size,0,none⟩) 1 1,.slice G nv H] 80);go_simp;refine u _ _ j (fun _=>?_);clear u K;refine cW 9 fun K u=>?_;have E:Only (fun _=>False) wq ((y.alloc (.cells #[.int .u64 lo,.int .u64 hi] 123)).alloc (.cells #[.slice (some ⟨y.heap.size,0,none⟩) 1 1,.slice G nv H] 80)):=X8.alloc _;have g8:FragT (y.alloc (.cells #[.int .u64 lo,.int .u64 hi] 123)) ⟨[(lo,hi)],.slice (some ⟨y.heap.size,0,none⟩) 1 1,s,.slice G nv H⟩:=⟨lI WD.1 WD.2 N8,F8⟩;obtain⟨U,w10,hr,B,C⟩:=KRow.app (vb:=(y.heap.size+1)) (g:=⟨[(lo,hi)],.slice (some ⟨y.heap.size,0,none⟩) 1 1,s,.slice G nv H⟩) (RQ.only E (fun _ h=>h.elim)) (g8.below (aJ (PH _ _) _)) (aK _ _ aD) (by have h1:=D.part.len;have h2:=PL.out;have h3:=A1.out;omega) (by have h1:=E.size;have h2:=BQ.size;omega) 23;have j:=j.trans C;have A0:=aI B;clear B E g8 C;rw[if_pos (by rfl)];refine cV _ _ _ _ rfl rfl rfl hr ?_;refine u _ _ j (fun _=>?_);clear u K hr;simp only[Act.put,QT,QV,QN];refine aP 10 3 (U) ?_;refine iM ?_;have A6:=aI (BQ.trans ((j.below (n:=L.heap.size) BQ.size (fun b M=>(HR.row.lt b M).1)).mono (RA _)));have A7:=aI (show yW l ps NV NA (k+1) (J ++ [⟨[(lo,hi)],.slice (some ⟨y.heap.size,0,none⟩) 1 1,s,.slice G nv H⟩])from⟨D.part.snoc (by show [(lo,hi)]=_;rw[Y.out,A4.out]) (fun r c=>by rw[Y.out];exact z.2.1 r c),D.bnd.snoc z.1 (RB z.2.2.1 (MV lo)) (fun p hp=>RB (z.2.2.2 p hp) (MA lo))⟩);rotate_left
 ·obtain rfl:n=k:=aA;have RE:=aI (HR.base (base':=w.heap.size) B1.size);have BE:=aI (B1.trans (HB.mono B1.size));clear hR M;go_wp2;go_ret;have A8:∃U Z C0,(.returned u3:Ending)=.returned U∧KRow wr w.heap.size U C0∧lM l Z∧Z.length≤1+2 * bD l∧yW l Z NV NA Z.length C0∧Below w.heap.size w wr:=⟨u3,ps,J,rfl,RE,PK,by rw[EN.out];exact PL,by rw[EN.out];exact D,BE⟩;first | exact A8 | ((repeat apply PF);exact A8)
 all_goals
  clear j c0 c1;go_wp2;go_roundw
  case rel=>
   have P:∃(k':Nat) (J:List FV),k'≤n∧(.int .i64 ((k:Int)+1):Value)=.int .i64 k'∧KRow w10 L.heap.size U J∧yW l ps NV NA k' J∧Below L.heap.size L w10:=⟨k+1,_,aA,aD,A0,A7,A6⟩;first | exact P | ((repeat apply PF);exact⟨P,rfl⟩)
  simp[intOf];omega
structure BN (w:World) (K:Int→Int→Int→Prop) (T V A:Nat) (v:Value) (l:List FV) (w':World):Prop where
 row:KRow w' w.heap.size v l
 can:CanL l
 kn:∀x r c,fH (l.map FV.frag) x r c↔K x r c
 tot:bD l≤T
 len:l.length≤T
 bnd:VecB l V A
 bl:Below w.heap.size w w'
theorem pI{w:World}{v:Value}{l:List FV}(h:KnwAt w v l):∀f∈l,∀x,aV f.items x→aL x:=by
 obtain⟨a,cap,_,b,_⟩:=h;intro f j x m;have:=cC (b.frags f j).items.words m;exact⟨this.1,this.2⟩
theorem Dh{l:List FV}{x r c:Int}(h:fH (l.map FV.frag) x r c):aX l x l.length≠[]:=by
 rw[← rZ]at h;obtain⟨i,hi,_⟩:=h;intro e;rw[e]at hi
 cases hi
theorem Rs(v:Value)(l:List FV)(I V A N:Nat)(w:World)(Y:KnwAt w v l)(hO:Sa l I V A)(hI:I≤1000000)(j:bD l≤4000000)(n:l.length≤10000000)
  (hV:V≤1000000) (hA:A≤1000000) (hN:∀x,(aX l x l.length).length≤N) (s:N * V≤10000) (u:N * (A+3)≤40000) :
  Calls prog 11 #[v] w fun e w'=>∃v' l',e=.returned v'∧BN w (fH (l.map FV.frag)) (1+2 * bD l) (N * V) (N * (A+3)) v' l' w':=by
 have O:=aI (Jq v l I V A N w Y hO hI j n hV hA hN (by rw[RJ];omega) (by rw[RJ];omega));have HW:=aI (pI Y);obtain⟨a,cap,rfl,_⟩:=Y;obtain⟨NV,F⟩:=aG (N * V);obtain⟨NA,G⟩:=aG (N * (A+3));rw[F]at O s ⊢;rw[G]at O u ⊢;have P:=aI s;have Q:=aI u;have B:=aI j;clear hO hI hN s u F G j n;go_enter func11,ntmps11;go_wp2_with fail;refine O.mono ?_;rintro e w1 ⟨v1,ps,T,rfl,M,U,H,z,J⟩;have R:=z.part.grp U M z.bnd P Q;have C:=z.part.len;have D:bD T≤ps.length:=by
  have E:∀(m:List FV),(∀f∈m,f.items.length≤1)→bD m≤m.length:=by
   intro m;induction m with
   | nil=>intro _;exact RA _
   | cons f m ih=>
     intro h;have h1:=h f aD;have h2:=ih (fun g X=>h g (by simp[X]));simp only[bD,QF];omega
  have:=E T (fun f W=>by
   obtain⟨i,_,_,e⟩:=z.part.it W;rw[e];simp)
  omega
 have KG:=aI (Az v1 T w1 M.know R (by have:=B.out;omega) (by have:=B.out;omega));have Z:=aI J;have HG:=aI R;have HP:=aI U;have HR:=aI z;have S:=aI (PC H (PC C D));obtain⟨a1,c1,rfl,_⟩:=aY M.row;clear R U z H C D J M;go_wp2_with fail;refine KG.mono ?_;rintro e w2 ⟨v2,l2,rfl,p,K,L⟩;have R2:=aI (p.base Z.size);have B2:=aI (aN Z L);have b:=aI K;obtain⟨a2,c2,rfl,_⟩:=aY p.row;clear K p L;go_wp2;go_ret;obtain⟨p1,p2,p3⟩:=S.out;have q1:=b.tot;have q2:=b.len;rw[QP]at q1;exact⟨_,l2,rfl,R2,b.can,fun x r c=>by
  rw[b.kn,QP];exact HR.part.know HP (fun x y h=>sC h) (fun x h=>⟨by
   obtain⟨f,W,h1,_⟩:=h;obtain⟨g,X,rfl⟩:=bE.1 W;exact HW g X x h1,Dh h⟩) x,aA,aA,Hu HG b HR.bnd,B2⟩
theorem Kw(p:Addr)(w:World) :
  CallsD prog 76 #[.pointer (some p)] .returning w fun e b w'=>e=.returned (.tuple #[])∧b=.returning∧w'=w:=by
 refine callsD_of_wpS func76 rfl fun j m l=>?_;apply wpS_seq;apply wpS_region;simp[wpOpsS,go_sem,recoverD,l,ntmps76,Exit.thenS];refine wpS_of_wp ?_;go_wp2
 cases j
 simp_all [bodyPostS,results,results76]
structure RawK (w:World) (base:Nat) (v:Value) (l:List FV):Prop where
 row:w.ownsRow base 80 2 v l.length (bH l)
 frags:∀f∈l,FragAt w f
theorem RawK.know{w:World}{base:Nat}{v:Value}{l:List FV}(h:RawK w base v l):KnwAt w v l:=by
 rcases h.row.2 with⟨hv,hl⟩ | ⟨g,cap,cur,hv,hb,hc,h1,h2,h3,h4⟩
 ·have e:=List.length_eq_zero_iff.1 hl;subst e;exact⟨none,0,hv,⟨rfl,aD,fun i hi=>absurd hi aD⟩,RA _⟩
 refine⟨_,cap,hv,⟨rfl,fun f j=>h.frags f j,fun i hi=>⟨g,0,rfl,aO hc,?_,?_⟩⟩,h1⟩
 ·have b:(cur.toList.take (l.length * 2))[i * 2]?=(bH l)[i * 2]?:=by rw[h4]
  rw[PZ aA,(jT hi).1]at b;simp only[PT,hc,RI];simpa using b
 have b:(cur.toList.take (l.length * 2))[i * 2+1]?=(bH l)[i * 2+1]?:=by rw[h4]
 rw[PZ aA,(jT hi).2]at b;simp only[PT,hc,RI];simpa using b
def iH (v:Value):Prop:=∀n c,v=.slice none n c→c=0
theorem KRow.nilOk{w:World}{base:Nat}{v:Value}{l:List FV}(h:KRow w base v l):iH v:=by
 intro n c e;rcases h.row.2 with⟨hv,_⟩ | ⟨g,cap,cur,hv,_⟩
 ·rw[hv]at e;cases e;rfl
 rw[hv]at e;cases e
theorem Kx{w:World}{f:FV}(h:FragAt w f):f.iv.oneCell'=true∧f.vv.oneCell'=true:=by
 obtain⟨a,cap,hv,_⟩:=h.items;obtain⟨l,j,b,_⟩:=h.vec;rw[hv,b];exact⟨rfl,rfl⟩
theorem KnowAt.news{w:World}{b off len:Nat}{l:List FV}(h:KnowAt w (some ⟨b,off,none⟩) len l):∀j u,(bH l)[j]?=some u→w.cell? ((⟨b,off,none⟩:Addr).add j)=some u:=by
 intro j u r;have y:(⟨b,off,none⟩:Addr).add j=⟨b,off+j,none⟩:=by unfold Addr.add;split<;>simp_all
 rw[y];have z:j<l.length * 2:=by
  have:=(List.getElem?_eq_some_iff.1 r).1;rw[qD]at this;exact this
 have A:=h.length;obtain⟨B,s,e,_,h1,h2⟩:=h.cells (j / 2) aA
 cases e
 obtain⟨n,p⟩:=jT (l:=l) (i:=j / 2) aA;rcases Nat.mod_two_eq_zero_or_one j with hm | hm
 ·have m:j=j / 2 * 2:=aA;rw[← m]at n h1;rw[r]at n;rw[h1];exact n.symm
 have m:j=j / 2 * 2+1:=aA;rw[← m]at p;rw[Nat.add_assoc,← m]at h2;rw[r]at p;rw[h2];exact p.symm
theorem kX{B:Array Oper}{rest:List Oper}{o:Oper}{a:Act}{Q:Exit→Act→World→Prop}{w:World}(C:o.guard=none)(s x:Operand)
  (ho:o.op=.call { callee:=.builtin .append,args:=#[s,x],argTypes:=#[23,23] })
  (base:Nat) (v:Value) (xs:List FV) (hs:a.eval s=v) (m:RawK w base v xs) (K:Value) (ys:List FV) (N:a.eval x=K) (R:KnwAt w K ys) (S:iH K)
  (L:∀(f:FV) (w':World),FragAt w f→Only (fun b=>v.ownBlock=some b) w w'→f∈xs ++ ys→FragAt w' f)
  (T:xs.length+ys.length≤3900000000) (y:base≤w.heap.size)
  (h:∀E w',RawK w' base E (xs ++ ys)→w.grownBy w' v.ownBlock→wpList prog B Q rest (a.put o.dst E) w'):wpList prog B Q (o :: rest) a w:=by
 obtain⟨M,hi,H,I,J⟩:=info_parts fK;obtain⟨a2,c,rfl,A,_⟩:=R;have z:∀f∈xs ++ ys,FragAt w f:=fun f n=>by
  rcases List.mem_append.1 n with n | n
  ·exact m.frags f n
  exact A.frags f n
 cases a2 with
 | none=>
   obtain rfl:c=0:=S _ _ rfl;have F:ys.length=0:=by
    by_cases e:ys.length=0
    ·exact e
    obtain⟨b,off,e,_⟩:=A.cells 0 aA;cases e
   obtain rfl:ys=[]:=List.length_eq_zero_iff.1 F;refine wpList_append_own_none C s x 23 ho base 80 M 2 underlying23 hi v xs.length _ hs m.row N (h v w ?_ ⟨rfl,rfl,rfl,RA _,fun _ _ _=>rfl⟩);simpa using m
 | some ad=>
   have p:∀j u,(bH ys)[j]?=some u→w.cell? (ad.add j)=some u:=by
    by_cases e:ys.length=0
    ·obtain rfl:ys=[]:=List.length_eq_zero_iff.1 e;intro j u O;simp[bH]at O
    obtain⟨b,off,e,_⟩:=A.cells 0 aA;obtain rfl:ad=⟨b,off,none⟩:=by simpa using e
    exact A.news
   refine wpList_append_own_at w C s x 23 ho base 80 M (.agg #[.slice none 0 0,.slice none 0 0]) 2 48 underlying23 hi H I J rfl aB v xs.length _ hs m.row ad ys.length c (bH ys) N (by rw[qD]) p (fun u D=>by
    obtain⟨f,n,D⟩:=List.mem_flatMap.1 D;have:=Kx (A.frags f n);simp at D;rcases D with rfl | rfl
    ·exact this.1
    exact this.2) (by unfold maxLen;omega) aA y ?_
   intro E w' r l _ _;have G:Only (fun b=>v.ownBlock=some b) w w':=⟨l.os,l.tape,l.output,l.size,fun k P F=>l.block k P (fun e=>F e.symm)⟩;refine h E w' ⟨?_,fun f n=>L f w' (z f n) G n⟩ l;rw[iS,QA];exact r
end Go.Proofs.YtbkkolfpegplgaaGreatDoor
