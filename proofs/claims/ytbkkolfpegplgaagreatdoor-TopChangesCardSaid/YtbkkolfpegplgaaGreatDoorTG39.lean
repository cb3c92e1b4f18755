import Derived.Test.YtbkkolfpegplgaaGreatDoorTG38
import Derived.Test.YtbkkolfpegplgaaGreatDoorTG36
import Derived.Test.YtbkkolfpegplgaaGreatDoorTG42
open And renaming intro→PC
open Array renaming getElem?_toList→PD,extract_eq_self_of_le→PE,getElem?_modify→PF
open Exists renaming intro→PG
open Go.IntWalk renaming i64_in→PH
open Go.RowKit.Below renaming refl→PI
open Go.Sort renaming flatK→PJ,putCells→PM,heap_grow_old→PN,mapBlock→PO
open Go.Value renaming slice→PQ
open Go.World renaming cell?→PS,ownsRow_nil→PT,frozen?→PU
open List renaming getElem?_eq_getElem→PV,length_append→PX,getD→PY,length_map→PZ,getElem_mem→QA,getElem?_take_of_lt→QB,getElem?_eq_none→QC,getElem?_map→QE,map_append→QF,flatMap_cons→QG,ext_getElem?→QH,getElem?_take_eq_none→QI,getElem?_append_right→QJ,getElem?_append_left→QK
open Nat renaming le_trans→QM,zero_le→QN,le_refl→QP
open Option renaming getD_some→QR,map_some→QT
open Go.Proofs.Tryz
set_option maxHeartbeats 12800000
set_option maxRecDepth 100000
set_option linter.unusedVariables false
set_option linter.unusedSimpArgs false
namespace Go.Proofs.YtbkkolfpegplgaaGreatDoor
open Go Go.RowKit
theorem Qy{w:World}{g n:Nat}{os:Array Obj}{cur:Array Value}{e:TypeId}{fr:Nat×Nat}(d:Array (Int×Int))(b:w.heap[g]?=some (.cells cur e fr)) :
  (sortWorldK sO 2 w g 0 n d os).heap[g]?=some (.cells (PM id 0 (PJ sO 2 d) cur) e fr):=by
 have j:g<w.heap.size:=(Array.getElem?_eq_some_iff.1 b).1;unfold sortWorldK Sort.putRowK;rw[PN _ _ (by simpa using j)];simp[Sort.putRow,PO,Sort.ahead,PF,b,Sort.onCells]
theorem Qj{w:World}{g n:Nat}{os:Array Obj}(d:Array (Int×Int)):Only (fun b=>b=g) w (sortWorldK sO 2 w g 0 n d os):=by
 unfold sortWorldK Sort.putRowK;refine⟨rfl,rfl,rfl,aD,fun k l j=>?_⟩;rw[PN _ _ (by simpa using l)];have:g≠k:=fun e=>j e.symm;simp[Sort.putRow,PO,Sort.ahead,PF,this]
theorem Ot(cur vs:Array Value)(h:vs.size≤cur.size):(PM id 0 vs cur).toList.take vs.size=vs.toList:=by
 apply QH;intro j;by_cases hj:j<vs.size
 ·rw[QB hj,PD];simp[PM,hj,show j<cur.size by omega]
 rw[QI aA,QC (by simp;omega)]
theorem uV(zs:List Iv):(PJ sO 2 zs.toArray).toList=bB zs:=by
 apply QH;intro j;by_cases hj:j<zs.length * 2
 ·have b:j / 2<zs.length:=aA;have n:zs.toArray[j / 2]! = zs[j / 2]:=by simp[b]
  have l:(Lo zs (j / 2),Hi zs (j / 2))=zs[j / 2]:=by unfold Lo Hi;simp[PY,PV b]
  have m:(PJ sO 2 zs.toArray).toList[j]?=some ((sO (Lo zs (j / 2),Hi zs (j / 2)))[j % 2]!):=by
   simp only[PJ,PD];rw[Array.getElem?_map,Array.getElem?_range];simp[hj,l,PV b]
  rw[m];rcases Nat.mod_two_eq_zero_or_one j with hm | hm
  ·have:=mQ zs (j / 2) b;rw[show j / 2 * 2=j by omega]at this;rw[this,hm];rfl
  have:=mR zs (j / 2) b;rw[show j / 2 * 2+1=j by omega]at this;rw[this,hm];rfl
 rw[QC (by simp;omega),QC (by rw[dD];omega)]
def jX (zs:List Iv):List Iv:=zs.mergeSort fun x y=>decide (x.1≤y.1)
theorem jW(zs:List Iv):(jX zs).Perm zs:=List.mergeSort_perm zs _
theorem jJ(zs:List Iv):(jX zs).length=zs.length:=(jW zs).length_eq
theorem gR(zs:List Iv)(z:Iv):z∈jX zs↔z∈zs:=(jW zs).mem_iff
def sQ (zs:List Iv):Prop:=zs.Pairwise (fun a b=>a.1≠b.1)
theorem Xm{ys:List Iv}(h1:ys.Pairwise (fun a b=>a.1≤b.1))(h2:sQ ys):ys.Pairwise (fun a b=>a.1<b.1):=(h1.and h2).imp (fun {a b} h=>by have h3:=h.1;have h4:=h.2;omega)
theorem oX{zs:List Iv}(h:sQ zs):(jX zs).Pairwise (fun a b=>a.1<b.1):=by
 have h1:(jX zs).Pairwise (fun a b=>decide (a.1≤b.1)=true):=List.pairwise_mergeSort (fun a b c h1 h2=>by simp at *;omega) (fun a b=>by simp;omega) zs;refine Xm (h1.imp fun {a b} h=>by simpa using h) ?_;exact((jW zs).pairwise_iff (fun {a b} h=>fun e=>h e.symm)).2 h
theorem Cl{zs ys:List Iv}(h:sQ zs)(j:ys.Perm zs)(hs:ys.Pairwise (fun a b=>a.1≤b.1)):ys=jX zs:=
 fJ (lt:=fun a b:Iv=>a.1<b.1) (fun a=>aA) (fun {a b c} h1 h2=>aA) (Xm hs ((j.pairwise_iff (fun {a b} h=>fun e=>h e.symm)).2 h)) (oX h) fun z=>by rw[gR,j.mem_iff]
theorem Fc(base g cap:Nat)(zs:List Iv)(w:World)(h:OwnL w base 123 (.slice (some ⟨g,0,none⟩) zs.length cap) zs)(J:sQ zs)(L:zs.length≤1000000000) :
  Calls prog 90 #[.slice (some ⟨g,0,none⟩) zs.length cap,.func (.func 91) #[] #[]] w fun e w'=>e=.returned (.tuple #[])∧OwnL w' base 123 (.slice (some ⟨g,0,none⟩) zs.length cap) (jX zs)∧Only (fun b=>b=g) w w':=by
 rcases h.row.2 with⟨hv,hl⟩ | ⟨g',cap',cur,hv,hb,hc,h1,h2,h3,h4⟩
 ·cases hv
 injection hv with e1 _ e3;injection e1 with e1;injection e1 with e1 _ _;subst e1;subst e3;have C:=aO hc;have D:Sort.HoldsK sO 2 w g 0 zs.toArray:=by
  intro j u;have m:j<zs.length * 2:=by simpa using u
  refine⟨?_,by simp[PU,hc]⟩;have E:(PJ sO 2 zs.toArray)[j]?=(bB zs)[j]?:=by rw[← uV,PD]
  have A:(cur.toList.take (zs.length * 2))[j]?=(bB zs)[j]?:=by rw[← h4]
  rw[QB m]at A;simp only[PS,hc,Nat.zero_add];simp only[Option.isSome_none,Bool.false_eq_true,if_false];rw[← PD,A,← E];simp[m]
 have K:=yZ g cap zs.toArray w D C (by simp;omega);simp only[List.size_toArray]at K;refine K.mono ?_;rintro e w' ⟨rfl,p,n,os,B,hs,rfl⟩;have F:p.size=zs.length:=by simpa using B.1
 have r:p.toList.Perm zs:=by
  have:=B.2.2;rw[PE aA,PE aD]at this;simpa using this
 have l:p.toList.Pairwise (fun a b=>a.1≤b.1):=by
  refine List.pairwise_iff_getElem.2 fun i j hi u y=>?_;have s:i<p.size:=by simpa using hi
  have m:j<p.size:=by simpa using u
  have:=hs i j (QN _) y aA;rw[My,getElem!_pos p i s,getElem!_pos p j m]at this;simp only[Array.getElem_toList];simpa using this
 have G:p.toList=jX zs:=Cl J r l;have H:p=(jX zs).toArray:=by rw[← G]
 subst H;have hl:=jJ zs;refine⟨rfl,⟨⟨by rw[dD],.inr ⟨g,cap,_,by rw[hl],hb,Qy _ hc,by rw[hl];exact h1,h2,by simp[PM,h3],?_⟩⟩,fun z I=>h.words z ((gR zs z).1 I)⟩,Qj _⟩;have:=Ot cur (PJ sO 2 (jX zs).toArray) (by simp;omega);rw[uV]at this;simpa using this
theorem Co(w:World):Calls prog 90 #[.slice none 0 0,.func (.func 91) #[] #[]] w fun e w'=>e=.returned (.tuple #[])∧w'=w:=by
 have j:=aI (fun w=>lC 0 w aA aA);have p:Lib.bitLen (0:Int).toNat=0:=by decide +kernel
 rw[p]at j;clear p;go_enter func90,ntmps90;go_wp2_with fail;refine(j _).mono ?_;rintro e w' ⟨rfl,rfl⟩;have l:∀w:World,Calls prog 200 #[.slice none 0 0,.int .i64 0,.int .i64 0,.func (.func 91) #[] #[]] w fun e w'=>e=.returned (.tuple #[])∧w'=w:=fun w=>by
  go_enter func200,ntmps200;go_wp2;go_loopw [8] (fun c wr=>c=.int .i64 1∧wr=w) (fun _ _=>0)
  case atStart=>exact⟨rfl,rfl⟩
  obtain⟨rfl,rfl⟩:=hrel;go_wp2;go_end0;exact⟨rfl,rfl⟩
 have r:∀w:World,Calls prog 148 #[.slice none 0 0,.int .i64 0,.int .i64 0,.int .i64 0,.func (.func 91) #[] #[]] w fun e w'=>e=.returned (.tuple #[])∧w'=w:=fun w=>by
  have m:=aI l;clear l;go_enter func148,ntmps148;go_wp2;go_loopw [1,2] (fun c b wr=>c=.int .i64 0∧b=.int .i64 0∧wr=w) (fun _ _ _=>0)
  case atStart=>exact⟨rfl,rfl,rfl⟩
  obtain⟨rfl,rfl,rfl⟩:=hrel;go_wp2_with fail;refine(m _).mono ?_;rintro e w' ⟨rfl,rfl⟩;go_wp2;refine bodyPost_ret (results_none rfl _ _ _) rfl ?_;exact⟨rfl,rfl⟩
 have n:=aI r;clear l r j;go_wp2_with fail;refine(n _).mono ?_;rintro e w' ⟨rfl,rfl⟩;go_wp2;go_end0;exact⟨rfl,rfl⟩
def fQ (l:List FV) (x:Int):Nat:=(aX l x l.length).getD 0 0
theorem Hz{l:List FV}{x:Int}{k:Nat}(b:k<l.length)(h0:aX l x k=[])(h1:aV (l.getD k FV.z).items x):fQ l x=k:=by
 have:=(Lz (m:=l.length) b h1).1;rw[h0]at this;exact this
theorem Re(f:FV)(p:Nat)(x:Int)(w:World)(h:FragAt w f)(F:cL f.items)(I:f.items.length≤100000000)(y:w.heap[p]?=some (.cells #[.int .u64 x] 57 (0,0))) :
  Calls prog 152 #[.agg #[f.iv,f.vv],.pointer (some ⟨p,0,none⟩)] w fun e w'=>e=.returned (.bool (decide (aV f.items x)))∧Below w.heap.size w w':=by
 have K:=aI (fun W (J:Below w.heap.size w W)=>Mh f.iv f.items x W (h.items.below J) F aA);obtain⟨⟨s,u,B,_⟩,⟨C,D,E,_⟩⟩:=h;obtain⟨items,iv,vec,vv⟩:=f;simp only at B E K ⊢;subst B;subst E;obtain⟨w1,b⟩:=aG (w.alloc (.cells #[.slice s items.length u,.slice C vec.length D] 80));have b1:Below w.heap.size w w1:=by rw[← b];exact aJ (PI _ _) _
 have z:w1.heap[w.heap.size]?=some (.cells #[.slice s items.length u,.slice C vec.length D] 80 (0,0)):=by rw[← b];exact aK _ _ rfl
 have A:=(b1.block _ (aO y)).trans y;have G:w1.cell? ⟨w.heap.size,0,none⟩=some (.slice s items.length u):=by simp[PS,z]
 have L:w1.cell? ⟨p,0,none⟩=some (.int .u64 x):=by simp[PS,A]
 have r:=aI b1;obtain⟨ni,j⟩:=aG items.length;obtain⟨nv,l⟩:=aG vec.length;rw[j]at G b K ⊢;rw[l]at b ⊢;obtain⟨bb,m⟩:=aG (decide (aV items x));rw[m]at K ⊢;clear b1 z A y j l m I F;go_enter func152,ntmps152;go_wp2_with fail;refine(K _ r).mono ?_;rintro e M ⟨rfl,n⟩;have H:=aI (r.trans (n.mono r.size));clear n;go_wp2;go_ret;exact⟨rfl,H⟩
theorem Rc(p:Nat)(v:Value)(l:List FV)(x:Int)(w:World)(hE:KnwAt w v l)(V:∀f∈l,cL f.items)(W:∀f∈l,f.items.length≤100000000)(I:l.length≤1000000000)(hs:aX l x l.length≠[])(X:w.heap[p]?=some (.cells #[.int .u64 x] 57 (0,0))) :
  Calls prog 151 #[v,.func (.func 152) #[] #[.pointer (some ⟨p,0,none⟩)]] w fun e w'=>e=.returned (.int .i64 (fQ l x))∧Below w.heap.size w w':=by
 have eg:∀args w,(callFunc 152 args).run prog w=.ok (.enter 152 args) w:=fun _ _=>aC;obtain⟨a,cap,rfl,R,_⟩:=hE;have H:=aI R;have Y:=aI V;have Z:=aI W;have N:=aI hs;have O:=aI X;obtain⟨len,n⟩:=aG l.length;have EL:=aI n;rw[n]at H N I ⊢;clear R V W hs X n;go_enter func151,ntmps151;go_wp2;go_loopw [8] (fun c wr=>∃k:Nat,k≤len∧c=.int .i64 k∧aX l x k=[]∧Below w.heap.size w wr) (fun c _=>len-(intOf c).toNat)
 case atStart=>exact⟨0,QN _,rfl,rfl,PI _ _⟩
 obtain⟨k,hk,rfl,D,K⟩:=hrel;have r:=aI D;have P:=aI K;have i0:(0:Int)≤(k:Int):=aA;clear D;by_cases hlt:k<len
 ·have i1:(k:Int)<(len:Int):=aA;have J:=H.below K;obtain⟨b,off,rfl,M,y,A⟩:=J.cells k hlt;have j:=J.mem hlt;have s:=J.frags _ j;have C:=aI (Re (l.getD k FV.z) p x wr s (Y _ j) (Z _ j) ((K.block _ (aO O)).trans O));have u:=aI (fun h:¬aV (l.getD k FV.z).items x=>pB (k:=k) h);have m:=aI (fun h:aV (l.getD k FV.z).items x=>Hz (by rw[EL.out];exact hlt) r h);obtain⟨q,S⟩:=aG (l.getD k FV.z);rw[S]at y A s C u m;obtain⟨⟨ai,ci,T,_⟩,⟨av,cv,U,_⟩⟩:=s;obtain⟨items,iv,vec,vv⟩:=q;simp only at y A T U C u m;subst T;subst U;obtain⟨ni,E⟩:=aG items.length;obtain⟨nv,F⟩:=aG vec.length;rw[E]at y C;rw[F]at A C;clear S K M J j E F;go_wp2_with fail;refine C.mono ?_;rintro e w3 ⟨rfl,G⟩;have Q:=aI (P.trans (G.mono P.size));clear G;by_cases hin:aV items x
  ·have B:=m.out hin;have L:=aI B;rw[decide_eq_true hin];clear B hin;go_wp2;go_ret;exact⟨by rw[L.out];rfl,Q⟩
  have B:=u.out hin;rw[r.out]at B;have L:=aI B;rw[decide_eq_false hin];clear B hin;go_wp2;go_roundw
  case rel=>exact⟨k+1,aA,by go_num,L,Q⟩
  simp[intOf];omega
 obtain rfl:len=k:=aA;exact absurd r N
theorem Wp(v:Value)(l:List FV)(x:Int)(w:World)(u:KnwAt w v l)(y:∀f∈l,cL f.items)(z:∀f∈l,f.items.length≤100000000)(m:l.length≤1000000000)(hs:aX l x l.length≠[]) :
  Calls prog 93 #[v,.int .u64 x] w fun e w'=>e=.returned (.int .i64 (fQ l x))∧Below w.heap.size w w':=by
 have A:∀(fn:Fn) (first cap:Array Value) (w:World),(Instr.makeFunc fn first cap).run prog w=.ok (.func fn first cap) w:=fun _ _ _ _=>rfl;obtain⟨w1,b⟩:=aG (w.alloc (.cells #[.int .u64 x] 57));have b1:Below w.heap.size w w1:=by rw[← b];exact aJ (PI _ _) _
 have n:w1.heap[w.heap.size]?=some (.cells #[.int .u64 x] 57 (0,0)):=by rw[← b];exact aK _ _ rfl
 have K:=aI (Rc w.heap.size v l x w1 (u.below b1) y z m hs n);have p:=aI b1;obtain⟨a,cap,rfl,_⟩:=u;obtain⟨r,s⟩:=aG (fQ l x);rw[s]at K ⊢;clear b1 n y z hs s;go_enter func93,ntmps93;go_wp2_with fail;refine K.mono ?_;rintro e w2 ⟨rfl,j⟩;have B:=aI (p.trans (j.mono p.size));clear j;go_wp2;go_ret;exact⟨rfl,B⟩
def fB (l:List FV):List Iv:=l.flatMap FV.items
def aZ (l:List FV):List Iv:=jX (fB l)
def gU (l:List FV):List Nat:=(aZ l).map fun z=>fQ l z.1
theorem Ky{l:List FV}{k:Nat}(h:k<l.length):fB (l.take (k+1))=fB (l.take k) ++ (l.getD k FV.z).items:=by
 rw[fC h];unfold fB;rw[List.flatMap_append];simp
theorem gC(l:List FV):(fB l).length=bD l:=by
 induction l with
 | nil=>rfl
 | cons f l ih=>unfold fB at ih ⊢;rw[QG,PX,ih];rfl
theorem Nz{zs:List Iv}(h:cL zs):sQ zs:=by
 refine List.pairwise_iff_getElem.2 fun i j hi l b=>?_;have h1:=cG h b l;have h2:=(h i hi).1;have m:Lo zs j=(zs[j]).1:=by unfold Lo;simp[PY,PV l]
 have n:Lo zs i=(zs[i]).1:=by unfold Lo;simp[PY,PV hi]
 rw[m]at h1;rw[n]at h2;omega
theorem rE{zs:List Iv}(h:cL zs){z:Iv}(j:z∈zs):aV zs z.1:=by
 obtain⟨i,hi,e⟩:=List.mem_iff_getElem.1 j;have h1:=(h i hi).1;have b:(Lo zs i,Hi zs i)=z:=by unfold Lo Hi;simp[PY,PV hi,e]
 have l:Lo zs i=z.1:=congrArg Prod.fst b;have m:Hi zs i=z.2:=congrArg Prod.snd b;exact⟨z,j,Int.le_refl _,aA⟩
theorem mP:∀{l:List FV},(∀f∈l,cL f.items)→l.Pairwise (fun f g=>∀x,¬(aV f.items x∧aV g.items x))→sQ (fB l)
 | [],_,_=>List.Pairwise.nil
 | f :: l,hc,hp=>by
   obtain⟨h1,h2⟩:=List.pairwise_cons.1 hp;unfold fB sQ;rw[QG];refine List.pairwise_append.2 ⟨Nz (hc f aD),mP (fun g j=>hc g (by simp[j])) h2,fun a n b m e=>?_⟩;obtain⟨g,j,m⟩:=List.mem_flatMap.1 m;exact h1 g j a.1 ⟨rE (hc f aD) n,by rw[e];exact rE (hc g (by simp[j])) m⟩
theorem Cp{l:List FV}(j:∀f∈l,cL f.items){z:Iv}(m:z∈aZ l):aX l z.1 l.length≠[]:=by
 have h1:=(gR _ _).1 m;obtain⟨f,b,h2⟩:=List.mem_flatMap.1 h1;obtain⟨i,hi,e⟩:=List.mem_iff_getElem.1 b;intro h0;have:i∈aX l z.1 l.length:=dG.2 ⟨hi,by rw[PY,PV hi,QR,e];exact rE (j f b) h2⟩;rw[h0]at this
 cases this
theorem iQ{l:List FV}{i:Nat}(h:i<(aZ l).length):(Lo (aZ l) i,Hi (aZ l) i)∈aZ l:=by
 have b:(Lo (aZ l) i,Hi (aZ l) i)=(aZ l)[i]:=by unfold Lo Hi;simp[PY,PV h]
 rw[b];exact QA h
structure IdxR (w:World) (g n k:Nat) (l:List FV):Prop where
 cells:∃arr:Array Value,w.heap[g]?=some (.cells arr 3 (0,0))∧arr.size=n∧∀i,i<k→arr[i]?=some (.int .i64 (fQ l (Lo (aZ l) i):Nat))
theorem IdxR.below{w w':World}{g n k:Nat}{l:List FV}(h:IdxR w g n k l)(j:Below w.heap.size w w'):IdxR w' g n k l:=by
 obtain⟨b,h1,h2,h3⟩:=h.cells;exact⟨b,(j.block _ (aO h1)).trans h1,h2,h3⟩
theorem IdxR.put{w:World}{g n k:Nat}{l:List FV}(h:IdxR w g n k l)(j:k<n):IdxR (w.setCell ⟨g,k,none⟩ (.int .i64 (fQ l (Lo (aZ l) k):Nat))) g n (k+1) l:=by
 obtain⟨b,h1,h2,h3⟩:=h.cells;refine⟨_,heap_setCell_same _ _ k _ _ _ h1,by simpa using h2,fun i hi=>?_⟩;by_cases e:i=k
 ·subst e;simp[h2,j]
 rw[Array.getElem?_setIfInBounds_ne aA];exact h3 i aA
theorem IdxR.own{w:World}{g n base:Nat}{l:List FV}(h:IdxR w g n n l)(p:(aZ l).length=n)(r:base≤g)(s:n≤maxLen):OwnJ w base (.slice (some ⟨g,0,none⟩) n n) (gU l):=by
 obtain⟨j,h1,h2,h3⟩:=h.cells;have m:(gU l).length=n:=by unfold gU;rw[PZ];exact p
 unfold OwnJ;refine⟨by simp[iW],.inr ⟨g,n,j,by rw[m],r,h1,aA,s,aA,?_⟩⟩;rw[m,Nat.mul_one];apply QH;intro i;by_cases hi:i<n
 ·rw[QB hi,PD,h3 i hi];have b:i<(aZ l).length:=aA;simp[iW,gU,PV b,Lo,PY]
 rw[QI aA,QC (by simp[iW];omega)]
theorem Fd(base:Nat)(v:Value)(zs:List Iv)(w:World)(h:OwnL w base 123 v zs)(m:sQ zs)(n:zs.length≤1000000000) :
  Calls prog 90 #[v,.func (.func 91) #[] #[]] w fun e w'=>e=.returned (.tuple #[])∧OwnL w' base 123 v (jX zs)∧Only (fun b=>v.ownBlock=some b) w w':=by
 rcases h.row.2 with⟨hv,hl⟩ | ⟨g,cap,cur,hv,hb,hc,h1,h2,h3,h4⟩
 ·subst hv;obtain rfl:zs=[]:=List.length_eq_zero_iff.1 hl;refine(Co w).mono ?_;rintro e w' ⟨rfl,rfl⟩;exact⟨rfl,by rw[show jX []=[] from by simp[jX]];exact⟨PT _ _ _ _,aD⟩,Only.refl _ _⟩
 subst hv;refine(Fc base g cap zs w h m n).mono ?_;rintro e w' ⟨rfl,j,l⟩;exact⟨rfl,j,l.wide (fun b hb=>by rw[hb];rfl)⟩
theorem Tp(v:Value)(l:List FV)(b0:Nat)(w:World)(hK:KRow w b0 v l)(hC:∀f∈l,cL f.items)(hA:l.Pairwise (fun f g=>∀x,¬(aV f.items x∧aV g.items x)))(P:bD l≤10000000)(B1:l.length≤10000000) :
  Calls prog 46 #[v] w fun e w'=>∃vl vi,e=.returned (.tuple #[vl,vi])∧OwnL w' w.heap.size 123 vl (aZ l)∧OwnJ w' w.heap.size vi (gU l)∧Below w.heap.size w w':=by
 have L:∀f∈l,f.items.length≤100000000:=fun f hf=>by have:=rJ hf;omega
 have HK:=aI hK;have KF:=aI (fun W (hW:Below w.heap.size w W) x hs=>Wp v l x W (hK.know.below hW) hC L aA hs);have B2:=aI (mP hC hA);have B7:=aI (fun z hz=>Cp hC (z:=z) hz);have SL:=aI (show(aZ l).length=bD l from by unfold aZ;rw[jJ,gC]);obtain⟨i0,hi,C3,C4,C5⟩:=info_parts yF;obtain⟨a,cap,rfl,A2,_⟩:=hK.know;have H:=aI A2;obtain⟨len,D⟩:=aG l.length;have EL:=aI D;have Q:=aI P;rw[D]at H HK KF B1 ⊢;clear hK A2 hC hA P D L;go_enter func46,ntmps46;go_wp2;go_loopw [4,12] (fun o c wr=>∃k:Nat,k≤len∧c=.int .i64 k∧OwnL wr w.heap.size 123 o (fB (l.take k))∧Below w.heap.size w wr) (fun _ c _=>len-(intOf c).toNat)
 case atStart=>exact⟨0,QN _,rfl,⟨PT _ _ _ _,by simp[fB]⟩,PI _ _⟩
 obtain⟨k,hk,rfl,u,F⟩:=hrel;have R:=aI u;have y:=aI F;have B8:(0:Int)≤(k:Int):=aA;by_cases hlt:k<len
 ·have i1:(k:Int)<(len:Int):=aA;have Hr:=H.below F;obtain⟨b,off,rfl,T,J,K⟩:=Hr.cells k hlt;have M:=Hr.mem hlt;have G:=(HK.frags _ M).below F;have I:=aI (Ky (l:=l) (k:=k) (by rw[EL.out];exact hlt));have A:=aI (show(fB (l.take k)).length+(l.getD k FV.z).items.length≤10000000 from by
   have h1:=oW l (k+1);rw[← gC (l.take (k+1)),I.out,PX]at h1;have:=Q.out;omega)
  obtain⟨p,ep⟩:=aG (l.getD k FV.z);rw[ep]at J K G I A;obtain⟨av,cv,ev,_⟩:=G.vec.vecAt;obtain⟨ai,ci,ei,X,_,A3,_⟩:=G.items;obtain⟨items,iv,vec,vv⟩:=p;simp only at J K ei ev X I A;subst ei;subst ev;have B9:=aI X;have C0:=aI A3;have n9:(wr.alloc (.cells #[.slice ai items.length ci,.slice av vec.length cv] 80)).heap[wr.heap.size]?=some (.cells #[.slice ai items.length ci,.slice av vec.length cv] 80 (0,0)):=aK _ _ rfl;obtain⟨ao,co,rfl,_⟩:=aY u.row;have N:=aI (aJ (PI wr.heap.size wr) (.cells #[.slice ai items.length ci,.slice av vec.length cv] 80));clear u T Hr M G X ep A3 n9;go_wp2_with(at_builtin;go_loud(refine fP rfl _ _ rfl w.heap.size _ (fB (l.take k)) rfl (R.only (may:=fun _=>False) (Only.of_below N) (fun _ h=>h.elim)) ai items.length ci items rfl (B9.below N) C0 ?c1 ?c2 ?_))
  case c1=>exact QM A aA
  case c2=>have:=y.size;simp;omega
  intro v' w3 A9 B0;have O3:=aI (show OwnL w3 w.heap.size 123 v' (fB (l.take (k+1)))from by rw[I.out];exact A9);have B:∀q,(PQ ao (fB (l.take k)).length co).ownBlock=some q→w.heap.size≤q:=fun q O=>(R.row.lt q O).1;have B3:=aI ((y.trans (N.mono y.size)).grown B0 (by have:=y.size;have:=N.size;omega) B);clear A9 B0 B F;go_wp2;go_roundw
  case rel=>
   have j:∃V:Nat,V≤len∧(.int .i64 ((k:Int)+1):Value)=.int .i64 V∧OwnL w3 w.heap.size 123 v' (fB (l.take V))∧Below w.heap.size w w3:=⟨k+1,aA,aD,O3,B3⟩;first | exact j | ((repeat apply PG);exact⟨j,rfl⟩)
  simp[intOf];omega
 obtain rfl:len=k:=aA;have Z:l.take len=l:=by rw[← EL.out,List.take_length]
 rw[Z]at u;have hD:=B2.out;have C1:=gC l;have KS:=aI (Fd w.heap.size _ (fB l) wr u hD (by have:=Q.out;omega));obtain⟨a4,Y,rfl,_⟩:=aY u.row;have B:=aI (show ∀q,(PQ a4 (fB l).length Y).ownBlock=some q→w.heap.size≤q from fun q O=>(u.row.lt q O).1);obtain⟨n,en⟩:=aG ((fB l).length);have EN:=aI en;have C7:n≤10000000:=by have:=Q.out;omega
 rw[en]at KS B ⊢;clear Z hD C1 u F en R;go_wp2_with fail;refine KS.mono ?_;rintro e m ⟨rfl,A4,A5⟩;have O4:=aI (show OwnL m w.heap.size 123 (.slice a4 n Y) (aZ l)from A4);have B4:=aI (y.trans (A5.below (n:=w.heap.size) y.size B));have SN:=aI (show(aZ l).length=n from by rw[SL.out,← gC,EN.out]);clear A4 A5 KS;go_wp2_with(first
  | (at_make;go_loud(refine wpList_make_full _ rfl _ _ 86 rfl w.heap.size 3 i0 (.int .i64 0) 1 underlying86 hi C3 C4 .i64 .i64 _ _ n rfl rfl rfl rfl (by rw[C5];omega) (by unfold maxLen;omega) B4.size ?_;intro w5 E s;have R5:=aI E;have G5:=aI s;clear E s))
  | (fail))
 have o5:Only (fun _=>False) m w5:=(Only.refl (fun _=>False) m).grown G5 (fun k hk=>by cases hk);have O5:=aI (O4.only o5 (fun _ h=>h.elim));have B5:=aI (B4.trans (o5.below (n:=w.heap.size) B4.size (fun _ h=>h.elim)));have I5:=aI (show IdxR w5 m.heap.size n 0 l from by
  rcases R5.2 with⟨hv,_⟩ | ⟨g,cap',cur,hv,F,hc,h1,h2,h3,h4⟩
  ·cases hv
  injection hv with e1 e2 e3;injection e1 with e1;injection e1 with e1 _ _;subst e1;subst e3;exact⟨_,hc,aA,fun i hi=>absurd hi aA⟩)
 have G4:=aI (show ∀q,(PQ a4 n Y).ownBlock=some q→q≠m.heap.size from fun q O e=>by have:=(O4.row.lt q (by rw[SN.out]at *;exact O)).2;omega);clear o5;go_wp2;go_loopw [28] (fun c wr=>∃k:Nat,k≤n∧c=.int .i64 k∧OwnL wr w.heap.size 123 (.slice a4 n Y) (aZ l)∧IdxR wr m.heap.size n k l∧Below w.heap.size w wr) (fun c _=>n-(intOf c).toNat)
 case atStart=>exact⟨0,QN _,rfl,O5,I5,B5⟩
 obtain⟨k,hk,rfl,u,hI,F⟩:=hrel;have R:=aI u;have HI:=aI hI;have y:=aI F;have B8:(0:Int)≤(k:Int):=aA;by_cases hlt:k<n
 ·have i1:(k:Int)<(n:Int):=aA;obtain⟨C8,C9,e4,X,_,_⟩:=u.prs;have A0:k<(aZ l).length:=by rw[SN.out];exact hlt
  obtain⟨b,off,rfl,T,J,K⟩:=X.cells k (by rw[SN.out];exact hlt);injection e4 with e4 e41 e42;subst e4;clear e41 e42;have S:=aI (fun W (hW:Below w.heap.size w W)=>KF W hW (Lo (aZ l) k) (by rw[← EL.out];exact B7 _ (iQ A0)));have C:=aI (fun(W:World) (hW:Below wr.heap.size wr W)=>(HI.below hW).put hlt);obtain⟨C6,h1,h2,h3⟩:=hI.cells;obtain⟨lo,A6⟩:=aG (Lo (aZ l) k);obtain⟨U,A7⟩:=aG (Hi (aZ l) k);rw[A6]at J S C;rw[A7]at K;have A1:=aI h1;have C2:=aI h2;obtain⟨r,er⟩:=aG (fQ l lo);rw[er]at S C;have n9:(wr.alloc (.cells #[.int .u64 lo,.int .u64 U] 123)).heap[wr.heap.size]?=some (.cells #[.int .u64 lo,.int .u64 U] 123 (0,0)):=aK _ _ rfl;have N:=aI (aJ (PI wr.heap.size wr) (.cells #[.int .u64 lo,.int .u64 U] 123));have WG:=aI (show m.heap.size<wr.heap.size from aO h1);clear u hI X A0 h1 h2 h3 A6 A7 T er n9;go_wp2_with fail;refine(S _ (y.trans (N.mono y.size))).mono ?_;rintro e w6 ⟨rfl,A8⟩;have b6:Below wr.heap.size wr w6:=N.trans (A8.mono N.size);have h6:=(b6.block _ WG).trans A1;have ck:w6.cell? ⟨m.heap.size,k,none⟩=some (C6[k]'(by rw[C2.out];exact hlt)):=by simp[PS,h6]
  have fk:w6.frozen? ⟨m.heap.size,k,none⟩=false:=frozen_of_row _ _ k _ _ h6;have P6:=aI (C w6 b6);have o6:Only (fun b=>b=m.heap.size) wr (w6.setCell ⟨m.heap.size,k,none⟩ (.int .i64 (r:Nat))):=(Only.of_below (may:=fun b=>b=m.heap.size) b6).setCell (p:=⟨m.heap.size,k,none⟩) (.inl rfl) _;have O6:=aI (show OwnL _ w.heap.size 123 (.slice (some ⟨b,off,none⟩) n Y) (aZ l)from⟨bF R.row o6 (fun q O e=>G4 q O e),R.words⟩);have B6:=aI (y.trans (o6.below (n:=w.heap.size) y.size (fun q O=>by have:=B4.size;omega)));clear A8 b6 h6 o6 F;go_wp2;go_roundw
  case rel=>
   have j:∃V:Nat,V≤n∧(.int .i64 ((k:Int)+1):Value)=.int .i64 V∧OwnL (w6.setCell ⟨m.heap.size,k,none⟩ (.int .i64 (r:Nat))) w.heap.size 123 (.slice (some ⟨b,off,none⟩) n Y) (aZ l)∧IdxR (w6.setCell ⟨m.heap.size,k,none⟩ (.int .i64 (r:Nat))) m.heap.size n V l∧Below w.heap.size w (w6.setCell ⟨m.heap.size,k,none⟩ (.int .i64 (r:Nat))):=⟨k+1,aA,aD,O6,P6,B6⟩;first | exact j | ((repeat apply PG);exact⟨j,rfl⟩)
  simp[intOf];omega
 obtain rfl:n=k:=aA;have OJ:=aI (HI.own (base:=w.heap.size) SN B4.size (by unfold maxLen;omega));clear u hI F;go_wp2;go_ret2;exact⟨_,_,rfl,R,OJ,y⟩
def lQ (l:List FV):Nat→List Int
 | 0=>[(l.length:Int)]
 | k+1=>lQ l k ++ bX (l.getD k FV.z).es
def zA (l:List FV) (k:Nat):List Int:=[iL (aZ l) 0 k,Hi (aZ l) k-Lo (aZ l) k,(fQ l (Lo (aZ l) k):Nat)]
def kY (l:List FV):Nat→List Int
 | 0=>lQ l l.length ++ [((aZ l).length:Int)]
 | k+1=>kY l k ++ zA l k
def sR (l:List FV):List Int:=kY l (aZ l).length
theorem Ej(l:List FV)(k:Nat):∀j,(lQ l k).length≤(lQ l (k+j)).length
 | 0=>QP _
 | j+1=>by
   have:=Ej l k j;rw[show lQ l (k+(j+1))=lQ l (k+j) ++ bX (l.getD (k+j) FV.z).es from rfl,PX];omega
theorem wH(l:List FV)(k:Nat):∀j,(kY l k).length≤(kY l (k+j)).length
 | 0=>QP _
 | j+1=>by
   have:=wH l k j;rw[show kY l (k+(j+1))=kY l (k+j) ++ zA l (k+j)from rfl,PX];omega
theorem qK{l:List FV}{k:Nat}(h:k≤l.length):(lQ l k).length+1≤(sR l).length:=by
 have h1:=Ej l k (l.length-k);rw[show k+(l.length-k)=l.length by omega]at h1;have h2:=wH l 0 (aZ l).length;rw[Nat.zero_add]at h2;have h3:(kY l 0).length=(lQ l l.length).length+1:=by simp[kY]
 unfold sR;omega
theorem Sl{l:List FV}{k:Nat}(h:k≤(aZ l).length):(kY l k).length≤(sR l).length:=by
 have h1:=wH l k ((aZ l).length-k);rw[show k+((aZ l).length-k)=(aZ l).length by omega]at h1;exact h1
theorem seg_apart:∀{l:List FV},(∀f∈l,cL f.items)→l.Pairwise (fun f g=>∀x,¬(aV f.items x∧aV g.items x))→(fB l).Pairwise (fun a b=>a.2<b.1∨b.2<a.1)
 | [],_,_=>List.Pairwise.nil
 | f :: l,hc,hp=>by
   obtain⟨h1,h2⟩:=List.pairwise_cons.1 hp;unfold fB;rw[QG];have s:=hc f aD;refine List.pairwise_append.2 ⟨List.pairwise_iff_getElem.2 fun i j hi B u=>?_,seg_apart (fun g n=>hc g (by simp[n])) h2,fun a y b p=>?_⟩
   ·have h3:=cG s u B;have r:Lo f.items j=(f.items[j]).1:=by unfold Lo;simp[PY,PV B]
    have A:Hi f.items i=(f.items[i]).2:=by unfold Hi;simp[PY,PV hi]
    rw[r,A]at h3;exact .inl aA
   obtain⟨g,n,p⟩:=List.mem_flatMap.1 p;have m:=hc g (by simp[n]);have C:=h1 g n a.1;have D:=h1 g n b.1;have E:=rE s y;have F:=rE m p;have I:a.1≤a.2:=cor_le s y;have J:b.1≤b.2:=cor_le m p;rcases Int.lt_or_le a.2 b.1 with t | t
   ·exact .inl t
   refine .inr (Int.lt_of_not_ge fun G=>?_);by_cases t3:a.1≤b.1
   ·exact D ⟨⟨a,y,t3,t⟩,F⟩
   exact C ⟨E,⟨b,p,aA,G⟩⟩
where
 cor_le {zs:List Iv} (h:cL zs) {z:Iv} (H:z∈zs):z.1≤z.2:=by
  obtain⟨i,hi,e⟩:=List.mem_iff_getElem.1 H;have h1:=(h i hi).1;have r:(Lo zs i,Hi zs i)=z:=by unfold Lo Hi;simp[PY,PV hi,e]
  have A:Lo zs i=z.1:=congrArg Prod.fst r;have K:Hi zs i=z.2:=congrArg Prod.snd r;omega
theorem Cq{l:List FV}(j:∀f∈l,cL f.items){z:Iv}(m:z∈aZ l):z.1≤z.2:=by
 obtain⟨f,b,h2⟩:=List.mem_flatMap.1 ((gR _ _).1 m);exact seg_apart.cor_le (j f b) h2
theorem Ff{l:List FV}(j:∀f∈l,cL f.items)(s:l.Pairwise (fun f g=>∀x,¬(aV f.items x∧aV g.items x))):ApTo (aZ l) 0 (aZ l).length:=by
 intro i hi;have u:=iQ hi;have m:=Cq j u;refine⟨m,fun h0=>?_⟩;have y:=iQ (l:=l) (i:=i-1) aA;have n:=Cq j y;have z:(aZ l).Pairwise (fun a b=>a.2<b.1∨b.2<a.1):=((jW (fB l)).pairwise_iff (fun {a b} h=>h.symm)).2 (seg_apart j s);have h1:=List.pairwise_iff_getElem.1 z (i-1) i aA hi aA;have h2:=List.pairwise_iff_getElem.1 (oX (mP j s)) (i-1) i (by show i-1<(aZ l).length;omega) hi aA;have p:Lo (aZ l) i=((aZ l)[i]).1:=by unfold Lo;simp[PY,PV hi]
 have r:Hi (aZ l) (i-1)=((aZ l)[i-1]' aA).2:=by unfold Hi;simp[PY,PV (show i-1<(aZ l).length by omega)]
 have A:Hi (aZ l) i=((aZ l)[i]).2:=by unfold Hi;simp[PY,PV hi]
 have B:Lo (aZ l) (i-1)=((aZ l)[i-1]' aA).1:=by unfold Lo;simp[PY,PV (show i-1<(aZ l).length by omega)]
 have C:((aZ l)[i-1]' aA).1<((aZ l)[i]).1:=h2;simp only at m n;rw[p,r];rw[p,A]at m;rw[r,B]at n;rcases h1 with h1 | h1
 ·exact⟨h1,aA⟩
 omega
theorem yI{l:List FV}{x:Int}(h:aX l x l.length≠[]):fQ l x<l.length:=by
 unfold fQ
 cases hs:aX l x l.length with
 | nil=>exact absurd hs h
 | cons i s=>
   have:i∈aX l x l.length:=by rw[hs];simp
   simpa[PY]using (dG.1 this).1
theorem Xc(zs:List Iv)(b:Int):∀(n k:Nat),k<n→(gV zs b n).getD (2 * k) 0=iL zs b k∧(gV zs b n).getD (2 * k+1) 0=Hi zs k-Lo zs k
 | 0,_,h=>absurd h (by omega)
 | n+1,k,h=>by
   have l:=gN zs b n;rw[show gV zs b (n+1)=gV zs b n ++ [iL zs b n,Hi zs n-Lo zs n] from rfl];by_cases e:k<n
   ·have j:=Xc zs b n k e;simp only[PY]at j ⊢;rw[QK aA,QK aA];exact j
   obtain rfl:k=n:=aA;simp only[PY];rw[QJ aA,QJ aA,l];simp
theorem Vz{l:List FV}{k:Nat}(h:k<(aZ l).length):((gU l).map (fun(i:Nat)=>(i:Int))).getD k 0=(fQ l (Lo (aZ l) k):Nat):=by
 unfold gU Lo;simp[PY,PV h]
theorem Nk{w w':World}{b j:Nat}{v l:Value}{zs ds:List Int}(p:OwnB w b v zs)(m:OwnI w j l ds)(ho:Only (fun q=>v.ownBlock=some q) w w'):OwnI w' j l ds:=
 m.only ho (fun k n hv=>Typed.ne (aR p.row hv) (aR m.row n) aB rfl)
theorem Nj{w w':World}{b j:Nat}{v l:Value}{zs:List Int}{ds:List Nat}(p:OwnB w b v zs)(m:OwnJ w j l ds)(ho:Only (fun q=>v.ownBlock=some q) w w'):OwnJ w' j l ds:=
 bF m ho (fun k n hv=>Typed.ne (aR p.row hv) (aR m n) aB rfl)
theorem pD{w:World}{base n cap:Nat}{t:TypeId}{ad:Option Addr}{xs:List Value}(h:w.ownsRow base t 1 (.slice ad n cap) n xs)(h0:0<n):∃g,ad=some ⟨g,0,none⟩∧∀i,i<n→w.cell? ⟨g,i,none⟩=xs[i]?:=by
 rcases h.2 with⟨_,hl⟩ | ⟨g,cap',cur,hv,hb,hc,h1,h2,h3,h4⟩
 ·omega
 injection hv with e1 e2 e3;refine⟨g,e1,fun i hi=>?_⟩;have b:(cur.toList.take (n * 1))[i]?=xs[i]?:=by rw[h4]
 rw[Nat.mul_one,QB hi]at b;simp only[PS,hc];simpa using b
theorem Mg{w:World}{base n cap g:Nat}{b:List Int}(h:OwnI w base (.slice (some ⟨g,0,none⟩) n cap) b)(m:b.length=n){i:Nat}(hi:i<n):w.cell? ⟨g,i,none⟩=some (.int .u64 (b.getD i 0)):=by
 have j:=h.row;rw[m]at j;obtain⟨p,e,l⟩:=pD j aA
 cases e
 rw[l i hi];simp[PY,PV (show i<b.length by omega)]
theorem Mf{w:World}{base n cap g:Nat}{b:List Nat}(h:OwnJ w base (.slice (some ⟨g,0,none⟩) n cap) b)(m:b.length=n){i:Nat}(hi:i<n):w.cell? ⟨g,i,none⟩=some (.int .i64 ((b.map (fun(i:Nat)=>(i:Int))).getD i 0)):=by
 have j:=h;unfold OwnJ at j;rw[m]at j;obtain⟨p,e,l⟩:=pD j aA
 cases e
 rw[l i hi];simp[iW,PY,PV (show i<b.length by omega)]
structure JG (l:List FV):Prop where
 num:10 * (sR l).length≤3900000000
 hs:∀f∈l,∀e∈f.es,e.hs.length≤1000000
 seg:(aZ l).length≤1000000
def Xs (w:World) (k:List FV) (T V A:Nat) (e:Ending) (w':World):Prop:=∃vb l',e=.returned (.tuple #[vb,.nilIface])∧CanL l'∧(∀x r c,fH (l'.map FV.frag) x r c↔fH (k.map FV.frag) x r c)∧bD l'≤T∧VecB l' V A∧OwnB w' w.heap.size vb (bL (sR l'))∧Below w.heap.size w w'
theorem Sj(v:Value)(l:List FV)(I V A N:Nat)(w:World)(hE:KnwAt w v l)(B:Sa l I V A)(hI:I≤1000000)(L:bD l≤4000000)(A5:l.length≤10000000)
  (hV:V≤1000000) (hA:A≤1000000) (hN:∀x,(aX l x l.length).length≤N) (F7:N * V≤10000) (F8:N * (A+3)≤40000)
  (A6:∀l',CanL l'→(∀x r c,fH (l'.map FV.frag) x r c↔fH (l.map FV.frag) x r c)→bD l'≤1+2 * bD l→VecB l' (N * V) (N * (A+3))→JG l') :
  Calls prog 13 #[v] w fun e w'=>Xs w l (1+2 * bD l) (N * V) (N * (A+3)) e w':=by
 have KC:=aI (qQ v l w hE B.cor B.right aA);have KN:=aI (fun W (hW:Below w.heap.size w W)=>Rs v l I V A N W (hE.below hW) B hI L A5 hV hA hN F7 F8);have A7:=aI A6;have C9:=aI L;obtain⟨a,cap,rfl,_⟩:=hE;obtain⟨NV,E4⟩:=aG (N * V);obtain⟨NA,E5⟩:=aG (N * (A+3));rw[E4]at KN A7 ⊢;rw[E5]at KN A7 ⊢;clear B hI L A5 hV hA hN F7 F8 A6 E4 E5;go_enter func13,ntmps13;go_wp2_with fail;refine KC.mono ?_;rintro e w1 ⟨rfl,E6⟩;have B1:=aI E6;clear E6;go_wp2_with fail;refine(KN _ B1).mono ?_;rintro e w2 ⟨v2,c,rfl,hR⟩;have M:=aI (A7 c hR.can hR.kn hR.tot hR.bnd);have C:=aI hR;have B2:=aI (B1.trans (hR.bl.mono B1.size));obtain⟨a2,c2,rfl,E7,_⟩:=hR.row.know;have H:=aI E7;have A8:=aI (show c.length≤390000000 from by
  have h1:=qK (l:=c) (k:=0) (QN _);have h2:=M.num;have h3:∀j,j≤(lQ c j).length:=fun j=>by
   induction j with
   | zero=>omega
   | succ j ih=>
     have h4:1≤(bX (c.getD j FV.z).es).length:=by
      have D0:∀(es:List Ent) k,1≤(bI es k).length:=fun es k=>by
       induction k with
       | zero=>simp[bI]
       | succ k ih=>rw[show bI es (k+1)=bI es k ++ oJ (kU es k) (es.getD k Ent.z)from rfl,PX];omega
      exact D0 _ _
     rw[show lQ c (j+1)=lQ c j ++ bX (c.getD j FV.z).es from rfl,PX];omega
  have h5:=h3 c.length;have h6:=qK (l:=c) (k:=c.length) (QP _);omega)
 obtain⟨len,J⟩:=aG c.length;have EL:=aI J;rw[J]at H A8 ⊢;have w64:IntKind.u64.wrap (len:Int)=len:=bA ⟨aA,by have:=A8.out;omega⟩;have G9:=A8.out;clear hR E7 J;go_wp2_with fail;refine(rF w2 _ [] len w2 (OwnB.nil _ _) (PI _ _) ⟨aA,aA⟩ aD).mono ?_;rintro e w3 ⟨v3,rfl,E8,E9⟩;have O3:=aI (show OwnB w3 w2.heap.size v3 (bL (lQ c 0))from by
  rw[show lQ c 0=[(c.length:Int)] from rfl,EL.out,show bL [(len:Int)]=vb 10 (len:Int) ++ [] from rfl,List.append_nil];exact E8)
 have B3:=aI E9;clear E8 E9;go_wp2;go_loopw [6,29] (fun o i wr=>∃k:Nat,k≤len∧i=.int .i64 k∧OwnB wr w2.heap.size o (bL (lQ c k))∧Below w2.heap.size w2 wr) (fun _ i _=>len-(intOf i).toNat)
 case atStart=>exact⟨0,QN _,rfl,O3,B3⟩
 obtain⟨k,hk,rfl,B,O⟩:=hrel;have HO:=aI B;have HB:=aI O;have F9:(0:Int)≤(k:Int):=aA;by_cases hlt:k<len
 ·have i1:(k:Int)<(len:Int):=aA;have Hr:=H.below O;obtain⟨b,off,rfl,G4,B9,C0⟩:=Hr.cells k hlt;have E:=H.mem hlt;have Q:=C.row.frags _ E;have R:=C.can.at _ E;have S:=M.hs _ E;have T:=aI (show lQ c (k+1)=lQ c k ++ bX (c.getD k FV.z).es from rfl);have D:=aI (qK (l:=c) (k:=k+1) (by rw[EL.out];exact hlt));obtain⟨p,ep⟩:=aG (c.getD k FV.z);rw[ep]at B9 C0 Q R S T;obtain⟨av,cv,ev,C1,_⟩:=Q.vec.vecAt;obtain⟨X,P,ei,_⟩:=Q.items.rg;obtain⟨items,iv,vec,vv⟩:=p;simp only at B9 C0 ei ev C1 R S T;subst ei;subst ev;have G:=aI (show(bL (lQ c k)).length+10 * (bX (vec.map (·.1))).length≤3900000000 from by
   have h1:=dI (lQ c k);have h2:=D.out;have h3:=M.num;rw[T.out,PX]at h2;have h4:(bX (FV.mk items (.slice X items.length P) vec (.slice av vec.length cv)).es).length=(bX (vec.map (·.1))).length:=rfl;omega)
  have n9:(wr.alloc (.cells #[.slice X items.length P,.slice av vec.length cv] 80)).heap[wr.heap.size]?=some (.cells #[.slice X items.length P,.slice av vec.length cv] 80 (0,0)):=aK _ _ rfl;have BA:=aI (aJ (PI wr.heap.size wr) (.cells #[.slice X items.length P,.slice av vec.length cv] 80));have KP:=aI (Gc w2 u6 (bL (lQ c k)) av vec.length cv vec _ _ (HO.below BA) (HB.trans (BA.mono HB.size)) C1.at' rfl (CanW.v R.2.2.1) S G);obtain⟨ni,F0⟩:=aG items.length;obtain⟨nv,F1⟩:=aG vec.length;rw[F0]at B9 KP BA;rw[F1]at C0 KP BA;obtain⟨ao,co,eo,_⟩:=B.ints (by have:=dI (lQ c k);have:=G.out;omega);subst eo;clear B G4 Hr E Q R S C1 ep F0 F1 n9;go_wp2_with fail;refine KP.mono ?_;rintro e w5 ⟨v5,rfl,F2,F⟩;have O5:=aI (show OwnB w5 w2.heap.size v5 (bL (lQ c (k+1)))from by rw[T.out,sD];exact F2);have B5:=aI F;clear F2 F O;go_wp2;go_roundw
  case rel=>
   have u:∃k':Nat,k'≤len∧(.int .i64 ((k:Int)+1):Value)=.int .i64 k'∧OwnB w5 w2.heap.size v5 (bL (lQ c k'))∧Below w2.heap.size w2 w5:=⟨k+1,aA,aD,O5,B5⟩;first | exact u | ((repeat apply PG);exact⟨u,rfl⟩)
  simp[intOf];omega
 obtain rfl:len=k:=aA;obtain⟨wo,G5⟩:=aH (wr:World);subst G5;have KS:=aI (Tp (.slice a2 c.length c2) c w1.heap.size wo (C.row.below O) (fun f hf=>(C.can.at f hf).1) C.can.apart' (by have:=C.tot;have:=C9.out;omega) (by have:=C.len;have:=C9.out;omega));have D1:=aI (Ff (l:=c) (fun f hf=>(C.can.at f hf).1) C.can.apart');have D2:=aI (fun k (hk:k<(aZ c).length)=>yI (Cp (l:=c) (fun f hf=>(C.can.at f hf).1) (iQ hk)));rw[EL.out]at KS;obtain⟨H2,H3,e6,_⟩:=B.ints (by have:=dI (lQ c len);have h2:=qK (l:=c) (k:=len) (by rw[EL.out];omega);have h3:=M.num;omega);subst e6;clear B O;go_wp2_with fail;refine KS.mono ?_;rintro e w5 ⟨vl,vi,rfl,hL,Y,F⟩;have B5:=aI (HB.trans (F.mono HB.size));have O5:=aI (HO.below F);have D3:=M.seg;obtain⟨al,cl,rfl,F3,_,_⟩:=hL.prs;obtain⟨X,P,rfl,C2⟩:=Y.ints (by unfold gU;rw[PZ];omega) (fun x hx=>by
  unfold gU at hx;obtain⟨z,hz,rfl⟩:=List.mem_map.1 hx;have:=yI (Cp (l:=c) (fun f hf=>(C.can.at f hf).1) hz);have:=EL.out;omega)
 have A9:(gU c).length=(aZ c).length:=by unfold gU;rw[PZ]
 rw[A9]at C2 ⊢;have PL:=aI F3;have II:=aI C2;obtain⟨n,en⟩:=aG ((aZ c).length);have EN:=aI en;rw[en]at PL II D3 D1 D2 ⊢;have KD:=aI (Bi al n cl (aZ c) 0 w5 PL ⟨aA,aA⟩ D3);have JJ:=aI (show OwnJ w5 wo.heap.size (.slice X n P) (gU c)from by rw[← en,← A9];exact Y);clear hL Y F F3 C2 A9 en;go_wp2_with fail;refine KD.mono ?_;rintro e w6 ⟨K,G6⟩;rcases G6 with⟨_,vd,rfl,hD⟩ | ⟨hno,_⟩
 ·have DL:=aI (gN (aZ c) 0 n);obtain⟨ad,cd,rfl,C3,_⟩:=hD.ints (by rw[DL.out];omega);rw[DL.out]at C3 ⊢;have ID:=aI C3;have DD:=aI (show OwnI w6 w5.heap.size (.slice ad (2 * n) cd) (gV (aZ c) 0 n)from by have:=hD;rwa [DL.out]at this);have J6:=aI (show OwnJ w6 wo.heap.size (.slice X n P) (gU c)from bF JJ (Only.of_below (may:=fun _=>False) K) (fun _ _ h=>h));have B6:=aI (B5.trans (K.mono B5.size));have O6:=aI (O5.below K);have I6:=aI (II.below K);have H0:IntKind.u64.wrap (n:Int)=n:=bA ⟨aA,aA⟩;clear hD C3 K;go_wp2_with fail;refine(gT w2 _ (bL (lQ c len)) n w6 O6 B6 ⟨aA,aA⟩ (by have:=dI (lQ c len);have h2:=qK (l:=c) (k:=len) (by rw[EL.out];omega);have h3:=M.num;omega)).mono ?_;rintro e w7 ⟨v7,rfl,m,y,s⟩;have D7:=aI (Nk O6 DD s.only);have J7:=aI (Nj O6 J6 s.only);have O7:=aI (show OwnB w7 w2.heap.size v7 (bL (kY c 0))from by
   rw[show kY c 0=lQ c c.length ++ [((aZ c).length:Int)] from rfl,dY,EL.out,EN.out];exact m)
  have B7:=aI y;clear m y s;go_wp2;go_loopw [6,55] (fun o i W=>∃k:Nat,k≤n∧i=.int .i64 k∧OwnB W w2.heap.size o (bL (kY c k))∧OwnI W w5.heap.size (.slice ad (2 * n) cd) (gV (aZ c) 0 n)∧OwnJ W wo.heap.size (.slice X n P) (gU c)∧Below w2.heap.size w2 W) (fun _ i _=>n-(intOf i).toNat)
  case atStart=>exact⟨0,QN _,rfl,O7,D7,J7,B7⟩
  obtain⟨k,hk,rfl,B,hD,Y,O⟩:=hrel;have P0:=aI (PC B (PC hD (PC Y O)));have F9:(0:Int)≤(k:Int):=aA;by_cases hlt:k<n
  ·have i1:(k:Int)<(n:Int):=aA;have U:(gV (aZ c) 0 n).length=2 * n:=DL.out;have B0:(gU c).length=n:=by unfold gU;rw[PZ,EN.out]
   obtain⟨gd,G7,-⟩:=pD (show wr.ownsRow w5.heap.size 57 1 (.slice ad (2 * n) cd) (2 * n) _ from by have:=hD.row;rw[U]at this;exact this) aA;obtain⟨gi,G8,-⟩:=pD (show wr.ownsRow wo.heap.size 3 1 (.slice X n P) n _ from by have:=Y;unfold OwnJ at this;rw[B0]at this;exact this) aA;subst G7;subst G8;obtain⟨C4,C5⟩:=Xc (aZ c) 0 n k hlt;have ja:=Vz (l:=c) (k:=k) (by rw[EN.out];exact hlt);have D4:=D2.out k hlt;have D5:=aI (show ∀i,i<2 * n→aL ((gV (aZ c) 0 n).getD i 0)from fun i hi=>hD.words _ (by rw[PY,PV aA,QR];exact QA _));obtain⟨g0,A0⟩:=aG (iL (aZ c) 0 k);obtain⟨g1,A1⟩:=aG (Hi (aZ c) k-Lo (aZ c) k);obtain⟨g2,A2⟩:=aG (fQ c (Lo (aZ c) k));have D6:=aI (show kY c (k+1)=kY c k ++ [g0] ++ [g1] ++ [((g2:Nat):Int)] from by
    rw[show kY c (k+1)=kY c k ++ zA c k from rfl];unfold zA;rw[A0,A1,A2];simp)
   have D:=Sl (l:=c) (k:=k+1) (by rw[EN.out];exact hlt);rw[D6.out]at D;have D8:=aI (show(kY c k ++ [g0] ++ [g1]).length≤(sR c).length from by simp at D ⊢;omega);have D9:=aI (show(kY c k ++ [g0]).length≤(sR c).length from by simp at D ⊢;omega);have A4:=aI (show(kY c k).length≤(sR c).length from by simp at D ⊢;omega);have G0:=aI (show aL g0 from by have:=D5.out (2 * k) aA;rwa [C4,A0]at this);have G1:=aI (show aL g1 from by have:=D5.out (2 * k+1) aA;rwa [C5,A1]at this);have H1:g2≤390000000:=by have h1:=D4;rw[A2,EL.out]at h1;omega
   have E0:=aI (show aL ((g2:Nat):Int)from⟨aA,aA⟩);have CD:=aI (fun(W:World) (h:OwnI W w5.heap.size (.slice (some ⟨gd,0,none⟩) (2 * n) cd) (gV (aZ c) 0 n))=>PC (show W.cell? ⟨gd,2 * k,none⟩=some (.int .u64 g0)from by rw[Mg h U aA,C4,A0]) (show W.cell? ⟨gd,2 * k+1,none⟩=some (.int .u64 g1)from by rw[Mg h U aA,C5,A1]));have j0:wr.cell? ⟨gi,k,none⟩=some (.int .i64 ((g2:Nat):Int)):=by rw[Mf Y B0 hlt,ja,A2]
   have d0:=(CD wr hD).1;have m1:IntKind.i64.wrap (2 * (k:Int))=2 * (k:Int):=PH _ aA;have m2:IntKind.i64.wrap (2 * (k:Int)+1)=2 * (k:Int)+1:=PH _ aA;have m3:(2 * (k:Int)).toNat=2 * k:=aA;have m4:(2 * (k:Int)+1).toNat=2 * k+1:=aA;have m5:(0:Int)≤2 * (k:Int):=aA;have m6:2 * (k:Int)<2 * (n:Int):=aA;have m7:(0:Int)≤2 * (k:Int)+1:=aA;have m8:2 * (k:Int)+1<2 * (n:Int):=aA;have m9:IntKind.u64.wrap ((g2:Nat):Int)=((g2:Nat):Int):=bA E0;obtain⟨aw,cw,ew,-,-⟩:=B.ints (by have h1:=dI (kY c k);have h2:=A4.out;have h3:=M.num;omega);subst ew;obtain⟨Z0,A3⟩:=aG (bL (kY c k));have B4:=aI A3;have G2:=aI (show Z0.length≤3900000000 from by rw[← A3];have h1:=dI (kY c k);have h2:=A4.out;have h3:=M.num;omega);rw[A3]at P0 ⊢;obtain⟨q0,F4⟩:=aG Z0.length;rw[F4]at P0 ⊢;clear U B0 C4 C5 ja D4 A0 A1 A2 D B hD Y O A3 F4;go_wp2_with fail;refine(gT w2 _ Z0 g0 wr P0.1 P0.2.2.2 G0 (QM G2 aA)).mono ?_;rintro e x1 ⟨y1,rfl,m,y,s⟩;obtain⟨Z1,C6⟩:=aG (Z0 ++ vb 10 g0);have B8:=aI C6;rw[C6]at m;have P1:=aI (PC m (PC (Nk P0.1 P0.2.1 s.only) (PC (Nj P0.1 P0.2.2.1 s.only) y)));have E1:=aI (show Z1.length≤3900000000 from by
    have h1:=dI (kY c k ++ [g0]);rw[dY,B4.out,B8.out]at h1;have h2:=D9.out;have h3:=M.num;omega)
   obtain⟨H4,H5,ew,-,-⟩:=m.ints (by have:=E1.out;omega);subst ew;obtain⟨q1,F5⟩:=aG Z1.length;rw[F5]at P1 ⊢;have d1:=(CD x1 P1.2.1).2;clear m y s C6 F5;go_wp2_with fail;refine(gT w2 _ Z1 g1 x1 P1.1 P1.2.2.2 G1 (QM E1 aA)).mono ?_;rintro e x2 ⟨y2,rfl,m,y,s⟩;obtain⟨Z2,C7⟩:=aG (Z1 ++ vb 10 g1);have E2:=aI C7;rw[C7]at m;have P2:=aI (PC m (PC (Nk P1.1 P1.2.1 s.only) (PC (Nj P1.1 P1.2.2.1 s.only) y)));have E3:=aI (show Z2.length≤3900000000 from by
    have h1:=dI (kY c k ++ [g0] ++ [g1]);rw[dY,dY,B4.out,B8.out,E2.out]at h1;have h2:=D8.out;have h3:=M.num;omega)
   obtain⟨H6,H7,ew,-,-⟩:=m.ints (by have:=E3.out;omega);subst ew;obtain⟨q2,F6⟩:=aG Z2.length;rw[F6]at P2 ⊢;clear m y s C7 F6;go_wp2_with fail;refine(gT w2 _ Z2 ((g2:Nat):Int) x2 P2.1 P2.2.2.2 E0 (QM E3 aA)).mono ?_;rintro e x3 ⟨y3,rfl,m,y,s⟩;obtain⟨Z3,C8⟩:=aG (Z2 ++ vb 10 ((g2:Nat):Int));have G3:=aI C8;rw[C8]at m;have P3:=aI (PC m (PC (Nk P2.1 P2.2.1 s.only) (PC (Nj P2.1 P2.2.2.1 s.only) y)));have O9:=aI (show OwnB x3 w2.heap.size y3 (bL (kY c (k+1)))from by rw[D6.out,dY,dY,dY,B4.out,B8.out,E2.out,G3.out];exact m);clear m y s C8;clear m1 m2 m3 m4 m5 m6 m7 m8 m9;go_wp2;go_roundw
   case rel=>
    have u:∃k':Nat,k'≤n∧(.int .i64 ((k:Int)+1):Value)=.int .i64 k'∧OwnB x3 w2.heap.size y3 (bL (kY c k'))∧OwnI x3 w5.heap.size (.slice (some ⟨gd,0,none⟩) (2 * n) cd) (gV (aZ c) 0 n)∧OwnJ x3 wo.heap.size (.slice (some ⟨gi,0,none⟩) n P) (gU c)∧Below w2.heap.size w2 x3:=⟨k+1,aA,aD,O9,P3.2.1,P3.2.2.1,P3.2.2.2⟩;first | exact u | ((repeat apply PG);exact⟨u,rfl⟩)
   simp[intOf];omega
  obtain rfl:n=k:=aA;have OE:=aI (show OwnB wr w.heap.size u6 (bL (sR c))from by unfold sR;rw[EN.out];exact B.lower B2.size);have BE:=aI (B2.trans (O.mono B2.size));clear B hD Y O;go_wp2;go_ret2;exact⟨u6,c,rfl,C.can,C.kn,C.tot,C.bnd,OE,BE⟩
 exact absurd D1 hno
inductive Pt where
 | start
 | vecs (left from':Int) (inner:Option St)
 | mid
 | segs (left turn last:Int) (touch:Bool)
 | fin
structure WS where
 pt:Pt
 k:List Frag
 us:List Nat
 last:Option Iv
 op:Option Int
def Lm:WS:=⟨.start,[],[],none,none⟩
def Pt.isFin:Pt→Bool
 | .fin=>true
 | _=>false
def DR (last:Option Iv) (x:Int):Option Int:=
 match last with
 | none=>some x
 | some z=>if z.2+1+0+x<18446744073709551616 then some (z.2+1+0+x)else none
def GN (l x:Int):Option Iv:=if l+x<18446744073709551616 then some (l,l+x)else none
def kW (us:List Nat) (i:Nat):List Nat:=if i∈us then us else us ++ [i]
def Frag.z:Frag:=⟨[],[]⟩
def zC (k:List Frag) (i:Nat) (z:Iv):List Frag:=k.set i ⟨(k.getD i Frag.z).items ++ [z],(k.getD i Frag.z).vec⟩
def eH (s:WS) (next rest:Int):Except (Int×Int) WS:=
 if s.us.length<s.k.length then .error (10,next)else if 0<rest then .error (11,next)else .ok { s with pt:=.fin }
def pZ (x:Int):Int:=((vb 10 x).length:Nat)
def fR (lm:cD) (s:WS) (left fr:Int) (st:St) (x at' rest:Int):Except (Int×Int) WS:=
 match bU lm st x rest with
 | .error c=>.error (c,at')
 | .ok st'=>
   if st'.ph.isFin=true then
    if s.k≠[]∧0≤cQ (bG (s.k.getD (s.k.length-1) Frag.z).vec) (bG st'.es)then .error (3,fr)
    else .ok { s with k:=s.k ++ [⟨[],st'.es⟩],pt:=if left-1=0 then .mid else .vecs (left-1) (-1) none }
   else .ok { s with pt:=.vecs left fr (some st') }
def jY (s:WS) (left turn last:Int) (touch:Bool) (x at' rest:Int):Except (Int×Int) WS:=
 if turn=0 then
  match DR s.last x with
  | none=>.error (8,at')
  | some l=>.ok { s with op:=some l,pt:=.segs left 1 last (s.last.isSome && decide (x=0)) }
 else if turn=1 then
  match GN (s.op.getD 0) x with
  | none=>.error (8,at')
  | some z=>.ok { s with op:=none,last:=some z,pt:=.segs left 2 last touch }
 else if(s.k.length:Int)≤x then .error (8,at')
 else if touch=true∧x=last then .error (10,at')
 else
  let s':WS:={ s with k:=zC s.k x.toNat (s.last.getD (0,0)),us:=kW s.us x.toNat }
  if left-1=0 then eH s' (at'+pZ x) rest else .ok { s' with pt:=.segs (left-1) 0 x touch }
def cT (lm:cD) (s:WS) (x at' rest:Int):Except (Int×Int) WS:=
 match s.pt with
 | .start=>if bS x lm.ve rest≠0 then .error (bS x lm.ve rest,at')else .ok { s with pt:=if x=0 then .mid else .vecs x (-1) none }
 | .vecs left fr none=>fR lm s left at' tZ x at' rest
 | .vecs left fr (some st)=>fR lm s left fr st x at' rest
 | .mid=>if bS x lm.se rest≠0 then .error (bS x lm.se rest,at')else if x=0 then eH s (at'+pZ x) rest else .ok { s with pt:=.segs x 0 0 false }
 | .segs left turn last touch=>jY s left turn last touch x at' rest
 | .fin=>.ok s
def RdW (w:World) (r:Nat) (lm:cD) (pv kv:Value) (m c:Nat) (er:Value):Prop:=
 w.heap[r]?=some (.cells #[.int .i64 lm.f,.int .i64 lm.ve,.int .i64 lm.en,.int .i64 lm.ho,.int .i64 lm.se,pv,kv,.map (some m),.pointer (some ⟨c,0,none⟩),er] 162 (0,0))
section
variable {w w':World} {r:Nat} {lm:cD} {pv kv er:Value} {m c:Nat}
theorem RdW.lt(h:RdW w r lm pv kv m c er):r<w.heap.size:=aO h
theorem RdW.typed(h:RdW w r lm pv kv m c er):Typed w 162 r:=⟨_,h⟩
theorem RdW.only{may:Nat→Prop}(h:RdW w r lm pv kv m c er)(ho:Only may w w')(b:¬may r):RdW w' r lm pv kv m c er:=ho.obj b h
theorem RdW.c1(h:RdW w r lm pv kv m c er):w.cell? ⟨r,1,none⟩=some (.int .i64 lm.ve):=by simp[PS,show w.heap[r]?=_ from h]
theorem RdW.c4(h:RdW w r lm pv kv m c er):w.cell? ⟨r,4,none⟩=some (.int .i64 lm.se):=by simp[PS,show w.heap[r]?=_ from h]
theorem RdW.c5(h:RdW w r lm pv kv m c er):w.cell? ⟨r,5,none⟩=some pv:=by simp[PS,show w.heap[r]?=_ from h]
theorem RdW.c6(h:RdW w r lm pv kv m c er):w.cell? ⟨r,6,none⟩=some kv:=by simp[PS,show w.heap[r]?=_ from h]
theorem RdW.c7(h:RdW w r lm pv kv m c er):w.cell? ⟨r,7,none⟩=some (.map (some m)):=by simp[PS,show w.heap[r]?=_ from h]
theorem RdW.c8(h:RdW w r lm pv kv m c er):w.cell? ⟨r,8,none⟩=some (.pointer (some ⟨c,0,none⟩)):=by simp[PS,show w.heap[r]?=_ from h]
theorem RdW.c9(h:RdW w r lm pv kv m c er):w.cell? ⟨r,9,none⟩=some er:=by simp[PS,show w.heap[r]?=_ from h]
theorem RdW.free(h:RdW w r lm pv kv m c er):∀j,w.frozen? ⟨r,j,none⟩=false:=by intro j;simp[PU,show w.heap[r]?=_ from h]
theorem RdW.s5(h:RdW w r lm pv kv m c er)(x:Value):RdW (w.setCell ⟨r,5,none⟩ x) r lm x kv m c er:=heap_setCell_same _ _ 5 _ _ _ h
theorem RdW.s6(h:RdW w r lm pv kv m c er)(x:Value):RdW (w.setCell ⟨r,6,none⟩ x) r lm pv x m c er:=heap_setCell_same _ _ 6 _ _ _ h
theorem RdW.s9(h:RdW w r lm pv kv m c er)(x:Value):RdW (w.setCell ⟨r,9,none⟩ x) r lm pv kv m c x:=heap_setCell_same _ _ 9 _ _ _ h
end
theorem key_int:Maps.Keyed prog 3:=Maps.int_keyed (q:=.i64) underlying3
theorem Ni{i:Nat}(h:i≤4000000000):keyOf prog 3 (.int .i64 (i:Int))=some (.int .i64 i):=Maps.keyOf_int_mk underlying3 (by simp[Lit.wf,IntKind.min,IntKind.max,IntKind.signed,IntKind.bits];omega)
theorem Zo{x y:Int}(h:x≠y):Lit.int .i64 x≠Lit.int .i64 y:=fun e=>h (by cases e;rfl)
structure UsedR (w:World) (m:Nat) (us:List Nat):Prop where
 own:∃D,w.ownsMap prog 3 Rv m us.length D∧Maps.Tidy D∧(∀i,i≤4000000000→Maps.has D (.int .i64 (i:Nat))=decide (i∈us))∧Maps.size D=us.length
theorem UsedR.made(w:World):UsedR (w.alloc (.map #[] 0)) w.heap.size []:=⟨.map [],World.ownsMap_made _ _ _ _,Maps.tidy_empty,fun _ _=>rfl,rfl⟩
theorem UsedR.lt{w:World}{m:Nat}{us:List Nat}(h:UsedR w m us):m<w.heap.size:=by obtain⟨D,h,_⟩:=h.own;exact h.lt
theorem UsedR.at{w w':World}{m:Nat}{us:List Nat}(h:UsedR w m us)(e:w'.heap[m]?=w.heap[m]?):UsedR w' m us:=by
 obtain⟨D,h,r⟩:=h.own;exact⟨D,xP h e,r⟩
theorem UsedR.notCells{w:World}{m:Nat}{us:List Nat}(h:UsedR w m us){t:TypeId}:¬Typed w t m:=by
 obtain⟨D,⟨es,b,l,_⟩,_⟩:=h.own;rintro⟨n,j⟩;rw[l]at j
 cases j
theorem UsedR.only{w w':World}{m:Nat}{us:List Nat}{may:Nat→Prop}(h:UsedR w m us)(ho:Only may w w')(l:∀k,may k→∃t,Typed w t k):UsedR w' m us:=
 h.at (ho.block m h.lt (fun j=>by obtain⟨t,b⟩:=l m j;exact h.notCells b))
theorem Qe{w:World}{m n:Nat}{D:DataW Value}(h:w.ownsMap prog 3 Rv m n D):w.ownsMap prog 3 Rv m (Maps.size D) D:=by
 obtain⟨es,b,l,F,hs,j⟩:=h;refine⟨es,b,l,F,?_,j⟩;rw[j];exact Nat.le_of_eq (length_read es).symm
def CurW (w:World) (c:Nat) (last:Option Iv) (op:Option Int):Prop:=∃lo llo lhi f,CurAt w c 0 lo llo lhi last.isSome op.isSome f∧(∀l,op=some l→lo=l∧aL l)∧(last=none→f=153) ∧
 (∀z,last=some z→f=245∧llo=z.1∧lhi=z.2∧aL z.1∧aL z.2)
theorem CurW.typed{w:World}{c:Nat}{last:Option Iv}{op:Option Int}(h:CurW w c last op):Typed w 234 c:=by
 obtain⟨_,_,_,_,h,_⟩:=h;exact⟨_,h⟩
theorem CurW.only{w w':World}{c:Nat}{last:Option Iv}{op:Option Int}{may:Nat→Prop}(h:CurW w c last op)(ho:Only may w w')(l:¬may c):CurW w' c last op:=by
 obtain⟨lo,b,j,f,h,r⟩:=h;exact⟨lo,b,j,f,ho.obj l h,r⟩
def Oth (w:World) (may:Nat→Prop):Prop:=∀k,may k→∃t,Typed w t k∧t≠162∧t≠80∧t≠96∧t≠123∧t≠234
theorem Oth.none(w:World):Oth w (fun _=>False):=fun _ h=>h.elim
theorem Oth.one{w:World}{b:Nat}{t:TypeId}(h:Typed w t b)(h1:t≠162∧t≠80∧t≠96∧t≠123∧t≠234):Oth w (fun k=>k=b):=fun k j=>⟨t,by rw[j];exact h,h1⟩
structure OutW (w:World) (base r:Nat) (lm:cD) (er:Value) (s:WS) (pv kv:Value) (m c:Nat) (l:List FV):Prop where
 br:base≤r
 rd:RdW w r lm pv kv m c er
 row:KRow w base kv l
 frags:l.map FV.frag=s.k
 used:UsedR w m s.us
 cur:CurW w c s.last s.op
 bm:base≤m
 bc:base≤c
theorem OutW.only{w w':World}{base r:Nat}{lm:cD}{p:Value}{s:WS}{u y:Value}{m c:Nat}{l:List FV}{may:Nat→Prop}(h:OutW w base r lm p s u y m c l)(ho:Only may w w')(n:Oth w may):OutW w' base r lm p s u y m c l:=
 ⟨h.br,h.rd.only ho (fun j=>by obtain⟨t,b,h1,_⟩:=n r j;exact b.ne h.rd.typed h1 rfl),h.row.only ho (fun k j=>by
  obtain⟨t,b,_,h2,h3,h4,_⟩:=n k j;exact⟨b.not h2,b.not h3,b.not h4⟩),h.frags,h.used.only ho (fun k j=>by obtain⟨t,b,_⟩:=n k j;exact⟨t,b⟩),h.cur.only ho (fun j=>by obtain⟨t,b,_,_,_,_,z⟩:=n c j;exact b.ne h.cur.typed z rfl),h.bm,h.bc⟩
theorem OutW.below{w w':World}{base r:Nat}{lm:cD}{b:Value}{s:WS}{j n:Value}{m c:Nat}{l:List FV}(h:OutW w base r lm b s j n m c l)(p:Below w.heap.size w w'):OutW w' base r lm b s j n m c l:=h.only (may:=fun _=>False) (Only.of_below p) (Oth.none w)
def qR (t:TypeId) (p:Nat):Value:=.iface t (.pointer (some ⟨p,0,none⟩))
def gF (t:TypeId):Value:=.iface t (.agg #[])
def OC (w:World) (base:Nat) (pt:Pt) (pv:Value):Prop:=
 match pt with
 | .start=>pv=gF 155
 | .vecs left _ none=>(aL left∧0<left)∧∃p ip,pv=qR 237 p∧base≤p∧w.heap[p]?=some (.cells #[.int .u64 left,.int .i64 (-1),.pointer ip] 240 (0,0))
 | .vecs _ _ (some _)=>False
 | .mid=>pv=gF 241
 | .segs left turn last touch=>(aL left∧0<left)∧∃p,pv=qR 243 p∧base≤p∧w.heap[p]?=some (.cells #[.int .u64 left,.int .i64 turn,.int .i64 last,.bool touch] 245 (0,0))
 | .fin=>pv=gF 168
def lN (l:List FV):Prop:=∀f∈l,f.iv=.slice none 0 0∧f.items=[]
structure SegX (w:World) (l:List FV) (ws:World):Prop where
 vec:∀f∈l,RowF ws 0 f.vv f.vec
 only:Only (fun b=>¬Typed ws 96 b∧¬Typed ws 123 b) ws w
 own:∀f∈l,OwnL w ws.heap.size 123 f.iv f.items
 dis:l.Pairwise (fun f g=>∀b,f.iv.ownBlock=some b→¬g.iv.ownBlock=some b)
theorem SegX.start{w:World}{base:Nat}{v:Value}{l:List FV}(h:KRow w base v l)(n:lN l):SegX w l w:=
 ⟨fun f m=>(h.frags f m).vec,Only.refl _ _,fun f m=>by rw[(n f m).1,(n f m).2];exact⟨PT _ _ _ _,aD⟩,by
  refine List.pairwise_iff_getElem.2 fun i j hi r _ b p=>?_;rw[(n _ (QA hi)).1]at p
  cases p⟩
theorem Mo{j w w':World}{may:Nat→Prop}(h:Only (fun b=>¬Typed j 96 b∧¬Typed j 123 b) j w)(ho:Only may w w')(z:∀k,may k→j.heap.size≤k∨(∃t,Typed w t k∧t≠96∧t≠123)):Only (fun b=>¬Typed j 96 b∧¬Typed j 123 b) j w':=by
 refine⟨ho.os.trans h.os,ho.tape.trans h.tape,ho.output.trans h.output,QM h.size ho.size,fun k n p=>?_⟩;refine(ho.block k (Nat.lt_of_lt_of_le n h.size) (fun r=>?_)).trans (h.block k n p);rcases z k r with h1 | ⟨t,ht,h1,h2⟩
 ·omega
 have s:=h.block k n p;refine p ⟨fun u=>?_,fun y=>?_⟩
 ·obtain⟨l,m⟩:=u;exact ht.ne (⟨l,s.trans m⟩:Typed w _ k) h1 rfl
 obtain⟨l,m⟩:=y;exact ht.ne (⟨l,s.trans m⟩:Typed w _ k) h2 rfl
theorem SegX.keep{w w' ws:World}{l:List FV}{may:Nat→Prop}(h:SegX w l ws)(ho:Only may w w')(m:∀k,may k→∃t,Typed w t k∧t≠96∧t≠123):SegX w' l ws:=
 ⟨h.vec,Mo h.only ho (fun k b=>.inr (m k b)),fun f j=>⟨bF (h.own f j).row ho (fun k b hv=>by
  obtain⟨t,n,_,h2⟩:=m k hv;exact n.ne (aR (h.own f j).row b) h2 rfl),(h.own f j).words⟩,h.dis⟩
theorem SegX.below{w w' ws:World}{l:List FV}(h:SegX w l ws)(b:Below w.heap.size w w'):SegX w' l ws:=h.keep (may:=fun _=>False) (Only.of_below b) (fun _ h=>h.elim)
theorem SegX.one{w w' ws:World}{l:List FV}{b:Nat}{t:TypeId}(h:SegX w l ws)(ho:Only (fun k=>k=b) w w')(m:Typed w t b)(h1:t≠96∧t≠123):SegX w' l ws:=h.keep ho (fun k j=>⟨t,by rw[j];exact m,h1⟩)
def GF (w:World) (base:Nat) (pt:Pt) (l:List FV):Prop:=
 match pt with
 | .segs _ _ _ _=>∃ws,SegX w l ws∧base≤ws.heap.size
 | .fin=>True
 | _=>lN l
structure FZ (w:World) (base r:Nat) (lm:cD) (er:Value) (s:WS) (left fr:Int) (st:St) (wb:World) (p ri:Nat) (kv:Value) (m c:Nat) (l:List FV):Prop where
 out:OutW wb base r lm er s (qR 237 p) kv m c l
 bp:base≤p
 tp:Typed wb 240 p
 only:Only (fun b=>b=p) wb w
 cell:w.heap[p]?=some (.cells #[.int .u64 left,.int .i64 fr,.pointer (some ⟨ri,0,none⟩)] 240 (0,0))
 wl:aL left∧0<left
 fr0:0≤fr
 inner:MemF w wb.heap.size ri lm (st.ph.fn ri) .nilIface st
 bw:base≤wb.heap.size
 ni:lN l
def MemW (w:World) (base r:Nat) (lm:cD) (er:Value) (s:WS):Prop:=
 match s.pt with
 | .vecs left fr (some st)=>∃wb p ri kv m c l,FZ w base r lm er s left fr st wb p ri kv m c l
 | pt=>∃pv kv m c l,OutW w base r lm er s pv kv m c l∧OC w base pt pv∧GF w base pt l
structure TakeP (lm:cD) (base r:Nat) (o:Except (Int×Int) WS) (w:World) (e:Ending) (w':World):Prop where
 below:Below base w w'
 bad:∀c a,o=.error (c,a)→e=.returned (.iface 107 (.agg #[.int .i64 c,.int .i64 a]))∧∃pv kv m c',RdW w' r lm pv kv m c' .nilIface
 good:∀s',o=.ok s'→e=.returned .nilIface∧MemW w' base r lm .nilIface s'
def AD (c:Int):Value:=.int .i64 c
theorem By(x limit rest:Int)(w:World)(A:aL x)(B:-9223372036854775808≤limit∧limit≤9223372036854775807)(C:-9223372036854775808≤rest∧rest≤9223372036854775807) :
  Calls prog 154 #[.int .u64 x,.int .i64 limit,.int .i64 rest] w fun e w'=>e=.returned (AD (bS x limit rest))∧w=w':=by
 have n:AD 7=.int .i64 7:=rfl;have l:AD 5=.int .i64 5:=rfl;have m:AD 0=.int .i64 0:=rfl;obtain⟨b,j⟩:=A;obtain⟨z,u⟩:=B;obtain⟨r,p⟩:=C;unfold bS;by_cases a1:0≤limit
 ·rw[show max limit 0=limit by omega];have y:=w64 a1 u;have a2:¬limit<0:=aA;by_cases h1:limit<x
  ·rw[if_pos h1,n];clear b j r p n l m;go_enter func154,ntmps154;go_wp2
   all_goals go_ret
   all_goals exact⟨rfl,rfl⟩
  rw[if_neg h1];by_cases b1:0≤rest
  ·rw[show max rest 0=rest by omega];have s:=w64 b1 p;have b2:¬rest<0:=aA;by_cases h2:rest<x
   ·rw[if_pos h2,l];clear b j n l m;go_enter func154,ntmps154;go_wp2
    all_goals go_ret
    all_goals exact⟨rfl,rfl⟩
   rw[if_neg h2,m];clear b j n l m;go_enter func154,ntmps154;go_wp2
   all_goals go_ret
   all_goals exact⟨rfl,rfl⟩
  rw[show max rest 0=0 by omega];have b2:rest<0:=aA;have s:IntKind.u64.wrap 0=0:=aB;by_cases h2:0<x
  ·rw[if_pos h2,l];clear b j n l m;go_enter func154,ntmps154;go_wp2
   all_goals go_ret
   all_goals exact⟨rfl,rfl⟩
  rw[if_neg h2,m];clear b j n l m;go_enter func154,ntmps154;go_wp2
  all_goals go_ret
  all_goals exact⟨rfl,rfl⟩
 rw[show max limit 0=0 by omega];have a2:limit<0:=aA;have y:IntKind.u64.wrap 0=0:=aB;by_cases h1:0<x
 ·rw[if_pos h1,n];clear b j r p n l m;go_enter func154,ntmps154;go_wp2
  all_goals go_ret
  all_goals exact⟨rfl,rfl⟩
 rw[if_neg h1];by_cases b1:0≤rest
 ·rw[show max rest 0=rest by omega];have s:=w64 b1 p;have b2:¬rest<0:=aA;by_cases h2:rest<x
  ·rw[if_pos h2,l];clear b j n l m;go_enter func154,ntmps154;go_wp2
   all_goals go_ret
   all_goals exact⟨rfl,rfl⟩
  rw[if_neg h2,m];clear b j n l m;go_enter func154,ntmps154;go_wp2
  all_goals go_ret
  all_goals exact⟨rfl,rfl⟩
 rw[show max rest 0=0 by omega];have b2:rest<0:=aA;have s:IntKind.u64.wrap 0=0:=aB;by_cases h2:0<x
 ·rw[if_pos h2,l];clear b j n l m;exact absurd h2 h1
 rw[if_neg h2,m];clear b j n l m;go_enter func154,ntmps154;go_wp2
 all_goals go_ret
 all_goals exact⟨rfl,rfl⟩
theorem UsedR.len{w:World}{m:Nat}{us:List Nat}(h:UsedR w m us)(b:TypeId):(Builtin.len_ #[156] b #[.map (some m)]).run prog w=.ok (.int .i64 (us.length:Nat)) w:=by
 obtain⟨D,h,_,_,hs⟩:=h.own;rw[h.len underlying156 b,hs]
theorem DF{w:World}{base r:Nat}{lm:cD}{n:Value}{s:WS}{b p:Value}{m c:Nat}{l:List FV}(h:OutW w base r lm n s b p m c l)(j:b=gF 168):MemW w base r lm n { s with pt:=.fin }:=
 ⟨b,p,m,c,l,⟨h.br,h.rd,h.row,h.frags,h.used,h.cur,h.bm,h.bc⟩,j,trivial⟩
theorem wF(lm:cD)(base r:Nat)(s:WS)(Z kv:Value)(m c:Nat)(l:List FV)(next rest:Int)(w:World)(h:OutW w base r lm .nilIface s Z kv m c l) :
  Calls prog 156 #[.pointer (some ⟨r,0,none⟩),.int .i64 next,.int .i64 rest] w fun e w'=>TakeP lm base r (eH s next rest) w e w':=by
 have H:prog.follows .mixedOrders=true:=aC;obtain⟨Q,R,L,_⟩:=aY h.row.row;subst L;have D:s.k.length=l.length:=by rw[← h.frags,PZ]
 obtain⟨w1,z⟩:=aG (w.setCell ⟨r,5,none⟩ (gF 168));have h1:OutW w1 base r lm .nilIface s (gF 168) (.slice Q l.length R) m c l:=by
  rw[← z];have ho:Only (fun b=>b=r) w (w.setCell ⟨r,5,none⟩ (gF 168)):=(Only.refl (fun b=>b=r) w).setCell (p:=⟨r,5,none⟩) (.inl rfl) _;have E:=h.rd.typed;refine⟨h.br,h.rd.s5 _,h.row.only ho (fun k M=>by rw[M];exact⟨E.not aB,E.not aB,E.not aB⟩),h.frags,h.used.only ho (fun k M=>by subst M;exact⟨_,E⟩),h.cur.only ho (fun e=>?_),h.bm,h.bc⟩;have j:=h.cur.typed;rw[e]at j;exact j.ne E aB rfl
 have O:=aI (show Below base w w1 from by
  rw[← z];exact((Only.refl (fun b=>b=r) w).setCell (p:=⟨r,5,none⟩) (.inl rfl) _).below (n:=base) (by have:=h.rd.lt;have:=h.br;omega) (fun b hb=>by have:=h.br;omega))
 have T:=aI (show base≤w1.heap.size from by have h1:=h.rd.lt;have h2:=h.br;have h3:=O.size;omega);have U:=aI h1;have c5:=h.rd.c5;have f5:=h.rd.free 5;have P:=h1.rd.c6;have V:=h1.rd.c7;have F:=aI (fun X (C:Only (fun _=>False) w1 X)=>(h1.used.only C (fun _ h=>h.elim)).len 3);obtain⟨us,A⟩:=aG s.us.length;obtain⟨nk,B⟩:=aG l.length;have u:=aI A;have y:=aI (D.trans B);rw[A]at F;rw[B]at P;clear h h1 D A B;unfold gF at z;go_enter func156,ntmps156;go_wp2_with fail;refine wp_region_held_drew (S:=Only (fun _=>False) w1) H (Only.refl _ _).drew (fun N=>?_);refine aP 0 12 (.pointer (some ⟨r,0,none⟩)) ?_;refine aP 1 13 (.pointer (some ⟨r,0,none⟩)) ?_;refine aP 2 14 (.pointer (some ⟨r,7,none⟩)) ?_;refine dL 3 15 (.map (some m)) ?_ ?_
 ·intro X C;have Y:=C.cell (fun h=>h) V;go_simp
 refine dL 4 16 (.int .i64 (us:Nat)) ?_ ?_
 ·intro X C;have x1:=F.out X C;go_simp
 refine aP 5 17 (.pointer (some ⟨r,0,none⟩)) ?_;refine aP 6 18 (.pointer (some ⟨r,0,none⟩)) ?_;refine aP 7 19 (.pointer (some ⟨r,6,none⟩)) ?_;refine dL 8 20 (.slice Q nk R) ?_ ?_
 ·intro X C;have Y:=C.cell (fun h=>h) P;go_simp
 refine aP 9 21 (.int .i64 (nk:Nat)) ?_;refine aP 10 22 (.bool (decide ((us:Int)<(nk:Int)))) ?_;refine iM ?_;have I:=aI (O.trans (N.below (n:=base) T (fun _ h=>h.elim)));have J:=aI (U.only N (Oth.none _));clear N;by_cases g1:(us:Int)<(nk:Int)
 ·have G:=aI (show eH s next rest=.error (10,next)from by unfold eH;rw[if_pos (by rw[u.out,y.out];omega)]);have K:=aI (fun W=>cU 10 next aB W);rw[decide_eq_true g1];go_wp2_with fail;refine(K _).mono ?_;rintro e w2 ⟨rfl,rfl⟩;go_wp2;go_ret;rw[G.out];exact⟨I,fun c a j=>(by cases j;exact⟨rfl,_,_,_,_,J.rd⟩),fun s' hs=>(by cases hs)⟩
 rw[decide_eq_false g1];by_cases g2:0<rest
 ·have G:=aI (show eH s next rest=.error (11,next)from by unfold eH;rw[if_neg (by rw[u.out,y.out];omega),if_pos g2]);have K:=aI (fun W=>cU 11 next aB W);go_wp2_with fail;refine(K _).mono ?_;rintro e w2 ⟨rfl,rfl⟩;go_wp2;go_ret;rw[G.out];exact⟨I,fun c a j=>(by cases j;exact⟨rfl,_,_,_,_,J.rd⟩),fun s' hs=>(by cases hs)⟩
 have G:=aI (show eH s next rest=.ok { s with pt:=.fin } from by unfold eH;rw[if_neg (by rw[u.out,y.out];omega),if_neg g2]);go_wp2;go_ret;rw[G.out];exact⟨I,fun c a j=>(by cases j),fun s' hs=>(by cases hs;exact⟨rfl,DF J rfl⟩)⟩
theorem Laid.bel{base:Nat}{w w':World}(h:Laid w)(h0:0<base)(b:Below base w w'):Laid w':=(b.cell (p:=⟨0,0,none⟩) h0).trans h
theorem Only.belowN{may:Nat→Prop}{A B C:World}(h:Only may A B)(b:Below A.heap.size B C):Only may A C:=
 ⟨b.os.trans h.os,b.tape.trans h.tape,b.output.trans h.output,QM h.size b.size,fun k j l=>(b.block k j).trans (h.block k j l)⟩
theorem MemF.only{w w':World}{b m:Nat}{lm:cD}{fn n:Value}{st:St}{may:Nat→Prop}(h:MemF w b m lm fn n st)(ho:Only may w w')(p:∀k,may k→∃t,Typed w t k∧t≠343∧t≠96∧t≠123∧t≠234):MemF w' b m lm fn n st:=by
 obtain⟨h0,v,cp,h1,h2⟩:=h;exact⟨h0,v,cp,h1.only ho (fun l=>by obtain⟨t,j,h3,_⟩:=p m l;exact j.ne h1.typed h3 rfl),h2.only ho (fun k l=>by
  obtain⟨t,j,_,h4,r,s⟩:=p k l;exact⟨j.not h4,j.not r,j.not s⟩)⟩
theorem mW{w:World}{p:Nat}(h:Typed w 240 p):Oth w (fun b=>b=p):=Oth.one h aB
theorem vY(w:World):ItT w (.slice none 0 0) []:=⟨none,0,rfl,⟨rfl,aD,aD,fun i hi=>absurd hi aD⟩,QP _,fun _=>rfl,fun ad e=>by cases e⟩
structure MC (s:WS):Prop where
 k:s.k.length≤4000000000
 vec:∀f∈s.k,f.vec.length≤1000000000∧(∀e∈f.vec,e.hs.length≤1000000000)∧(bG f.vec).length≤1000000000
def DI (es:List Ent):Prop:=es.length≤1000000000∧(∀e∈es,e.hs.length≤1000000000)∧(bG es).length≤1000000000
theorem Bc{l:List FV}{k:List Frag}(h:l.map FV.frag=k)(h0:l≠[]):(k.getD (k.length-1) Frag.z).vec=(l.getD (l.length-1) FV.z).vec.map (·.1)∧l.getD (l.length-1) FV.z∈l:=by
 have b:k.length=l.length:=by rw[← h,PZ]
 have j:l.length-1<l.length:=by have:=List.length_pos_iff.2 h0;omega
 rw[b,← h];simp only[PY,QE,PV j,QT,QR];exact⟨rfl,QA _⟩
theorem bZ{P:Program}{b:Array Oper}{rest:List Oper}{o:Oper}{a:Act}{Q:Exit→Act→World→Prop}{w:World}(j:o.guard=none)(s x:Operand)(t l:TypeId)
  (ho:o.op=.call { callee:=.builtin .append,args:=#[s,x],argTypes:=#[t,l] }) {v m n:Value} {w':World} (hs:a.eval s=v) (r:a.eval x=m)
  (u:(Builtin.append_ #[t,l] o.type #[v,m]).run P w=.ok n w') (h:wpList P b Q rest (a.put o.dst n) w'):wpList P b Q (o :: rest) a w:=
 wpList_plain j fun K p=>cV s x t l ho hs r u (p _ _ h)
theorem Mn{w:World}{base r:Nat}{lm:cD}{y:Value}{s:WS}{z B l:Value}{m c:Nat}{l':List FV}(br:base≤r)(rd:RdW w r lm z B m c y)(row:KRow w base l l')(fr:l'.map FV.frag=s.k)(us:UsedR w m s.us)(A:CurW w c s.last s.op)(bm:base≤m)(bc:base≤c) :
  OutW (w.setCell ⟨r,6,none⟩ l) base r lm y s z l m c l':=by
 have ho:Only (fun b=>b=r) w (w.setCell ⟨r,6,none⟩ l):=(Only.refl (fun b=>b=r) w).setCell (p:=⟨r,6,none⟩) (.inl rfl) _;have j:=rd.typed;refine⟨br,rd.s6 _,row.only ho (fun k n=>by rw[n];exact⟨j.not aB,j.not aB,j.not aB⟩),fr,us.only ho (fun k n=>by subst n;exact⟨_,j⟩),A.only ho (fun e=>?_),bm,bc⟩;have u:=A.typed;rw[e]at u;exact u.ne j aB rfl
theorem OutW.part{w:World}{base r:Nat}{lm:cD}{z:Value}{s:WS}{B A:Value}{m c:Nat}{l:List FV}(h:OutW w base r lm z s B A m c l)(j:Value):OutW (w.setCell ⟨r,5,none⟩ j) base r lm z s j A m c l:=by
 have ho:Only (fun b=>b=r) w (w.setCell ⟨r,5,none⟩ j):=(Only.refl (fun b=>b=r) w).setCell (p:=⟨r,5,none⟩) (.inl rfl) _;have n:=h.rd.typed;refine⟨h.br,h.rd.s5 _,h.row.only ho (fun k u=>by rw[u];exact⟨n.not aB,n.not aB,n.not aB⟩),h.frags,h.used.only ho (fun k u=>by subst u;exact⟨_,n⟩),h.cur.only ho (fun e=>?_),h.bm,h.bc⟩;have y:=h.cur.typed;rw[e]at y;exact y.ne n aB rfl
theorem OutW.toS{w:World}{base r:Nat}{lm:cD}{b:Value}{s s':WS}{j n:Value}{m c:Nat}{l:List FV}(h:OutW w base r lm b s j n m c l)(h1:s'.k=s.k)(h2:s'.us=s.us)(h3:s'.last=s.last)(h4:s'.op=s.op):OutW w base r lm b s' j n m c l:=
 ⟨h.br,h.rd,h.row,by rw[h1];exact h.frags,by rw[h2];exact h.used,by rw[h3,h4];exact h.cur,h.bm,h.bc⟩
theorem OutW.ne{w:World}{base r:Nat}{lm:cD}{b:Value}{s:WS}{j n:Value}{m c:Nat}{l:List FV}(h:OutW w base r lm b s j n m c l){p:Nat}{t:TypeId}(u:Typed w t p)(y:t≠162):¬r=p:=fun e=>u.ne h.rd.typed y e.symm
theorem Sh(lm:cD)(C2:uB lm)(base r:Nat)(s:WS)(left fr:Int)(X:St)(x at' rest:Int)(w wb:World)(p ri:Nat)(kv:Value)(m c:Nat)(l:List FV)(hv:FZ w base r lm .nilIface s left fr X wb p ri kv m c l)
  (hI:StI X at') (ha:at'≤4000000000) (hx:aL x) (hr:-9223372036854775808≤rest∧rest≤9223372036854775807) (hg:Laid w) (H4:0<base) (hB:MC s) (F6:∀j,bU lm X x rest=.ok j→DI j.es) :
  Calls prog 155 #[.pointer (some ⟨r,0,none⟩),.pointer (some ⟨p,0,none⟩),.int .u64 x,.int .i64 at',.int .i64 rest] w fun e w'=>TakeP lm base r (fR lm s left fr X x at' rest) w e w':=by
 have H5:prog.follows .mixedOrders=true:=aC;obtain⟨ak,ck,G7,_⟩:=aY hv.out.row.row;subst G7;have KP:=aI (Fl lm C2 wb.heap.size ri X x rest at' w hv.inner hI ha hx hr);have E7:=hv.out.only hv.only (mW hv.tp);have p1:w.cell? ⟨p,1,none⟩=some (.int .i64 fr):=by simp[PS,hv.cell]
 have p2:w.cell? ⟨p,2,none⟩=some (.pointer (some ⟨ri,0,none⟩)):=by simp[PS,hv.cell]
 have n1:¬fr<0:=by have:=hv.fr0;omega
 have HG:=aI hg;have B:=aI hv;have HB:=aI hB;have F7:=aI F6;clear hI hx hr hg hv hB F6 E7;go_enter func155,ntmps155;go_wp2_with fail;refine KP.mono ?_;rintro e w3 hP;have A1:Below base w w3:=hP.below.mono B.bw;have B3:=aI A1;have H6:=aI hP.below;have G3:=aI (HG.bel H4 A1);have F8:=aI (B.only.belowN hP.below);have O3:=aI (B.out.out.only (B.only.belowN hP.below) (mW B.tp));have C3:=aI ((hP.below.block p (by obtain⟨cs,L⟩:=B.tp;exact aO L)).trans B.cell)
 cases hst:bU lm X x rest with
 | error cc=>
   rw[hst]at hP;obtain⟨rfl,_⟩:=hP.bad cc rfl;have E1:=aI (show fR lm s left fr X x at' rest=.error (cc,at')from by unfold fR;rw[hst]);have E8:cc≠0:=by have:=wP hst;omega
   have KC:=aI (Xg cc w3 G3);have KF:=aI (fun W=>cU cc at' E8 W);clear hP hst E8 A1 p1 p2;go_wp2_with fail;refine KC.mono ?_;rintro e w4 ⟨rfl,N⟩;have B4:=aI N;clear N;go_wp2_with fail;refine(KF _).mono ?_;rintro e w5 ⟨rfl,rfl⟩;go_wp2;go_ret;rw[E1.out];exact⟨B3.trans (below_of B4 (by have:=B3.size;have:=O3.rd.lt;have:=O3.br;omega)),fun c a L=>(by cases L;exact⟨rfl,_,_,_,_,(O3.below B4).rd⟩),fun s' hs=>(by cases hs)⟩
 | ok j=>
   rw[hst]at hP;obtain⟨rfl,hM⟩:=hP.good j rfl;have M3:=aI hM
   cases hf:j.ph.isFin with
   | false=>
     have E1:=aI (show fR lm s left fr X x at' rest=.ok { s with pt:=.vecs left fr (some j) } from by unfold fR;rw[hst];simp[hf]);clear hP hM hst hf A1 p1 p2;go_wp2;go_ret;rw[E1.out];refine⟨B3,fun c a L=>(by cases L),fun s' hs=>(by cases hs;exact⟨rfl,wb,p,ri,_,m,c,l,⟨⟨B.out.out.br,B.out.out.rd,B.out.out.row,B.out.out.frags,B.out.out.used,B.out.out.cur,B.out.out.bm,B.out.out.bc⟩,B.bp,B.tp,F8,C3,B.wl,B.fr0,M3,B.bw,B.ni⟩⟩)⟩
   | true=>
     obtain⟨H8,vv,cp,hR,E0⟩:=hM;have E9:=Ds hf;rw[Dq ri hf]at hR;have KV:=aI (wJ lm ri vv cp _ _ w3 hR);unfold Parts at E0;rw[E9]at E0;obtain⟨U,G8,A8⟩:=E0;have C6:=aI (F7 j hst);have C7:=aI hst;have HF:=aI hf;have Y:=aI G8;have F9:=aI A8;have q2:w3.cell? ⟨p,2,none⟩=some (.pointer (some ⟨ri,0,none⟩)):=by simp[PS,C3.out]
     obtain⟨O,P,G9,_⟩:=A8.vecAt;subst G9;clear hP hR A8 hst hf A1 p1 p2 E9;go_wp2_with fail;refine KV.mono ?_;rintro e w4 ⟨rfl,N⟩;have B4:=aI (B3.trans (below_of N (by have:=B3.size;have:=O3.rd.lt;have:=O3.br;omega)));have C:=aI (O3.below N);have C4:=aI ((N.block p (aO C3)).trans C3);have R4:=aI ((F9.only (may:=fun _=>False) (Only.of_below N) (fun _ h=>h.elim)));have c6:=C.rd.c6;have A2:=aI (show s.k.length=l.length from by rw[← C.frags,PZ]);obtain⟨nk,E3⟩:=aG l.length;have y:=aI E3;obtain⟨nv,E4⟩:=aG U.length;have G0:=aI E4;rw[E3]at c6;rw[E4]at R4 ⊢;clear N q2 E3 E4;by_cases hk0:nk=0
     ·subst hk0;have E1:=aI (show fR lm s left fr X x at' rest=.ok { s with k:=s.k ++ [⟨[],j.es⟩],pt:=if left-1=0 then .mid else .vecs (left-1) (-1) none } from by
       unfold fR;rw[C7.out];have:s.k=[]:=List.length_eq_zero_iff.1 (by rw[A2.out,y.out]);simp[HF.out,this])
      have g8:FragT w4 ⟨[],.slice none 0 0,U,.slice O nv P⟩:=⟨vY _,R4.base (QN _)⟩;have KA:=KRow.app (vb:=w4.heap.size) (g:=⟨[],.slice none 0 0,U,.slice O nv P⟩) (C.row.below (aJ (PI w4.heap.size w4) (.cells #[.slice none 0 0,.slice O nv P] 80))) (g8.below (aJ (PI _ _) _)) (aK _ _ rfl) (by rw[← A2.out];have:=HB.k;omega) (by have:=C.rd.lt;have:=C.br;simp;omega) 23;rw[y.out]at KA;obtain⟨v',F,I,M,A9⟩:=KA;obtain⟨a7,c7,e7,_⟩:=aY M.row;subst e7;obtain⟨n7,B0⟩:=aG ((l ++ [(⟨[],.slice none 0 0,U,.slice O nv P⟩:FV)]).length);rw[B0]at M I;have C8:=aI M;have D:=(Only.refl (fun b=>(PQ ak 0 ck).ownBlock=some b) w4).alloc (.cells #[.slice none 0 0,.slice O nv P] 80) |>.trans (A9.wide (fun b V=>V));have u:∀k,(PQ ak 0 ck).ownBlock=some k→Typed w4 80 k:=fun k J=>aR C.row.row (by rw[y.out];exact J);have A:RdW F r lm (qR 237 p) (.slice ak 0 ck) m c .nilIface:=by
       have:=C.rd;rw[y.out]at this;exact this.only D (fun J=>(u _ J).ne C.rd.typed aB rfl)
      have A3:=C.used.only D (fun k J=>⟨_,u k J⟩);have A4:=C.cur.only D (fun J=>(u _ J).ne C.cur.typed aB rfl);have E:=D.obj (fun J=>(u _ J).ne (show Typed w4 240 p from⟨_,C4⟩) aB rfl) C4;have C9:base≤w4.heap.size:=by have:=C.rd.lt;have:=C.br;omega
      have B7:=aI (B4.trans (D.below (n:=base) C9 (fun k J=>(C.row.row.lt k (by rw[y.out];exact J)).1)));have D0:=aI A;have D1:=aI A3;have D2:=aI A4;have A5:=aI E;have D3:¬r=p:=C.ne (show Typed w4 240 p from⟨_,C4⟩) aB;have D4:¬p=r:=fun e=>D3 e.symm;have k6:=A.c6;have k5:=A.c5;have z6:=A.free 6;have z5:=A.free 5;have y0:F.cell? ⟨p,0,none⟩=some (.int .u64 left):=by simp[PS,E]
      have y1:F.cell? ⟨p,1,none⟩=some (.int .i64 fr):=by simp[PS,E]
      have x0:F.frozen? ⟨p,0,none⟩=false:=frozen_of_row _ _ 0 _ _ E;have x1:F.frozen? ⟨p,1,none⟩=false:=frozen_of_row _ _ 1 _ _ E;have S7:=aI (show base≤F.heap.size from by have:=A.lt;have:=C.br;omega);clear B0 g8 M A9 D u A A3 A4 E;have G:=B.wl;have D5:=aI (show({ s with k:=s.k ++ [⟨[],j.es⟩] }:WS).k=(l ++ [(⟨[],.slice none 0 0,U,.slice O nv P⟩:FV)]).map FV.frag from by
       show s.k ++ [⟨[],j.es⟩]=_;rw[QF,C.frags,← Y.out];rfl)
      have A6:=aI (show lN (l ++ [(⟨[],.slice none 0 0,U,.slice O nv P⟩:FV)])from fun f hf=>(List.mem_append.1 hf).elim (fun h=>B.ni f h) (fun h=>by
       obtain rfl:f=⟨[],.slice none 0 0,U,.slice O nv P⟩:=by simpa using h
       exact⟨rfl,rfl⟩))
      have F0:=aI (show Typed F 240 p from⟨_,A5⟩);have W8:=aI (Mn (s:={ s with k:=s.k ++ [⟨[],j.es⟩] }) C.br D0 C8 D5.symm D1 D2 C.bm C.bc);have o8:Only (fun b=>b=r) F (F.setCell ⟨r,6,none⟩ (.slice a7 n7 c7)):=(Only.refl (fun b=>b=r) F).setCell (p:=⟨r,6,none⟩) (.inl rfl) _;have A7:=aI (o8.obj D4 A5);have B8:=aI (B7.trans (o8.below (n:=base) S7 (fun b V=>by rw[V];exact C.br)));have Q:base≤(F.setCell ⟨r,6,none⟩ (.slice a7 n7 c7)).heap.size:=QM S7 o8.size;have o9:Only (fun b=>b=p) (F.setCell ⟨r,6,none⟩ (.slice a7 n7 c7)) (((F.setCell ⟨r,6,none⟩ (.slice a7 n7 c7)).setCell ⟨p,1,none⟩ (.int .i64 (-1))).setCell ⟨p,0,none⟩ (.int .u64 (left-1))):=((Only.refl (fun b=>b=p) _).setCell (p:=⟨p,1,none⟩) (.inl rfl) _).setCell (p:=⟨p,0,none⟩) (.inl rfl) _;have W9:=aI (W8.only o9 (mW ⟨_,A7⟩));have D6:=aI (heap_setCell_same _ _ 0 _ _ (.int .u64 (left-1)) (heap_setCell_same _ _ 1 _ _ (.int .i64 (-1)) A7));have B9:=aI (B8.trans (o9.below (n:=base) Q (fun b V=>by rw[V];exact B.bp)));have D7:=aI (QM Q o9.size);clear o8 o9 Q;by_cases hl1:left-1=0
      ·obtain rfl:left=1:=aA;have E2:=aI (show fR lm s 1 fr X x at' rest=.ok { s with k:=s.k ++ [⟨[],j.es⟩],pt:=.mid } from by rw[E1.out];rfl);have G1:IntKind.u64.wrap (1-1)=0:=aB;have R:=W9.out;have S:=B9.out;have H:=D7.out;simp only[show(1:Int)-1=0 from rfl]at R S H;have T:=aI ((R.part (gF 241)).toS (s':={ s with k:=s.k ++ [⟨[],j.es⟩],pt:=.mid }) rfl rfl rfl rfl);have D8:=aI (S.trans (((Only.refl (fun b=>b=r) _).setCell (p:=⟨r,5,none⟩) (.inl rfl) (gF 241)).below (n:=base) H (fun b V=>by rw[V];exact C.br)));clear R S H;go_wp2_with(at_builtin;go_loud(refine bZ rfl _ _ _ _ rfl rfl rfl I ?_));go_ret;rw[E2.out];exact⟨D8,fun c a L=>(by cases L),fun s' hs=>(by cases hs;exact⟨rfl,_,_,_,_,_,T,rfl,A6⟩)⟩
      have E2:=aI (show fR lm s left fr X x at' rest=.ok { s with k:=s.k ++ [⟨[],j.es⟩],pt:=.vecs (left-1) (-1) none } from by rw[E1.out,if_neg hl1]);have G2:IntKind.u64.wrap (left-1)=left-1:=bA ⟨by have:=G.2;omega,by have:=G.1.2;omega⟩;have G4:((left-1) == 0)=false:=by simpa using hl1
      have T:=aI (W9.toS (s':={ s with k:=s.k ++ [⟨[],j.es⟩],pt:=.vecs (left-1) (-1) none }) rfl rfl rfl rfl);go_wp2_with(at_builtin;go_loud(refine bZ rfl _ _ _ _ rfl rfl rfl I ?_));go_ret;rw[E2.out];exact⟨B9,fun c a L=>(by cases L),fun s' hs=>(by cases hs;exact⟨rfl,_,_,_,_,_,T,⟨⟨⟨by have:=G.2;omega,by have:=G.1.2;omega⟩,by have:=G.2;omega⟩,p,_,rfl,B.bp,D6⟩,A6⟩)⟩
     have D9:l≠[]:=fun e=>hk0 (by rw[← y.out,e];rfl);obtain⟨A0,C2⟩:=Bc C.frags D9;have G5:=C.row.know;obtain⟨H9,I0,H0,E5,_⟩:=G5;injection H0 with e1 e2 e3;subst e1;clear e2 e3;obtain⟨g,B1,eg,H1,H2,B2⟩:=E5.cells (l.length-1) (by rw[y.out];omega);subst eg;have C0:=E5.frags _ C2;rw[y.out]at B2 A0 C0;have Z:=HB.vec (s.k.getD (s.k.length-1) Frag.z) (by
      rw[← C.frags];have hp:l.length-1<l.length:=by have:=List.length_pos_iff.2 D9;omega
      rw[PZ,PY,QE,PV hp,QT,QR];exact List.mem_map.2 ⟨_,QA _,rfl⟩)
     have H7:=aI A0;rw[A0]at Z;obtain⟨q,eq⟩:=aG (l.getD (nk-1) FV.z);rw[eq]at B2 C0 Z A0;obtain⟨qa,qc,qv,F3,_⟩:=C0.vec;rw[qv]at B2;obtain⟨I1,I2,H3,F4,_⟩:=R4.vecAt;injection H3 with e1 e2 e3;subst e1;clear e2 e3;have C1:=aI (mX qa O q.vec.length qc U.length P q.vec U w4 F3.at' F4.at' (fun p hp=>QM (Z.2.1 _ (List.mem_map.2 ⟨p,hp,rfl⟩)) aB) (fun p hp=>QM (C6.2.1 _ (by rw[← Y.out];exact List.mem_map.2 ⟨p,hp,rfl⟩)) aB) (by have:=Z.1;rw[PZ]at this;omega) (by have:=C6.1;rw[← Y.out,PZ]at this;omega) (QM Z.2.2 aB) (by rw[Y.out];exact QM C6.2.2 aB));rw[G0.out,Y.out,A0.symm]at C1;obtain⟨qn,F5⟩:=aG q.vec.length;rw[F5]at B2 C1;obtain⟨cm,E6⟩:=aG (cQ (bG (s.k.getD (s.k.length-1) Frag.z).vec) (bG j.es));have F1:=aI E6;rw[E6]at C1;have q3:IntKind.i64.wrap ((nk:Int)-1)=(nk:Int)-1:=PH _ (by have:=A2.out;have:=HB.k;have:=y.out;omega);have q4:((nk:Int)-1).toNat=nk-1:=aA;have q5:(0:Int)≤(nk:Int)-1:=aA;have q6:(nk:Int)-1<(nk:Int):=aA;have q7:(0:Int)<(nk:Int):=aA;have F2:=aI (show s.k≠[] from fun e=>hk0 (by rw[← y.out,← A2.out,e];rfl));clear D9 A0 C2 E5 H1 H2 C0 Z eq F3 F4 F5 E6;go_wp2_with fail;refine C1.mono ?_;rintro e w5 ⟨rfl,B6⟩;have B5:=aI (B4.trans (below_of B6 (by have:=C.rd.lt;have:=C.br;omega)));have K:=aI (C.below B6);have C5:=aI ((B6.block p (aO C4)).trans C4);have R5:=aI ((R4.only (may:=fun _=>False) (Only.of_below B6) (fun _ h=>h.elim)));have G6:=K.rd.c6;rw[y.out]at G6;have y1:w5.cell? ⟨p,1,none⟩=some (.int .i64 fr):=by simp[PS,C5.out]
     clear B6 q3 q4 q5 q6 B2 c6;by_cases L:0≤cm
     ·have E1:=aI (show fR lm s left fr X x at' rest=.error (3,fr)from by
       unfold fR;rw[C7.out];simp only[HF.out,if_true];rw[if_pos ⟨F2.out,by rw[F1.out];exact L⟩])
      have KF:=aI (fun W=>cU 3 fr aB W);have dc:decide (0≤cm)=true:=decide_eq_true L;go_wp2_with fail;refine(KF _).mono ?_;rintro e w6 ⟨rfl,rfl⟩;go_wp2;go_ret;rw[E1.out];exact⟨B5,fun c a L=>(by cases L;exact⟨rfl,_,_,_,_,K.rd⟩),fun s' hs=>(by cases hs)⟩
     have E1:=aI (show fR lm s left fr X x at' rest=.ok { s with k:=s.k ++ [⟨[],j.es⟩],pt:=if left-1=0 then .mid else .vecs (left-1) (-1) none } from by
      unfold fR;rw[C7.out];simp only[HF.out,if_true];rw[if_neg (fun h=>L (by have:=h.2;rw[F1.out]at this;exact this))])
     have dc:decide (0≤cm)=false:=decide_eq_false L;clear y1;have g8:FragT w5 ⟨[],.slice none 0 0,U,.slice O nv P⟩:=⟨vY _,R5.base (QN _)⟩;have KA:=KRow.app (vb:=w5.heap.size) (g:=⟨[],.slice none 0 0,U,.slice O nv P⟩) (K.row.below (aJ (PI w5.heap.size w5) (.cells #[.slice none 0 0,.slice O nv P] 80))) (g8.below (aJ (PI _ _) _)) (aK _ _ rfl) (by rw[← A2.out];have:=HB.k;omega) (by have:=K.rd.lt;have:=K.br;simp;omega) 23;rw[y.out]at KA;obtain⟨v',F,I,M,A9⟩:=KA;obtain⟨a7,c7,e7,_⟩:=aY M.row;subst e7;obtain⟨n7,B0⟩:=aG ((l ++ [(⟨[],.slice none 0 0,U,.slice O nv P⟩:FV)]).length);rw[B0]at M I;have C8:=aI M;have D:=(Only.refl (fun b=>(PQ (some ⟨g,B1,none⟩) nk ck).ownBlock=some b) w5).alloc (.cells #[.slice none 0 0,.slice O nv P] 80) |>.trans (A9.wide (fun b V=>V));have u:∀k,(PQ (some ⟨g,B1,none⟩) nk ck).ownBlock=some k→Typed w5 80 k:=fun k J=>aR K.row.row (by rw[y.out];exact J);have A:RdW F r lm (qR 237 p) (.slice (some ⟨g,B1,none⟩) nk ck) m c .nilIface:=by
      have:=K.rd;rw[y.out]at this;exact this.only D (fun J=>(u _ J).ne K.rd.typed aB rfl)
     have A3:=K.used.only D (fun k J=>⟨_,u k J⟩);have A4:=K.cur.only D (fun J=>(u _ J).ne K.cur.typed aB rfl);have E:=D.obj (fun J=>(u _ J).ne (show Typed w5 240 p from⟨_,C5⟩) aB rfl) C5;have C9:base≤w5.heap.size:=by have:=K.rd.lt;have:=K.br;omega
     have B7:=aI (B5.trans (D.below (n:=base) C9 (fun k J=>(K.row.row.lt k (by rw[y.out];exact J)).1)));have D0:=aI A;have D1:=aI A3;have D2:=aI A4;have A5:=aI E;have D3:¬r=p:=K.ne (show Typed w5 240 p from⟨_,C5⟩) aB;have D4:¬p=r:=fun e=>D3 e.symm;have k6:=A.c6;have k5:=A.c5;have z6:=A.free 6;have z5:=A.free 5;have y0:F.cell? ⟨p,0,none⟩=some (.int .u64 left):=by simp[PS,E]
     have y1:F.cell? ⟨p,1,none⟩=some (.int .i64 fr):=by simp[PS,E]
     have x0:F.frozen? ⟨p,0,none⟩=false:=frozen_of_row _ _ 0 _ _ E;have x1:F.frozen? ⟨p,1,none⟩=false:=frozen_of_row _ _ 1 _ _ E;have S7:=aI (show base≤F.heap.size from by have:=A.lt;have:=K.br;omega);clear B0 g8 M A9 D u A A3 A4 E;have G:=B.wl;have D5:=aI (show({ s with k:=s.k ++ [⟨[],j.es⟩] }:WS).k=(l ++ [(⟨[],.slice none 0 0,U,.slice O nv P⟩:FV)]).map FV.frag from by
      show s.k ++ [⟨[],j.es⟩]=_;rw[QF,K.frags,← Y.out];rfl)
     have A6:=aI (show lN (l ++ [(⟨[],.slice none 0 0,U,.slice O nv P⟩:FV)])from fun f hf=>(List.mem_append.1 hf).elim (fun h=>B.ni f h) (fun h=>by
      obtain rfl:f=⟨[],.slice none 0 0,U,.slice O nv P⟩:=by simpa using h
      exact⟨rfl,rfl⟩))
     have F0:=aI (show Typed F 240 p from⟨_,A5⟩);have W8:=aI (Mn (s:={ s with k:=s.k ++ [⟨[],j.es⟩] }) K.br D0 C8 D5.symm D1 D2 K.bm K.bc);have o8:Only (fun b=>b=r) F (F.setCell ⟨r,6,none⟩ (.slice a7 n7 c7)):=(Only.refl (fun b=>b=r) F).setCell (p:=⟨r,6,none⟩) (.inl rfl) _;have A7:=aI (o8.obj D4 A5);have B8:=aI (B7.trans (o8.below (n:=base) S7 (fun b V=>by rw[V];exact K.br)));have Q:base≤(F.setCell ⟨r,6,none⟩ (.slice a7 n7 c7)).heap.size:=QM S7 o8.size;have o9:Only (fun b=>b=p) (F.setCell ⟨r,6,none⟩ (.slice a7 n7 c7)) (((F.setCell ⟨r,6,none⟩ (.slice a7 n7 c7)).setCell ⟨p,1,none⟩ (.int .i64 (-1))).setCell ⟨p,0,none⟩ (.int .u64 (left-1))):=((Only.refl (fun b=>b=p) _).setCell (p:=⟨p,1,none⟩) (.inl rfl) _).setCell (p:=⟨p,0,none⟩) (.inl rfl) _;have W9:=aI (W8.only o9 (mW ⟨_,A7⟩));have D6:=aI (heap_setCell_same _ _ 0 _ _ (.int .u64 (left-1)) (heap_setCell_same _ _ 1 _ _ (.int .i64 (-1)) A7));have B9:=aI (B8.trans (o9.below (n:=base) Q (fun b V=>by rw[V];exact B.bp)));have D7:=aI (QM Q o9.size);clear o8 o9 Q;by_cases hl1:left-1=0
     ·obtain rfl:left=1:=aA;have E2:=aI (show fR lm s 1 fr X x at' rest=.ok { s with k:=s.k ++ [⟨[],j.es⟩],pt:=.mid } from by rw[E1.out];rfl);have G1:IntKind.u64.wrap (1-1)=0:=aB;have R:=W9.out;have S:=B9.out;have H:=D7.out;simp only[show(1:Int)-1=0 from rfl]at R S H;have T:=aI ((R.part (gF 241)).toS (s':={ s with k:=s.k ++ [⟨[],j.es⟩],pt:=.mid }) rfl rfl rfl rfl);have D8:=aI (S.trans (((Only.refl (fun b=>b=r) _).setCell (p:=⟨r,5,none⟩) (.inl rfl) (gF 241)).below (n:=base) H (fun b V=>by rw[V];exact K.br)));clear R S H;go_wp2_with(at_builtin;go_loud(refine bZ rfl _ _ _ _ rfl rfl rfl I ?_));go_ret;rw[E2.out];exact⟨D8,fun c a L=>(by cases L),fun s' hs=>(by cases hs;exact⟨rfl,_,_,_,_,_,T,rfl,A6⟩)⟩
     have E2:=aI (show fR lm s left fr X x at' rest=.ok { s with k:=s.k ++ [⟨[],j.es⟩],pt:=.vecs (left-1) (-1) none } from by rw[E1.out,if_neg hl1]);have G2:IntKind.u64.wrap (left-1)=left-1:=bA ⟨by have:=G.2;omega,by have:=G.1.2;omega⟩;have G4:((left-1) == 0)=false:=by simpa using hl1
     have T:=aI (W9.toS (s':={ s with k:=s.k ++ [⟨[],j.es⟩],pt:=.vecs (left-1) (-1) none }) rfl rfl rfl rfl);go_wp2_with(at_builtin;go_loud(refine bZ rfl _ _ _ _ rfl rfl rfl I ?_));go_ret;rw[E2.out];exact⟨B9,fun c a L=>(by cases L),fun s' hs=>(by cases hs;exact⟨rfl,_,_,_,_,_,T,⟨⟨⟨by have:=G.2;omega,by have:=G.1.2;omega⟩,by have:=G.2;omega⟩,p,_,rfl,B.bp,D6⟩,A6⟩)⟩
theorem Jf(lm:cD)(C2:uB lm)(base r:Nat)(s:WS)(left x at' rest:Int)(w:World)(p:Nat)(ip:Option Addr)(kv:Value)(m c:Nat)(l:List FV)(hv:OutW w base r lm .nilIface s (qR 237 p) kv m c l)(bp:base≤p)(wl:aL left∧0<left)(I7:lN l)
  (hp:w.heap[p]?=some (.cells #[.int .u64 left,.int .i64 (-1),.pointer ip] 240 (0,0)))
  (h0:0≤at') (ha:at'≤4000000000) (hx:aL x) (hr:-9223372036854775808≤rest∧rest≤9223372036854775807) (hg:Laid w) (I8:0<base) (hB:MC s) (G5:∀j,bU lm tZ x rest=.ok j→DI j.es) :
  Calls prog 155 #[.pointer (some ⟨r,0,none⟩),.pointer (some ⟨p,0,none⟩),.int .u64 x,.int .i64 at',.int .i64 rest] w fun e w'=>TakeP lm base r (fR lm s left at' tZ x at' rest) w e w':=by
 have I9:prog.follows .mixedOrders=true:=aC;obtain⟨ak,ck,H9,_⟩:=aY hv.row.row;subst H9;have G6:=aI (Rw lm w.heap.size w (QP _));have p0:w.cell? ⟨p,0,none⟩=some (.int .u64 left):=by simp[PS,hp]
 have p1:w.cell? ⟨p,1,none⟩=some (.int .i64 (-1)):=by simp[PS,hp]
 have d0:w.cell? ⟨r,0,none⟩=some (.int .i64 lm.f):=by simp[PS,show w.heap[r]?=_ from hv.rd]
 have d1:=hv.rd.c1;have d2:w.cell? ⟨r,2,none⟩=some (.int .i64 lm.en):=by simp[PS,show w.heap[r]?=_ from hv.rd]
 have d3:w.cell? ⟨r,3,none⟩=some (.int .i64 lm.ho):=by simp[PS,show w.heap[r]?=_ from hv.rd]
 have d4:=hv.rd.c4;have HG:=aI hg;have C6:=aI hv;have C7:=aI hp;have HB:=aI hB;have G7:=aI G5;have HX:=aI (PC h0 (PC ha (PC hx hr)));clear hr hg hv hB G5 hp h0 ha hx;go_enter func155,ntmps155;go_wp2_with fail;refine G6.mono ?_;rintro e w1 ⟨ri,rfl,I0,G0,E7⟩;have q1:=(E7.block p (aO C7)).trans C7;have G8:w1.cell? ⟨p,0,none⟩=some (.int .u64 left):=by simp[PS,q1]
 have G9:w1.cell? ⟨p,1,none⟩=some (.int .i64 (-1)):=by simp[PS,q1]
 have H0:w1.cell? ⟨p,2,none⟩=some (.pointer ip):=by simp[PS,q1]
 have z1:w1.frozen? ⟨p,1,none⟩=false:=frozen_of_row _ _ 1 _ _ q1;have z2:w1.frozen? ⟨p,2,none⟩=false:=frozen_of_row _ _ 2 _ _ q1;obtain⟨w2,E8⟩:=aG ((w1.setCell ⟨p,1,none⟩ (.int .i64 at')).setCell ⟨p,2,none⟩ (.pointer (some ⟨ri,0,none⟩)));have q2:w2.heap[p]?=some (.cells #[.int .u64 left,.int .i64 at',.pointer (some ⟨ri,0,none⟩)] 240 (0,0)):=by
  rw[← E8];exact heap_setCell_same _ _ 2 _ _ _ (heap_setCell_same _ _ 1 _ _ _ q1)
 have C8:Only (fun b=>b=p) w1 w2:=by
  rw[← E8];exact((Only.refl (fun b=>b=p) w1).setCell (p:=⟨p,1,none⟩) (.inl rfl) _).setCell (p:=⟨p,2,none⟩) (.inl rfl) _
 have C9:Only (fun b=>b=p) w w2:=(Only.of_below E7).trans C8;have F4:Typed w 240 p:=⟨_,C7⟩;have D0:base≤w.heap.size:=by have:=C6.rd.lt;have:=C6.br;omega
 have hv:FZ w2 base r lm .nilIface s left at' tZ w p ri (.slice ak l.length ck) m c l:=⟨C6,bp,F4,C9,q2,wl,HX.1,G0.only C8 (fun k G=>⟨240,by rw[G];exact⟨_,q1⟩,aB,aB,aB,aB⟩),D0,I7⟩;have B2:=aI (show Below base w w2 from C9.below D0 (fun b Q=>by rw[Q];exact bp));have KP:=aI (Fl lm C2 w.heap.size ri tZ x rest at' w2 hv.inner (BP at' HX.1) HX.2.1 HX.2.2.1 HX.2.2.2);have p2:w2.cell? ⟨p,2,none⟩=some (.pointer (some ⟨ri,0,none⟩)):=by simp[PS,q2]
 have B:=aI hv;clear hv q2 C8 C9 F4 q1 G0 E7 I0 p0 p1 d0 d1 d2 d3 d4 D0;go_wp2_with fail;clear E8 G8 G9 H0 z1 z2;refine KP.mono ?_;rintro e w3 hP;have A0:Below base w w3:=B2.trans (hP.below.mono B.bw);have B3:=aI A0;have J0:=aI hP.below;have G3:=aI (HG.bel I8 A0);have H1:=aI (B.only.belowN hP.below);have O3:=aI (B.out.out.only (B.only.belowN hP.below) (mW B.tp));have C3:=aI ((hP.below.block p (by obtain⟨cs,L⟩:=B.tp;exact aO L)).trans B.cell)
 cases hst:bU lm tZ x rest with
 | error cc=>
   rw[hst]at hP;obtain⟨rfl,_⟩:=hP.bad cc rfl;have E1:=aI (show fR lm s left at' tZ x at' rest=.error (cc,at')from by unfold fR;rw[hst]);have F5:cc≠0:=by have:=wP hst;omega
   have KC:=aI (Xg cc w3 G3);have KF:=aI (fun W=>cU cc at' F5 W);clear hP hst F5 A0 p2;go_wp2_with fail;refine KC.mono ?_;rintro e w4 ⟨rfl,N⟩;have B4:=aI N;clear N;go_wp2_with fail;refine(KF _).mono ?_;rintro e w5 ⟨rfl,rfl⟩;go_wp2;go_ret;rw[E1.out];exact⟨B3.trans (below_of B4 (by have:=B3.size;have:=O3.rd.lt;have:=O3.br;omega)),fun c a L=>(by cases L;exact⟨rfl,_,_,_,_,(O3.below B4).rd⟩),fun s' hs=>(by cases hs)⟩
 | ok j=>
   rw[hst]at hP;obtain⟨rfl,hM⟩:=hP.good j rfl;have M3:=aI hM
   cases hf:j.ph.isFin with
   | false=>
     have E1:=aI (show fR lm s left at' tZ x at' rest=.ok { s with pt:=.vecs left at' (some j) } from by unfold fR;rw[hst];simp[hf]);clear hP hM hst hf A0 p2;go_wp2;go_ret;rw[E1.out];refine⟨B3,fun c a L=>(by cases L),fun s' hs=>(by cases hs;exact⟨rfl,w,p,ri,_,m,c,l,⟨⟨B.out.out.br,B.out.out.rd,B.out.out.row,B.out.out.frags,B.out.out.used,B.out.out.cur,B.out.out.bm,B.out.out.bc⟩,B.bp,B.tp,H1,C3,B.wl,B.fr0,M3,B.bw,B.ni⟩⟩)⟩
   | true=>
     obtain⟨J2,vv,cp,hR,E9⟩:=hM;have F6:=Ds hf;rw[Dq ri hf]at hR;have KV:=aI (wJ lm ri vv cp _ _ w3 hR);unfold Parts at E9;rw[F6]at E9;obtain⟨V,I1,A7⟩:=E9;have D1:=aI (G7 j hst);have D2:=aI hst;have HF:=aI hf;have X:=aI I1;have H2:=aI A7;have q2:w3.cell? ⟨p,2,none⟩=some (.pointer (some ⟨ri,0,none⟩)):=by simp[PS,C3.out]
     obtain⟨O,P,I2,_⟩:=A7.vecAt;subst I2;clear hP hR A7 hst hf A0 p2 F6;go_wp2_with fail;refine KV.mono ?_;rintro e w4 ⟨rfl,N⟩;have B4:=aI (B3.trans (below_of N (by have:=B3.size;have:=O3.rd.lt;have:=O3.br;omega)));have C:=aI (O3.below N);have C4:=aI ((N.block p (aO C3)).trans C3);have R4:=aI ((H2.only (may:=fun _=>False) (Only.of_below N) (fun _ h=>h.elim)));have c6:=C.rd.c6;have A1:=aI (show s.k.length=l.length from by rw[← C.frags,PZ]);obtain⟨nk,F0⟩:=aG l.length;have y:=aI F0;obtain⟨nv,F1⟩:=aG V.length;have H3:=aI F1;rw[F0]at c6;rw[F1]at R4 ⊢;clear N q2 F0 F1;by_cases hk0:nk=0
     ·subst hk0;have E1:=aI (show fR lm s left at' tZ x at' rest=.ok { s with k:=s.k ++ [⟨[],j.es⟩],pt:=if left-1=0 then .mid else .vecs (left-1) (-1) none } from by
       unfold fR;rw[D2.out];have:s.k=[]:=List.length_eq_zero_iff.1 (by rw[A1.out,y.out]);simp[HF.out,this])
      have g8:FragT w4 ⟨[],.slice none 0 0,V,.slice O nv P⟩:=⟨vY _,R4.base (QN _)⟩;have KA:=KRow.app (vb:=w4.heap.size) (g:=⟨[],.slice none 0 0,V,.slice O nv P⟩) (C.row.below (aJ (PI w4.heap.size w4) (.cells #[.slice none 0 0,.slice O nv P] 80))) (g8.below (aJ (PI _ _) _)) (aK _ _ rfl) (by rw[← A1.out];have:=HB.k;omega) (by have:=C.rd.lt;have:=C.br;simp;omega) 23;rw[y.out]at KA;obtain⟨v',F,J,M,A8⟩:=KA;obtain⟨a7,c7,e7,_⟩:=aY M.row;subst e7;obtain⟨n7,A9⟩:=aG ((l ++ [(⟨[],.slice none 0 0,V,.slice O nv P⟩:FV)]).length);rw[A9]at M J;have D3:=aI M;have D:=(Only.refl (fun b=>(PQ ak 0 ck).ownBlock=some b) w4).alloc (.cells #[.slice none 0 0,.slice O nv P] 80) |>.trans (A8.wide (fun b Q=>Q));have u:∀k,(PQ ak 0 ck).ownBlock=some k→Typed w4 80 k:=fun k G=>aR C.row.row (by rw[y.out];exact G);have A:RdW F r lm (qR 237 p) (.slice ak 0 ck) m c .nilIface:=by
       have:=C.rd;rw[y.out]at this;exact this.only D (fun G=>(u _ G).ne C.rd.typed aB rfl)
      have A2:=C.used.only D (fun k G=>⟨_,u k G⟩);have A3:=C.cur.only D (fun G=>(u _ G).ne C.cur.typed aB rfl);have E:=D.obj (fun G=>(u _ G).ne (show Typed w4 240 p from⟨_,C4⟩) aB rfl) C4;have D4:base≤w4.heap.size:=by have:=C.rd.lt;have:=C.br;omega
      have B7:=aI (B4.trans (D.below (n:=base) D4 (fun k G=>(C.row.row.lt k (by rw[y.out];exact G)).1)));have D5:=aI A;have D6:=aI A2;have D7:=aI A3;have A4:=aI E;have D8:¬r=p:=C.ne (show Typed w4 240 p from⟨_,C4⟩) aB;have D9:¬p=r:=fun e=>D8 e.symm;have k6:=A.c6;have k5:=A.c5;have z6:=A.free 6;have z5:=A.free 5;have y0:F.cell? ⟨p,0,none⟩=some (.int .u64 left):=by simp[PS,E]
      have y1:F.cell? ⟨p,1,none⟩=some (.int .i64 at'):=by simp[PS,E]
      have x0:F.frozen? ⟨p,0,none⟩=false:=frozen_of_row _ _ 0 _ _ E;have x1:F.frozen? ⟨p,1,none⟩=false:=frozen_of_row _ _ 1 _ _ E;have S7:=aI (show base≤F.heap.size from by have:=A.lt;have:=C.br;omega);clear A9 g8 M A8 D u A A2 A3 E;have H:=B.wl;have E0:=aI (show({ s with k:=s.k ++ [⟨[],j.es⟩] }:WS).k=(l ++ [(⟨[],.slice none 0 0,V,.slice O nv P⟩:FV)]).map FV.frag from by
       show s.k ++ [⟨[],j.es⟩]=_;rw[QF,C.frags,← X.out];rfl)
      have A5:=aI (show lN (l ++ [(⟨[],.slice none 0 0,V,.slice O nv P⟩:FV)])from fun f hf=>(List.mem_append.1 hf).elim (fun h=>B.ni f h) (fun h=>by
       obtain rfl:f=⟨[],.slice none 0 0,V,.slice O nv P⟩:=by simpa using h
       exact⟨rfl,rfl⟩))
      have F7:=aI (show Typed F 240 p from⟨_,A4⟩);have W8:=aI (Mn (s:={ s with k:=s.k ++ [⟨[],j.es⟩] }) C.br D5 D3 E0.symm D6 D7 C.bm C.bc);have o8:Only (fun b=>b=r) F (F.setCell ⟨r,6,none⟩ (.slice a7 n7 c7)):=(Only.refl (fun b=>b=r) F).setCell (p:=⟨r,6,none⟩) (.inl rfl) _;have A6:=aI (o8.obj D9 A4);have B8:=aI (B7.trans (o8.below (n:=base) S7 (fun b Q=>by rw[Q];exact C.br)));have R:base≤(F.setCell ⟨r,6,none⟩ (.slice a7 n7 c7)).heap.size:=QM S7 o8.size;have o9:Only (fun b=>b=p) (F.setCell ⟨r,6,none⟩ (.slice a7 n7 c7)) (((F.setCell ⟨r,6,none⟩ (.slice a7 n7 c7)).setCell ⟨p,1,none⟩ (.int .i64 (-1))).setCell ⟨p,0,none⟩ (.int .u64 (left-1))):=((Only.refl (fun b=>b=p) _).setCell (p:=⟨p,1,none⟩) (.inl rfl) _).setCell (p:=⟨p,0,none⟩) (.inl rfl) _;have W9:=aI (W8.only o9 (mW ⟨_,A6⟩));have E3:=aI (heap_setCell_same _ _ 0 _ _ (.int .u64 (left-1)) (heap_setCell_same _ _ 1 _ _ (.int .i64 (-1)) A6));have B9:=aI (B8.trans (o9.below (n:=base) R (fun b Q=>by rw[Q];exact B.bp)));have E4:=aI (QM R o9.size);clear o8 o9 R;by_cases hl1:left-1=0
      ·obtain rfl:left=1:=aA;have E2:=aI (show fR lm s 1 at' tZ x at' rest=.ok { s with k:=s.k ++ [⟨[],j.es⟩],pt:=.mid } from by rw[E1.out];rfl);have H4:IntKind.u64.wrap (1-1)=0:=aB;have S:=W9.out;have T:=B9.out;have I:=E4.out;simp only[show(1:Int)-1=0 from rfl]at S T I;have U:=aI ((S.part (gF 241)).toS (s':={ s with k:=s.k ++ [⟨[],j.es⟩],pt:=.mid }) rfl rfl rfl rfl);have E5:=aI (T.trans (((Only.refl (fun b=>b=r) _).setCell (p:=⟨r,5,none⟩) (.inl rfl) (gF 241)).below (n:=base) I (fun b Q=>by rw[Q];exact C.br)));clear S T I;go_wp2_with(at_builtin;go_loud(refine bZ rfl _ _ _ _ rfl rfl rfl J ?_));go_ret;rw[E2.out];exact⟨E5,fun c a L=>(by cases L),fun s' hs=>(by cases hs;exact⟨rfl,_,_,_,_,_,U,rfl,A5⟩)⟩
      have E2:=aI (show fR lm s left at' tZ x at' rest=.ok { s with k:=s.k ++ [⟨[],j.es⟩],pt:=.vecs (left-1) (-1) none } from by rw[E1.out,if_neg hl1]);have H5:IntKind.u64.wrap (left-1)=left-1:=bA ⟨by have:=H.2;omega,by have:=H.1.2;omega⟩;have H6:((left-1) == 0)=false:=by simpa using hl1
      have U:=aI (W9.toS (s':={ s with k:=s.k ++ [⟨[],j.es⟩],pt:=.vecs (left-1) (-1) none }) rfl rfl rfl rfl);go_wp2_with(at_builtin;go_loud(refine bZ rfl _ _ _ _ rfl rfl rfl J ?_));go_ret;rw[E2.out];exact⟨B9,fun c a L=>(by cases L),fun s' hs=>(by cases hs;exact⟨rfl,_,_,_,_,_,U,⟨⟨⟨by have:=H.2;omega,by have:=H.1.2;omega⟩,by have:=H.2;omega⟩,p,_,rfl,B.bp,E3⟩,A5⟩)⟩
     have E6:l≠[]:=fun e=>hk0 (by rw[← y.out,e];rfl);obtain⟨Z,C2⟩:=Bc C.frags E6;have H7:=C.row.know;obtain⟨J3,J4,I3,F2,_⟩:=H7;injection I3 with e1 e2 e3;subst e1;clear e2 e3;obtain⟨g,B0,eg,I4,I5,B1⟩:=F2.cells (l.length-1) (by rw[y.out];omega);subst eg;have C0:=F2.frags _ C2;rw[y.out]at B1 Z C0;have Y:=HB.vec (s.k.getD (s.k.length-1) Frag.z) (by
      rw[← C.frags];have hp:l.length-1<l.length:=by have:=List.length_pos_iff.2 E6;omega
      rw[PZ,PY,QE,PV hp,QT,QR];exact List.mem_map.2 ⟨_,QA _,rfl⟩)
     have J1:=aI Z;rw[Z]at Y;obtain⟨q,eq⟩:=aG (l.getD (nk-1) FV.z);rw[eq]at B1 C0 Y Z;obtain⟨qa,qc,qv,G1,_⟩:=C0.vec;rw[qv]at B1;obtain⟨J5,J6,I6,G2,_⟩:=R4.vecAt;injection I6 with e1 e2 e3;subst e1;clear e2 e3;have C1:=aI (mX qa O q.vec.length qc V.length P q.vec V w4 G1.at' G2.at' (fun p hp=>QM (Y.2.1 _ (List.mem_map.2 ⟨p,hp,rfl⟩)) aB) (fun p hp=>QM (D1.2.1 _ (by rw[← X.out];exact List.mem_map.2 ⟨p,hp,rfl⟩)) aB) (by have:=Y.1;rw[PZ]at this;omega) (by have:=D1.1;rw[← X.out,PZ]at this;omega) (QM Y.2.2 aB) (by rw[X.out];exact QM D1.2.2 aB));rw[H3.out,X.out,Z.symm]at C1;obtain⟨qn,G4⟩:=aG q.vec.length;rw[G4]at B1 C1;obtain⟨cm,F3⟩:=aG (cQ (bG (s.k.getD (s.k.length-1) Frag.z).vec) (bG j.es));have F8:=aI F3;rw[F3]at C1;have q3:IntKind.i64.wrap ((nk:Int)-1)=(nk:Int)-1:=PH _ (by have:=A1.out;have:=HB.k;have:=y.out;omega);have q4:((nk:Int)-1).toNat=nk-1:=aA;have q5:(0:Int)≤(nk:Int)-1:=aA;have q6:(nk:Int)-1<(nk:Int):=aA;have q7:(0:Int)<(nk:Int):=aA;have F9:=aI (show s.k≠[] from fun e=>hk0 (by rw[← y.out,← A1.out,e];rfl));clear E6 Z C2 F2 I4 I5 C0 Y eq G1 G2 G4 F3;go_wp2_with fail;refine C1.mono ?_;rintro e w5 ⟨rfl,B6⟩;have B5:=aI (B4.trans (below_of B6 (by have:=C.rd.lt;have:=C.br;omega)));have K:=aI (C.below B6);have C5:=aI ((B6.block p (aO C4)).trans C4);have R5:=aI ((R4.only (may:=fun _=>False) (Only.of_below B6) (fun _ h=>h.elim)));have H8:=K.rd.c6;rw[y.out]at H8;have y1:w5.cell? ⟨p,1,none⟩=some (.int .i64 at'):=by simp[PS,C5.out]
     clear B6 q3 q4 q5 q6 B1 c6;by_cases L:0≤cm
     ·have E1:=aI (show fR lm s left at' tZ x at' rest=.error (3,at')from by
       unfold fR;rw[D2.out];simp only[HF.out,if_true];rw[if_pos ⟨F9.out,by rw[F8.out];exact L⟩])
      have KF:=aI (fun W=>cU 3 at' aB W);have dc:decide (0≤cm)=true:=decide_eq_true L;go_wp2_with fail;refine(KF _).mono ?_;rintro e w6 ⟨rfl,rfl⟩;go_wp2;go_ret;rw[E1.out];exact⟨B5,fun c a L=>(by cases L;exact⟨rfl,_,_,_,_,K.rd⟩),fun s' hs=>(by cases hs)⟩
     have E1:=aI (show fR lm s left at' tZ x at' rest=.ok { s with k:=s.k ++ [⟨[],j.es⟩],pt:=if left-1=0 then .mid else .vecs (left-1) (-1) none } from by
      unfold fR;rw[D2.out];simp only[HF.out,if_true];rw[if_neg (fun h=>L (by have:=h.2;rw[F8.out]at this;exact this))])
     have dc:decide (0≤cm)=false:=decide_eq_false L;clear y1;have g8:FragT w5 ⟨[],.slice none 0 0,V,.slice O nv P⟩:=⟨vY _,R5.base (QN _)⟩;have KA:=KRow.app (vb:=w5.heap.size) (g:=⟨[],.slice none 0 0,V,.slice O nv P⟩) (K.row.below (aJ (PI w5.heap.size w5) (.cells #[.slice none 0 0,.slice O nv P] 80))) (g8.below (aJ (PI _ _) _)) (aK _ _ rfl) (by rw[← A1.out];have:=HB.k;omega) (by have:=K.rd.lt;have:=K.br;simp;omega) 23;rw[y.out]at KA;obtain⟨v',F,J,M,A8⟩:=KA;obtain⟨a7,c7,e7,_⟩:=aY M.row;subst e7;obtain⟨n7,A9⟩:=aG ((l ++ [(⟨[],.slice none 0 0,V,.slice O nv P⟩:FV)]).length);rw[A9]at M J;have D3:=aI M;have D:=(Only.refl (fun b=>(PQ (some ⟨g,B0,none⟩) nk ck).ownBlock=some b) w5).alloc (.cells #[.slice none 0 0,.slice O nv P] 80) |>.trans (A8.wide (fun b Q=>Q));have u:∀k,(PQ (some ⟨g,B0,none⟩) nk ck).ownBlock=some k→Typed w5 80 k:=fun k G=>aR K.row.row (by rw[y.out];exact G);have A:RdW F r lm (qR 237 p) (.slice (some ⟨g,B0,none⟩) nk ck) m c .nilIface:=by
      have:=K.rd;rw[y.out]at this;exact this.only D (fun G=>(u _ G).ne K.rd.typed aB rfl)
     have A2:=K.used.only D (fun k G=>⟨_,u k G⟩);have A3:=K.cur.only D (fun G=>(u _ G).ne K.cur.typed aB rfl);have E:=D.obj (fun G=>(u _ G).ne (show Typed w5 240 p from⟨_,C5⟩) aB rfl) C5;have D4:base≤w5.heap.size:=by have:=K.rd.lt;have:=K.br;omega
     have B7:=aI (B5.trans (D.below (n:=base) D4 (fun k G=>(K.row.row.lt k (by rw[y.out];exact G)).1)));have D5:=aI A;have D6:=aI A2;have D7:=aI A3;have A4:=aI E;have D8:¬r=p:=K.ne (show Typed w5 240 p from⟨_,C5⟩) aB;have D9:¬p=r:=fun e=>D8 e.symm;have k6:=A.c6;have k5:=A.c5;have z6:=A.free 6;have z5:=A.free 5;have y0:F.cell? ⟨p,0,none⟩=some (.int .u64 left):=by simp[PS,E]
     have y1:F.cell? ⟨p,1,none⟩=some (.int .i64 at'):=by simp[PS,E]
     have x0:F.frozen? ⟨p,0,none⟩=false:=frozen_of_row _ _ 0 _ _ E;have x1:F.frozen? ⟨p,1,none⟩=false:=frozen_of_row _ _ 1 _ _ E;have S7:=aI (show base≤F.heap.size from by have:=A.lt;have:=K.br;omega);clear A9 g8 M A8 D u A A2 A3 E;have H:=B.wl;have E0:=aI (show({ s with k:=s.k ++ [⟨[],j.es⟩] }:WS).k=(l ++ [(⟨[],.slice none 0 0,V,.slice O nv P⟩:FV)]).map FV.frag from by
      show s.k ++ [⟨[],j.es⟩]=_;rw[QF,K.frags,← X.out];rfl)
     have A5:=aI (show lN (l ++ [(⟨[],.slice none 0 0,V,.slice O nv P⟩:FV)])from fun f hf=>(List.mem_append.1 hf).elim (fun h=>B.ni f h) (fun h=>by
      obtain rfl:f=⟨[],.slice none 0 0,V,.slice O nv P⟩:=by simpa using h
      exact⟨rfl,rfl⟩))
     have F7:=aI (show Typed F 240 p from⟨_,A4⟩);have W8:=aI (Mn (s:={ s with k:=s.k ++ [⟨[],j.es⟩] }) K.br D5 D3 E0.symm D6 D7 K.bm K.bc);have o8:Only (fun b=>b=r) F (F.setCell ⟨r,6,none⟩ (.slice a7 n7 c7)):=(Only.refl (fun b=>b=r) F).setCell (p:=⟨r,6,none⟩) (.inl rfl) _;have A6:=aI (o8.obj D9 A4);have B8:=aI (B7.trans (o8.below (n:=base) S7 (fun b Q=>by rw[Q];exact K.br)));have R:base≤(F.setCell ⟨r,6,none⟩ (.slice a7 n7 c7)).heap.size:=QM S7 o8.size;have o9:Only (fun b=>b=p) (F.setCell ⟨r,6,none⟩ (.slice a7 n7 c7)) (((F.setCell ⟨r,6,none⟩ (.slice a7 n7 c7)).setCell ⟨p,1,none⟩ (.int .i64 (-1))).setCell ⟨p,0,none⟩ (.int .u64 (left-1))):=((Only.refl (fun b=>b=p) _).setCell (p:=⟨p,1,none⟩) (.inl rfl) _).setCell (p:=⟨p,0,none⟩) (.inl rfl) _;have W9:=aI (W8.only o9 (mW ⟨_,A6⟩));have E3:=aI (heap_setCell_same _ _ 0 _ _ (.int .u64 (left-1)) (heap_setCell_same _ _ 1 _ _ (.int .i64 (-1)) A6));have B9:=aI (B8.trans (o9.below (n:=base) R (fun b Q=>by rw[Q];exact B.bp)));have E4:=aI (QM R o9.size);clear o8 o9 R;by_cases hl1:left-1=0
     ·obtain rfl:left=1:=aA;have E2:=aI (show fR lm s 1 at' tZ x at' rest=.ok { s with k:=s.k ++ [⟨[],j.es⟩],pt:=.mid } from by rw[E1.out];rfl);have H4:IntKind.u64.wrap (1-1)=0:=aB;have S:=W9.out;have T:=B9.out;have I:=E4.out;simp only[show(1:Int)-1=0 from rfl]at S T I;have U:=aI ((S.part (gF 241)).toS (s':={ s with k:=s.k ++ [⟨[],j.es⟩],pt:=.mid }) rfl rfl rfl rfl);have E5:=aI (T.trans (((Only.refl (fun b=>b=r) _).setCell (p:=⟨r,5,none⟩) (.inl rfl) (gF 241)).below (n:=base) I (fun b Q=>by rw[Q];exact K.br)));clear S T I;go_wp2_with(at_builtin;go_loud(refine bZ rfl _ _ _ _ rfl rfl rfl J ?_));go_ret;rw[E2.out];exact⟨E5,fun c a L=>(by cases L),fun s' hs=>(by cases hs;exact⟨rfl,_,_,_,_,_,U,rfl,A5⟩)⟩
     have E2:=aI (show fR lm s left at' tZ x at' rest=.ok { s with k:=s.k ++ [⟨[],j.es⟩],pt:=.vecs (left-1) (-1) none } from by rw[E1.out,if_neg hl1]);have H5:IntKind.u64.wrap (left-1)=left-1:=bA ⟨by have:=H.2;omega,by have:=H.1.2;omega⟩;have H6:((left-1) == 0)=false:=by simpa using hl1
     have U:=aI (W9.toS (s':={ s with k:=s.k ++ [⟨[],j.es⟩],pt:=.vecs (left-1) (-1) none }) rfl rfl rfl rfl);go_wp2_with(at_builtin;go_loud(refine bZ rfl _ _ _ _ rfl rfl rfl J ?_));go_ret;rw[E2.out];exact⟨B9,fun c a L=>(by cases L),fun s' hs=>(by cases hs;exact⟨rfl,_,_,_,_,_,U,⟨⟨⟨by have:=H.2;omega,by have:=H.1.2;omega⟩,by have:=H.2;omega⟩,p,_,rfl,B.bp,E3⟩,A5⟩)⟩
theorem Yn{w:World}{p:Nat}(h:Typed w 245 p):Oth w (fun b=>b=p):=Oth.one h aB
theorem OutW.cursor{w w':World}{base r:Nat}{lm:cD}{u:Value}{s s':WS}{y z:Value}{m c:Nat}{l:List FV}(h:OutW w base r lm u s y z m c l)(ho:Only (fun b=>b=c) w w')(h1:s'.k=s.k)(h2:s'.us=s.us)(A:CurW w' c s'.last s'.op):OutW w' base r lm u s' y z m c l:=by
 have j:=h.cur.typed;refine⟨h.br,h.rd.only ho (fun e=>?_),h.row.only ho (fun k n=>by rw[n];exact⟨j.not aB,j.not aB,j.not aB⟩),by rw[h1];exact h.frags,by rw[h2];exact h.used.only ho (fun k n=>by subst n;exact⟨_,j⟩),A,h.bm,h.bc⟩;have p:=h.rd.typed;rw[e]at p;exact p.ne j aB rfl
def SgC (w:World) (p:Nat) (left turn last:Int) (touch:Bool):Prop:=w.heap[p]?=some (.cells #[.int .u64 left,.int .i64 turn,.int .i64 last,.bool touch] 245 (0,0))
section
variable {w w':World} {p:Nat} {left turn last:Int} {touch:Bool}
theorem SgC.typed(h:SgC w p left turn last touch):Typed w 245 p:=⟨_,h⟩
theorem SgC.below(h:SgC w p left turn last touch)(b:Below w.heap.size w w'):SgC w' p left turn last touch:=(b.block p (aO h)).trans h
theorem SgC.only{may:Nat→Prop}(h:SgC w p left turn last touch)(ho:Only may w w')(b:¬may p):SgC w' p left turn last touch:=ho.obj b h
theorem SgC.c0(h:SgC w p left turn last touch):w.cell? ⟨p,0,none⟩=some (.int .u64 left):=by simp[PS,show w.heap[p]?=_ from h]
theorem SgC.c1(h:SgC w p left turn last touch):w.cell? ⟨p,1,none⟩=some (.int .i64 turn):=by simp[PS,show w.heap[p]?=_ from h]
theorem SgC.c2(h:SgC w p left turn last touch):w.cell? ⟨p,2,none⟩=some (.int .i64 last):=by simp[PS,show w.heap[p]?=_ from h]
theorem SgC.c3(h:SgC w p left turn last touch):w.cell? ⟨p,3,none⟩=some (.bool touch):=by simp[PS,show w.heap[p]?=_ from h]
theorem SgC.fz(h:SgC w p left turn last touch)(j:Nat):w.frozen? ⟨p,j,none⟩=false:=frozen_of_row _ _ j _ _ h
theorem SgC.s0(h:SgC w p left turn last touch)(x:Int):SgC (w.setCell ⟨p,0,none⟩ (.int .u64 x)) p x turn last touch:=heap_setCell_same _ _ 0 _ _ _ h
theorem SgC.s1(h:SgC w p left turn last touch)(x:Int):SgC (w.setCell ⟨p,1,none⟩ (.int .i64 x)) p left x last touch:=heap_setCell_same _ _ 1 _ _ _ h
theorem SgC.s2(h:SgC w p left turn last touch)(x:Int):SgC (w.setCell ⟨p,2,none⟩ (.int .i64 x)) p left turn x touch:=heap_setCell_same _ _ 2 _ _ _ h
theorem SgC.s3(h:SgC w p left turn last touch)(x:Bool):SgC (w.setCell ⟨p,3,none⟩ (.bool x)) p left turn last x:=heap_setCell_same _ _ 3 _ _ _ h
theorem SgC.keep(h:SgC w p left turn last touch)(i:Nat)(v:Value):Only (fun b=>b=p) w (w.setCell ⟨p,i,none⟩ v):=(Only.refl (fun b=>b=p) w).setCell (p:=⟨p,i,none⟩) (.inl rfl) _
end
theorem OutW.seg{w:World}{base r:Nat}{lm:cD}{j:Value}{s:WS}{n u:Value}{m c p:Nat}{l:List FV}{left b last:Int}{touch:Bool}(h:OutW w base r lm j s n u m c l)(hs:SgC w p left b last touch)(i:Nat)(v:Value):OutW (w.setCell ⟨p,i,none⟩ v) base r lm j s n u m c l:=h.only (hs.keep i v) (Yn hs.typed)
theorem bT{w:World}{base r:Nat}{lm:cD}{b:Value}{s:WS}{j n:Value}{m c:Nat}{l:List FV}(h:OutW w base r lm b s j n m c l):base≤w.heap.size:=by
 have h1:=h.rd.lt;have h2:=h.br;omega
def JS (w:World) (c:Nat) (last:Option Iv) (x:Int) (e:Ending) (w':World):Prop:=
 match DR last x with
 | some l=>e=.returned (.tuple #[.int .u64 l,.bool true])∧CurW w' c last (some l)∧Only (fun b=>b=c) w w'
 | none=>e=.returned (.tuple #[.int .u64 0,.bool false])∧Below w.heap.size w w'
theorem DO(c:Nat)(last:Option Iv)(x:Int)(w:World)(h:CurW w c last none)(p:aL x) :
  Calls prog 213 #[.pointer (some ⟨c,0,none⟩),.int .u64 x] w fun e w'=>JS w c last x e w':=by
 obtain⟨lo,m,n,f,r,h1,h2,h3⟩:=h;unfold JS
 cases last with
 | none=>
   obtain rfl:=h2 rfl;refine(Gy c x 0 lo m n w r).mono ?_;rintro e w' ⟨rfl,j,ho⟩;exact⟨rfl,⟨x,m,n,_,j,(fun l u=>by cases u;exact⟨rfl,p⟩),fun _=>rfl,fun z y=>by cases y⟩,ho⟩
 | some z=>
   obtain⟨rfl,rfl,rfl,s,b⟩:=h3 z rfl;unfold DR;simp only;by_cases hs:z.2+1+0+x<18446744073709551616
   ·rw[if_pos hs];refine(Gx c x 0 lo z.1 z.2 true w r ⟨aA,aA⟩ b p hs).mono ?_;rintro e w' ⟨rfl,j,ho⟩;exact⟨rfl,⟨_,z.1,z.2,_,j,(fun l u=>by cases u;exact⟨rfl,by have:=b.1;have:=p.1;omega,hs⟩),fun h=>(by cases h),fun z' y=>by cases y;exact⟨rfl,rfl,rfl,s,b⟩⟩,ho⟩
   rw[if_neg hs];refine(uQ c x 0 lo z.1 z.2 true w r ⟨aA,aA⟩ b p hs).mono ?_;rintro e w' ⟨rfl,A⟩;exact⟨rfl,A⟩
def MK (w:World) (c:Nat) (l x:Int) (e:Ending) (w':World):Prop:=
 match GN l x with
 | some z=>e=.returned (.tuple #[.agg #[.int .u64 z.1,.int .u64 z.2],.bool true])∧CurW w' c (some z) none∧Only (fun b=>b=c) w w'
 | none=>e=.returned (.tuple #[.agg #[.int .u64 0,.int .u64 0],.bool false])∧Below w.heap.size w w'
theorem EO(c:Nat)(last:Option Iv)(l x:Int)(w:World)(h:CurW w c last (some l))(p:aL x) :
  Calls prog 214 #[.pointer (some ⟨c,0,none⟩),.int .u64 x] w fun e w'=>MK w c l x e w':=by
 obtain⟨lo,j,m,f,r,h1,h2,h3⟩:=h;obtain⟨rfl,b⟩:=h1 l rfl;unfold MK GN;by_cases hs:lo+x<18446744073709551616
 ·rw[if_pos hs];refine(Kt c x 0 lo j m _ f w r b p hs).mono ?_;rintro e w' ⟨rfl,n,ho⟩;exact⟨rfl,⟨lo,lo,lo+x,_,n,(fun l b=>by cases b),(fun h=>by cases h),fun z u=>by cases u;exact⟨rfl,rfl,rfl,b,by have:=b.1;have:=p.1;omega,hs⟩⟩,ho⟩
 rw[if_neg hs];refine(CF c x 0 lo j m _ f w r b p hs).mono ?_;rintro e w' ⟨rfl,s⟩;exact⟨rfl,s⟩
theorem Ha(c:Nat)(last:Option Iv)(op:Option Int)(w:World)(h:CurW w c last op) :
  Calls prog 212 #[.pointer (some ⟨c,0,none⟩)] w fun e w'=>(∃a b,e=.returned (.tuple #[.agg #[.int .u64 a,.int .u64 b],.bool last.isSome])∧(∀z,last=some z→a=z.1∧b=z.2))∧Below w.heap.size w w':=by
 obtain⟨lo,j,l,f,m,h1,h2,h3⟩:=h;refine(Vr c 0 lo j l _ _ f w m).mono ?_;rintro e w' ⟨rfl,n⟩;exact⟨⟨j,l,rfl,fun z r=>by obtain⟨_,h4,p,_⟩:=h3 z r;exact⟨h4,p⟩⟩,n⟩
theorem Xz(lm:cD)(base r:Nat)(s:WS)(left last:Int)(touch:Bool)(x at' rest:Int)(w:World)(p:Nat)(kv:Value)(m c:Nat)(l:List FV)(hv:OutW w base r lm .nilIface s (qR 243 p) kv m c l)(bp:base≤p)(wl:aL left∧0<left)
  (hp:SgC w p left 0 last touch) (I:s.op=none) (hx:aL x) (ws:World) (P:SegX w l ws) (A3:base≤ws.heap.size) :
  Calls prog 157 #[.pointer (some ⟨r,0,none⟩),.pointer (some ⟨p,0,none⟩),.int .u64 x,.int .i64 at',.int .i64 rest] w fun e w'=>TakeP lm base r (jY s left 0 last touch x at' rest) w e w':=by
 have C:=hv.cur;rw[I]at C;have KL:=aI (Ha c s.last none w C);have S:=aI (fun W (h:CurW W c s.last none)=>DO c s.last x W h hx);have d8:=hv.rd.c8;have y1:=hp.c1;have T:=aI hv;have HP:=aI hp;have U:=aI I;have BS:=aI (bT hv);have V:=aI P;clear hv hp C I hx P;go_enter func157,ntmps157;go_wp2_with fail;refine KL.mono ?_;rintro e w1 ⟨⟨za,zb,rfl,_⟩,M⟩;obtain⟨tb,F⟩:=aG s.last.isSome;have X:=aI F;rw[F];obtain⟨w2,A1⟩:=aG (w1.alloc (.cells #[.int .u64 za,.int .u64 zb] 123));have b2:Below w.heap.size w w2:=by rw[← A1];exact aJ M _
 have Y:=aI (T.below b2);have B:=aI (HP.below b2);have X2:=aI (V.below b2);have A4:=B.c1;have y3:=B.c3;have z3:=B.fz 3;have A5:=Y.rd.c8;have B2:=aI (show Below base w w2 from below_of b2 BS);clear F M b2 y1;obtain⟨tc,G⟩:=aG (tb && decide (x=0));have Z:=aI G;have z:=aI (Y.seg B 3 (.bool tc));have X3:=aI (X2.one (B.keep 3 (.bool tc)) B.typed aB);have P3:=aI (B.s3 tc);have o3:=B.keep 3 (.bool tc);have B3:=aI (B2.trans (o3.below (n:=base) (bT Y) (fun b O=>by rw[O];exact bp)));have J:=z.rd.c8;have j:=z.cur;rw[U.out]at j;have D:=aI (S _ j);clear j o3;have A0:¬r=p:=T.ne HP.typed aB;have A6:¬p=r:=fun e=>A0 e.symm;obtain⟨w3,A2⟩:=aG (w2.setCell ⟨p,3,none⟩ (.bool tc));rw[A2]at z P3 B3 J D X3;have K:Hid (Calls prog 213 #[.pointer (some ⟨c,0,none⟩),.int .u64 x] w3 fun e w'=>JS w3 c s.last x e w'):=D;clear D;have A:((tb=true∧(x == 0)=true)∧tc=true)∨((tb=true∧(x == 0)=false)∧tc=false)∨(tb=false∧tc=false):=by
  rw[← G]
  cases tb
  ·right;right;exact⟨rfl,rfl⟩
  by_cases h:x=0
  ·left;simp[h]
  right;left;simp[h]
 rcases A with⟨⟨ht,hx0⟩,htc⟩ | ⟨⟨ht,hx0⟩,htc⟩ | ⟨ht,htc⟩
 all_goals
  subst ht;subst htc;clear G;go_wp2_with fail;refine K.mono ?_;intro e w4 y;unfold JS at y
  cases hl:DR s.last x with
  | none=>
    rw[hl]at y;obtain⟨rfl,H⟩:=y;have Q:=aI (show jY s left 0 last touch x at' rest=.error (8,at')from by unfold jY;rw[if_pos rfl,hl]);have KF:=aI (fun W=>cU 8 at' aB W);have B4:=aI (B3.trans (below_of H (bT z)));have R:=aI (z.below H);clear hl H;go_wp2_with fail;refine(KF _).mono ?_;rintro e w5 ⟨rfl,rfl⟩;go_wp2;go_ret;rw[Q.out];exact⟨B4,fun c a hc=>(by cases hc;exact⟨rfl,_,_,_,_,R.rd⟩),fun s' hs=>(by cases hs)⟩
  | some l1=>
    rw[hl]at y;obtain⟨rfl,N,u⟩:=y;have Q:=aI (show jY s left 0 last touch x at' rest=.ok { s with op:=some l1,pt:=.segs left 1 last (s.last.isSome && decide (x=0)) } from by unfold jY;rw[if_pos rfl,hl]);rw[X.out,Z.out]at Q;have L:¬p=c:=fun e=>by
     have h1:=z.cur.typed;rw[← e]at h1;exact P3.typed.ne h1 aB rfl
    have E:=aI (P3.only u L);have R:=aI (z.cursor (s':={ s with op:=some l1 }) u rfl rfl N);have B4:=aI (B3.trans (u.below (n:=base) (bT z) (fun b O=>by rw[O];exact T.bc)));have V5:=aI (R.seg E 1 (.int .i64 1));have X5:=aI (((X3.one u z.cur.typed aB).one (E.keep 1 (.int .i64 1)) E.typed aB));have P5:=aI (E.s1 1);have B5:=aI (B4.trans ((E.keep 1 (.int .i64 1)).below (n:=base) (bT R) (fun b O=>by rw[O];exact bp)));have A7:=E.c1;have A8:=E.fz 1;clear hl N u L;go_wp2;go_ret;rw[Q.out];exact⟨B5,fun c a hc=>(by cases hc),fun s' hs=>(by cases hs;exact⟨rfl,_,_,_,_,_,V5.toS rfl rfl rfl rfl,⟨wl,p,rfl,bp,P5⟩,ws,X5,A3⟩)⟩
theorem Yb(lm:cD)(base r:Nat)(s:WS)(left last:Int)(touch:Bool)(x at' rest R:Int)(w:World)(p:Nat)(kv:Value)(m c:Nat)(l:List FV)(hv:OutW w base r lm .nilIface s (qR 243 p) kv m c l)(bp:base≤p)(wl:aL left∧0<left)
  (S:SgC w p left 1 last touch) (B:s.op=some R) (hx:aL x) (T:World) (I:SegX w l T) (U:base≤T.heap.size) :
  Calls prog 157 #[.pointer (some ⟨r,0,none⟩),.pointer (some ⟨p,0,none⟩),.int .u64 x,.int .i64 at',.int .i64 rest] w fun e w'=>TakeP lm base r (jY s left 1 last touch x at' rest) w e w':=by
 have y:=hv.cur;rw[B]at y;have KH:=aI (EO c s.last R x w y hx);have d8:=hv.rd.c8;have y1:=S.c1;have C:=aI hv;have V:=aI S;have D:=aI B;have X:=aI (bT hv);have L:=aI I;clear hv S y B hx I;go_enter func157,ntmps157;go_wp2_with fail;refine KH.mono ?_;intro e O u;unfold MK at u
 cases hl:GN R x with
 | none=>
   rw[hl]at u;obtain⟨rfl,G⟩:=u;have M:=aI (show jY s left 1 last touch x at' rest=.error (8,at')from by unfold jY;rw[if_neg aB,if_pos rfl,D.out];simp only[QR];rw[hl]);have KF:=aI (fun W=>cU 8 at' aB W);have E:=aI G;clear hl G;go_wp2_with fail;refine(KF _).mono ?_;rintro e w5 ⟨rfl,rfl⟩;go_wp2;go_ret;rw[M.out];exact⟨below_of (aJ E _) X,fun c a P=>(by cases P;exact⟨rfl,_,_,_,_,(C.below (aJ E _)).rd⟩),fun s' hs=>(by cases hs)⟩
 | some z=>
   rw[hl]at u;obtain⟨rfl,H,j⟩:=u;obtain⟨J,K⟩:=z;have M:=aI (show jY s left 1 last touch x at' rest=.ok { s with op:=none,last:=some (J,K),pt:=.segs left 2 last touch } from by unfold jY;rw[if_neg aB,if_pos rfl,D.out];simp only[QR];rw[hl]);have F:¬p=c:=fun e=>by
    have h1:=C.cur.typed;rw[← e]at h1;exact V.typed.ne h1 aB rfl
   have Y:=aI (C.cursor (s':={ s with op:=none,last:=some (J,K) }) j rfl rfl H);have P1:=aI (V.only j F);have B1:=aI (j.below (n:=base) X (fun b Q=>by rw[Q];exact C.bc));obtain⟨w2,N⟩:=aG (O.alloc (.cells #[.int .u64 J,.int .u64 K] 123));have b2:Below O.heap.size O w2:=by rw[← N];exact aJ (PI _ _) _
   have Z:=aI (Y.below b2);have A:=aI (P1.below b2);have X5:=aI ((((L.one j C.cur.typed aB).below b2).one (A.keep 1 (.int .i64 2)) A.typed aB));have B2:=aI (B1.trans (below_of b2 (bT Y)));have V5:=aI ((Z.seg A 1 (.int .i64 2)).toS (s':={ s with op:=none,last:=some (J,K),pt:=.segs left 2 last touch }) rfl rfl rfl rfl);have P5:=aI (A.s1 2);have B5:=aI (B2.trans ((A.keep 1 (.int .i64 2)).below (n:=base) (bT Z) (fun b Q=>by rw[Q];exact bp)));have A0:=A.c1;have A1:=A.fz 1;clear hl H j F b2;go_wp2;go_ret;rw[M.out];exact⟨B5,fun c a P=>(by cases P),fun s' hs=>(by cases hs;exact⟨rfl,_,_,_,_,_,V5,⟨wl,p,rfl,bp,P5⟩,T,X5,U⟩)⟩
theorem Uc{w:World}{base b n cap:Nat}{l:List FV}{us:List Iv}{u:Value}{k:Nat}(h:w.ownsRow base 80 2 (.slice (some ⟨b,0,none⟩) n cap) l.length (bH l))(j:k<l.length) :
  (w.setCell ⟨b,k * 2,none⟩ u).ownsRow base 80 2 (.slice (some ⟨b,0,none⟩) n cap) (gM l k us u).length (bH (gM l k us u)):=by
 rw[lD,yQ j];rcases h.2 with⟨hv,hl⟩ | ⟨g',cap',cur,hv,hb,hc,h1,h2,h3,h4⟩
 ·cases hv
 injection hv with e1 e2 e3;injection e1 with e1;injection e1 with e1 _ _;subst e1;subst e3;refine⟨by rw[List.length_set];exact h.1,.inr ⟨b,cap,_,by rw[e2],hb,heap_setCell_same _ _ (k * 2) _ _ _ hc,h1,h2,by simpa using h3,?_⟩⟩;rw[Array.toList_setIfInBounds,List.take_set,h4]
theorem Nm{w:World}{base:Nat}{v:Value}{zs:List Iv}{z:Iv}{vb:Nat}(h:OwnL w base 123 v zs)(I:aL z.1∧aL z.2)(J:w.heap[vb]?=some (.cells #[.int .u64 z.1,.int .u64 z.2] 123 (0,0)))(K:zs.length≤4000000000)(l:base≤w.heap.size)(D:TypeId) :
  ∃m w',(Builtin.append_ #[56,56] D #[v,.slice (some ⟨vb,0,none⟩) 1 1]).run prog w=.ok m w'∧OwnL w' base 123 m (zs ++ [z])∧Only (fun b=>v.ownBlock=some b) w w'∧(m.ownBlock=v.ownBlock∨m.ownBlock=some w.heap.size):=by
 obtain⟨E,hi,s,A,B⟩:=info_parts sG;obtain⟨m,w',F,n,j,_,p⟩:=run_append_own_at (P:=prog) w base 56 D 123 E (.agg #[.int .u64 0,.int .u64 0]) 2 16 underlying56 hi s A B rfl aB v zs.length (bB zs) h.row ⟨vb,0,none⟩ 1 1 [.int .u64 z.1,.int .u64 z.2] rfl (bW J) (fun u C=>by
  simp at C;rcases C with rfl | rfl<;>rfl) (by unfold maxLen;omega) aA l
 refine⟨m,w',F,⟨?_,fun y r=>?_⟩,⟨j.os,j.tape,j.output,j.size,fun k G H=>j.block k G (fun e=>H e.symm)⟩,p⟩
 ·rw[dF,PX];exact n
 rcases List.mem_append.1 r with r | r
 ·exact h.words y r
 obtain rfl:y=z:=by simpa using r
 exact I
theorem Pu{l:List FV}{i:Nat}{z:Iv}{b:Value}(hi:i<l.length):(gM l i ((l.getD i FV.z).items ++ [z]) b).map FV.frag=zC (l.map FV.frag) i z:=by
 unfold gM zC;rw[List.map_set];congr 1
 have e:(l.map FV.frag).getD i Frag.z=(l.getD i FV.z).frag:=by
  simp only[PY,QE,PV hi,QT,QR]
 rw[e];rfl
theorem Ma{P w' I:World}{base r g n cap m c i:Nat}{lm:cD}{er pv y:Value}{s:WS}{l:List FV}{z:Iv}(B:OutW P base r lm er s pv (.slice (some ⟨g,0,none⟩) n cap) m c l)(K:SegX P l I)(hi:i<l.length)(A3:base≤I.heap.size)
  (ho:Only (fun b=>(l.getD i FV.z).iv.ownBlock=some b) P w') (J:OwnL w' I.heap.size 123 y ((l.getD i FV.z).items ++ [z])) (Y:y.ownBlock=(l.getD i FV.z).iv.ownBlock∨∃b,y.ownBlock=some b∧P.heap.size≤b) :
  OutW (w'.setCell ⟨g,i * 2,none⟩ y) base r lm er { s with k:=zC s.k i z } pv (.slice (some ⟨g,0,none⟩) n cap) m c (gM l i ((l.getD i FV.z).items ++ [z]) y) ∧
  SegX (w'.setCell ⟨g,i * 2,none⟩ y) (gM l i ((l.getD i FV.z).items ++ [z]) y) I∧Only (fun b=>b=g∨(l.getD i FV.z).iv.ownBlock=some b) P (w'.setCell ⟨g,i * 2,none⟩ y):=by
 have E:l.getD i FV.z∈l:=by rw[PY,PV hi,QR];exact QA hi
 have C:∀b,(l.getD i FV.z).iv.ownBlock=some b→Typed P 123 b∧I.heap.size≤b:=fun b D=>⟨aR (K.own _ E).row D,((K.own _ E).row.lt b D).1⟩;have A:Typed P 80 g:=aR B.row.row (k:=g) rfl;have Z:Typed w' 80 g:=by
  obtain⟨cs,hc⟩:=A;exact⟨cs,ho.obj (fun D=>(C g D).1.ne ⟨cs,hc⟩ aB rfl) hc⟩
 have og:Only (fun b=>b=g) w' (w'.setCell ⟨g,i * 2,none⟩ y):=(Only.refl (fun b=>b=g) w').setCell (p:=⟨g,i * 2,none⟩) (.inl rfl) _;have R:Only (fun b=>b=g∨(l.getD i FV.z).iv.ownBlock=some b) P (w'.setCell ⟨g,i * 2,none⟩ y):=(ho.wide (fun b D=>.inr D)).trans (og.wide (fun b D=>.inl D));have hl:=lD l i ((l.getD i FV.z).items ++ [z]) y;have M:∀f∈gM l i ((l.getD i FV.z).items ++ [z]) y,RowF I 0 f.vv f.vec:=fun f O=>by
  rcases List.mem_or_eq_of_mem_set O with O | rfl
  ·exact K.vec f O
  exact(show RowF I 0 (l.getD i FV.z).vv (l.getD i FV.z).vec from K.vec _ E)
 have S:Only (fun b=>¬Typed I 96 b∧¬Typed I 123 b) I (w'.setCell ⟨g,i * 2,none⟩ y):=Mo K.only R (fun k u=>by
  rcases u with rfl | u
  ·exact .inr ⟨_,A,aB,aB⟩
  exact .inl (C k u).2)
 have T:∀j (L:j<l.length),j≠i→∀b,(l[j]).iv.ownBlock=some b→¬(l.getD i FV.z).iv.ownBlock=some b:=fun j L X b D=>by
  have ei:l.getD i FV.z=l[i]:=by simp[PY,PV hi]
  rw[ei];rcases Nat.lt_or_ge j i with h | h
  ·exact List.pairwise_iff_getElem.1 K.dis j i L hi h b D
  intro A0;exact List.pairwise_iff_getElem.1 K.dis i j hi L aA b A0 D
 have F:∀f∈gM l i ((l.getD i FV.z).items ++ [z]) y,OwnL (w'.setCell ⟨g,i * 2,none⟩ y) I.heap.size 123 f.iv f.items:=fun f O=>by
  obtain⟨j,L,rfl⟩:=List.mem_iff_getElem.1 O;have U:j<l.length:=by rw[← hl];exact L
  by_cases e:j=i
  ·subst e;have:(gM l j ((l.getD j FV.z).items ++ [z]) y)[j]=⟨(l.getD j FV.z).items ++ [z],y,(l.getD j FV.z).vec,(l.getD j FV.z).vv⟩:=by simp[gM]
   rw[this];exact⟨bF J.row og (fun k u A1=>by rw[A1]at u;exact Typed.ne (aR J.row u) Z aB rfl),J.words⟩
  have:(gM l i ((l.getD i FV.z).items ++ [z]) y)[j]=l[j]:=by simp[gM,List.getElem_set_ne (Ne.symm e)]
  rw[this];have Q:=K.own _ (QA U);refine⟨bF Q.row R (fun k u G=>?_),Q.words⟩;rcases G with rfl | G
  ·exact Typed.ne (aR Q.row u) A aB rfl
  exact T j U e k u G
 refine⟨⟨B.br,B.rd.only R (fun u=>?_),⟨?_,fun f O=>⟨(F f O).itT,?_⟩⟩,?_,B.used.only R (fun k u=>?_),B.cur.only R (fun u=>?_),B.bm,B.bc⟩,⟨M,S,F,?_⟩,R⟩
 ·rcases u with u | u
  ·rw[← u]at A;exact A.ne B.rd.typed aB rfl
  exact(C r u).1.ne B.rd.typed aB rfl
 ·exact Uc (bF B.row.row ho (fun k u G=>(C k G).1.ne (aR B.row.row u) aB rfl)) hi
 ·exact(M f O).only S (fun k u=>u)
 ·rw[Pu hi,B.frags]
 ·rcases u with rfl | u
  ·exact⟨_,A⟩
  exact⟨_,(C k u).1⟩
 ·rcases u with u | u
  ·rw[← u]at A;exact A.ne B.cur.typed aB rfl
  exact(C c u).1.ne B.cur.typed aB rfl
 refine List.pairwise_iff_getElem.2 fun a b ha D A2 q H=>?_;have V:a<l.length:=by rw[← hl];exact ha
 have W:b<l.length:=by rw[← hl];exact D
 have N:∀q,y.ownBlock=some q→∀j (L:j<l.length),j≠i→¬(l[j]).iv.ownBlock=some q:=fun q H j L X h2=>by
  rcases Y with e | ⟨b2,e,h3⟩
  ·rw[e]at H;exact T j L X q h2 H
  rw[e]at H;injection H with H;have:=((K.own _ (QA L)).row.lt q h2).2;omega
 simp only[gM,List.getElem_set]at H ⊢;split at H
 ·rename_i e1;split
  ·omega
  rename_i e2;exact N q H b W (fun e=>e2 e.symm)
 rename_i e1;split
 ·rename_i e2;intro h3;exact N q h3 a V (fun e=>e1 e.symm) H
 exact List.pairwise_iff_getElem.1 K.dis a b V W A2 q H
def tG:Value:=.agg #[.int .u8 75,.int .u8 78,.int .u8 87,.int .u8 76]
theorem tF(w:World):Calls prog 124 #[] w fun e w'=>e=.returned tG∧Below w.heap.size w w':=by
 go_enter func124,ntmps124;go_wp2;refine bodyPost_ret (v:=tG) ?_ rfl ⟨rfl,aJ (PI _ _) _⟩;simp[results,results124,go_sem,tG]
def sH:List Int:=[75,78,87,76]
theorem EJ{w:World}{b:Nat}{x y z u:Int}{t:TypeId}(l:0≤x∧x≤255)(m:0≤y∧y≤255)(n:0≤z∧z≤255)(p:0≤u∧u≤255)(h:w.heap[b]?=some (.cells #[.int .u8 x,.int .u8 y,.int .u8 z,.int .u8 u] t (0,0))):Ints .u8 w (some ⟨b,0,none⟩) 4 [x,y,z,u]:=
 ⟨rfl,aB,fun q j=>by
  simp at j;rcases j with rfl | rfl | rfl | rfl<;>(refine qJ ?_;assumption),fun i hi=>⟨b,0,rfl,aO h,by
  match i,hi with
  | 0,_=>simp[PS,h]
  | 1,_=>simp[PS,h]
  | 2,_=>simp[PS,h]
  | 3,_=>simp[PS,h]⟩⟩
theorem EK{w:World}{b:Nat}{x:Int}{t:TypeId}(l:0≤x∧x≤255)(h:w.heap[b]?=some (.cells #[.int .u8 x] t (0,0))):Ints .u8 w (some ⟨b,0,none⟩) 1 [x]:=
 ⟨rfl,aB,fun q j=>by
  obtain rfl:q=x:=by simpa using j
  exact qJ l,fun i hi=>⟨b,0,rfl,aO h,by
  match i,hi with
  | 0,_=>simp[PS,h]⟩⟩
def tM (zs ps:List Int):List Int:=zs ++ sH ++ [1] ++ vb 10 (ps.length:Int) ++ ps ++ qN (kV ps)
theorem Wr(b:World)(v:Value)(zs ps:List Int)(N:Option Addr)(j cp:Nat)(w:World)(h:OwnB w b.heap.size v zs)(h0:Below b.heap.size b w)(X:Ints .u8 b N j ps)(hn:N=none→cp=0)(hz:zs.length≤900000)(Y:j≤900000)(O:zs.length+j≤900000) :
  Calls prog 74 #[v,.slice N j cp] w fun e w'=>∃v',e=.returned v'∧OwnB w' b.heap.size v' (tM zs ps)∧Below b.heap.size b w':=by
 obtain⟨a,cap,rfl,_⟩:=h.ints aA;have H:=aI h;have B0:=aI h0;have PP:=aI X;have HL:=aI X.length;obtain⟨n,en⟩:=aG zs.length;have R:=aI en;rw[en]at H hz O ⊢;clear h h0 X en;go_enter func74,ntmps74;go_wp2_with fail;refine(tF _).mono ?_;rintro e W ⟨rfl,z⟩;unfold tG;obtain⟨w2,A⟩:=aG (W.alloc (.cells #[.int .u8 75,.int .u8 78,.int .u8 87,.int .u8 76] 194));have b2:Below w.heap.size w w2:=by rw[← A];exact aJ z _
 have q2:w2.heap[W.heap.size]?=some (.cells #[.int .u8 75,.int .u8 78,.int .u8 87,.int .u8 76] 194 (0,0)):=by rw[← A];exact aK _ _ rfl
 have I2:=aI (EJ aA aA aA aA q2);have H2:=aI (H.below b2);have S:=aI (B0.trans (b2.mono B0.size));clear z b2 q2;go_wp2_with(first
  | (at_builtin;refine eF rfl _ _ rfl b.heap.size _ zs rfl H2 (some ⟨W.heap.size,0,none⟩) 4 4 sH rfl I2 (fun e=>(by cases e)) (by rw[R.out];omega) S.size ?_;intro v3 w3 F G;have O3:=aI F;have T:=aI (S.grown G S.size (fun q I=>(H2.row.lt q I).1));clear F G)
  | (at_builtin;refine eF rfl _ _ rfl b.heap.size _ (zs ++ sH) rfl (O3.below (aJ (PI _ _) _)) (some ⟨w3.heap.size,0,none⟩) 1 1 [1] rfl (EK aA (aK _ _ rfl)) (fun e=>(by cases e)) (by rw[PX,R.out];simp[sH];omega) (by have:=T.size;simp;omega) ?_;intro v4 w4 J K;have O4:=aI J;have B4:=aI ((aJ T _).grown K (by have:=T.size;simp;omega) (fun q I=>(O3.row.lt q I).1));clear J K)
  | (fail))
 have l:(zs ++ sH ++ [1]).length=n+5:=by rw[PX,PX,R.out];rfl
 have A0:j≤900000:=Y;refine(rF b v4 (zs ++ sH ++ [1]) j w4 O4 B4 ⟨aA,aA⟩ (by rw[l];omega)).mono ?_;rintro e w5 ⟨v5,rfl,p,B⟩;have P:=aI p;have Q:=aI B;have y:=jF 10 (j:Int);have m:(zs ++ sH ++ [1] ++ vb 10 (j:Int)).length≤n+15:=by rw[PX,l];omega
 obtain⟨a5,c5,e5,-,-⟩:=p.ints aA;subst e5;obtain⟨Z5,r⟩:=aG (zs ++ sH ++ [1] ++ vb 10 (j:Int));have U:=aI r;rw[r]at P m ⊢;have L6:=aI m;obtain⟨q5,C⟩:=aG Z5.length;rw[C]at P ⊢;clear p B l m y r C;go_wp2_with(first
  | (at_builtin;go_loud(refine eF rfl _ _ rfl b.heap.size _ Z5 rfl P N j cp ps rfl (PP.below Q) hn (by have:=L6.out;omega) Q.size ?_;intro v6 w6 L M;have O6:=aI L;have V:=aI (Q.grown M Q.size (fun q I=>(P.row.lt q I).1));clear L M))
  | (fail))
 refine(yM N j cp ps w6 (PP.below V)).mono ?_;rintro e w7 ⟨rfl,u⟩;have O7:=aI (O6.below u);have B7:=aI (V.trans (u.mono V.size));obtain⟨s,es⟩:=aG (kV ps);have ES:=aI es;rw[es];clear u es;go_wp2_with fail;refine(yN b v6 _ s w7 O7 B7 (by rw[PX,HL.out];have:=L6.out;omega)).mono ?_;rintro e w8 ⟨v8,rfl,D,E⟩;have O8:=aI D;have B8:=aI E;clear D E;go_wp2;go_ret;exact⟨v8,rfl,by unfold tM;rw[HL.out,ES.out,U.out];exact O8,B8⟩
end Go.Proofs.YtbkkolfpegplgaaGreatDoor
