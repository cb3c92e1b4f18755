import Derived.Test.YtbkkolfpegplgaaGreatDoorTG49
import Derived.Test.YtbkkolfpegplgaaGreatDoorTG58
open And renaming intro→PC
open Array renaming setIfInBounds_comm→PD
open Go.Act renaming put→PE
open Go.AllReadyH renaming cons→PF,nil→PG
open Go.Builtin renaming append_→PH
open Go.IntKind renaming wrap_i64→PI
open Go.Oper renaming upon_value→PJ,wp→PM
open Go.Region renaming ready→PN,Mode→PO,wanted→PQ
open Go.RowKit.Below renaming refl→PS
open Go.Value renaming slice→PT,int→PU,ownBlock→PV
open Go.World renaming cell?→PX,ownsRow_lit→PY,frozen?→PZ
open Int renaming le_refl→QA
open List renaming length_append→QB,getElem?_eq_getElem→QC,getElem?_append_left→QE,getD→QF,take_succ_eq_append_getElem→QG,mem_singleton→QH,getElem_mem→QI,length_cons→QJ,getLast?_eq_some_getLast→QK,length_take→QM,length_map→QN,flatMap_append→QP,map_append→QR,map_cons→QT,take_append_drop→QU,setIfInBounds_toArray→QV,length_drop→QW,mem_of_mem_drop→QY,set_cons_zero→QZ,set_cons_succ→RA,sum_cons→RB,not_mem_nil→RF,getLast_eq_getElem→RH,length_singleton→RI,mem_cons_of_mem→RJ,mem_cons→RK,take_length→RL,map_toArray→RM,mem_append→RN,take_of_length_le→RO,map_nil→RP,mem_of_mem_take→RR,length_dropLast→RT,flatMap_cons→RU,append_assoc→RW,nodup_cons→RX,nil_append→RY,length_nil→RZ,nodup_nil→SD,map_take→SF,map_drop→SG
open Nat renaming le_refl→SH,zero_le→SI,lt_of_lt_of_le→SJ,le_trans→SR,mul_le_mul_right→SS,min_eq_left→SU
open Go.Proofs.Tryz
set_option maxHeartbeats 12800000
set_option maxRecDepth 100000
set_option linter.unusedVariables false
set_option linter.unusedSimpArgs false
namespace Go.Proofs.YtbkkolfpegplgaaGreatDoor
open Go Go.RowKit
def Lr (pl:List Ent) (r:Int):Nat:=(pl.map fun p=>if p.rep=r then p.hs.length else 0).sum
def lS (pl:List Ent):Nat:=(pl.map fun p=>p.hs.length).sum
theorem Eg(p:Ent)(b:List Ent)(r:Int):Lr (p :: b) r=(if p.rep=r then p.hs.length else 0)+Lr b r:=by unfold Lr;simp
theorem Bt:∀{b:List Ent} {p:Ent} {r:Int},p∈b→p.rep=r→p.hs.length≤Lr b r
 | q :: b,p,r,h,e=>by
   rw[Eg];rcases List.mem_cons.1 h with rfl | h
   ·rw[if_pos e];omega
   have:=Bt h e;omega
theorem Ev{R:List Int}{f:Int→Nat}(h:∀r∈R,f r=0):(R.map f).sum=0:=by
 induction R with
 | nil=>rfl
 | cons r R ih=>simp only[QT,RB];rw[h r aD,ih (fun x b=>h x (by simp[b]))]
theorem Yl{R:List Int}(h:R.Nodup)(a:Int)(n:Nat):(R.map fun r=>if a=r then n else 0).sum≤n:=by
 induction R with
 | nil=>simp
 | cons r R ih=>
   obtain⟨h1,h2⟩:=List.nodup_cons.1 h;simp only[QT,RB];by_cases e:a=r
   ·rw[if_pos e,Ev (R:=R) (f:=fun r=>if a=r then n else 0) (fun x b=>if_neg (fun j=>h1 (by rw[← e,j];exact b)))];omega
   rw[if_neg e];have:=ih h2;omega
theorem Ci(R:List Int)(f g:Int→Nat):(R.map fun r=>f r+g r).sum=(R.map f).sum+(R.map g).sum:=by
 induction R with
 | nil=>rfl
 | cons r R ih=>simp only[QT,RB,ih];omega
theorem Br{R:List Int}(h:R.Nodup):∀pl:List Ent,(R.map (Lr pl)).sum≤lS pl
 | []=>by rw[Ev (f:=Lr []) (fun r _=>rfl)];exact SI _
 | p :: pl=>by
   have b:=Br h pl;have e:Lr (p :: pl)=fun r=>(if p.rep=r then p.hs.length else 0)+Lr pl r:=funext fun r=>Eg p pl r;rw[e,Ci];have:=Yl h p.rep p.hs.length;have j:lS (p :: pl)=p.hs.length+lS pl:=by unfold lS;simp
   omega
theorem oT:∀es:List Ent,(es.flatMap gQ).length=3 * es.length+2 * lS es
 | []=>rfl
 | e :: es=>by
   rw[RU,QB,oT es,oU];have b:lS (e :: es)=e.hs.length+lS es:=by unfold lS;simp
   simp only[QJ];omega
theorem Td(R:List Int):(R.map fun _=>1).sum=R.length:=by
 induction R with
 | nil=>rfl
 | cons r R ih=>simp only[QT,RB,QJ,ih];omega
theorem AN{zs:List Iv}(h:cL zs){z:Iv}(b:z∈zs):z.1≤z.2:=by
 obtain⟨i,hi,e⟩:=List.mem_iff_getElem.1 b;have h1:=(h i hi).1;have j:Lo zs i=z.1:=by unfold Lo;simp[QF,QC hi,e]
 have l:Hi zs i=z.2:=by unfold Hi;simp[QF,QC hi,e]
 omega
theorem Vk{es u m:List Ent}(L:CanW es)(Y:CanW u)(Z:CanW m)(hk:∀r c,dN es r c↔zL uD u m r c){e:Ent}(N:e∈es):e.hs.length≤1+Lr u e.rep+Lr m e.rep:=by
 have A:=L.can e N;have O:=L.words e N;have G:∀c,rH e c↔dN u e.rep c∧¬dN m e.rep c:=fun c=>by
  rw[← L.known N,hk];unfold zL uD;simp
 obtain⟨⟨p,D,E,J⟩,_⟩:=(G e.mx).1 (A.top' O);have P:∀c,dN u e.rep c↔rH p c:=fun c=>by rw[← E];exact Y.known D
 have R:e.mx≤p.mx:=J.2.1;have hP:=Bt D E;have B:(e.hs.map (·.1)).Nodup:=List.pairwise_map.2 (Nz A.1);have b:∀z∈e.hs,z.1=0∨(0<z.1∧dN u e.rep (z.1-1)∧¬dN m e.rep (z.1-1)∧(z.1∈p.hs.map (·.1)∨dN m e.rep z.1)):=fun z s=>by
  have H:=AN A.1 s;have n:aV e.hs z.1:=⟨z,s,QA _,H⟩;have h0:=O.nonneg n;have S:=A.lt n;by_cases g:z.1=0
  ·exact .inl g
  have C:=Vn A.1 s;obtain⟨Q,V⟩:=(G (z.1-1)).1 ⟨aA,aA,C⟩;refine .inr ⟨aA,Q,V,?_⟩;by_cases g2:dN m e.rep z.1
  ·exact .inr g2
  left
  have T:¬rH p z.1:=fun h=>by
   have:=(G z.1).2 ⟨(P _).2 h,g2⟩;exact this.2.2 n
  have hi:aV p.hs z.1:=by
   by_cases q:aV p.hs z.1
   ·exact q
   exact absurd ⟨h0,aA,q⟩ T
  obtain⟨y,F,W,X⟩:=hi;have I:=(P _).1 Q;have:y.1=z.1:=by
   by_cases q:y.1=z.1
   ·exact q
   exact absurd ⟨y,F,aA,aA⟩ I.2.2
  exact List.mem_map.2 ⟨y,F,this⟩
 by_cases hqe:∃q∈m,q.rep=e.rep
 ·obtain⟨q,j,l⟩:=hqe;have U:∀c,dN m e.rep c↔rH q c:=fun c=>by rw[← l];exact Z.known j
  have hQ:=Bt j l;have:=rV (M:=0 :: (p.hs.map (·.1) ++ q.hs.map (fun z=>z.2+1))) B (fun x K=>by
   obtain⟨z,s,rfl⟩:=List.mem_map.1 K;rcases b z s with h | ⟨h0,h1,h2,h3 | h3⟩
   ·rw[h];simp
   ·exact RJ _ (List.mem_append_left _ h3)
   refine RJ _ (List.mem_append_right _ ?_);rw[U]at h2 h3;have hi:aV q.hs (z.1-1):=by
    by_cases g:aV q.hs (z.1-1)
    ·exact g
    exact absurd ⟨aA,by have:=h3.2.1;omega,g⟩ h2
   obtain⟨y,F,W,X⟩:=hi;have:y.2+1=z.1:=by
    by_cases g:y.2+1=z.1
    ·exact g
    exact absurd ⟨y,F,aA,aA⟩ h3.2.2
   exact List.mem_map.2 ⟨y,F,this⟩)
  simp only[QN,QJ,QB]at this;omega
 have:=rV (M:=0 :: p.hs.map (·.1)) B (fun x K=>by
  obtain⟨z,s,rfl⟩:=List.mem_map.1 K;rcases b z s with h | ⟨h0,h1,h2,h3 | h3⟩
  ·rw[h];simp
  ·exact RJ _ h3
  obtain⟨q,j,l,_⟩:=h3;exact absurd ⟨q,j,l⟩ hqe)
 simp only[QN,QJ]at this;omega
theorem xV{es j ql:List Ent}(p:CanW es)(u:CanW j)(y:CanW ql)(z:∀r c,dN es r c↔zL uD j ql r c)(C:es.length≤j.length+ql.length):(bG es).length≤2 * ((bG j).length+(bG ql).length):=by
 have m:(es.map (·.rep)).Nodup:=List.pairwise_map.2 (p.asc.imp fun {a b} h=>aA);have hs:lS es≤es.length+lS j+lS ql:=by
  have h1:lS es≤((es.map (·.rep)).map fun r=>1+(Lr j r+Lr ql r)).sum:=by
   have n:∀l:List Ent,(∀e∈l,e∈es)→lS l≤((l.map (·.rep)).map fun r=>1+(Lr j r+Lr ql r)).sum:=by
    intro l;induction l with
    | nil=>intro _;exact SH _
    | cons e l ih=>
      intro h;have h1:=ih (fun x s=>h x (by simp[s]));have h2:=Vk p u y z (h e aD);have A:lS (e :: l)=e.hs.length+lS l:=by unfold lS;simp
      simp only[QT,RB];omega
   exact n es (fun e h=>h)
  rw[Ci,Ci]at h1;have h2:=Br m j;have h3:=Br m ql;have h4:((es.map (·.rep)).map fun _=>1).sum=es.length:=by rw[Td,QN]
  omega
 have a1:=oT es;have a2:=oT j;have B:=oT ql;unfold bG;simp only[QJ];omega
def MX:Int:=18446744073709551615
theorem Ls{x:Int}:aL x↔0≤x∧x≤MX:=by unfold aL MX;omega
def gD (zs:List Iv):List Int:=zs.flatMap fun z=>z.1 :: (if z.2<MX then [z.2+1] else [])
def LG (L:List (List Iv)):List Int:=0 :: L.flatMap gD
theorem Pv(zs:List Iv):(gD zs).length≤2 * zs.length:=by
 unfold gD;induction zs with
 | nil=>simp
 | cons z zs ih=>
   rw[RU,QB];have:(z.1 :: (if z.2<MX then [z.2+1] else [])).length≤2:=by split<;>simp
   simp only[QJ]at this ⊢;omega
structure eZ (S:List Int):Prop where
 asc:S.Pairwise (·<·)
 zero:0∈S
 word:∀x∈S,aL x
def tY (S:List Int) (P:Int→Prop):Prop:=∀x,0<x→aL x→x ∉ S→(P x↔P (x-1))
theorem sY{S:List Int}{zs:List Iv}(h:∀x∈gD zs,x∈S):tY S (aV zs):=fun x h0 n l=>by
 refine Zw fun b=>?_;unfold Wx at b;obtain⟨z,j,b⟩:=List.mem_flatMap.1 b;have m:=(Ls.1 n).2;simp only[RK,RF,or_false]at b;rcases b with e | e
 ·exact l (h x (List.mem_flatMap.2 ⟨z,j,by rw[e];simp⟩))
 refine l (h x (List.mem_flatMap.2 ⟨z,j,?_⟩));rw[if_pos aA,e];simp
def bQ (S:List Int) (i:Nat):Iv:=(S.getD i 0,if i+1<S.length then S.getD (i+1) 0-1 else MX)
theorem bP{S:List Int}{i:Nat}(h:i<S.length):S.getD i 0=S[i]:=by simp[QF,QC h]
theorem jQ{S:List Int}(h:S.Pairwise (·<·)){i j:Nat}(b:i<j)(l:j<S.length):S.getD i 0<S.getD j 0:=by
 rw[bP aA,bP l];exact List.pairwise_iff_getElem.1 h i j aA l b
theorem Cj{S:List Int}(h:eZ S):S.getD 0 0=0∧0<S.length:=by
 obtain⟨i,hi,e⟩:=List.mem_iff_getElem.1 h.zero;have h0:0<S.length:=aA;refine⟨?_,h0⟩;have b:=h.word (S.getD 0 0) (by rw[bP h0];exact QI h0);by_cases g:i=0
 ·subst g;rw[bP h0,e]
 have:=jQ h.asc (show 0<i by omega) hi;rw[bP hi,e]at this;have:=b.1;omega
theorem kC{S:List Int}(h:eZ S){i:Nat}(hi:i<S.length):aL (bQ S i).1∧aL (bQ S i).2∧(bQ S i).1≤(bQ S i).2:=by
 have h1:aL (S.getD i 0):=h.word _ (by rw[bP hi];exact QI hi);unfold bQ;simp only;by_cases g:i+1<S.length
 ·rw[if_pos g];have h2:aL (S.getD (i+1) 0):=h.word _ (by rw[bP g];exact QI g);have h3:=jQ h.asc (show i<i+1 by omega) g;unfold aL at *;omega
 rw[if_neg g];unfold aL MX at *;omega
theorem oI{S:List Int}(h:eZ S){P:Int→Prop}(m:tY S P){i:Nat}(hi:i<S.length):∀(n:Nat) (x:Int),x=S.getD i 0+n→x≤(bQ S i).2→(P x↔P (S.getD i 0))
 | 0,x,e,_=>by rw[e];simp
 | n+1,x,e,hx=>by
   have p:=oI h m hi n (x-1) aA aA;rw[← p];have hs:aL (S.getD i 0):=h.word _ (by rw[bP hi];exact QI hi);have b:=(kC h hi).2.1;refine m x (by have:=hs.1;omega) ⟨by have:=hs.1;omega,by have:=b.2;omega⟩ fun y=>?_;obtain⟨j,l,u⟩:=List.mem_iff_getElem.1 y;have r:S.getD j 0=x:=by rw[bP l];exact u
   have s:i<j:=by
    rcases Nat.lt_trichotomy i j with t | t | t
    ·exact t
    ·subst t;omega
    have:=jQ h.asc t hi;omega
   unfold bQ at hx;simp only at hx;have g:i+1<S.length:=aA;rw[if_pos g]at hx;by_cases t:j=i+1
   ·subst t;omega
   have:=jQ h.asc (show i+1<j by omega) l;omega
theorem Uw{S:List Int}(h:eZ S){x:Int}(p:aL x):∃i,i<S.length∧(bQ S i).1≤x∧x≤(bQ S i).2:=by
 obtain⟨h0,r⟩:=Cj h;have b:∀n,n<S.length→S.getD n 0≤x→∃i,i<S.length∧S.getD i 0≤x∧x≤(bQ S i).2:=by
  intro n;obtain⟨m,s⟩:=aG (S.length-n);induction m generalizing n with
  | zero=>intro l;omega
  | succ m ih=>
    intro l j;by_cases g:n+1<S.length
    ·by_cases t:S.getD (n+1) 0≤x
     ·exact ih (n+1) aA g t
     exact⟨n,l,j,by unfold bQ;simp only;rw[if_pos g];omega⟩
    exact⟨n,l,j,by unfold bQ;simp only;rw[if_neg g];exact(Ls.1 p).2⟩
 exact b 0 r (by rw[h0];exact p.1)
def oH (l:List Iv) (s:Iv):List Iv:=
 match l.getLast? with
 | none=>l ++ [s]
 | some z=>if iU z.1 z.2 s.1 s.2=1 then l.dropLast ++ [(z.1,s.2)] else l ++ [s]
theorem Fr{j b bl l:Int}:iU j b bl l=1↔b+1=bl:=by
 unfold iU;constructor
 ·intro h;split at h
  ·split at h<;>omega
  split at h
  ·split at h<;>omega
  omega
 intro h;rw[if_pos aA,if_pos aA]
theorem Du{zs:List Iv}(h:cL zs){z:Iv}(b:z∈zs):z.1≤z.2:=by
 obtain⟨i,hi,e⟩:=List.mem_iff_getElem.1 b;have h1:=(h i hi).1;have j:Lo zs i=z.1:=by unfold Lo;simp[QF,QC hi,e]
 have l:Hi zs i=z.2:=by unfold Hi;simp[QF,QC hi,e]
 omega
structure UpTo (l:List Iv) (m:Int):Prop where
 cor:cL l
 word:∀z∈l,aL z.1∧aL z.2
 lt:∀z∈l,z.2<m
theorem UpTo.nil(m:Int):UpTo [] m:=⟨fun i hi=>absurd hi aD,fun z b=>(by cases b),fun z b=>(by cases b)⟩
theorem yO{l:List Iv}{s:Iv}(h:cL l)(hs:s.1≤s.2)(u:∀z,l.getLast?=some z→z.2+1<s.1):cL (l ++ [s]):=by
 intro i hi;have p:(l ++ [s]).length=l.length+1:=aD;by_cases g:i<l.length
 ·have j:Lo (l ++ [s]) i=Lo l i:=by unfold Lo;simp[QF,QE g]
  have m:Hi (l ++ [s]) i=Hi l i:=by unfold Hi;simp[QF,QE g]
  rw[j,m];refine⟨(h i g).1,fun h0=>?_⟩;have n:Hi (l ++ [s]) (i-1)=Hi l (i-1):=by unfold Hi;simp[QF,QE (show i-1<l.length by omega)]
  rw[n];exact(h i g).2 h0
 obtain rfl:i=l.length:=aA;have j:Lo (l ++ [s]) l.length=s.1:=by unfold Lo;simp[QF]
 have m:Hi (l ++ [s]) l.length=s.2:=by unfold Hi;simp[QF]
 rw[j,m];refine⟨hs,fun h0=>?_⟩;have b:l≠[]:=by intro e;subst e;simp at h0
 have r:l.getLast?=some (l.getLast b):=QK b;have n:Hi (l ++ [s]) (l.length-1)=(l.getLast b).2:=by
  unfold Hi;rw[QF,QE aA,RH,QC aA];rfl
 rw[n];exact u _ r
theorem UpTo.put{l:List Iv}{m:Int}{s:Iv}(h:UpTo l m)(hs:aL s.1∧aL s.2∧s.1≤s.2)(L:m≤s.1):UpTo (oH l s) (s.2+1)∧∀x,aV (oH l s) x↔aV l x∨(s.1≤x∧x≤s.2):=by
 unfold oH
 cases hg:l.getLast? with
 | none=>
   rw[List.getLast?_eq_none_iff]at hg;subst hg;simp only;refine⟨⟨yO h.cor hs.2.2 (fun z e=>(by cases e)),fun z n=>?_,fun z n=>?_⟩,fun x=>?_⟩
   ·have:z=s:=by simpa using n
    subst this;exact⟨hs.1,hs.2.1⟩
   ·have:z=s:=by simpa using n
    subst this;omega
   rw[RY,dU];exact⟨.inr,fun h=>h.elim (fun h=>absurd h (cY x)) id⟩
 | some z=>
   simp only;have j:l≠[]:=by intro e;subst e;cases hg
   rw[QK j]at hg;injection hg with hg;have r:l.dropLast ++ [z]=l:=by rw[← hg];exact List.dropLast_concat_getLast j
   have n:z∈l:=by rw[← r];simp
   have A:=h.word z n;have H:=h.lt z n;have F:=Du h.cor n;by_cases g:iU z.1 z.2 s.1 s.2=1
   ·rw[if_pos g];have I:=Fr.1 g;have G:cL (l.dropLast ++ [z]):=by rw[r];exact h.cor
    have B:cL l.dropLast:=fun i hi=>by
     have C:i<(l.dropLast ++ [z]).length:=by rw[QB];omega
     have:=G i C;have D:Lo (l.dropLast ++ [z]) i=Lo l.dropLast i:=by unfold Lo;simp[QF,QE hi]
     have J:Hi (l.dropLast ++ [z]) i=Hi l.dropLast i:=by unfold Hi;simp[QF,QE hi]
     rw[D,J]at this;refine⟨this.1,fun h0=>?_⟩;have E:Hi (l.dropLast ++ [z]) (i-1)=Hi l.dropLast (i-1):=by unfold Hi;simp[QF,QE (show i-1<l.dropLast.length by omega)]
     have:=this.2 h0;rw[E]at this;exact this
    have p:∀y,l.dropLast.getLast?=some y→y.2+1<z.1:=fun y b=>by
     have u:l.dropLast≠[]:=by intro e;rw[e]at b;cases b
     rw[QK u]at b;injection b with b;have K:0<l.dropLast.length:=List.length_pos_iff.2 u;have:=(G l.dropLast.length aD).2 K;have D:Lo (l.dropLast ++ [z]) l.dropLast.length=z.1:=by unfold Lo;simp[QF]
     have E:Hi (l.dropLast ++ [z]) (l.dropLast.length-1)=y.2:=by
      unfold Hi;rw[QF,QE aA,← b,RH,QC aA];rfl
     rw[D,E]at this;exact this
    refine⟨⟨yO B (by simp only;omega) (by simpa using p),fun y b=>?_,fun y b=>?_⟩,fun x=>?_⟩
    ·rcases List.mem_append.1 b with b | b
     ·exact h.word y (by rw[← r];simp[b])
     have:y=(z.1,s.2):=by simpa using b
     subst this;exact⟨A.1,hs.2.1⟩
    ·rcases List.mem_append.1 b with b | b
     ·have:=h.lt y (by rw[← r];simp[b]);omega
     have:y=(z.1,s.2):=by simpa using b
     subst this;simp only;omega
    conv=>rhs;rw[← r]
    unfold aV;constructor
    ·rintro⟨y,b,h1⟩;rcases List.mem_append.1 b with b | b
     ·exact .inl ⟨y,by simp[b],h1⟩
     have:y=(z.1,s.2):=by simpa using b
     subst this;simp only at h1;by_cases t:x≤z.2
     ·exact .inl ⟨z,aD,h1.1,t⟩
     exact .inr ⟨aA,h1.2⟩
    rintro(⟨y,b,h1⟩ | h1)
    ·rcases List.mem_append.1 b with b | b
     ·exact⟨y,by simp[b],h1⟩
     have:y=z:=by simpa using b
     subst this;exact⟨(y.1,s.2),aD,h1.1,by simp only;omega⟩
    exact⟨(z.1,s.2),aD,by simp only;omega,h1.2⟩
   rw[if_neg g];have I:¬z.2+1=s.1:=fun e=>g (Fr.2 e);refine⟨⟨yO h.cor hs.2.2 (fun y b=>?_),fun y b=>?_,fun y b=>?_⟩,fun x=>?_⟩
   ·rw[QK j]at b;injection b with b;rw[hg]at b;subst b;omega
   ·rcases List.mem_append.1 b with b | b
    ·exact h.word y b
    have:y=s:=by simpa using b
    subst this;exact⟨hs.1,hs.2.1⟩
   ·rcases List.mem_append.1 b with b | b
    ·have:=h.lt y b;omega
    have:y=s:=by simpa using b
    subst this;omega
   unfold aV;constructor
   ·rintro⟨y,b,h1⟩;rcases List.mem_append.1 b with b | b
    ·exact .inl ⟨y,b,h1⟩
    have:y=s:=by simpa using b
    subst this;exact .inr h1
   rintro(⟨y,b,h1⟩ | h1)
   ·exact⟨y,by simp[b],h1⟩
   exact⟨s,aD,h1⟩
def Ee (tk:Int→Bool) (S:List Int):Nat→List Iv
 | 0=>[]
 | k+1=>if tk (S.getD k 0)then oH (Ee tk S k) (bQ S k)else Ee tk S k
theorem Wz{S:List Int}(h:eZ S)(tk:Int→Bool):∀k,k≤S.length→UpTo (Ee tk S k) (if k<S.length then S.getD k 0 else MX+1)∧∀x,aV (Ee tk S k) x↔∃i,i<k∧tk (S.getD i 0)=true∧(bQ S i).1≤x∧x≤(bQ S i).2
 | 0,_=>⟨UpTo.nil _,fun x=>⟨fun h=>absurd h (cY x),fun⟨i,hi,_⟩=>absurd hi (by omega)⟩⟩
 | k+1,hk=>by
   obtain⟨h1,h2⟩:=Wz h tk k aA;have l:k<S.length:=aA;rw[if_pos l]at h1;have n:=kC h l;have j:(bQ S k).2+1=if k+1<S.length then S.getD (k+1) 0 else MX+1:=by
    unfold bQ;simp only;split<;>omega
   show UpTo (if tk (S.getD k 0)then _ else _) _∧∀x,aV (if tk (S.getD k 0)then _ else _) x↔_;by_cases g:tk (S.getD k 0)=true
   ·simp only[if_pos g];obtain⟨h3,h4⟩:=h1.put n (QA _);rw[j]at h3;refine⟨h3,fun x=>?_⟩;rw[h4,h2];constructor
    ·rintro(⟨i,hi,b⟩ | b)
     ·exact⟨i,aA,b⟩
     exact⟨k,aA,g,b⟩
    rintro⟨i,hi,b,m⟩;by_cases e:i=k
    ·subst e;exact .inr m
    exact .inl ⟨i,aA,b,m⟩
   simp only[if_neg g];refine⟨⟨h1.cor,h1.word,fun z p=>?_⟩,fun x=>?_⟩
   ·have b:=h1.lt z p;have m:S.getD k 0≤(bQ S k).2:=n.2.2;rw[← j];omega
   rw[h2];constructor
   ·rintro⟨i,hi,b⟩;exact⟨i,aA,b⟩
   rintro⟨i,hi,b,m⟩;by_cases e:i=k
   ·subst e;exact absurd b g
   exact⟨i,aA,b,m⟩
theorem Um(l:List Iv)(s:Iv):(oH l s).length≤l.length+1:=by
 unfold oH;split
 ·simp
 split
 ·rw[QB,RT];simp only[RI];omega
 simp
theorem Dt(tk:Int→Bool)(S:List Int):∀k,(Ee tk S k).length≤k
 | 0=>SH _
 | k+1=>by
   have:=Dt tk S k;show(if tk (S.getD k 0)then _ else _:List Iv).length≤_;split
   ·have:=Um (Ee tk S k) (bQ S k);omega
   omega
theorem FP{S:List Int}(h:eZ S)(tk:Int→Bool)(hs:tY S (fun x=>tk x=true)):cL (Ee tk S S.length)∧(∀z∈Ee tk S S.length,aL z.1∧aL z.2)∧∀x,aV (Ee tk S S.length) x↔aL x∧tk x=true:=by
 obtain⟨h1,h2⟩:=Wz h tk S.length (SH _);refine⟨h1.cor,h1.word,fun x=>?_⟩;rw[h2];constructor
 ·rintro⟨i,hi,h3,h4,b⟩;have l:=kC h hi;have j:aL x:=⟨by have:=l.1.1;omega,by have:=l.2.1.2;omega⟩;exact⟨j,(oI h hs hi (x-S.getD i 0).toNat x (by have:(bQ S i).1=S.getD i 0:=rfl;omega) b).2 h3⟩
 rintro⟨j,h3⟩;obtain⟨i,hi,h4,b⟩:=Uw h j;exact⟨i,hi,(oI h hs hi (x-S.getD i 0).toNat x (by have:(bQ S i).1=S.getD i 0:=rfl;omega) b).1 h3,h4,b⟩
structure uA (t e:TypeId) (size:Nat):Prop where
 sl:prog.underlying t=some (.slice e)
 info:∃(i:TypeInfo) (z:Value),prog.info? e=some i∧i.zero=some z∧i.size=size∧i.bytes≤1000∧z.cells.size=size
 pos:0<size
theorem rR{t e:TypeId}{z:Value}{n b:Nat}(hs:prog.underlying t=some (.slice e))(h:(prog.info? e).map (fun i=>(i.zero,i.size,i.bytes))=some (some z,n,b))(p:b≤1000)(l:z.cells.size=n)(m:0<n):uA t e n:=by
 obtain⟨j,h0,h1,h2,h3⟩:=info_parts h;exact⟨hs,⟨j,z,h0,h1,h2,aA,l⟩,m⟩
def NewsAt (w:World) (ad:Addr) (news:List Value):Prop:=∀(j:Nat) (u:Value),news[j]?=some u→w.cell? (ad.add j)=some u
theorem NewsAt.nil(w:World)(ad:Addr):NewsAt w ad []:=fun j u h=>by cases h
structure GH (w:World) (base:Nat) (e:TypeId) (size:Nat) (v:Value) (n m:Nat) (xs news:List Value) (v':Value) (w':World):Prop where
 row:w'.ownsRow base e size v' (n+m) (xs ++ news)
 only:Only (fun b=>v.ownBlock=some b) w w'
 own:v'.ownBlock=v.ownBlock∨v'.ownBlock=some w.heap.size
theorem iG{t e:TypeId}{size:Nat}(T:uA t e size){w:World}{base n m c:Nat}{v:Value}{xs news:List Value}{ad:Addr}(l:w.ownsRow base e size v n xs)(G:news.length=m * size)(b:NewsAt w ad news)(h1:∀u∈news,u.oneCell'=true)(H:n+m≤8000000000)(j:base≤w.heap.size)(s:TypeId) :
  ∃p w',(PH #[t,t] s #[v,.slice (some ad) m c]).run prog w=.ok p w'∧GH w base e size v n m xs news p w':=by
 obtain⟨i,z,h2,h3,h4,y,A⟩:=T.info;have r:(n+m) * i.bytes≤8000000000 * 1000:=Nat.mul_le_mul H y;obtain⟨p,w',B,C,D,_,E⟩:=run_append_own_at (P:=prog) w base t s e i z size i.bytes T.sl h2 h3 h4 rfl A T.pos v n xs l ad m c news G b h1 (by unfold maxLen;omega) aA j;exact⟨p,w',B,⟨C,(Only.refl _ w).grown D (fun k F=>F),E⟩⟩
theorem yS{t e:TypeId}{size:Nat}(T:uA t e size){w:World}{base n:Nat}{v:Value}{xs:List Value}(b:w.ownsRow base e size v n xs)(u:n≤8000000000)(j:base≤w.heap.size)(m:TypeId) :
  ∃l w',(PH #[t,t] m #[v,.slice none 0 0]).run prog w=.ok l w'∧GH w base e size v n 0 xs [] l w':=by
 obtain⟨i,z,h2,h3,h4,r,s⟩:=T.info;have p:=run_append_owned_none (P:=prog) (w:=w) base t m e i size T.sl h2 v n xs b;exact⟨v,w,p,⟨by simpa using b,Only.refl _ _,.inl rfl⟩⟩
theorem Yv{w:World}{base n k size cap:Nat}{e:TypeId}{a:Option Addr}{xs:List Value}(h:w.ownsRow base e size (.slice a n cap) n xs)(j:k≤n):w.ownsRow base e size (.slice a k cap) k (xs.take (k * size)):=by
 obtain⟨h1,h2⟩:=h;have b:k * size≤n * size:=SS _ j;refine⟨by rw[QM];omega,?_⟩;rcases h2 with⟨hv,rfl⟩ | ⟨g,cap',cur,hv,h3,h4,h5,h6,h7,h8⟩
 ·injection hv with e1 e2 e3;subst e1;subst e3;exact .inl ⟨by rw[show k=0 by omega],aA⟩
 injection hv with e1 e2 e3;subst e1;subst e3;exact .inr ⟨g,cap,cur,rfl,h3,h4,aA,h6,h7,by rw[← h8,List.take_take,SU b]⟩
theorem fF{w:World}{base n size:Nat}{e:TypeId}{v:Value}{xs:List Value}(h:w.ownsRow base e size v n xs):(v=.slice none 0 0∧n=0∧xs=[])∨∃g cap,v=.slice (some ⟨g,0,none⟩) n cap∧base≤g∧g<w.heap.size∧n≤cap∧cap≤maxLen∧NewsAt w ⟨g,0,none⟩ xs:=by
 rcases h.2 with⟨rfl,hn⟩ | ⟨g,cap,cur,rfl,h3,h4,h5,h6,h7,h8⟩
 ·exact .inl ⟨rfl,hn,List.length_eq_zero_iff.1 (by have:=h.1;rw[hn]at this;simpa using this)⟩
 refine .inr ⟨g,cap,rfl,h3,aO h4,h5,h6,fun j u b=>?_⟩;have:=World.ownsRow.cells h rfl;exact this j u b
theorem NewsAt.drop{w:World}{g o:Nat}{xs:List Value}(h:NewsAt w ⟨g,o,none⟩ xs)(k:Nat):NewsAt w ⟨g,o+k,none⟩ (xs.drop k):=fun j u b=>by
 rw[List.getElem?_drop]at b;have:=h (k+j) u b;have l:(⟨g,o,none⟩:Addr).add (k+j)=⟨g,o+(k+j),none⟩:=by unfold Addr.add;split<;>simp_all
 have m:(⟨g,o+k,none⟩:Addr).add j=⟨g,o+k+j,none⟩:=by unfold Addr.add;split<;>simp_all
 rw[l]at this;rw[m,Nat.add_assoc];exact this
theorem NewsAt.take{w:World}{ad:Addr}{xs:List Value}(h:NewsAt w ad xs)(k:Nat):NewsAt w ad (xs.take k):=fun j u b=>by
 rw[List.getElem?_take]at b;split at b
 ·exact h j u b
 cases b
theorem NewsAt.keep{w w':World}{g o n:Nat}{xs:List Value}(h:NewsAt w ⟨g,o,none⟩ xs)(m:Below n w w')(p:g<n)(hs:n≤w.heap.size):NewsAt w' ⟨g,o,none⟩ xs:=fun j u l=>by
 have b:(⟨g,o,none⟩:Addr).add j=⟨g,o+j,none⟩:=by unfold Addr.add;split<;>simp_all
 have:=h j u l;rw[b]at this ⊢;rw[← this];simp[PX,m.block g p]
theorem NewsAt.below{w w':World}{g o:Nat}{xs:List Value}(h:NewsAt w ⟨g,o,none⟩ xs)(b:Below w.heap.size w w')(j:g<w.heap.size):NewsAt w' ⟨g,o,none⟩ xs:=h.keep b j (SH _)
theorem cN{w:World}{b:Nat}{vs:List Value}{t:TypeId}{fr:Nat×Nat}(h:w.heap[b]?=some (.cells vs.toArray t fr)):NewsAt w ⟨b,0,none⟩ vs:=bW h
theorem oG:uA 89 57 1:=rR underlying89 iD aB rfl aB
theorem oV{ys:List Int}:∀u∈ys.map (PU .u64),u.oneCell'=true:=by
 intro u b;obtain⟨z,_,rfl⟩:=List.mem_map.1 b;rfl
theorem tV{w:World}{base b n:Nat}{v:Value}{xs:List Int}{y:Int}(h:OwnI w base v xs)(E:xs.length=n)(C:NewsAt w ⟨b,0,none⟩ [.int .u64 y])(D:aL y)(F:n≤4000000000)(j:base≤w.heap.size)(A:TypeId) :
  ∃p w',(PH #[89,89] A #[v,.slice (some ⟨b,0,none⟩) 1 1]).run prog w=.ok p w'∧OwnI w' base p (xs ++ [y])∧Only (fun k=>v.ownBlock=some k) w w':=by
 obtain⟨p,w',B,r⟩:=iG oG (c:=1) (m:=1) h.row (news:=[.int .u64 y]) rfl C (by intro u s;rw[QH]at s;subst s;rfl) aA j A;refine⟨p,w',B,⟨?_,fun z l=>?_⟩,r.only⟩
 ·have:=r.row;rw[QB,QR];exact this
 rcases List.mem_append.1 l with l | l
 ·exact h.words z l
 rw[QH]at l;subst l;exact D
theorem OwnI.sl{w:World}{base n:Nat}{v:Value}{xs:List Int}(h:OwnI w base v xs)(b:xs.length=n):∃a c,v=.slice a n c:=by
 subst b;rcases fF h.row with⟨e,e2,_⟩ | ⟨g,c,e,_⟩
 ·exact⟨none,0,by rw[e,e2]⟩
 exact⟨_,_,e⟩
theorem bV{b:Array Oper}{rest:List Oper}{o:Oper}{a:Act}{Q:Exit→Act→World→Prop}{w w':World}{v l m:Value}{t n:TypeId}(j:o.guard=none)(s x:Operand)
  (ho:o.op=.call { callee:=.builtin .append,args:=#[s,x],argTypes:=#[t,n] }) (hs:a.eval s=v) (r:a.eval x=l) (u:(PH #[t,n] o.type #[v,l]).run prog w=.ok m w')
  (h:wpList prog b Q rest (a.put o.dst m) w'):wpList prog b Q (o :: rest) a w:=by
 refine wpList_plain j fun K p=>?_;unfold PM execOp;simp only[ho,resolve,invoke,builtin,Sem.run_bind,Sem.run_pure,Result.andThen_ok,RM,QT,RP,hs,r,u];exact p _ _ h
structure Rz (t:TypeId) (size:Nat):Prop where
 sl:prog.underlying t=some (.slice (prog.elem t))
 sz:∀W:World,(sizeOf (prog.elem t)).run prog W=.ok size W
theorem mD:Rz 89 1:=⟨aC,fun W=>aC⟩
theorem lU{t:TypeId}{size:Nat}(T:Rz t size)(a:Option Addr)(n cap k:Nat)(b:k≤cap)(W:World):(Instr.sliceAt t (.slice a n cap) none (some (.int .i64 k)) none).run prog W=.ok (.slice a k cap) W:=by
 rw[run_sliceAt_slice _ _ _ _ _ _ T.sl,run_slice_h W _ a n cap T.sl .i64 k aA aA,T.sz];simp[sliced]
 try(cases a<;>simp[Addr.add])
theorem jK{t:TypeId}{size:Nat}(T:Rz t size)(a:Option Addr)(n cap k:Nat)(b:k≤n)(W:World):(Instr.sliceAt t (.slice a n cap) (some (.int .i64 k)) none none).run prog W=.ok (.slice (if cap=k then a else a.map (·.add (k * size))) (n-k) (cap-k)) W:=by
 rw[run_sliceAt_slice _ _ _ _ _ _ T.sl,run_slice_l W _ a n cap T.sl .i64 k aA aA,T.sz];simp[sliced]
theorem bJ{w w':World}{base n size:Nat}{e:TypeId}{v:Value}{xs:List Value}(h:w.ownsRow base e size v n xs)(b:Below w.heap.size w w'):w'.ownsRow base e size v n xs:=by
 obtain⟨h1,h2⟩:=h;refine⟨h1,?_⟩;rcases h2 with h2 | ⟨g,cap,cur,h3,h4,h5,h6⟩
 ·exact .inl h2
 exact .inr ⟨g,cap,cur,h3,h4,by rw[b.block g (aO h5)];exact h5,h6⟩
theorem Nn{t e:TypeId}{size:Nat}(T:uA t e size){w:World}{base n p cp:Nat}{a:Option Addr}{xs cx:List Value}(j:w.ownsRow base e size (.slice a n cp) n xs)(W:p≤n)(R:cx.length=size)(h1:∀u∈xs,u.oneCell'=true)(h2:∀u∈cx,u.oneCell'=true)(X:n≤4000000000)(P:base≤w.heap.size)(G H:TypeId) :
  ∃A w2,(PH #[t,t] G #[.slice (some ⟨w.heap.size,0,none⟩) 1 1,.slice (if cp=p then a else a.map (·.add (p * size))) (n-p) (cp-p)]).run prog (w.alloc (.cells cx.toArray e))=.ok A w2∧Below w.heap.size w w2 ∧
   ∃I w3,(PH #[t,t] H #[.slice a p cp,A]).run prog w2=.ok I w3∧w3.ownsRow base e size I (n+1) (xs.take (p * size) ++ cx ++ xs.drop (p * size))∧Only (fun k=>(PT a n cp).ownBlock=some k) w w3:=by
 obtain⟨w1,m⟩:=aG (w.alloc (.cells cx.toArray e));have B:Below w.heap.size w w1:=by rw[← m];exact aJ (PS _ _) _
 have S:w1.heap.size=w.heap.size+1:=by rw[← m];simp
 have b:w1.ownsRow w.heap.size e size (.slice (some ⟨w.heap.size,0,none⟩) 1 1) 1 cx:=by
  have:=PY (base:=w.heap.size) (e:=e) (size:=size) w cx.toArray 1 (SH _) (by unfold maxLen;omega) (by simp[R]);rw[m]at this;simpa using this
 rw[m];have K:xs.length=n * size:=j.1;have s:(xs.drop (p * size)).length=(n-p) * size:=by rw[QW,K,Nat.sub_mul]
 have C:∃A w2,(PH #[t,t] G #[.slice (some ⟨w.heap.size,0,none⟩) 1 1,.slice (if cp=p then a else a.map (·.add (p * size))) (n-p) (cp-p)]).run prog w1=.ok A w2∧GH w1 w.heap.size e size (.slice (some ⟨w.heap.size,0,none⟩) 1 1) 1 (n-p) cx (xs.drop (p * size)) A w2:=by
  rcases fF j with⟨hv,hn0,hxs⟩ | ⟨g,cap,hv,h3,h4,h5,h6,h7⟩
  ·injection hv with e1 e2 e3;subst e1;subst e3;subst hn0;subst hxs;obtain rfl:p=0:=aA;simp only[if_true,Nat.sub_self,List.drop_nil];exact yS T b aA aA G
  injection hv with e1 e2 e3;subst e1;subst e3;have y:=h7.below B h4;by_cases g1:cp=p
  ·rw[if_pos g1];have L:n-p=0:=aA;have U:xs.drop (p * size)=[]:=List.length_eq_zero_iff.1 (by rw[s,L,Nat.zero_mul]);rw[L,U];exact iG T b aD (NewsAt.nil _ _) (by intro u r;cases r) aA aA G
  rw[if_neg g1];have V:(some (⟨g,0,none⟩:Addr)).map (·.add (p * size))=some ⟨g,0+p * size,none⟩:=by
   simp only[Option.map_some];congr 1
   unfold Addr.add;split<;>simp_all
  rw[V];exact iG T b s (y.drop (p * size)) (fun u r=>h1 u (QY r)) aA aA G
 obtain⟨A,w2,N,Q⟩:=C;have D:Below w.heap.size w1 w2:=Q.only.below (n:=w.heap.size) aA (fun k J=>by simp[PV]at J;omega);have l:Below w.heap.size w w2:=B.trans D;refine⟨A,w2,N,l,?_⟩;have z:=bJ j l;have E:=Yv z W;rcases fF Q.row with⟨_,h0,_⟩ | ⟨L,c2,hv2,h3,h4,h5,h6,h7⟩
 ·omega
 subst hv2;have M:(cx ++ xs.drop (p * size)).length=(1+(n-p)) * size:=by rw[QB,s,R,Nat.add_mul,Nat.one_mul]
 obtain⟨I,w3,O,F⟩:=iG T (c:=c2) E M h7 (by
  intro u r;rcases List.mem_append.1 r with r | r
  ·exact h2 u r
  exact h1 u (QY r)) aA (by have:=l.size;omega) H
 refine⟨I,w3,O,?_,?_⟩
 ·have:=F.row;rw[show p+(1+(n-p))=n+1 by omega,← RW]at this;exact this
 have ho:Only (fun k=>(PT a n cp).ownBlock=some k) w w2:=Only.of_below l;exact ho.trans (F.only.wide (fun k J=>by
  cases a with
  | none=>cases J
  | some x=>exact J))
theorem sS{o:Oper}{a:Act}{next:Act→World→Prop}{Q:Exit→Act→World→Prop}{w w':World}{v b j:Value}{t l:TypeId}(s x:Operand)
  (ho:o.op=.call { callee:=.builtin .append,args:=#[s,x],argTypes:=#[t,l] }) (hs:a.eval s=v) (m:a.eval x=b) (n:(PH #[t,l] o.type #[v,b]).run prog w=.ok j w')
  (h:next (a.put o.dst j) w'):o.wp prog a w next Q:=by
 unfold PM execOp;simp only[ho,resolve,invoke,builtin,Sem.run_bind,Sem.run_pure,Result.andThen_ok,RM,QT,RP,hs,m,n];exact h
theorem Zn{W:World}{A base size:Nat}{e:TypeId}(h:W.heap[A]?=some (.cells #[] e (0,0)))(b:base≤A):W.ownsRow base e size (.slice (some ⟨A,0,none⟩) 0 0) 0 []:=
 ⟨aD,.inr ⟨A,0,#[],rfl,b,h,SH _,by unfold maxLen;omega,aD,aD⟩⟩
theorem Zb{t e:TypeId}{size:Nat}(T:uA t e size){W:World}{base base' n k m cp:Nat}{a:Option Addr}{v:Value}{xs ys:List Value}(z:W.ownsRow base e size v m ys)(p:W.ownsRow base' e size (.slice a n cp) n xs)(C:k≤n)(h1:∀u∈xs,u.oneCell'=true)(D:m+n≤8000000000)(j:base≤W.heap.size)(y:TypeId) :
  ∃l w2,(PH #[t,t] y #[v,.slice a k cp]).run prog W=.ok l w2∧w2.ownsRow base e size l (m+k) (ys ++ xs.take (k * size))∧Only (fun b=>v.ownBlock=some b) W w2∧(l.ownBlock=v.ownBlock∨l.ownBlock=some W.heap.size):=by
 rcases fF p with⟨hv,hn0,hxs⟩ | ⟨g,cap,hv,h3,h4,h5,h6,h7⟩
 ·injection hv with e1 e2 e3;subst e1;subst e3;subst hn0;subst hxs;obtain rfl:k=0:=aA;obtain⟨l,w2,s,r⟩:=yS T z aA j y;exact⟨l,w2,s,by simpa using r.row,r.only,r.own⟩
 injection hv with e1 e2 e3;subst e1;subst e3;have A:(xs.take (k * size)).length=k * size:=by
  rw[QM,p.1];exact SU (SS _ C)
 obtain⟨l,w2,s,r⟩:=iG T (c:=cp) z A (h7.take (k * size)) (fun u B=>h1 u (RR B)) aA j y;exact⟨l,w2,s,r.row,r.only,r.own⟩
theorem Uu{t e:TypeId}{size:Nat}(T:uA t e size){W:World}{base base' n k m cp:Nat}{a:Option Addr}{v:Value}{xs ys:List Value}(B:W.ownsRow base e size v m ys)(r:W.ownsRow base' e size (.slice a n cp) n xs)(F:k≤n)(h1:∀u∈xs,u.oneCell'=true)(G:m+n≤8000000000)(j:base≤W.heap.size)(z:TypeId) :
  ∃p w2,(PH #[t,t] z #[v,.slice (if cp=k then a else a.map (·.add (k * size))) (n-k) (cp-k)]).run prog W=.ok p w2∧w2.ownsRow base e size p (m+(n-k)) (ys ++ xs.drop (k * size))∧Only (fun b=>v.ownBlock=some b) W w2∧(p.ownBlock=v.ownBlock∨p.ownBlock=some W.heap.size):=by
 have s:(xs.drop (k * size)).length=(n-k) * size:=by rw[QW,r.1,Nat.sub_mul]
 rcases fF r with⟨hv,hn0,hxs⟩ | ⟨g,cap,hv,h3,h4,h5,h6,h7⟩
 ·injection hv with e1 e2 e3;subst e1;subst e3;subst hn0;subst hxs;obtain rfl:k=0:=aA;obtain⟨p,w2,y,l⟩:=yS T B aA j z;exact⟨p,w2,by simpa using y,by simpa using l.row,l.only,l.own⟩
 injection hv with e1 e2 e3;subst e1;subst e3;by_cases g1:cp=k
 ·rw[if_pos g1];have C:n-k=0:=aA;have D:xs.drop (k * size)=[]:=List.length_eq_zero_iff.1 (by rw[s,C,Nat.zero_mul]);rw[C,D];obtain⟨p,w2,y,l⟩:=iG T (m:=0) (c:=cp-k) (ad:=⟨g,0,none⟩) B aD (NewsAt.nil _ _) (by intro u A;cases A) aA j z;exact⟨p,w2,y,l.row,l.only,l.own⟩
 rw[if_neg g1];have E:(some (⟨g,0,none⟩:Addr)).map (·.add (k * size))=some ⟨g,0+k * size,none⟩:=by
  simp only[Option.map_some];congr 1
  unfold Addr.add;split<;>simp_all
 rw[E];obtain⟨p,w2,y,l⟩:=iG T (c:=cp-k) B s (h7.drop (k * size)) (fun u A=>h1 u (QY A)) aA j z;exact⟨p,w2,y,l.row,l.only,l.own⟩
theorem rU{t e:TypeId}{size:Nat}(T:uA t e size){W:World}{base m B:Nat}{v:Value}{ys cx:List Value}(s:W.ownsRow base e size v m ys)(y:NewsAt W ⟨B,0,none⟩ cx)(z:cx.length=size)(h1:∀u∈cx,u.oneCell'=true)(A:m≤4000000000)(j:base≤W.heap.size)(p:TypeId) :
  ∃l w2,(PH #[t,t] p #[v,.slice (some ⟨B,0,none⟩) 1 1]).run prog W=.ok l w2∧w2.ownsRow base e size l (m+1) (ys ++ cx)∧Only (fun b=>v.ownBlock=some b) W w2∧(l.ownBlock=v.ownBlock∨l.ownBlock=some W.heap.size):=by
 obtain⟨l,w2,r,n⟩:=iG T (m:=1) (c:=1) s (by rw[z,Nat.one_mul]) y h1 aA j p;exact⟨l,w2,r,n.row,n.only,n.own⟩
theorem pE:uA 56 123 2:=rR underlying56 sG aB rfl aB
theorem rN:Rz 56 2:=⟨aC,fun W=>aC⟩
structure GA (t e:TypeId) (size:Nat) (B:World) (a pa:Option Addr) (n cp k:Nat) (xs cx:List Value):Prop where
 pre:∀(W:World) (A:Nat) (ty:TypeId),W.heap[A]?=some (.cells #[] e (0,0))→Below B.heap.size B W→B.heap.size≤A→∃v W',(PH #[t,t] ty #[.slice (some ⟨A,0,none⟩) 0 0,.slice a k cp]).run prog W=.ok v W'∧W'.ownsRow B.heap.size e size v k (xs.take (k * size))∧Only (fun b=>b=A) W W'∧Below B.heap.size B W'
 one:∀(W:World) (v:Value) (Bk:Nat) (ty:TypeId),W.ownsRow B.heap.size e size v k (xs.take (k * size))→W.heap[Bk]?=some (.cells cx.toArray e (0,0))→Below B.heap.size B W→∃v' W',(PH #[t,t] ty #[v,.slice (some ⟨Bk,0,none⟩) 1 1]).run prog W=.ok v' W'∧W'.ownsRow B.heap.size e size v' (k+1) (xs.take (k * size) ++ cx)∧Below B.heap.size B W'
 post:∀(W:World) (v:Value) (ty:TypeId),W.ownsRow B.heap.size e size v (k+1) (xs.take (k * size) ++ cx)→Below B.heap.size B W→∃v' W',(PH #[t,t] ty #[v,.slice pa (n-k) (cp-k)]).run prog W=.ok v' W'∧W'.ownsRow B.heap.size e size v' (n+1) (xs.take (k * size) ++ cx ++ xs.drop (k * size))∧Below B.heap.size B W'
theorem jG{t e:TypeId}{size:Nat}(T:uA t e size){B:World}{base n cp k:Nat}{a F:Option Addr}(E:(if cp=k then a else a.map (·.add (k * size)))=F){xs cx:List Value}(p:B.ownsRow base e size (.slice a n cp) n xs)(G:k≤n)(h1:∀u∈xs,u.oneCell'=true)(h2:∀u∈cx,u.oneCell'=true)(J:cx.length=size)(L:n≤1000000000):GA t e size B a F n cp k xs cx:=by
 subst E;refine⟨fun W A y H l D=>?_,fun W v K y z I l=>?_,fun W v y z l=>?_⟩
 ·obtain⟨v,W',s,j,ho,_⟩:=Zb T (Zn (e:=e) (size:=size) (base:=B.heap.size) H D) (bJ p l) G h1 aA l.size y;rw[Nat.zero_add,RY]at j;have r:Only (fun b=>b=A) W W':=ho.wide (fun b m=>by simp[PV]at m;omega);exact⟨v,W',s,j,r,l.trans (r.below (n:=B.heap.size) l.size (fun b m=>aA))⟩
 ·obtain⟨C,W',s,j,ho,_⟩:=rU T z (cN I) J h2 aA l.size y;exact⟨C,W',s,j,l.trans (ho.below (n:=B.heap.size) l.size (fun b m=>(z.lt b m).1))⟩
 obtain⟨C,W',s,j,ho,_⟩:=Uu T z (bJ p l) G h1 aA l.size y;rw[show k+1+(n-k)=n+1 by omega]at j;exact⟨C,W',s,j,l.trans (ho.below (n:=B.heap.size) l.size (fun b m=>(z.lt b m).1))⟩
theorem Gj{W:World}{b base n k:Nat}{v:Value}{xs:List Int}{x:Int}(h:W.ownsRow b 57 1 v (n+1) ((xs.map (PU .u64)).take (k * 1) ++ [.int .u64 x] ++ (xs.map (PU .u64)).drop (k * 1)))(m:base≤b)(en:xs.length=n)(r:k≤n)(l:∀z∈xs,aL z)(p:aL x):OwnI W base v (xs.take k ++ [x] ++ xs.drop k):=by
 refine⟨?_,fun z j=>?_⟩
 ·have:=bC h m;rw[Nat.mul_one]at this;rw[show(xs.take k ++ [x] ++ xs.drop k).length=n+1 by simp;omega];rw[QR,QR,SF,SG];exact this
 rcases List.mem_append.1 j with j | j
 ·rcases List.mem_append.1 j with j | j
  ·exact l z (RR j)
  rw[QH]at j;subst j;exact p
 exact l z (QY j)
theorem pC{P:Program}{b:Array Oper}{Q:Exit→Act→World→Prop}{j:PO}{S:World→Prop}{fuel:Nat}{l:Array Bool}{a:Act}{w w':World}{i:Nat}{o:Oper}{d:Tmp}{v:Value}(p:PN j b l=[i])(ho:b[i]?=some o)(m:o.dst=some d∧o.guard=none)(r:(execOp a.eval o).run P w=.ok (.value v) w')(s:S w')(h:wpAnyH P j b Q S fuel (l.setIfInBounds i true) (a.put (some d) v) w'):wpAnyH P j b Q S (fuel+1) l a w:=
 wpAnyH_ready p aD (PF ho (fun K n=>by
  rw[if_pos (by unfold PQ;rw[m.2])];unfold PM;rw[r,PJ,m.1];exact n _ _ s (fun _=>h)) PG)
theorem Mb{P:Program}{b:Array Oper}{Q:Exit→Act→World→Prop}{m:PO}{S:World→Prop}{fuel:Nat}{l:Array Bool}{a:Act}{w w' w2:World}{i j:Nat}{o q:Oper}{d f:Tmp}{v u:Value}(z:PN m b l=[i,j])(ho:b[i]?=some o)(s:o.dst=some d∧o.guard=none)(A:(execOp a.eval o).run P w=.ok (.value v) w')(B:S w')(h:wpAnyH P m b Q S fuel (l.setIfInBounds i true) (a.put (some d) v) w')
  (C:b[j]?=some q) (y:q.dst=some f∧q.guard=none) (p:(execOp a.eval q).run P w=.ok (.value u) w2) (r:S w2) (h2:wpAnyH P m b Q S fuel (l.setIfInBounds j true) (a.put (some f) u) w2):wpAnyH P m b Q S (fuel+1) l a w:=
 wpAnyH_ready z aD (PF ho (fun K n=>by
  rw[if_pos (by unfold PQ;rw[s.2])];unfold PM;rw[A,PJ,s.1];exact n _ _ B (fun _=>h)) (PF C (fun K n=>by
  rw[if_pos (by unfold PQ;rw[y.2])];unfold PM;rw[p,PJ,y.1];exact n _ _ r (fun _=>h2)) PG))
theorem Bh{a:Act}{d:Nat}{v:Value}(h:d<a.tmps.size):(a.put (some d) v).eval (.tmp d)=v:=by
 simp[PE,Act.eval,Array.getD,h]
theorem kJ{a:Act}{d f:Nat}{v:Value}(h:d≠f):(a.put (some d) v).eval (.tmp f)=a.eval (.tmp f):=
 Act.eval_put (fun x b e=>h (by cases b;cases e;rfl))
theorem tC{a:Act}{d:Nat}{v:Value}:(a.put (some d) v).tmps.size=a.tmps.size:=by simp[PE]
theorem Fw{a:Act}{d f:Nat}{v u:Value}(h:d≠f):(a.put (some d) v).put (some f) u=(a.put (some f) u).put (some d) v:=
 Act.put_comm a v u (fun x b e=>h (by cases b;cases e;rfl))
theorem oS{b:Operand→Value}{o:Oper}{w w':World}{v j l:Value}{t m:TypeId}{s x:Operand}
  (ho:o.op=.call { callee:=.builtin .append,args:=#[s,x],argTypes:=#[t,m] }) (hs:b s=v) (n:b x=j) (p:(PH #[t,m] o.type #[v,j]).run prog w=.ok l w'):(execOp b o).run prog w=.ok (.value l) w':=by
 unfold execOp;simp only[ho,resolve,invoke,builtin,Sem.run_bind,Sem.run_pure,Result.andThen_ok,RM,QT,RP,hs,n,p]
theorem BO{j:Array Oper}{Q:Exit→Act→World→Prop}{u:PO}{fuel:Nat}{l:Array Bool}{a:Act}{w:World}{t e:TypeId}{size:Nat}{B:World}{aa pa:Option Addr}{n cp k:Nat}{xs cx:List Value}(T:GA t e size B aa pa n cp k xs cx){vx:Value}{oA oP oB oO:Oper}
  (r y s iO D H I dO O dX:Nat)
  (h:∀v1 v2 v3 v9 w9,w9.ownsRow B.heap.size e size v9 (k+1) (xs.take (k * size) ++ cx)→Below B.heap.size B w9 →
    wpAnyH prog u j Q (Below B.heap.size B) fuel ((((l.setIfInBounds r true).setIfInBounds y true).setIfInBounds s true).setIfInBounds iO true) ((((a.put (some D) v1).put (some H) v2).put (some I) v3).put (some dO) v9) w9)
  (P:Below B.heap.size B w) (vS:a.eval (.tmp O)=.slice aa k cp) (vX:a.eval (.tmp dX)=vx)
  (gA:j[r]?=some oA:=by rfl) (gP:j[y]?=some oP:=by rfl) (gB:j[s]?=some oB:=by rfl) (gO:j[iO]?=some oO:=by rfl)
  (hA:∀G W,(execOp G oA).run prog W=.ok (.value (.slice (some ⟨W.heap.size,0,none⟩) 0 0)) (W.alloc (.cells #[] e)):=by intro G W;go_simp)
  (hB:∀G W,G (.tmp dX)=vx→(execOp G oB).run prog W=.ok (.value (.slice (some ⟨W.heap.size,0,none⟩) 1 1)) (W.alloc (.cells cx.toArray e)):=by intro G W h;go_simp)
  (eA:oA.dst=some D∧oA.guard=none:=by exact⟨rfl,rfl⟩) (eP:oP.dst=some H∧oP.guard=none:=by exact⟨rfl,rfl⟩) (eB:oB.dst=some I∧oB.guard=none:=by exact⟨rfl,rfl⟩) (eO:oO.dst=some dO∧oO.guard=none:=by exact⟨rfl,rfl⟩)
  (cP:oP.op=.call { callee:=.builtin .append,args:=#[.tmp D,.tmp O],argTypes:=#[t,t] }:=by rfl) (cO:oO.op=.call { callee:=.builtin .append,args:=#[.tmp H,.tmp I],argTypes:=#[t,t] }:=by rfl)
  (ne:[D,H,I,O,dX].Nodup:=by decide) (sz:D<a.tmps.size∧H<a.tmps.size∧I<a.tmps.size:=by simp) (ni:[r,y,s].Nodup:=by decide)
  (r0:PN u j l=[r,s]:=by kernel_rfl) (r1:PN u j (l.setIfInBounds r true)=[y,s]:=by kernel_rfl) (r2:PN u j ((l.setIfInBounds r true).setIfInBounds y true)=[s]:=by kernel_rfl) (r3:PN u j ((l.setIfInBounds r true).setIfInBounds s true)=[y]:=by kernel_rfl) (r4:PN u j (l.setIfInBounds s true)=[r]:=by kernel_rfl)
  (r5:PN u j (((l.setIfInBounds r true).setIfInBounds y true).setIfInBounds s true)=[iO]:=by kernel_rfl) :
  wpAnyH prog u j Q (Below B.heap.size B) (fuel+4) l a w:=by
 simp only[RX,RK,RF,or_false,not_or,SD,and_true,not_false_eq_true]at ne ni;obtain⟨⟨n1,S,n4,n5⟩,⟨U,n9,na⟩,⟨nd,nf⟩,_⟩:=ne;obtain⟨⟨p1,p2⟩,p3⟩:=ni;obtain⟨s1,s2,s3⟩:=sz;have z:∀(vA N:Value) (W:World) (b:Nat),W.ownsRow B.heap.size e size N k (xs.take (k * size))→W.heap[b]?=some (.cells cx.toArray e (0,0))→Below B.heap.size B W →
   wpAnyH prog u j Q (Below B.heap.size B) (fuel+1) (((l.setIfInBounds r true).setIfInBounds y true).setIfInBounds s true) (((a.put (some D) vA).put (some H) N).put (some I) (.slice (some ⟨b,0,none⟩) 1 1)) W:=by
  intro vA N W b L hb hW;obtain⟨v8,w8,q8,r8,b8⟩:=T.one W N b oO.type L hb hW;refine pC r5 gO eO (oS cO ((kJ (Ne.symm U)).trans (Bh (by rw[tC];exact s2))) (Bh (by rw[tC,tC];exact s3)) q8) b8 ?_;exact h _ _ _ _ _ r8 b8
 have J:=P.size;have m:Below B.heap.size B (w.alloc (.cells #[] e)):=P.alloc J _;have R:∀v,(a.put (some D) v).eval (.tmp O)=.slice aa k cp:=fun v=>(kJ n4).trans vS;refine Mb r0 gA eA (hA _ _) m ?_ gB eB (hB _ _ vX) (P.alloc J _) ?_
 ·have p:(w.alloc (.cells #[] e)).heap[w.heap.size]?=some (.cells #[] e (0,0)):=aK _ _ rfl;obtain⟨w1,V⟩:=aG (w.alloc (.cells #[] e));rw[V]at m p ⊢;obtain⟨v2,w2,qp,rp,op,bp⟩:=T.pre w1 w.heap.size oP.type p m J;have M:=m.size;have E:(w1.alloc (.cells cx.toArray e)).heap[w.heap.size]?=some (.cells #[] e (0,0)):=aT _ _ (aO p) p;have F:(w1.alloc (.cells cx.toArray e)).heap[w1.heap.size]?=some (.cells cx.toArray e (0,0)):=aK _ _ rfl;have A:Below B.heap.size B (w1.alloc (.cells cx.toArray e)):=m.alloc M _;refine Mb r1 gP eP (oS cP (Bh s1) (R _) qp) bp ?_ gB eB (hB _ _ ((kJ n5).trans vX)) A ?_
  ·have z2:=bp.size;have b4:Below B.heap.size B (w2.alloc (.cells cx.toArray e)):=bp.alloc z2 _;refine pC r2 gB eB (hB _ _ ((kJ na).trans ((kJ n5).trans vX))) b4 ?_;exact z _ _ _ _ (bJ rp (aJ (PS _ _) _)) (aK _ _ rfl) b4
  obtain⟨w4,X⟩:=aG (w1.alloc (.cells cx.toArray e));rw[X]at E F A ⊢;obtain⟨v5,w5,Y,C,Z,K⟩:=T.pre w4 w.heap.size oP.type E A J;refine pC r3 gP eP (oS cP ((kJ (Ne.symm S)).trans (Bh s1)) ((kJ nd).trans (R _)) Y) K ?_;rw[Fw (Ne.symm U),PD _ _ (Ne.symm p3)];have:=aO p;exact z _ _ _ _ C ((Z.block _ (aO F) (fun hk=>absurd this (by rw[show w1.heap.size=w.heap.size from hk];exact Nat.lt_irrefl _))).trans F) K
 have p:(w.alloc (.cells cx.toArray e)).heap[w.heap.size]?=some (.cells cx.toArray e (0,0)):=aK _ _ rfl;have b1:Below B.heap.size B (w.alloc (.cells cx.toArray e)):=P.alloc J _;obtain⟨w1,V⟩:=aG (w.alloc (.cells cx.toArray e));rw[V]at b1 p ⊢;have M:=b1.size;have E:(w1.alloc (.cells #[] e)).heap[w.heap.size]?=some (.cells cx.toArray e (0,0)):=aT _ _ (aO p) p;have F:(w1.alloc (.cells #[] e)).heap[w1.heap.size]?=some (.cells #[] e (0,0)):=aK _ _ rfl;have A:Below B.heap.size B (w1.alloc (.cells #[] e)):=b1.alloc M _;refine pC r4 gA eA (hA _ _) A ?_;obtain⟨w4,X⟩:=aG (w1.alloc (.cells #[] e));rw[X]at E F A ⊢;obtain⟨v5,w5,Y,C,Z,K⟩:=T.pre w4 w1.heap.size oP.type F A M;rw[Fw (Ne.symm S),PD _ _ (Ne.symm p2)];refine pC r3 gP eP (oS cP ((kJ (Ne.symm S)).trans (Bh s1)) ((kJ nd).trans (R _)) Y) K ?_;rw[Fw (Ne.symm U),PD _ _ (Ne.symm p3)];have:=aO p;exact z _ _ _ _ C ((Z.block _ (aO E) (fun hk=>absurd this (by rw[show w.heap.size=w1.heap.size from hk];exact Nat.lt_irrefl _))).trans E) K
theorem uC{b:Array Oper}{Q:Exit→Act→World→Prop}{p:PO}{fuel:Nat}{l:Array Bool}{a:Act}{w:World}{t e:TypeId}{size:Nat}{B:World}{R S:Option Addr}{n cp k U V:Nat}{xs cx:List Value}(T:GA t e size B R S n cp k xs cx)(H:n-k=U)(I:cp-k=V){X:Value}{oA oP oB oO oE:Oper}
  (j r m C J u y z A Y E F K:Nat)
  (h:∀N O P v4 G D,D.ownsRow B.heap.size e size G (n+1) (xs.take (k * size) ++ cx ++ xs.drop (k * size))→Below B.heap.size B D →
    wpAnyH prog p b Q (Below B.heap.size B) fuel (((((l.setIfInBounds j true).setIfInBounds r true).setIfInBounds m true).setIfInBounds C true).setIfInBounds J true) (((((a.put (some u) N).put (some y) O).put (some z) P).put (some A) v4).put (some Y) G) D)
  (hS:Below B.heap.size B w) (vS:a.eval (.tmp E)=.slice R k cp) (vX:a.eval (.tmp F)=X) (vZ:a.eval (.tmp K)=.slice S U V)
  (gA:b[j]?=some oA:=by rfl) (gP:b[r]?=some oP:=by rfl) (gB:b[m]?=some oB:=by rfl) (gO:b[C]?=some oO:=by rfl) (gE:b[J]?=some oE:=by rfl)
  (hA:∀s W,(execOp s oA).run prog W=.ok (.value (.slice (some ⟨W.heap.size,0,none⟩) 0 0)) (W.alloc (.cells #[] e)):=by intro s W;go_simp)
  (hB:∀s W,s (.tmp F)=X→(execOp s oB).run prog W=.ok (.value (.slice (some ⟨W.heap.size,0,none⟩) 1 1)) (W.alloc (.cells cx.toArray e)):=by intro s W h;go_simp)
  (eA:oA.dst=some u∧oA.guard=none:=by exact⟨rfl,rfl⟩) (eP:oP.dst=some y∧oP.guard=none:=by exact⟨rfl,rfl⟩) (eB:oB.dst=some z∧oB.guard=none:=by exact⟨rfl,rfl⟩) (eO:oO.dst=some A∧oO.guard=none:=by exact⟨rfl,rfl⟩) (eE:oE.dst=some Y∧oE.guard=none:=by exact⟨rfl,rfl⟩)
  (cP:oP.op=.call { callee:=.builtin .append,args:=#[.tmp u,.tmp E],argTypes:=#[t,t] }:=by rfl) (cO:oO.op=.call { callee:=.builtin .append,args:=#[.tmp y,.tmp z],argTypes:=#[t,t] }:=by rfl) (cE:oE.op=.call { callee:=.builtin .append,args:=#[.tmp A,.tmp K],argTypes:=#[t,t] }:=by rfl)
  (ne:[u,y,z,A,E,F,K].Nodup:=by decide) (sz:u<a.tmps.size∧y<a.tmps.size∧z<a.tmps.size∧A<a.tmps.size:=by simp) (ni:[j,r,m].Nodup:=by decide)
  (r0:PN p b l=[j,m]:=by kernel_rfl) (r1:PN p b (l.setIfInBounds j true)=[r,m]:=by kernel_rfl) (r2:PN p b ((l.setIfInBounds j true).setIfInBounds r true)=[m]:=by kernel_rfl) (r3:PN p b ((l.setIfInBounds j true).setIfInBounds m true)=[r]:=by kernel_rfl) (r4:PN p b (l.setIfInBounds m true)=[j]:=by kernel_rfl)
  (r5:PN p b (((l.setIfInBounds j true).setIfInBounds r true).setIfInBounds m true)=[C]:=by kernel_rfl) (r6:PN p b ((((l.setIfInBounds j true).setIfInBounds r true).setIfInBounds m true).setIfInBounds C true)=[J]:=by kernel_rfl) :
  wpAnyH prog p b Q (Below B.heap.size B) (fuel+5) l a w:=by
 simp only[RX,RK,RF,or_false,not_or,SD,and_true,not_false_eq_true]at ne;obtain⟨⟨Z,n2,n3,n4,n5,n6⟩,⟨n7,n8,n9,na,nb⟩,⟨nc,nd,nf,ng⟩,⟨nh,nj,nk⟩,np⟩:=ne;refine BO T (fuel:=fuel+1) j r m C u y z A E F (fun N O P v8 w8 h8 b8=>?_) hS vS vX gA gP gB gO hA hB eA eP eB eO cP cO (by simp[Z,n2,n4,n5,n7,n9,na,nd,nf,np.1.1]) ⟨sz.1,sz.2.1,sz.2.2.1⟩ ni r0 r1 r2 r3 r4 r5;obtain⟨G,D,L,r9,M⟩:=T.post w8 v8 oE.type h8 b8;rw[H,I]at L;exact pC r6 gE eE (oS cE (Bh (by rw[tC,tC,tC];exact sz.2.2.2)) ((kJ nk).trans ((kJ ng).trans ((kJ nb).trans ((kJ n6).trans vZ)))) L) M (h _ _ _ _ _ _ r9 M)
abbrev RV:=Value×List Iv
def RV.z:RV:=(.slice none 0 0,[])
structure RgsAt (w:World) (a:Option Addr) (len:Nat) (L:List RV):Prop where
 length:L.length=len
 most:len≤1000000000
 rg:∀p∈L,RgAt w p.1 p.2
 cells:∀i,i<len→∃b off,a=some ⟨b,off,none⟩∧b<w.heap.size∧w.cell? ⟨b,off+i,none⟩=some (L.getD i RV.z).1
theorem RgsAt.below{w w':World}{a:Option Addr}{len:Nat}{L:List RV}(h:RgsAt w a len L)(l:Below w.heap.size w w'):RgsAt w' a len L:=
 ⟨h.length,h.most,fun p m=>(h.rg p m).below l,fun i hi=>by
  obtain⟨b,off,e,j,h1⟩:=h.cells i hi;exact⟨b,off,e,SJ j l.size,aM l j h1⟩⟩
theorem RgsAt.mem{w:World}{a:Option Addr}{len:Nat}{L:List RV}(h:RgsAt w a len L){i:Nat}(hi:i<len):L.getD i RV.z∈L:=by
 have:=h.length;rw[QF,QC aA,Option.getD_some];exact QI aA
def nQ (L:List RV):Nat:=(L.map fun p=>p.2.length).sum
theorem Sy{L:List RV}{p:RV}(h:p∈L):p.2.length≤nQ L:=by
 induction L with
 | nil=>cases h
 | cons q L ih=>
   have b:nQ (q :: L)=q.2.length+nQ L:=by unfold nQ;simp
   rw[b];rcases List.mem_cons.1 h with rfl | h
   ·omega
   have:=ih h;omega
def eC (L:List RV) (k:Nat):List Int:=0 :: ((L.take k).map (·.2)).flatMap gD
theorem xM{L:List RV}{k:Nat}(h:k<L.length):eC L (k+1)=eC L k ++ gD (L.getD k RV.z).2:=by
 unfold eC;rw[QG h,QR,QP];simp[QF,QC h]
theorem pF:∀(L:List RV) (k:Nat),(eC L k).length≤1+2 * nQ L
 | [],k=>by simp[eC]
 | p :: L,0=>by simp[eC]
 | p :: L,k+1=>by
   have j:=pF L k;have l:=Pv p.2;have e:(eC (p :: L) (k+1)).length=(gD p.2).length+(eC L k).length:=by
    unfold eC;simp;omega
   have b:nQ (p :: L)=p.2.length+nQ L:=by unfold nQ;simp
   rw[e,b];omega
theorem xN{L:List RV}{k j:Nat}(h:k<L.length):(eC L k ++ gD ((L.getD k RV.z).2.take j)).length≤1+2 * nQ L:=by
 have h1:=pF L (k+1);rw[xM h,QB]at h1;have h2:(gD ((L.getD k RV.z).2.take j)).length≤(gD (L.getD k RV.z).2).length:=by
  have e:(L.getD k RV.z).2=(L.getD k RV.z).2.take j ++ (L.getD k RV.z).2.drop j:=(QU _ _).symm;conv=>rhs;rw[e]
  unfold gD;rw[QP,QB];omega
 rw[QB];omega
theorem Ju{zs:List Iv}{j:Nat}(h:j<zs.length):gD (zs.take (j+1))=gD (zs.take j) ++ (Lo zs j :: (if Hi zs j<MX then [Hi zs j+1] else [])):=by
 unfold gD;rw[QG h,QP];simp[Lo,Hi,QF,QC h]
def zI {α:Type} (S:List α) (a:Nat) (x:α):List α:=S.take a ++ [x] ++ S.drop a
theorem yE{α:Type}{S:List α}{a:Nat}{x y:α}:y∈zI S a x↔y=x∨y∈S:=by
 unfold zI;conv=>rhs;rw[← QU a S]
 simp only[RN,QH];constructor
 ·rintro((h | h) | h)
  ·exact .inr (.inl h)
  ·exact .inl h
  exact .inr (.inr h)
 rintro(h | h | h)
 ·exact .inl (.inr h)
 ·exact .inl (.inl h)
 exact .inr h
structure PlaceU (S:List Int) (a:Nat) (x:Int):Prop where
 le:a≤S.length
 lo:0<a→S.getD (a-1) 0≤x
 hi:∀j,a≤j→j<S.length→x<S.getD j 0
theorem PlaceU.asc{S:List Int}{a:Nat}{x:Int}(h:PlaceU S a x)(m:S.Pairwise (·<·))(u:0<a→S.getD (a-1) 0≠x):(zI S a x).Pairwise (·<·):=by
 have lo:∀y∈S.take a,y<x:=fun y b=>by
  obtain⟨i,hi,e⟩:=List.mem_iff_getElem.1 b;rw[QM]at hi;rw[List.getElem_take]at e;have h0:0<a:=aA;have n:=h.le;have h1:=h.lo h0;have h2:=u h0;have h3:S.getD i 0=y:=by rw[bP aA];exact e
  by_cases g:i=a-1
  ·subst g;omega
  have:=jQ m (show i<a-1 by omega) aA;omega
 have hi:∀y∈S.drop a,x<y:=fun y b=>by
  obtain⟨i,hi,e⟩:=List.mem_iff_getElem.1 b;rw[QW]at hi;rw[List.getElem_drop]at e;have:=h.hi (a+i) aA aA;rw[bP aA,e]at this;exact this
 have j:=m;rw[← QU a S]at j;obtain⟨p,r,s⟩:=List.pairwise_append.1 j;unfold zI;refine List.pairwise_append.2 ⟨List.pairwise_append.2 ⟨p,List.pairwise_singleton _ _,fun y b z l=>?_⟩,r,fun y b z l=>?_⟩
 ·rw[QH]at l;subst l;exact lo y b
 rcases List.mem_append.1 b with b | b
 ·exact s y b z l
 rw[QH]at b;subst b;exact hi z l
theorem uG(a:Option Addr)(len cap:Nat)(L:List RV)(w:World)(h:RgsAt w a len L)(ht:nQ L≤1000000) :
  Calls prog 217 #[.slice a len cap] w fun e w'=>∃v S,e=.returned v∧OwnI w' w.heap.size v S∧eZ S∧(∀x,x∈S↔x∈eC L len)∧S.length≤1+2 * nQ L∧Below w.heap.size w w':=by
 have H:=aI h;have HT:=aI ht;have hl:=aI h.length;have F2:=h.most;clear h ht;go_enter func217,ntmps217;have O0:=aI (show OwnI (w.alloc (.cells #[.int .u64 0] 57)) w.heap.size (.slice (some ⟨w.heap.size,0,none⟩) 1 1) (eC L 0)from⟨PY (base:=w.heap.size) (e:=57) (size:=1) w #[.int .u64 0] 1 (SH _) aB rfl,fun z hz=>by
  obtain rfl:z=0:=by simpa[eC]using hz
  exact⟨aB,aB⟩⟩)
 have B0:=aI (aJ (PS w.heap.size w) (.cells #[.int .u64 0] 57));go_wp2;go_loopw [3,4] (fun v i wr=>∃k:Nat,k≤len∧i=.int .i64 k∧OwnI wr w.heap.size v (eC L k)∧Below w.heap.size w wr) (fun _ i _=>len-(intOf i).toNat)
 case atStart=>exact⟨0,SI _,rfl,O0,B0⟩
 obtain⟨k,hk,rfl,G,hb⟩:=hrel;have HO:=aI G;have HB:=aI hb;clear G;have i0:(0:Int)≤(k:Int):=aA;by_cases hlt:k<len
 ·have i1:(k:Int)<(len:Int):=aA;obtain⟨nz,C0⟩:=aG ((L.getD k RV.z).2.length);have D5:=aI C0;have G9:nz≤1000000:=by have:=Sy (H.mem hlt);have:=HT.out;omega
  obtain⟨az,cz,E3⟩:∃az cz,(L.getD k RV.z).1=.slice az nz cz:=by
   obtain⟨az,cz,e,_⟩:=H.rg _ (H.mem hlt);exact⟨az,cz,by rw[e,C0]⟩
  have HZ:=aI (show ∀W,Below w.heap.size w W→Prs W az nz (L.getD k RV.z).2∧∃b off,a=some ⟨b,off,none⟩∧W.cell? ⟨b,off+k,none⟩=some (.slice az nz cz)from fun W hW=>by
   obtain⟨H3,H4,e,hP,_⟩:=(H.below hW).rg _ (H.mem hlt);obtain⟨b,off,Z,_,hc⟩:=(H.below hW).cells k hlt;rw[E3]at e hc;injection e with e3 e4 e5;subst e3;rw[C0]at hP;exact⟨hP,b,off,Z,hc⟩)
  clear C0 E3;obtain⟨wk,G0⟩:=aH (wr:World);subst G0;go_wp2_with fail;go_loopw [3,5] (fun v j wr=>∃n:Nat,n≤nz∧j=.int .i64 n∧OwnI wr w.heap.size v (eC L k ++ gD ((L.getD k RV.z).2.take n))∧Below w.heap.size w wr) (fun _ j _=>nz-(intOf j).toNat)
  case atStart=>exact⟨0,SI _,rfl,by simpa[gD]using HO.out,HB⟩
  obtain⟨n,hn,rfl,G,A9⟩:=hrel;have HO:=aI G;have HB:=aI A9;clear hb;obtain⟨hP,b,off,rfl,hc⟩:=HZ.out _ A9;have j0:(0:Int)≤(n:Int):=aA;by_cases hlt2:n<nz
  ·have j1:(n:Int)<(nz:Int):=aA;obtain⟨b2,C4,rfl,_,E4,J⟩:=hP.cells n hlt2;have A3:=hP.word hlt2;have B8:=aI (Ju (zs:=(L.getD k RV.z).2) (j:=n) (by rw[D5.out];exact hlt2));have F3:=aI (xN (L:=L) (k:=k) (j:=n) (by rw[hl.out];exact hlt));have G7:=aI (xN (L:=L) (k:=k) (j:=n+1) (by rw[hl.out];exact hlt));obtain⟨lo,D3⟩:=aG (Lo (L.getD k RV.z).2 n);obtain⟨hi,D4⟩:=aG (Hi (L.getD k RV.z).2 n);rw[D3]at E4 A3 B8;rw[D4]at J A3 B8;have D6:=aI (PC D3 D4);have F4:=aI A3;obtain⟨X,eX⟩:=aG (eC L k ++ gD ((L.getD k RV.z).2.take n));have EX:=aI eX;rw[eX]at G;obtain⟨m,em⟩:=aG X.length;have D7:=aI (show m≤3000000 from by rw[← em,← eX];have:=F3.out;have:=HT.out;omega);obtain⟨a3,c3,rfl⟩:=G.sl em;have EM:=aI em;obtain⟨v5,w5,E5,E6,C5⟩:=tV (b:=wr.heap.size) (G.below (aJ (PS wr.heap.size wr) (.cells #[.int .u64 lo] 57))) em (cN (vs:=[.int .u64 lo]) (aK _ _ rfl)) A3.1 (by have:=D7.out;omega) (by have:=A9.size;simp;omega) 89;have O5:=aI E6;have B5:=aI (show Below w.heap.size w w5 from(aJ A9 _).trans (C5.below (n:=w.heap.size) (by have:=A9.size;simp;omega) (fun q hq=>(G.row.lt q hq).1)));clear G hP A3 D3 D4 eX em E6 C5;go_wp2_with(first | (at_builtin;go_loud(refine bV rfl _ _ rfl rfl rfl E5 ?_)) | fail)
   clear E5 hc E4 J;obtain⟨hP,b9,off9,C,hc⟩:=HZ.out _ B5;obtain⟨rfl,rfl⟩:b=b9∧off=off9:=by injection C with C;injection C with e1 Z;exact⟨e1,Z⟩
   obtain⟨b8,off8,u,_,_,J⟩:=hP.cells n hlt2;obtain⟨rfl,rfl⟩:b2=b8∧C4=off8:=by injection u with u;injection u with e1 Z;exact⟨e1,Z⟩
   rw[D6.2]at J;clear hP C u;by_cases hmx:hi<18446744073709551615
   ·have d1:decide (hi<18446744073709551615)=true:=decide_eq_true hmx;go_quiet ((go_at_call 221;exact iJ (xD _)));clear d1 hc J;obtain⟨w6,C1⟩:=aG (w5.drewN nq);have O6:=aI (show OwnI w6 w.heap.size v5 (X ++ [lo])from by rw[← C1];exact O5.below (aU (PS _ _) nq));have B6:=aI (show Below w.heap.size w w6 from by rw[← C1];exact aU B5 nq);rw[C1];clear C1 O5 B5;obtain⟨hP,b9,off9,C,hc⟩:=HZ.out _ B6;obtain⟨rfl,rfl⟩:b=b9∧off=off9:=by injection C with C;injection C with e1 Z;exact⟨e1,Z⟩
    obtain⟨b8,off8,u,_,_,J⟩:=hP.cells n hlt2;obtain⟨rfl,rfl⟩:b2=b8∧C4=off8:=by injection u with u;injection u with e1 Z;exact⟨e1,Z⟩
    rw[D6.2]at J;have C8:aL (hi+1):=⟨by have:=F4.2.1;omega,aA⟩;have q1:IntKind.u64.wrap (hi+1)=hi+1:=bA C8;have e7:(X ++ [lo]).length=m+1:=by rw[QB,EM.out];rfl
    obtain⟨a6,c6,rfl⟩:=O6.sl e7;obtain⟨v7,w7,E7,E8,C6⟩:=tV (b:=w6.heap.size) (O6.below (aJ (PS w6.heap.size w6) (.cells #[.int .u64 (hi+1)] 57))) e7 (cN (vs:=[.int .u64 (hi+1)]) (aK _ _ rfl)) C8 (by have:=D7.out;omega) (by have:=B6.size;simp;omega) 89;have O7:=aI E8;have B7:=aI (show Below w.heap.size w w7 from(aJ B6 _).trans (C6.below (n:=w.heap.size) (by have:=B6.size;simp;omega) (fun q hq=>(O6.row.lt q hq).1)));clear E8 C6 hP C u e7 C8;go_wp2_with(first | (at_builtin;go_loud(refine bV rfl _ _ rfl rfl rfl E7 ?_)) | fail)
    clear E7 hc J q1;go_wp2;go_roundw
    case rel=>
     have V:∃n':Nat,n'≤nz∧(.int .i64 ((n:Int)+1):Value)=.int .i64 n'∧OwnI w7 w.heap.size v7 (eC L k ++ gD ((L.getD k RV.z).2.take n'))∧Below w.heap.size w w7:=⟨n+1,aA,aD,by
      have:=O7.out;rw[← EX.out]at this;rw[B8.out,if_pos (show hi<MX from hmx)];simpa using this,B7⟩
     first | exact V | (obtain⟨n',f1,f2,f3,f4⟩:=V;exact⟨n',f1,by go_num,f3,f4⟩)
    simp[intOf];omega
   have d1:decide (hi<18446744073709551615)=false:=decide_eq_false hmx;go_quiet ((go_at_call 221;exact iJ (xD _)));clear d1 hc J;have O6:=aI (O5.below (aU (PS _ _) nq));have B6:=aI (aU B5 nq);go_wp2;go_roundw
   case rel=>
    have V:∃n':Nat,n'≤nz∧(.int .i64 ((n:Int)+1):Value)=.int .i64 n'∧OwnI (w5.drewN nq) w.heap.size v5 (eC L k ++ gD ((L.getD k RV.z).2.take n'))∧Below w.heap.size w (w5.drewN nq):=⟨n+1,aA,aD,by
     have:=O6.out;rw[← EX.out]at this;rw[B8.out,if_neg (show ¬hi<MX from hmx)];simpa using this,B6⟩
    first | exact V | (obtain⟨n',f1,f2,f3,f4⟩:=V;exact⟨n',f1,by go_num,f3,f4⟩)
   simp[intOf];omega
  obtain rfl:nz=n:=aA;have HF:=aI (show eC L k ++ gD ((L.getD k RV.z).2.take nz)=eC L (k+1)from by rw[xM (by rw[hl.out];exact hlt),← D5.out,RL]);clear G hP;go_wp2;go_roundw
  case rel=>exact⟨k+1,aA,by go_num,by rw[← HF.out];exact HO,HB⟩
  simp[intOf];omega
 obtain rfl:len=k:=aA;obtain⟨l,G1⟩:=aH (wr:World);subst G1;obtain⟨Y,eY⟩:=aG (eC L len);have F5:Y.length≤3000000:=by rw[← eY];have:=pF L len;have:=HT.out;omega
 have F6:=aI (show Y.length≤1+2 * nQ L from by rw[← eY];exact pF L len);have H0:=aI (show Y.take 1=[0] from by rw[← eY];rfl);have A4:=HO.out;rw[eY]at A4;have WY:=aI A4.words;obtain⟨m,em⟩:=aG Y.length;rw[em]at F5;obtain⟨a3,c3,G2⟩:=A4.sl em;subst G2;have hI:=aI (A4.ints aA);have HI:=aI (show ∀W,Below l.heap.size l W→Ints .u64 W a3 m Y from fun W hW=>by
  obtain⟨a',c',e,hh,_⟩:=hI.out;rw[em]at e hh;injection e with e1 Z e3;subst e1;exact hh.below hW)
 have EM:=aI em;have EY:=aI eY;have D8:=aI HB.size;clear em eY A4 HO hI;go_wp2_with fail;go_loopw [6,7] (fun o i wr=>∃(q n:Nat) (S:List Int),q≤m∧i=.int .i64 q∧OwnI wr l.heap.size o S∧S.length=n∧n≤q∧S.Pairwise (·<·)∧(∀x,x∈S↔x∈Y.take q)∧Below l.heap.size l wr) (fun _ i _=>m-(intOf i).toNat)
 case atStart=>exact⟨0,0,[],SI _,rfl,OwnI.nil _ _,rfl,SI _,List.Pairwise.nil,aD,PS _ _⟩
 have hmx:prog.follows .mixedOrders=true:=aC;obtain⟨q,n,S,hq,rfl,G,hn,H5,C7,Q,R⟩:=hrel;have D9:=aI R;have U:=aI hn;have O:=aI C7;have A1:=aI Q;clear C7 Q hb;have q0:(0:Int)≤(q:Int):=aA;obtain⟨M,B,rfl⟩:=G.sl hn;by_cases hlt3:q<m
 ·have q1:(q:Int)<(m:Int):=aA;obtain⟨x,ex⟩:=aG (Y.getD q 0);have EX:=aI ex;have WX:=aI (show aL x from by rw[← ex];exact WY _ (by rw[bP (by rw[EM.out];exact hlt3)];exact QI _));have HC:=aI (show ∀W,Below l.heap.size l W→∃b off,a3=some ⟨b,off,none⟩∧b<l.heap.size∧W.cell? ⟨b,off+q,none⟩=some (.int .u64 x)from fun W hW=>by
   obtain⟨b0,E9,e0,G3,_⟩:=(HI l (PS _ _)).cells q hlt3;obtain⟨b,off,e,_,hc⟩:=(HI W hW).cells q hlt3;rw[e0]at e;injection e with e;injection e with e1 Z _;subst e1;subst Z;exact⟨b0,E9,e0,G3,by rw[← ex];exact hc⟩)
  have F7:=aI (show ∀W,OwnI W l.heap.size (.slice M n B) S→n≤B from fun W hW=>by
   rcases fF hW.row with⟨e,h0,_⟩ | ⟨g,cc,e,_,_,h5,_⟩
   ·injection e with _ Z e3;omega
   injection e with _ Z e3;rw[U.out]at h5;omega)
  have A5:=aI (show ∀W p,OwnI W l.heap.size (.slice M n B) S→p<n→∃b off,M=some ⟨b,off,none⟩∧W.cell? ⟨b,off+p,none⟩=some (.int .u64 (S.getD p 0))from fun W p hW hp=>by
   obtain⟨a',c',e,hh,_⟩:=hW.ints (by rw[U.out];omega);rw[U.out]at e hh;injection e with e1 Z e3;subst e1;obtain⟨b,off,e,_,hc⟩:=hh.cells p hp;exact⟨b,off,e,hc⟩)
  have HO:=aI G;clear ex G;go_wp2_with fail;obtain⟨wx,G4⟩:=aH (wr:World);subst G4;go_loopw [8] (fun t wr=>∃p:Nat,p≤n∧t=.int .i64 p∧(∀j,p≤j→j<n→x<S.getD j 0)∧OwnI wr l.heap.size (.slice M n B) S∧Below l.heap.size l wr) (fun t _=>(intOf t).toNat)
  case atStart=>exact⟨n,SH _,rfl,fun j h1 h2=>aA,HO,D9⟩
  obtain⟨p,B1,rfl,F0,G,F1⟩:=hrel;have s:=aI (PC G F1);have C9:=aI F0;have G8:=F7.out _ G;clear F0 G R F1;obtain⟨wq,G5⟩:=aH (wr:World);subst G5;have H1:=fun W=>lU mD M n B p aA W;have F8:=fun W=>jK mD M n B p B1 W;obtain⟨aq,C2⟩:=aG (if B=p then M else M.map (·.add (p * 1)));rw[C2]at F8;have H2:=aI C2;obtain⟨b3,A2,rfl,H6,l0⟩:=HC.out _ s.2;have NB:=aI (show ¬(PT M n B).ownBlock=some b3 from fun e=>by have:=(s.1.row.lt b3 e).1;omega);have E0:=aI (show ∀w3 v3,w3.ownsRow l.heap.size 57 1 v3 (n+1) ((S.map (PU .u64)).take (p * 1) ++ [.int .u64 x] ++ (S.map (PU .u64)).drop (p * 1))→OwnI w3 l.heap.size v3 (zI S p x)from fun w3 v3 h3=>⟨by
   have e1:(zI S p x).length=n+1:=by unfold zI;simp only[QB,QM,QW,RI,U.out];omega
   rw[e1];unfold zI;rw[QR,QR,SF,SG];rw[Nat.mul_one]at h3;exact h3,fun z hz=>by
   rcases yE.1 hz with rfl | hz
   ·exact WX
   exact s.1.words z hz⟩)
  have TK:=aI (show Y.take (q+1)=Y.take q ++ [x] from by
   rw[QG (by rw[EM.out];exact hlt3),← EX.out,bP (by rw[EM.out];exact hlt3)])
  by_cases hp0:(p:Int)=0
  ·have d1:decide ((0:Int)<(p:Int))=false:=decide_eq_false aA;have d2:decide (0<p)=false:=decide_eq_false aA;have d3:decide ((p:Int)=0)=true:=decide_eq_true hp0;have d4:decide (p=0)=true:=decide_eq_true aA;have d5:((p:Int) == 0)=true:=by simp;omega
   have d6:(p == 0)=true:=by simp;omega
   have PL:=aI (show PlaceU S p x from⟨by rw[U.out];exact B1,fun h=>aA,fun j h1 h2=>C9 j h1 (by rw[← U.out];exact h2)⟩);have D0:=aI (PL.asc O (fun h=>aA));have P0:=aI hp0;clear hp0;go_wp2_with fail;go_quiet (fail);obtain⟨wy,D⟩:=aG (wq.drewN nq:World);have s:=aI (show OwnI wy l.heap.size (.slice M n B) S∧Below l.heap.size l wy from by rw[← D];exact⟨s.1.below (aU (PS _ _) nq),aU s.2 nq⟩);rw[D];clear D;obtain⟨_,_,u,_,l0⟩:=HC.out _ s.2;injection u with u;injection u with e81 e82 _;subst e81;subst e82;go_wp2_with fail;go_quiet (fail);obtain⟨wz,E⟩:=aG (wy.drewN nq:World);have s:=aI (show OwnI wz l.heap.size (.slice M n B) S∧Below l.heap.size l wz from by rw[← E];exact⟨s.1.below (aU (PS _ _) nq),aU s.2 nq⟩);rw[E];clear E;obtain⟨_,_,u,_,l0⟩:=HC.out _ s.2;injection u with u;injection u with e81 e82 _;subst e81;subst e82;clear d1 d2 d3 d4 d5 d6;go_wp2_with fail;refine wp_region_held_drew (S:=Only (fun k=>(PT M n B).ownBlock=some k) wz) hmx (Only.refl _ _).drew (fun hS=>?_);obtain⟨wd,N⟩:=aG wz.drew;have BD:=aI (show Below l.heap.size l wd from by rw[← N];exact aS s.2);have OD:=aI (show OwnI wd l.heap.size (.slice M n B) S from by rw[← N];exact s.1.below (aS (PS _ _)));rw[N]at hS ⊢;clear N;obtain⟨v2,w2,A0,R,v3,w3,B2,F,B4⟩:=Nn oG (cx:=[.int .u64 x]) (show wd.ownsRow l.heap.size 57 1 (.slice M n B) n (S.map (PU .u64))from by have:=OD.row;rw[U.out]at this;exact this) B1 rfl oV (oV (ys:=[x])) aA BD.size 89 89;rw[C2]at A0;have A6:=aI F;have A7:=aI B4;clear F B4;refine aP 0 96 (.slice M n B) ?_;refine aP 1 97 (.int .i64 (p:Int)) ?_;refine aP 2 98 (.slice M p B) ?_;refine aP 3 99 (.slice (some ⟨b3,A2,none⟩) m c3) ?_;refine aP 4 100 (.int .i64 (q:Int)) ?_;refine aP 5 101 (.pointer (some ⟨b3,A2+q,none⟩)) ?_;refine dL 6 102 (.int .u64 x) ?_ ?_
   ·intro X hX;have x0:=hX.cell (fun h=>NB h) l0;go_simp
   refine aP 8 104 (.slice M n B) ?_;refine aP 9 105 (.int .i64 (p:Int)) ?_;refine aP 10 106 (.slice aq (n-p) (B-p)) ?_;refine cW 7 fun K T=>?_;go_simp;refine T _ _ (hS.alloc (.cells #[.int .u64 x] 57)) (fun _=>?_);clear T K;refine cW 11 fun K T=>?_;refine sS _ _ rfl rfl rfl A0 ?_;simp only[PE,QV,QZ,RA];refine T _ _ (hS.trans (Only.of_below R)) (fun _=>?_);clear T K;refine cW 12 fun K T=>?_;refine sS _ _ rfl rfl rfl B2 ?_;simp only[PE,QV,QZ,RA];refine T _ _ (hS.trans A7) (fun _=>?_);clear T K;refine aP 13 6 (v3) ?_;refine iM ?_;have B3:=aI (show Below l.heap.size l w3 from BD.trans (A7.below (n:=l.heap.size) BD.size (fun k hk=>(OD.row.lt k hk).1)));have O3:=aI (E0 _ _ A6);clear hS A0 B2 R;go_wp2;go_roundw
   case rel=>exact⟨q+1,n+1,zI S p x,aA,by go_num,O3,by unfold zI;simp only[QB,QM,QW,RI,U.out];omega,aA,D0,fun z=>by
    rw[TK.out,RN,QH,← A1.out,yE];exact or_comm,B3⟩
   simp[intOf];omega
  obtain⟨r,er⟩:=aG (p-1);have B9:=aI (show p=r+1 from aA);have E1:r<n:=aA;have A8:=aI E1;obtain⟨bo,A,G6,I⟩:=A5.out _ r s.1 E1;subst G6;obtain⟨y,ey⟩:=aG (S.getD r 0);rw[ey]at I;have P:=aI ey;have qw:IntKind.i64.wrap ((p:Int)-1)=(r:Int):=by rw[PI];omega
  have d1:decide ((0:Int)<(p:Int))=true:=decide_eq_true aA;have d2:decide (0<p)=true:=decide_eq_true aA;have d5:((p:Int) == 0)=false:=by simp;omega
  have d6:(p == 0)=false:=by simp;omega
  have r0:(0:Int)≤(r:Int):=aA;have r1:(r:Int)<(n:Int):=aA;clear er ey hp0;by_cases hxy:x<y
  ·have d7:decide (x<y)=true:=decide_eq_true hxy;go_wp2_with fail;go_quiet (fail);obtain⟨wy,D⟩:=aG (wq.drewN nq:World);have s:=aI (show OwnI wy l.heap.size (.slice (some ⟨bo,A,none⟩) n B) S∧Below l.heap.size l wy from by rw[← D];exact⟨s.1.below (aU (PS _ _) nq),aU s.2 nq⟩);rw[D];clear D;obtain⟨_,_,u,_,l0⟩:=HC.out _ s.2;injection u with u;injection u with e81 e82 _;subst e81;subst e82;obtain⟨_,_,C,I⟩:=A5.out _ r s.1 A8;injection C with C;injection C with e91 e92 _;subst e91;subst e92;rw[P.out]at I;clear d1 d2 d5 d6 d7;go_wp2;go_roundw
   case rel=>exact⟨r,aA,by go_num,fun j h1 h2=>(by
    by_cases e:j=r
    ·subst e;rw[P.out];exact hxy
    exact C9 j (by have:=B9.out;omega) h2),s.1,s.2⟩
   simp[intOf];have:=B9.out;omega
  have d7:decide (x<y)=false:=decide_eq_false hxy;have PL:=aI (show PlaceU S p x from⟨by rw[U.out];exact B1,fun h=>by
   rw[show p-1=r by have:=B9.out;omega,P.out];omega,fun j h1 h2=>C9 j h1 (by rw[← U.out];exact h2)⟩)
  go_wp2_with fail;go_quiet (fail);obtain⟨wy,D⟩:=aG (wq.drewN nq:World);have s:=aI (show OwnI wy l.heap.size (.slice (some ⟨bo,A,none⟩) n B) S∧Below l.heap.size l wy from by rw[← D];exact⟨s.1.below (aU (PS _ _) nq),aU s.2 nq⟩);rw[D];clear D;obtain⟨_,_,u,_,l0⟩:=HC.out _ s.2;injection u with u;injection u with e81 e82 _;subst e81;subst e82;obtain⟨_,_,C,I⟩:=A5.out _ r s.1 A8;injection C with C;injection C with e91 e92 _;subst e91;subst e92;rw[P.out]at I;clear d1 d2 d7;by_cases hyx:y=x
  ·have d8:(y == x)=true:=by simp[hyx]
   have d9:decide (y=x)=true:=decide_eq_true hyx;have D1:(y != x)=false:=by simp[hyx]
   have F9:=aI (show x∈S from by rw[← hyx,← P.out,bP (by rw[U.out];exact A8.out)];exact QI _);clear hyx;go_wp2_with fail;go_quiet (fail);obtain⟨wz,E⟩:=aG (wy.drewN nq:World);have s:=aI (show OwnI wz l.heap.size (.slice (some ⟨bo,A,none⟩) n B) S∧Below l.heap.size l wz from by rw[← E];exact⟨s.1.below (aU (PS _ _) nq),aU s.2 nq⟩);rw[E];clear E;obtain⟨_,_,u,_,l0⟩:=HC.out _ s.2;injection u with u;injection u with e81 e82 _;subst e81;subst e82;obtain⟨_,_,C,I⟩:=A5.out _ r s.1 A8;injection C with C;injection C with e91 e92 _;subst e91;subst e92;rw[P.out]at I;clear d5 d6 d8 d9 D1;have C3:=aI (show ∀z,z∈S↔z∈Y.take (q+1)from fun z=>by
    rw[TK.out,RN,QH,← A1.out];exact⟨.inl,fun h=>h.elim id (fun e=>e ▸ F9.out)⟩)
   go_wp2
   ·go_roundw
    case rel=>exact⟨q+1,n,S,aA,by go_num,s.1,U,aA,O,C3,s.2⟩
    simp[intOf];omega
   all_goals exact⟨⟨q+1,n,S,aA,by go_num,s.1,U,aA,O,C3,s.2⟩,by simp[intOf];omega⟩
  have d8:(y == x)=false:=by simp[hyx]
  have d9:decide (y=x)=false:=decide_eq_false hyx;have D1:(y != x)=true:=by simp[hyx]
  have D0:=aI (PL.asc O (fun h=>by rw[show p-1=r by have:=B9.out;omega,P.out];exact hyx));clear hyx;go_wp2_with fail;go_quiet (fail);obtain⟨wz,E⟩:=aG (wy.drewN nq:World);have s:=aI (show OwnI wz l.heap.size (.slice (some ⟨bo,A,none⟩) n B) S∧Below l.heap.size l wz from by rw[← E];exact⟨s.1.below (aU (PS _ _) nq),aU s.2 nq⟩);rw[E];clear E;obtain⟨_,_,u,_,l0⟩:=HC.out _ s.2;injection u with u;injection u with e81 e82 _;subst e81;subst e82;obtain⟨_,_,C,I⟩:=A5.out _ r s.1 A8;injection C with C;injection C with e91 e92 _;subst e91;subst e92;rw[P.out]at I;clear d5 d6 d8 d9 D1 qw I;go_wp2_with fail;refine wp_region_held_drew (S:=Only (fun k=>(PT (some ⟨bo,A,none⟩) n B).ownBlock=some k) wz) hmx (Only.refl _ _).drew (fun hS=>?_);obtain⟨wd,N⟩:=aG wz.drew;have BD:=aI (show Below l.heap.size l wd from by rw[← N];exact aS s.2);have OD:=aI (show OwnI wd l.heap.size (.slice (some ⟨bo,A,none⟩) n B) S from by rw[← N];exact s.1.below (aS (PS _ _)));rw[N]at hS ⊢;clear N;obtain⟨v2,w2,A0,R,v3,w3,B2,F,B4⟩:=Nn oG (cx:=[.int .u64 x]) (show wd.ownsRow l.heap.size 57 1 (.slice (some ⟨bo,A,none⟩) n B) n (S.map (PU .u64))from by have:=OD.row;rw[U.out]at this;exact this) B1 rfl oV (oV (ys:=[x])) aA BD.size 89 89;rw[C2]at A0;have A6:=aI F;have A7:=aI B4;clear F B4;refine aP 0 96 (.slice (some ⟨bo,A,none⟩) n B) ?_;refine aP 1 97 (.int .i64 (p:Int)) ?_;refine aP 2 98 (.slice (some ⟨bo,A,none⟩) p B) ?_;refine aP 3 99 (.slice (some ⟨b3,A2,none⟩) m c3) ?_;refine aP 4 100 (.int .i64 (q:Int)) ?_;refine aP 5 101 (.pointer (some ⟨b3,A2+q,none⟩)) ?_;refine dL 6 102 (.int .u64 x) ?_ ?_
  ·intro X hX;have x0:=hX.cell (fun h=>NB h) l0;go_simp
  refine aP 8 104 (.slice (some ⟨bo,A,none⟩) n B) ?_;refine aP 9 105 (.int .i64 (p:Int)) ?_;refine aP 10 106 (.slice aq (n-p) (B-p)) ?_;refine cW 7 fun K T=>?_;go_simp;refine T _ _ (hS.alloc (.cells #[.int .u64 x] 57)) (fun _=>?_);clear T K;refine cW 11 fun K T=>?_;refine sS _ _ rfl rfl rfl A0 ?_;simp only[PE,QV,QZ,RA];refine T _ _ (hS.trans (Only.of_below R)) (fun _=>?_);clear T K;refine cW 12 fun K T=>?_;refine sS _ _ rfl rfl rfl B2 ?_;simp only[PE,QV,QZ,RA];refine T _ _ (hS.trans A7) (fun _=>?_);clear T K;refine aP 13 6 (v3) ?_;refine iM ?_;have B3:=aI (show Below l.heap.size l w3 from BD.trans (A7.below (n:=l.heap.size) BD.size (fun k hk=>(OD.row.lt k hk).1)));have O3:=aI (E0 _ _ A6);clear hS A0 B2 R;go_wp2;go_roundw
  case rel=>exact⟨q+1,n+1,zI S p x,aA,by go_num,O3,by unfold zI;simp only[QB,QM,QW,RI,U.out];omega,aA,D0,fun z=>by
   rw[TK.out,RN,QH,← A1.out,yE];exact or_comm,B3⟩
  simp[intOf];omega
 obtain rfl:m=q:=aA;have E2:=aI (show Y.take m=Y from by rw[← EM.out,RL]);have V:=aI (show OwnI wr w.heap.size (.slice M n B) S∧eZ S∧(∀x,x∈S↔x∈eC L len)∧S.length≤1+2 * nQ L∧Below w.heap.size w wr from by
  have Q:∀x,x∈S↔x∈Y:=fun x=>by rw[A1.out,E2.out]
  refine⟨⟨bC G.row D8,G.words⟩,⟨O,(Q 0).2 ?_,G.words⟩,fun x=>by rw[Q,EY.out],?_,HB.trans (D9.mono D8)⟩
  ·rw[← EY.out];simp[eC]
  rw[U.out];have:=F6.out;rw[EM.out]at this;omega)
 clear G;go_wp2;go_ret;have D2:∃v S,(.returned (.slice M n B):Ending)=.returned v∧OwnI wr w.heap.size v S∧eZ S∧(∀x,x∈S↔x∈eC L len)∧S.length≤1+2 * nQ L∧Below w.heap.size w wr:=⟨_,S,rfl,V⟩;first | exact D2 | (obtain⟨v,S,h1,h2⟩:=D2;exact⟨v,h1,S,h2⟩) | (obtain⟨v,S,h1,h2⟩:=D2;exact⟨v,S,h1,h2⟩)
theorem wZ(a:Option Addr)(n cap i:Nat)(S:List Int)(w:World)(h:Ints .u64 w a n S)(m:eZ S)(hi:i<n)(hn:n≤1000000000) :
  Calls prog 167 #[.slice a n cap,.int .i64 (i:Nat)] w fun e w'=>e=.returned (.agg #[.int .u64 (bQ S i).1,.int .u64 (bQ S i).2])∧Below w.heap.size w w':=by
 have D:prog.follows .mixedOrders=true:=aC;have W:=h.length;obtain⟨w1,s⟩:=aG (w.alloc (.cells #[.int .u64 0,.int .u64 0] 123));have H:=aI (show Below w.heap.size w w1 from by rw[← s];exact aJ (PS _ _) _);have Y:=aI (show w1.heap[w.heap.size]?=some (.cells #[.int .u64 0,.int .u64 0] 123 (0,0))from by rw[← s];exact aK _ _ rfl);have H1:=aI (h.below H);obtain⟨b,off,rfl,A2,_⟩:=h.cells i hi;have I:=aI (show ¬b=w.heap.size from aA);have E:=aI (show ∀j,j<n→w1.cell? ⟨b,off+j,none⟩=some (.int .u64 (S.getD j 0))from fun j C=>by
  obtain⟨b',A0,e,_,hc⟩:=H1.cells j C;injection e with e;injection e with e1 e2 _;subst e1;subst e2;exact hc)
 have J:=E.out i hi;obtain⟨x,B⟩:=aG (S.getD i 0);rw[B]at J;have i0:(0:Int)≤(i:Int):=aA;have i1:(i:Int)<(n:Int):=aA;obtain⟨j,V⟩:=aG (i+1);have qw:IntKind.i64.wrap ((i:Int)+1)=(j:Int):=by rw[PI];omega
 have j0:(0:Int)≤(j:Int):=aA;by_cases C:j<n
 ·have Z:(j:Int)<(n:Int):=aA;have d1:decide ((j:Int)<(n:Int))=true:=decide_eq_true Z;have l1:=E.out j C;obtain⟨y,F⟩:=aG (S.getD j 0);rw[F]at l1;have L:x<y:=by rw[← B,← F];exact jQ m.asc aA aA
  have M:=(m.word x (by rw[← B,bP aA];exact QI _)).1;have N:=(m.word y (by rw[← F,bP aA];exact QI _)).2;have qy:IntKind.u64.wrap (y-1)=y-1:=bA ⟨aA,aA⟩;have z:=aI (show(Ending.returned (.agg #[.int .u64 x,.int .u64 (y-1)]):Ending)=.returned (.agg #[.int .u64 (bQ S i).1,.int .u64 (bQ S i).2])from by
   unfold bQ;simp only;rw[if_pos aA,V,B,F])
  clear h B F V C L M N W m;go_enter func167,ntmps167;go_wp2_with fail;clear s;refine wp_region_held_drew (S:=Only (fun k=>k=w.heap.size) w1) D (Only.refl _ _).drew (fun m=>?_);obtain⟨wd,l⟩:=aG w1.drew;have r:wd.heap[w.heap.size]?=some (.cells #[.int .u64 0,.int .u64 0] 123 (0,0)):=by rw[← l];exact Y
  have O:=aI (show Below w.heap.size w wd from by rw[← l];exact aS H);rw[l]at m ⊢;clear l;refine aP 0 10 (.slice (some ⟨b,off,none⟩) n cap) ?_;refine aP 1 11 (.int .i64 (i:Int)) ?_;refine aP 2 12 (.pointer (some ⟨b,off+i,none⟩)) ?_;refine dL 3 13 (.int .u64 x) ?_ ?_
  ·intro X G;have P:=G.cell (fun h=>I h) J;go_simp
  refine aP 4 14 (.slice (some ⟨b,off,none⟩) n cap) ?_;refine aP 5 15 (.int .i64 (i:Int)) ?_;refine aP 6 16 (.int .i64 (j:Int)) ?_;refine aP 7 17 (.pointer (some ⟨b,off+j,none⟩)) ?_;refine dL 8 18 (.int .u64 y) ?_ ?_
  ·intro X G;have A1:=G.cell (fun h=>I h) l1;go_simp
  refine aP 9 19 (.int .u64 (y-1)) ?_;refine aP 10 20 (.agg #[.int .u64 x,.int .u64 (y-1)]) ?_;refine cW 11 fun K u=>?_;have Q:wd.cell? ⟨w.heap.size,0,none⟩=some (.int .u64 0):=by simp[PX,r]
  have R:wd.cell? ⟨w.heap.size,1,none⟩=some (.int .u64 0):=by simp[PX,r]
  have T:∀j,wd.frozen? ⟨w.heap.size,j,none⟩=false:=by intro j;simp[PZ,r]
  have A:=aI (heap_setCell_same _ _ 1 _ _ (.int .u64 (y-1)) (heap_setCell_same _ _ 0 _ _ (.int .u64 (x)) r));have U:=aI (show Below w.heap.size w ((wd.setCell ⟨w.heap.size,0,none⟩ (.int .u64 (x))).setCell ⟨w.heap.size,1,none⟩ (.int .u64 (y-1)))from fO (fO O (p:=⟨w.heap.size,0,none⟩) (SH _) _) (p:=⟨w.heap.size,1,none⟩) (SH _) _);go_simp;refine u _ _ ((m.setCell (p:=⟨w.heap.size,0,none⟩) (.inl rfl) _).setCell (p:=⟨w.heap.size,1,none⟩) (.inl rfl) _) (fun _=>?_);clear u K Q R T;refine iM ?_;clear r m;go_wp2;have A:=A.out;exact bodyPost_ret (v:=.agg #[.int .u64 (x),.int .u64 (y-1)]) (by simp[results,results167,go_sem,PX,A]) rfl ⟨z,U⟩
 have d1:decide ((j:Int)<(n:Int))=false:=decide_eq_false aA;have d2:decide (j<n)=false:=decide_eq_false C;have Z:¬(j:Int)<(n:Int):=aA;have z:=aI (show(Ending.returned (.agg #[.int .u64 x,.int .u64 18446744073709551615]):Ending)=.returned (.agg #[.int .u64 (bQ S i).1,.int .u64 (bQ S i).2])from by
  unfold bQ;simp only;rw[if_neg aA,B];rfl)
 clear h B V C W m;go_enter func167,ntmps167;go_wp2_with fail;clear s;refine wp_region_held_drew (S:=Only (fun k=>k=w.heap.size) w1) D (Only.refl _ _).drew (fun m=>?_);obtain⟨wd,l⟩:=aG w1.drew;have r:wd.heap[w.heap.size]?=some (.cells #[.int .u64 0,.int .u64 0] 123 (0,0)):=by rw[← l];exact Y
 have O:=aI (show Below w.heap.size w wd from by rw[← l];exact aS H);rw[l]at m ⊢;clear l;refine aP 0 21 (.slice (some ⟨b,off,none⟩) n cap) ?_;refine aP 1 22 (.int .i64 (i:Int)) ?_;refine aP 2 23 (.pointer (some ⟨b,off+i,none⟩)) ?_;refine dL 3 24 (.int .u64 x) ?_ ?_
 ·intro X G;have P:=G.cell (fun h=>I h) J;go_simp
 refine cW 4 fun K u=>?_;go_simp;refine(xD _).mono ?_;rintro e wq ⟨rfl,rfl⟩;go_simp;refine u _ _ m (fun _=>?_);clear u K;refine aP 5 26 (.agg #[.int .u64 x,.int .u64 18446744073709551615]) ?_;refine cW 6 fun K u=>?_;have Q:wd.cell? ⟨w.heap.size,0,none⟩=some (.int .u64 0):=by simp[PX,r]
 have R:wd.cell? ⟨w.heap.size,1,none⟩=some (.int .u64 0):=by simp[PX,r]
 have T:∀j,wd.frozen? ⟨w.heap.size,j,none⟩=false:=by intro j;simp[PZ,r]
 have A:=aI (heap_setCell_same _ _ 1 _ _ (.int .u64 (18446744073709551615)) (heap_setCell_same _ _ 0 _ _ (.int .u64 (x)) r));have U:=aI (show Below w.heap.size w ((wd.setCell ⟨w.heap.size,0,none⟩ (.int .u64 (x))).setCell ⟨w.heap.size,1,none⟩ (.int .u64 (18446744073709551615)))from fO (fO O (p:=⟨w.heap.size,0,none⟩) (SH _) _) (p:=⟨w.heap.size,1,none⟩) (SH _) _);go_simp;refine u _ _ ((m.setCell (p:=⟨w.heap.size,0,none⟩) (.inl rfl) _).setCell (p:=⟨w.heap.size,1,none⟩) (.inl rfl) _) (fun _=>?_);clear u K Q R T;refine iM ?_;clear r m;go_wp2;have A:=A.out;exact bodyPost_ret (v:=.agg #[.int .u64 (x),.int .u64 (18446744073709551615)]) (by simp[results,results167,go_sem,PX,A]) rfl ⟨z,U⟩
theorem Pe(base:Nat)(v:Value)(zs:List Iv)(lo hi:Int)(w:World)(h:OwnL w base 123 v zs)(A1:base≤w.heap.size)(hs:aL lo∧aL hi)(hn:zs.length≤1000000000) :
  Calls prog 219 #[v,.agg #[.int .u64 lo,.int .u64 hi]] w fun e w'=>∃l,e=.returned l∧OwnL w' base 123 l (oH zs (lo,hi))∧Only (fun k=>v.ownBlock=some k) w w':=by
 have O:prog.follows .mixedOrders=true:=aC;have H:=aI h;have HS:=aI hs;obtain⟨w1,M⟩:=aG (w.alloc (.cells #[.int .u64 lo,.int .u64 hi] 123));have P:=aI (show Below w.heap.size w w1 from by rw[← M];exact aJ (PS _ _) _);have q1:w1.heap[w.heap.size]?=some (.cells #[.int .u64 lo,.int .u64 hi] 123 (0,0)):=by rw[← M];exact aK _ _ rfl
 have s0:w1.cell? ⟨w.heap.size,0,none⟩=some (.int .u64 lo):=by simp[PX,q1]
 have s1:w1.cell? ⟨w.heap.size,1,none⟩=some (.int .u64 hi):=by simp[PX,q1]
 have C:=aI (PC (aO q1) (PC s0 s1));obtain⟨n,en⟩:=aG zs.length;have L:=aI en;rw[en]at hn;obtain⟨a,cp,rfl,hP,B5,_⟩:=h.prs;have A9:=aI (show ∀r,r≤n→r≤cp from fun r hr=>aA);have HP:=aI (hP.below P);rw[en]at HP H ⊢;clear h hP en hs q1;have Q:=aI (show ∀W,Below w.heap.size w W→W.ownsRow base 123 2 (.slice a n cp) n (bB zs)from fun W hW=>by
  have:=H.row;rw[L.out]at this;exact bJ this hW)
 have WZ:=aI H.words;have A2:=aI (show ∀W l,W.ownsRow base 123 2 l (n+1) (bB zs ++ [.int .u64 lo,.int .u64 hi])→OwnL W base 123 l (zs ++ [(lo,hi)])from fun W l hr=>⟨by
  rw[QB,L.out,← gS];exact hr,fun z A=>by
  rcases List.mem_append.1 A with A | A
  ·exact WZ z A
  rw[QH]at A;subst A;exact HS⟩)
 by_cases hn0:n=0
 ·have d1:decide ((0:Int)<(n:Int))=false:=decide_eq_false aA;have d2:decide (0<n)=false:=decide_eq_false aA;have B0:=aI hn0;clear hn0;go_enter func219,ntmps219;go_wp2_with fail;clear M;go_quiet (fail);obtain⟨w2,V⟩:=aG (w1.drewN nq:World);have b:=aI (show Below w1.heap.size w1 w2 from by rw[← V];exact aU (PS _ _) nq);rw[V];have R:=aI (show oH zs (lo,hi)=zs ++ [(lo,hi)] from by
   have:zs=[]:=List.length_eq_zero_iff.1 (by rw[L.out,B0.out]);subst this;rfl)
  clear V s0 s1 d1 d2;have t0:=aM b C.1 C.2.1;have t1:=aM b C.1 C.2.2;have b2:=aI (show Below w.heap.size w w2 from P.trans (b.mono P.size));have p:=aI (show Below w.heap.size w (w2.alloc (.cells #[.int .u64 lo,.int .u64 hi] 123))from aJ b2 _);obtain⟨v3,w3,E,j,F,_⟩:=rU pE (B:=w2.heap.size) (Q _ p) (cN (vs:=[.int .u64 lo,.int .u64 hi]) (aK _ _ rfl)) rfl (kZ lo hi) aA (by have:=p.size;omega) 56;have D:=aI j;have HO:=aI (show Only (fun k=>(PT a n cp).ownBlock=some k) w w3 from(Only.of_below p).trans F);clear j F;go_wp2_with(first | (at_builtin;go_loud(refine bV rfl _ _ rfl rfl rfl E ?_)) | fail)
  clear E t0 t1;go_wp2;go_ret;have s:∃l,(.returned v3:Ending)=.returned l∧OwnL w3 base 123 l (oH zs (lo,hi))∧Only (fun k=>(PT a n cp).ownBlock=some k) w w3:=⟨v3,rfl,by rw[R.out];exact A2 _ _ D,HO⟩;first | exact s | (obtain⟨l,h1,h2⟩:=s;exact⟨l,h1,h2⟩)
 obtain⟨r,er⟩:=aG (n-1);have T:r<n:=aA;have d1:decide ((0:Int)<(n:Int))=true:=decide_eq_true aA;have d2:decide (0<n)=true:=decide_eq_true aA;have qw:IntKind.i64.wrap ((n:Int)-1)=(r:Int):=by rw[PI];omega
 have r0:(0:Int)≤(r:Int):=aA;have r1:(r:Int)<(n:Int):=aA;obtain⟨g,off,rfl,B3,c0,c1⟩:=HP.cells r T;have hw:=HP.word T;obtain⟨zl,Y⟩:=aG (Lo zs r);obtain⟨zh,Z⟩:=aG (Hi zs r);rw[Y]at c0 hw;rw[Z]at c1 hw;have KR:=aI (fun W=>uI zl zh lo hi hw.1 hw.2 HS.1 HS.2 W);obtain⟨rl,A0⟩:=aG (iU zl zh lo hi);rw[A0]at KR;have U:=aI (PC er (PC Y (PC Z A0)));have A3:=aI T;have HW:=aI hw;have A4:=aI B3;have C0:=aI c0;clear hw er Y Z A0 hn0;go_enter func219,ntmps219;go_wp2_with fail;clear M;have N:=aI (show zs.getLast?=some (zl,zh)from by
  have A5:zs≠[]:=by intro e;have:=congrArg List.length e;rw[L.out]at this;simp at this;omega
  rw[QK A5,RH];have e1:=U.1;have e2:zs.length-1=r:=by rw[L.out];exact e1
  have e3:zs[zs.length-1]'(by have:=List.length_pos_iff.2 A5;omega)=(Lo zs r,Hi zs r):=by
   rw[← cJ zs r (by rw[L.out];exact A3.out)];congr 1
  rw[e3,U.2.1,U.2.2.1])
 by_cases hrl:rl=1
 ·have d3:(rl == 1)=true:=by simp[hrl]
  have B2:=aI hrl;clear hrl;refine wp_region_held_drew (S:=Only (fun _=>False) w1) O (Only.refl _ _).drew (fun I=>?_);obtain⟨wd,m⟩:=aG w1.drew;rw[m]at I ⊢;clear m;refine aP 0 8 (.int .i64 (n:Int)) ?_;refine aP 1 9 (.bool true) ?_;refine aP 2 10 (.bool true) ?_;refine aP 3 11 (.slice (some ⟨g,off,none⟩) n cp) ?_;refine aP 4 12 (.int .i64 (n:Int)) ?_;refine aP 5 13 (.int .i64 (r:Int)) ?_;refine aP 6 14 (.pointer (some ⟨g,off+r * 2,none⟩)) ?_;refine dL 7 15 (.agg #[.int .u64 zl,.int .u64 zh]) ?_ ?_
  ·intro X y;have b0:=y.cell (fun h=>h) c0;have b1:=y.cell (fun h=>h) c1;go_simp
  refine dL 8 16 (.agg #[.int .u64 lo,.int .u64 hi]) ?_ ?_
  ·intro X y;have b2:=y.cell (fun h=>h) s0;have b3:=y.cell (fun h=>h) s1;go_simp
  refine cW 9 fun K hK=>?_;go_simp;refine(KR wd).mono ?_;rintro e w2 ⟨rfl,G⟩;have u:=I.trans (Only.of_below G);clear G;go_simp;refine hK _ _ u (fun _=>?_);clear hK K;refine aP 10 18 (.bool true) ?_;refine aP 11 19 (.bool true) ?_;refine iM ?_;have b:=aI (show Below w1.heap.size w1 w2 from u.below (n:=w1.heap.size) (SH _) (fun _ h=>h.elim));clear I u s0 s1 d1 d2 d3;have A6:=aI (show ∀W l,W.ownsRow base 123 2 l (r+1) ((bB zs).take (r * 2) ++ [.int .u64 zl,.int .u64 hi])→OwnL W base 123 l (oH zs (lo,hi))from fun W l hr=>by
   have hp:oH zs (lo,hi)=zs.dropLast ++ [(zl,hi)]:=by
    unfold oH;rw[N.out];simp only;rw[U.2.2.2,if_pos B2.out]
   have hd:(bB zs).take (r * 2)=bB zs.dropLast:=by
    rw[List.dropLast_eq_take,L.out,U.1];have e:=congrArg bB (QU r zs);rw[dF]at e;rw[← e];exact List.take_left' (by rw[dD,QM,L.out];have:=A3.out;omega)
   rw[hp];refine⟨?_,fun z A=>?_⟩
   ·rw[QB,RT,L.out,U.1,← gS,← hd];exact hr
   rcases List.mem_append.1 A with A | A
   ·exact WZ z ((List.dropLast_sublist zs).subset A)
   rw[QH]at A;subst A;exact⟨HW.1,HS.2⟩)
  have c2:=aM b A4 C0;have t1:=aM b C.1 C.2.2;have A7:=SJ A4 b.size;have A8:=SJ C.1 b.size;have b2:=aI (show Below w.heap.size w w2 from P.trans (b.mono P.size));have TR:=aI (jG pE (cp:=cp) (k:=r) (a:=some ⟨g,off,none⟩) rfl (B:=w2) (Q w2 b2) (show r≤n by omega) (kK zs) (cx:=[.int .u64 zl,.int .u64 hi]) (kZ zl hi) rfl aA);have SL:=fun W=>lU rN (some ⟨g,off,none⟩) n cp r (A9 r aA) W;go_wp2_with fail;refine wp_region_held_drew (S:=Below w2.heap.size w2) O (aS (PS _ _)) (fun I=>?_);obtain⟨wd,m⟩:=aG w2.drew;rw[m]at I ⊢;clear m;refine aP 1 21 (.slice (some ⟨g,off,none⟩) n cp) ?_;refine aP 2 22 (.int .i64 (n:Int)) ?_;refine aP 3 23 (.int .i64 (r:Int)) ?_;refine aP 4 24 (.slice (some ⟨g,off,none⟩) r cp) ?_;refine aP 6 26 (.slice (some ⟨g,off,none⟩) n cp) ?_;refine aP 7 27 (.int .i64 (n:Int)) ?_;refine aP 8 28 (.int .i64 (r:Int)) ?_;refine aP 9 29 (.pointer (some ⟨g,off+r * 2,none⟩)) ?_;refine aP 10 30 (.pointer (some ⟨g,off+r * 2,none⟩)) ?_;refine dL 11 31 (.int .u64 zl) ?_ ?_
  ·intro X y;have b0:=aM y A7 c2;go_simp
  refine aP 12 32 (.pointer (some ⟨w.heap.size,1,none⟩)) ?_;refine dL 13 33 (.int .u64 hi) ?_ ?_
  ·intro X y;have b1:=aM y A8 t1;go_simp
  refine aP 14 34 (.agg #[.int .u64 zl,.int .u64 hi]) ?_;refine BO TR 0 5 15 16 20 25 35 36 24 34 (fun v1 v2 v3 v9 w9 J B4=>?_) I rfl rfl;simp only[PE,QV,QZ,RA];refine aP 17 4 (v9) ?_;refine iM ?_;have O9:=aI (A6 w9 v9 (by have:=bC J (SR A1 b2.size);simpa using this));have BB:=aI (b2.trans (B4.mono b2.size));clear I J;go_wp2;go_ret;have s:∃l,(.returned v9:Ending)=.returned l∧OwnL w9 base 123 l (oH zs (lo,hi))∧Only (fun k=>(PT (some ⟨g,off,none⟩) n cp).ownBlock=some k) w w9:=⟨v9,rfl,O9,Only.of_below BB⟩;first | exact s | exact⟨v9,aD,O9,Only.of_below BB⟩ | exact⟨v9,by simp[PE],O9,Only.of_below BB⟩ | exact⟨v9,aC,O9,Only.of_below BB⟩
 have d3:(rl == 1)=false:=by simp[hrl]
 have R:=aI (show oH zs (lo,hi)=zs ++ [(lo,hi)] from by
  unfold oH;rw[N.out];simp only;rw[U.2.2.2,if_neg hrl])
 clear hrl;refine wp_region_held_drew (S:=Only (fun _=>False) w1) O (Only.refl _ _).drew (fun I=>?_);obtain⟨wd,m⟩:=aG w1.drew;rw[m]at I ⊢;clear m;refine aP 0 8 (.int .i64 (n:Int)) ?_;refine aP 1 9 (.bool true) ?_;refine aP 2 10 (.bool true) ?_;refine aP 3 11 (.slice (some ⟨g,off,none⟩) n cp) ?_;refine aP 4 12 (.int .i64 (n:Int)) ?_;refine aP 5 13 (.int .i64 (r:Int)) ?_;refine aP 6 14 (.pointer (some ⟨g,off+r * 2,none⟩)) ?_;refine dL 7 15 (.agg #[.int .u64 zl,.int .u64 zh]) ?_ ?_
 ·intro X y;have b0:=y.cell (fun h=>h) c0;have b1:=y.cell (fun h=>h) c1;go_simp
 refine dL 8 16 (.agg #[.int .u64 lo,.int .u64 hi]) ?_ ?_
 ·intro X y;have b2:=y.cell (fun h=>h) s0;have b3:=y.cell (fun h=>h) s1;go_simp
 refine cW 9 fun K hK=>?_;go_simp;refine(KR wd).mono ?_;rintro e w2 ⟨rfl,G⟩;have u:=I.trans (Only.of_below G);clear G;go_simp;refine hK _ _ u (fun _=>?_);clear hK K;refine aP 10 18 (.bool false) ?_;refine aP 11 19 (.bool false) ?_;refine iM ?_;have b:=aI (show Below w1.heap.size w1 w2 from u.below (n:=w1.heap.size) (SH _) (fun _ h=>h.elim));clear I u s0 s1 d1 d2 d3;have t0:=aM b C.1 C.2.1;have t1:=aM b C.1 C.2.2;have b2:=aI (show Below w.heap.size w w2 from P.trans (b.mono P.size));have p:=aI (show Below w.heap.size w (w2.alloc (.cells #[.int .u64 lo,.int .u64 hi] 123))from aJ b2 _);obtain⟨v3,w3,E,j,F,_⟩:=rU pE (B:=w2.heap.size) (Q _ p) (cN (vs:=[.int .u64 lo,.int .u64 hi]) (aK _ _ rfl)) rfl (kZ lo hi) aA (by have:=p.size;omega) 56;have D:=aI j;have HO:=aI (show Only (fun k=>(PT (some ⟨g,off,none⟩) n cp).ownBlock=some k) w w3 from(Only.of_below p).trans F);clear j F;go_wp2_with(first | (at_builtin;go_loud(refine bV rfl _ _ rfl rfl rfl E ?_)) | fail)
 clear E t0 t1;go_wp2;go_ret;have s:∃l,(.returned v3:Ending)=.returned l∧OwnL w3 base 123 l (oH zs (lo,hi))∧Only (fun k=>(PT (some ⟨g,off,none⟩) n cp).ownBlock=some k) w w3:=⟨v3,rfl,by rw[R.out];exact A2 _ _ D,HO⟩;first | exact s | (obtain⟨l,h1,h2⟩:=s;exact⟨l,h1,h2⟩)
def Es (op:Int) (a b:Bool):Bool:=if op=0 then a || b else if op=1 then a && b else a && !b
theorem Pc(a b:Bool)(op:Int)(ho:op=0∨op=1∨op=2)(w:World) :
  Calls prog 218 #[.bool a,.bool b,.int .i64 op] w fun e w'=>e=.returned (.bool (Es op a b))∧Below w.heap.size w w':=by
 rcases ho with rfl | rfl | rfl<;>cases a<;>cases b
 all_goals
  go_enter func218,ntmps218;go_wp2;go_ret;exact⟨rfl,PS _ _⟩
theorem Uk(va vb:Value)(b j:List Iv)(op:Int)(w:World)(ha:RgAt w va b)(hb:RgAt w vb j)(ho:op=0∨op=1∨op=2)(hn:b.length+j.length≤1000000) :
  Calls prog 164 #[va,vb,.int .i64 op] w fun e w'=>∃v S,e=.returned v∧eZ S∧(∀x,x∈S↔x∈eC [(va,b),(vb,j)] 2)∧OwnL w' w.heap.size 123 v (Ee (fun x=>Es op (gG b x) (gG j x)) S S.length)∧S.length≤1+2 * (b.length+j.length)∧Below w.heap.size w w':=by
 have B0:prog.follows .mixedOrders=true:=aC;obtain⟨O,P,rfl,A0,A1⟩:=ha;obtain⟨Q,R,rfl,A2,A3⟩:=hb;have PA:=aI A0;have PB:=aI A2;have CA:=aI (PC A1 A3);have NN:=aI hn;obtain⟨na,I⟩:=aG b.length;obtain⟨nb,J⟩:=aG j.length;have EA:=aI I;have EB:=aI J;obtain⟨w1,L⟩:=aG (w.alloc (.cells #[.slice O na P,.slice Q nb R] 56));have B1:=aI (show Below w.heap.size w w1 from by rw[← L];exact aJ (PS _ _) _);have q1:w1.heap[w.heap.size]?=some (.cells #[.slice O na P,.slice Q nb R] 56 (0,0)):=by rw[← L];exact aK _ _ rfl
 have RS:=aI (show RgsAt w1 (some ⟨w.heap.size,0,none⟩) 2 [(.slice O na P,b),(.slice Q nb R,j)] from⟨rfl,aB,fun p hp=>by
  simp only[RK,RF,or_false]at hp;rcases hp with rfl | rfl
  ·exact⟨O,P,by rw[EA.out],PA.below B1,CA.1⟩
  ·exact⟨Q,R,by rw[EB.out],PB.below B1,CA.2⟩,fun i hi=>⟨w.heap.size,0,rfl,aO q1,by
  match i,hi with
  | 0,_=>simp[PX,q1,QF]
  | 1,_=>simp[PX,q1,QF]⟩⟩)
 have KS:=aI (uG _ 2 2 _ w1 RS (by simp[nQ];exact NN));rw[I,J];clear A0 A2 A1 A3 hn I J q1;go_enter func164,ntmps164;go_wp2_with fail;clear L;refine KS.mono ?_;rintro e w2 ⟨vs,S,rfl,T,A4,z,A,A5⟩;have SO:=aI A4;have B3:=aI z;have V:=aI (show S.length≤1+2 * (b.length+j.length)from by simpa[nQ]using A);have Y:=aI (B1.trans (A5.mono B1.size));obtain⟨m,U⟩:=aG S.length;have EM:=aI U;have hm:=aI (show m≤3000000 from by rw[← U];have:=V.out;have:=NN.out;omega);obtain⟨B7,cs,rfl⟩:=T.sl U;have IS:=aI (show ∀W,Below w2.heap.size w2 W→Ints .u64 W B7 m S from fun W hW=>by
  obtain⟨a',c',e,hh,_⟩:=T.ints (by rw[U];have:=hm.out;omega);rw[U]at e hh;injection e with e1 e2 e3;subst e1;exact hh.below hW)
 have B8:=hm.out;clear T A4 z A A5 U KS RS;go_wp2_with fail;go_loopw [8,9] (fun o i wr=>∃k:Nat,k≤m∧i=.int .i64 k∧OwnL wr w2.heap.size 123 o (Ee (fun x=>Es op (gG b x) (gG j x)) S k)∧Below w2.heap.size w2 wr) (fun _ i _=>m-(intOf i).toNat)
 case atStart=>exact⟨0,SI _,rfl,⟨World.ownsRow_nil _ _ _ _,by simp[Ee]⟩,PS _ _⟩
 obtain⟨k,hk,rfl,T,hb⟩:=hrel;have OD:=aI T;have y:=aI hb;clear T;have i0:(0:Int)≤(k:Int):=aA;by_cases hlt:k<m
 ·have i1:(k:Int)<(m:Int):=aA;have HB:=aI (Y.trans (y.mono Y.size));obtain⟨gs,os,rfl,A6,cx⟩:=(IS wr hb).cells k hlt;have WX:=aI (show aL (S.getD k 0)from SO.word _ (by rw[bP (by rw[EM.out];exact hlt)];exact QI _));obtain⟨x,ex⟩:=aG (S.getD k 0);rw[ex]at cx WX;obtain⟨ba,M⟩:=aG (gG b x);obtain⟨bb,N⟩:=aG (gG j x);have KA:=aI (fun W (hW:Below w.heap.size w W)=>mO O na P b x W (by have:=PA.below hW;rwa [EA.out]at this) WX);have KB:=aI (fun W (hW:Below w.heap.size w W)=>mO Q nb R j x W (by have:=PB.below hW;rwa [EB.out]at this) WX);have KT:=aI (fun W=>Pc ba bb op ho W);rw[M]at KA;rw[N]at KB;obtain⟨t,et⟩:=aG (Es op ba bb);have DZ:=aI (show Ee (fun x=>Es op (gG b x) (gG j x)) S (k+1)=if t=true then oH (Ee (fun x=>Es op (gG b x) (gG j x)) S k) ((bQ S k).1,(bQ S k).2)else Ee (fun x=>Es op (gG b x) (gG j x)) S k from by
   show(if(fun x=>Es op (gG b x) (gG j x)) (S.getD k 0)=true then _ else _)=_;simp only[ex,M,N,et])
  rw[et]at KT;clear ex M N et;go_wp2_with fail;refine wp_region_held_drew (S:=Below wr.heap.size wr) B0 (aS (PS _ _)) (fun hS=>?_);obtain⟨wd,A7⟩:=aG wr.drew;rw[A7]at hS ⊢;clear A7;refine aP 0 20 (.slice O na P) ?_;refine aP 1 21 (.slice (some ⟨gs,os,none⟩) m cs) ?_;refine aP 2 22 (.int .i64 (k:Int)) ?_;refine aP 3 23 (.pointer (some ⟨gs,os+k,none⟩)) ?_;refine dL 4 24 (.int .u64 x) ?_ ?_
  ·intro X hX;have b0:=aM hX A6 cx;go_simp
  refine aP 6 26 (.slice Q nb R) ?_;refine aP 7 27 (.slice (some ⟨gs,os,none⟩) m cs) ?_;refine aP 8 28 (.int .i64 (k:Int)) ?_;refine aP 9 29 (.pointer (some ⟨gs,os+k,none⟩)) ?_;refine dL 10 30 (.int .u64 x) ?_ ?_
  ·intro X hX;have b0:=aM hX A6 cx;go_simp
  refine aP 12 32 (.int .i64 op) ?_;have r:=hS;refine cW 5 fun K F=>?_;go_simp;refine(KA wd (HB.trans (r.mono HB.size))).mono ?_;rintro e w5 ⟨rfl,B⟩;have l:=r.trans (B.mono r.size);clear B;go_simp;refine F _ _ l (fun _=>?_);clear F K;refine cW 11 fun K F=>?_;go_simp;refine(KB w5 (HB.trans (l.mono HB.size))).mono ?_;rintro e w6 ⟨rfl,C⟩;have s:=l.trans (C.mono l.size);clear C;go_simp;refine F _ _ s (fun _=>?_);clear F K;refine cW 13 fun K F=>?_;go_simp;refine(KT w6).mono ?_;rintro e w9 ⟨rfl,A8⟩;have G:=s.trans (A8.mono s.size);clear A8;go_simp;refine F _ _ G (fun _=>?_);clear F K;refine iM ?_;have O9:=aI (show OwnL w9 w2.heap.size 123 u8 (Ee (fun x=>Es op (gG b x) (gG j x)) S k)from⟨bJ OD.row G,OD.words⟩);have D9:=aI (y.trans (G.mono y.size))
  cases t with
  | false=>
    go_wp2;go_roundw
    case rel=>exact⟨k+1,aA,by go_num,by rw[DZ.out];exact O9,D9⟩
    simp[intOf];omega
  | true=>
    have KP:=aI (wZ (some ⟨gs,os,none⟩) m cs k S w9 (IS w9 D9) SO hlt aA);go_wp2_with fail;refine KP.mono ?_;rintro e A9 ⟨rfl,u⟩;have Z:=aI (show OwnL A9 w2.heap.size 123 u8 (Ee (fun x=>Es op (gG b x) (gG j x)) S k)from⟨bJ O9.row u,O9.words⟩);have H:=aI (D9.trans (u.mono D9.size));have PW:=aI (kC SO (i:=k) (by rw[EM.out];exact hlt));have KQ:=aI (Pe w2.heap.size u8 _ _ _ A9 Z H.size ⟨PW.1,PW.2.1⟩ (by have:=Dt (fun x=>Es op (gG b x) (gG j x)) S k;omega));clear u;go_wp2_with fail;refine KQ.mono ?_;rintro e B9 ⟨v',rfl,D,E⟩;have B4:=aI D;have B5:=aI (H.trans (E.below (n:=w2.heap.size) H.size (fun q hq=>(Z.row.lt q hq).1)));clear D E;go_wp2;go_roundw
    case rel=>exact⟨k+1,aA,by go_num,by rw[DZ.out];exact B4,B5⟩
    simp[intOf];omega
 obtain rfl:m=k:=aA;have B6:=aI (show OwnL wr w.heap.size 123 u8 (Ee (fun x=>Es op (gG b x) (gG j x)) S S.length)∧S.length≤1+2 * (b.length+j.length)∧Below w.heap.size w wr from⟨⟨bC (by rw[EM.out];exact OD.row) Y.size,by rw[EM.out];exact OD.words⟩,V,Y.trans (y.mono Y.size)⟩);clear hb;go_wp2;go_ret;exact⟨u8,S,rfl,SO,B3,by have:=B6.out;rw[EA.out,EB.out]at this;exact this⟩
def JB (w:World) (base:Nat) (v:Value) (D:List Iv) (n:Nat) (P:Int→Prop):Prop:=OwnL w base 123 v D∧cL D∧(∀x,aV D x↔aL x∧P x)∧D.length≤n
theorem Tz(va vb:Value)(j l:List Iv)(op:Int)(w:World)(B:RgAt w va j)(C:RgAt w vb l)(ho:op=0∨op=1∨op=2)(E:j.length+l.length≤1000000) :
  Calls prog 164 #[va,vb,.int .i64 op] w fun e w'=>∃v D,e=.returned v∧JB w' w.heap.size v D (1+2 * (j.length+l.length)) (fun x=>Es op (decide (aV j x)) (decide (aV l x))=true)∧Below w.heap.size w w':=by
 refine(Uk va vb j l op w B C ho E).mono ?_;rintro e w' ⟨v,S,rfl,y,r,z,A,m⟩;have p:∀zs x,gG zs x=decide (aV zs x):=fun zs x=>by
  rw[Bool.eq_iff_iff,sI,decide_eq_true_eq]
 have hs:tY S (fun x=>Es op (gG j x) (gG l x)=true):=by
  have h1:tY S (aV j):=sY fun x n=>(r x).2 (by unfold eC;simp;exact .inr (.inl n));have h2:tY S (aV l):=sY fun x n=>(r x).2 (by unfold eC;simp;exact .inr (.inr n));intro x a b c;have s:=h1 x a b c;have u:=h2 x a b c;simp only[p,s,u]
 obtain⟨h1,h2,h3⟩:=FP y _ hs;refine⟨v,_,rfl,⟨z,h1,fun x=>by rw[h3];simp only[p],SR (Dt _ S _) A⟩,m⟩
def OpTk (op:Int) (tk:Bool→Bool→Bool):Prop:=(op=0∧tk=vO)∨(op=1∧tk=GJ)∨(op=2∧tk=uD)
theorem OpTk.off{op:Int}{tk:Bool→Bool→Bool}(h:OpTk op tk):tk false false=false:=by
 rcases h with⟨_,rfl⟩ | ⟨_,rfl⟩ | ⟨_,rfl⟩<;>rfl
theorem Cr{va vb:Value}{j l:List Iv}{op:Int}{tk:Bool→Bool→Bool}(h:OpTk op tk){w:World}(y:RgAt w va j)(z:RgAt w vb l)(E:j.length+l.length≤1000000) :
  Calls prog 164 #[va,vb,.int .i64 op] w fun e w'=>Ln w tk j l e w':=by
 have ho:op=0∨op=1∨op=2:=by rcases h with⟨e,_⟩ | ⟨e,_⟩ | ⟨e,_⟩<;>simp[e]
 have A:tk=vO∨tk=GJ∨tk=uD:=by rcases h with⟨_,e⟩ | ⟨_,e⟩ | ⟨_,e⟩<;>simp[e]
 have B:∀a b,Es op a b=tk a b:=by
  intro a b;rcases h with⟨rfl,rfl⟩ | ⟨rfl,rfl⟩ | ⟨rfl,rfl⟩<;>simp[Es,vO,GJ,uD]
 have n:=y.words;have p:=z.words;refine(Tz va vb j l op w y z ho E).mono ?_;rintro e w' ⟨v,D,rfl,⟨C,u,hi,_⟩,r⟩;have m:∀x,aV D x↔0≤x∧x<18446744073709551616∧tk (decide (aV j x)) (decide (aV l x))=true:=fun x=>by
  rw[hi];show aL x∧Es op (decide (aV j x)) (decide (aV l x))=true↔_;rw[B];exact⟨fun h=>⟨h.1.1,h.1.2,h.2⟩,fun h=>⟨⟨h.1,h.2.1⟩,h.2.2⟩⟩
 exact⟨⟨v,D,rfl,C,u,m,Vd tk A u (fun x s=>(cC n s).1) (fun x s=>(cC p s).1) m⟩,r⟩
theorem Fh(va vb:Value)(j l:List Iv)(w:World)(m:RgAt w va j)(b:RgAt w vb l)(n:j.length+l.length≤1000000) :
  Calls prog 109 #[va,vb] w fun e w'=>Ln w vO j l e w':=by
 have K:=aI (Cr (op:=0) (tk:=vO) (.inl ⟨rfl,rfl⟩) m b n);clear m b n;go_enter func109,ntmps109;go_wp2_with fail;refine K.mono ?_;rintro e w' ⟨⟨v,out,rfl,h⟩,b⟩;have H:=aI h;go_wp2;go_ret;exact⟨⟨v,out,rfl,H⟩,b⟩
theorem Fm(va vb:Value)(j l:List Iv)(w:World)(m:RgAt w va j)(b:RgAt w vb l)(n:j.length+l.length≤1000000) :
  Calls prog 246 #[va,vb] w fun e w'=>Ln w uD j l e w':=by
 have K:=aI (Cr (op:=2) (tk:=uD) (.inr (.inr ⟨rfl,rfl⟩)) m b n);clear m b n;go_enter func246,ntmps246;go_wp2_with fail;refine K.mono ?_;rintro e w' ⟨⟨v,out,rfl,h⟩,b⟩;have H:=aI h;go_wp2;go_ret;exact⟨⟨v,out,rfl,H⟩,b⟩
theorem BT(b:Nat)(v:Value)(zs:List Iv)(top:Int)(W:World)(r:W.heap[b]?=some (.cells #[.int .u64 0,.int .u64 top] 123 (0,0)))(h:RgAt W v zs)(l:aL top)(s:zs.length≤900000) :
  Calls prog 246 #[.slice (some ⟨b,0,none⟩) 1 1,v] W fun e w'=>∃v out,e=.returned v∧OwnL w' W.heap.size 123 v out∧cL out∧(∀x,aV out x↔0≤x∧x≤top∧¬aV zs x)∧out.length≤zs.length+1∧Below W.heap.size W w':=by
 refine(Fm _ v [(0,top)] zs W ⟨_,_,rfl,mZ ⟨aB,aB⟩ l r,SH _⟩ h (by simp;omega)).mono ?_;rintro e w' ⟨⟨v,out,rfl,m,n,hi,p⟩,j⟩;refine⟨v,out,rfl,m,n,fun x=>?_,by simp at p;omega,j⟩;have:=l.2;rw[hi];simp only[uD,Bool.and_eq_true,decide_eq_true_eq,Bool.not_eq_true',decide_eq_false_iff_not,dU];constructor
 ·rintro⟨_,_,⟨a,b⟩,c⟩;exact⟨a,b,c⟩
 rintro⟨a,b,c⟩;exact⟨a,aA,⟨a,b⟩,c⟩
theorem uK(p:EV)(w:World)(h:HolesAt w p)(C:EntW p.1)(hs:p.1.hs.length≤900000) :
  Calls prog 216 #[kO p] w fun e w'=>∃v out,e=.returned v∧OwnL w' w.heap.size 123 v out∧cL out∧(∀c,aV out c↔rH p.1 c)∧out.length≤p.1.hs.length+1∧Below w.heap.size w w':=by
 obtain⟨⟨x,y,z⟩,hv⟩:=p;obtain⟨a,cap,u,h1,h2⟩:=h.at';simp only at u h1 h2 hs;subst u;have m:=C.mx;simp only at m;have D:=aI (fun(b:Nat) (W:World) (H:Below w.heap.size w W) (l:W.heap[b]?=some (.cells #[.int .u64 0,.int .u64 y] 123 (0,0)))=>BT b (.slice a z.length cap) z y W l ⟨a,cap,rfl,h1.below H,h2⟩ m hs);unfold kO;simp only;clear h h1 h2 C m hs;go_enter func216,ntmps216;go_wp2_with fail;have s:=aI (aJ (aJ (PS w.heap.size w) (.cells #[.int .u64 x,.int .u64 y,.slice a z.length cap] 96)) (.cells #[.int .u64 0,.int .u64 y] 123));refine(D (w.heap.size+1) _ s (aK _ _ aD)).mono ?_;rintro e G ⟨v,out,rfl,r,A,j,B,l⟩;have E:=aI (show OwnL G w.heap.size 123 v out from⟨bC r.row (by simp<;>omega),r.words⟩);have n:=aI (PC A (PC j B));have F:=aI (aN s l);clear r A j B l;go_wp2;go_ret;exact⟨v,out,rfl,E,n.1,n.2.1,n.2.2,F⟩
theorem Pr(rep:Int)(a:Option Addr)(cap:Nat)(w:World) :
  Calls prog 215 #[.int .u64 rep,.slice a 0 cap] w fun e w'=>e=.returned (.tuple #[.agg #[.int .u64 0,.int .u64 0,.slice none 0 0],.bool false])∧Below w.heap.size w w':=by
 go_enter func215,ntmps215;go_wp2;refine bodyPost_ret (v:=.tuple #[.agg #[.int .u64 0,.int .u64 0,.slice none 0 0],.bool false]) ?_ rfl ⟨rfl,?_⟩
 ·simp[results,results215,go_sem]
 exact aJ (PS _ _) _
theorem Ad(rep:Int)(v:Value)(zs:List Iv)(w:World)(h:RgAt w v zs)(M:cL zs)(hr:aL rep)(h0:zs≠[])(hs:zs.length≤900000) :
  Calls prog 215 #[.int .u64 rep,v] w fun e w'=>∃(en:Ent) (hv:Value),e=.returned (.tuple #[.agg #[.int .u64 rep,.int .u64 en.mx,hv],.bool true])∧en.rep=rep∧OwnL w' w.heap.size 123 hv en.hs∧EntW en∧EntC en∧(∀c,rH en c↔aV zs c)∧en.hs.length≤zs.length+1∧Below w.heap.size w w':=by
 obtain⟨a,cap,rfl,G,z⟩:=h;have N:=List.length_pos_iff.2 h0;obtain⟨n,en⟩:=aG zs.length;obtain⟨j,ej⟩:∃j,n=j+1:=⟨n-1,aA⟩;obtain⟨b,off,rfl,A0,_,R⟩:=G.cells j aA;have J:=G.word (i:=j) aA;have B:=G.words;obtain⟨top,m⟩:=aG (Hi zs j);rw[m]at R J;have u:aV zs top:=fU.2 ⟨j,aA,by rw[← m];exact(M j aA).1,by rw[m];exact QA _⟩;have y:∀x,aV zs x→x≤top:=fun x V=>by
  obtain⟨i,hi,h1,h2⟩:=fU.1 V;rcases Nat.lt_or_ge i j with g | g
  ·have:=cG M g aA;have:=(M j aA).1;omega
  obtain rfl:i=j:=aA;omega
 have C:∀x,aV zs x→0≤x:=fun x V=>(cC B V).1;have X:=aI (fun(b':Nat) (W:World) (hW:Below w.heap.size w W) (hb:W.heap[b']?=some (.cells #[.int .u64 0,.int .u64 top] 123 (0,0)))=>BT b' (.slice (some ⟨b,off,none⟩) zs.length cap) zs top W hb ⟨_,cap,rfl,G.below hW,z⟩ J.2 hs);rw[en]at X ⊢;have HT:=aI u;have HM:=aI y;have O:=aI C;have P:=aI J.2;have HR:=aI hr;obtain⟨r,er⟩:=aG ((n:Int)-1:Int);have q0:IntKind.i64.wrap ((n:Int)-1)=r:=by rw[PI];omega
 have q1:0≤r:=aA;have q2:r<(n:Int):=aA;have q3:r.toNat=j:=aA;have q4:((n:Int) == 0)=false:=by simp;omega
 have q5:¬n=0:=aA;clear G M hr h0 hs N en ej m u y C J B er z;go_enter func215,ntmps215;go_wp2_with fail;have Y:=aI (aJ (aJ (PS w.heap.size w) (.cells #[.int .u64 0,.int .u64 0,.slice none 0 0] 96)) (.cells #[.int .u64 0,.int .u64 top] 123));have D:=aI (show((w.alloc (.cells #[.int .u64 0,.int .u64 0,.slice none 0 0] 96)).alloc (.cells #[.int .u64 0,.int .u64 top] 123)).heap[w.heap.size]?=some (.cells #[.int .u64 0,.int .u64 0,.slice none 0 0] 96 (0,0))from aT _ _ aD (aK _ _ rfl));refine(X (w.heap.size+1) _ Y (aK _ _ aD)).mono ?_;rintro e w2 ⟨hv,out,rfl,L,hc,s,hl,A⟩;have l:w2.heap[w.heap.size]?=some (.cells #[.int .u64 0,.int .u64 0,.slice none 0 0] 96 (0,0)):=(A.block _ (aO D)).trans D;have Z:=aI (aN Y A);obtain⟨H,I,rfl,S,T,U⟩:=L.prs;have K:=aI (show OwnL w2 (w.heap.size+1) 123 (.slice H out.length I) out from⟨bC L.row (by simp<;>omega),L.words⟩);have HC:=aI hc;have E:=aI s;have HL:=aI hl;have y0:w2.cell? ⟨w.heap.size,0,none⟩=some (.int .u64 0):=by simp[PX,l]
 have y1:w2.cell? ⟨w.heap.size,1,none⟩=some (.int .u64 0):=by simp[PX,l]
 have y2:w2.cell? ⟨w.heap.size,2,none⟩=some (.slice none 0 0):=by simp[PX,l]
 have f0:w2.frozen? ⟨w.heap.size,0,none⟩=false:=frozen_of_row _ _ 0 _ _ l;have f1:w2.frozen? ⟨w.heap.size,1,none⟩=false:=frozen_of_row _ _ 1 _ _ l;have f2:w2.frozen? ⟨w.heap.size,2,none⟩=false:=frozen_of_row _ _ 2 _ _ l;have Q:=aI l;clear L hc s hl A S T U l;go_wp2;have F:=heap_setCell_same _ _ 2 _ _ (.slice H out.length I) (heap_setCell_same _ _ 1 _ _ (.int .u64 top) (heap_setCell_same _ _ 0 _ _ (.int .u64 rep) Q));have ho:Only (fun k=>k=w.heap.size) w2 (((w2.setCell ⟨w.heap.size,0,none⟩ (.int .u64 rep)).setCell ⟨w.heap.size,1,none⟩ (.int .u64 top)).setCell ⟨w.heap.size,2,none⟩ (.slice H out.length I)):=
  (((Only.refl (fun k=>k=w.heap.size) w2).setCell (p:=⟨w.heap.size,0,none⟩) (.inl rfl) _).setCell (p:=⟨w.heap.size,1,none⟩) (.inl rfl) _).setCell (p:=⟨w.heap.size,2,none⟩) (.inl rfl) _
 refine bodyPost_ret (v:=.tuple #[.agg #[.int .u64 rep,.int .u64 top,.slice H out.length I],.bool true]) ?_ rfl ?_
 ·simp[results,results215,go_sem,PX,F]
 refine⟨⟨rep,top,out⟩,.slice H out.length I,rfl,rfl,⟨bC (bF K.row ho fun k hk e=>by have:=(K.row.lt k hk).1;omega) aA,K.words⟩,⟨HR,P,K.words⟩,⟨HC,fun i hi=>?_⟩,fun c=>?_,HL,Z.trans (ho.below (n:=w.heap.size) Z.size (fun k hk=>aA))⟩
 ·have s:aV out (Hi out i):=fU.2 ⟨i,hi,(HC i hi).1,QA _⟩;obtain⟨_,h2,h3⟩:=(E _).1 s;show Hi out i<top;by_cases q:Hi out i=top
  ·rw[q]at h3;exact absurd HT h3
  omega
 show(0≤c∧c≤top∧¬aV out c)↔_;rw[E.out];constructor
 ·rintro⟨a,b,d⟩;by_cases q:aV zs c
  ·exact q
  exact absurd ⟨a,b,q⟩ d
 intro q;exact⟨O c q,HM c q,fun d=>d.2.2 q⟩
theorem BU{w w':World}{base b Z:Nat}{v:Value}{zs:List Iv}(h:OwnL w base 123 v zs)(ho:Only (fun q=>q=Z) w w')(l:∀q,v.ownBlock=some q→q≠Z)(m:∀q,v.ownBlock=some q→b≤q):OwnL w' b 123 v zs:=by
 have h1:w'.ownsRow base 123 2 v zs.length (bB zs):=bF h.row ho (fun k j e=>l k j e);refine⟨⟨h1.1,?_⟩,h.words⟩;rcases h1.2 with h2 | ⟨g,cap,cur,e,h3,h4⟩
 ·exact .inl h2
 exact .inr ⟨g,cap,cur,e,m g (by rw[e];rfl),h4⟩
theorem Fv(p:EV)(w:World)(h:HolesAt w p)(R:EntW p.1)(hC:EntC p.1)(hs:p.1.hs.length≤800000) :
  Calls prog 162 #[kO p] w fun e w'=>∃hv,e=.returned (.tuple #[.agg #[.int .u64 p.1.rep,.int .u64 p.1.mx,hv],.bool true])∧OwnL w' w.heap.size 123 hv p.1.hs∧Below w.heap.size w w':=by
 have A0:prog.follows .mixedOrders=true:=aC;have L:=aI (hC.top' R);obtain⟨⟨x,y,z⟩,pv⟩:=p;simp only at L;obtain⟨a,cap,e1,h1,h2⟩:=h.at';simp only at e1 h1 h2 hs;subst e1;have HC:=aI hC;have HW:=aI R;have WX:=aI R.rep;simp only at HC HW WX;obtain⟨w1,b⟩:=aG ((w.alloc (.cells #[.int .u64 x,.int .u64 y,.slice a z.length cap] 96)).alloc (.cells #[.int .u64 0,.int .u64 0,.slice none 0 0] 96));have T:=aI (show Below w.heap.size w w1 from by rw[← b];exact aJ (aJ (PS _ _) _) _);have U:w1.heap[w.heap.size]?=some (.cells #[.int .u64 x,.int .u64 y,.slice a z.length cap] 96 (0,0)):=by rw[← b];exact aT _ _ aD (aK _ _ rfl)
 have Q2:=aI (show w1.heap[w.heap.size+1]?=some (.cells #[.int .u64 0,.int .u64 0,.slice none 0 0] 96 (0,0))from by rw[← b];exact aK _ _ aD);have A1:=aI (show w.heap.size+2≤w1.heap.size from by rw[← b];simp);have V:=aI (fun(W:World) (hW:Only (fun k=>k=w.heap.size+1) w1 W)=>uK (⟨x,y,z⟩,.slice a z.length cap) W (show HolesAt W (⟨x,y,z⟩,.slice a z.length cap)from⟨⟨a,cap,rfl,(h1.below (T.trans (hW.below (n:=w.heap.size) T.size (fun k hk=>aA)))),h2⟩⟩) R (by show z.length≤900000;omega));unfold kO at V ⊢;simp only at V ⊢;have M:w1.cell? ⟨w.heap.size,0,none⟩=some (.int .u64 x):=by simp[PX,U]
 have c1:w1.cell? ⟨w.heap.size,1,none⟩=some (.int .u64 y):=by simp[PX,U]
 have Y:w1.cell? ⟨w.heap.size,2,none⟩=some (.slice a z.length cap):=by simp[PX,U]
 have H:¬w.heap.size=w.heap.size+1:=aA;obtain⟨n,en⟩:=aG z.length;have EN:=aI en;rw[en]at V Y hs b ⊢;clear h h1 h2 R hC U en;go_enter func162,ntmps162;go_wp2_with fail;clear b;refine wp_region_held_drew (S:=Only (fun k=>k=w.heap.size+1) w1) A0 (Only.refl _ _).drew (fun hS=>?_);obtain⟨wd,B⟩:=aG w1.drew;have qd:wd.heap[w.heap.size+1]?=some (.cells #[.int .u64 0,.int .u64 0,.slice none 0 0] 96 (0,0)):=by rw[← B];exact Q2
 rw[B]at hS ⊢;clear B;refine aP 0 4 (.pointer (some ⟨w.heap.size,0,none⟩)) ?_;refine dL 1 5 (.int .u64 x) ?_ ?_
 ·intro X G;have x0:=G.cell (fun h=>H h) M;have x1:=G.cell (fun h=>H h) c1;have x2:=G.cell (fun h=>H h) Y;go_simp
 refine dL 2 6 (.agg #[.int .u64 x,.int .u64 y,.slice a n cap]) ?_ ?_
 ·intro X G;have x0:=G.cell (fun h=>H h) M;have x1:=G.cell (fun h=>H h) c1;have x2:=G.cell (fun h=>H h) Y;go_simp
 refine cW 3 fun K u=>?_;go_simp;refine(V wd hS).mono ?_;rintro e w3 ⟨v,out,rfl,J,hc,C,hl,D⟩;have l:=hS.call D;have q3:=(D.block _ (aO qd)).trans qd;have KO:=aI (Ad x v out w3 J.rg hc WX (fun e=>by subst e;exact cY _ ((C y).2 L)) (by have:=hl;omega));have IN:=aI C;clear J hc C hl;have SZ:=aI (show w1.heap.size≤w3.heap.size from l.size);clear D;go_simp;refine u _ _ l (fun _=>?_);clear u K;refine cW 4 fun K u=>?_;go_simp;refine KO.mono ?_;rintro e E ⟨en,hv,rfl,hr,J,N,O,P,_,F⟩;have A:=l.call F;have I:=(F.block _ (aO q3)).trans q3;have EE:=aI (show en=⟨x,y,z⟩from yK O HC N HW hr (fun c=>(P c).trans (IN c)));have Z:=aI (show OwnL E (w.heap.size+2) 123 hv z from by have e2:=EE.out;subst e2;exact⟨bC J.row (by have:=SZ.out;have:=A1.out;omega),J.words⟩);have OF:=aI (show ∃r s,hv=.slice r n s from by obtain⟨a0,M,e0,_⟩:=Z.prs;exact⟨a0,M,by rw[← EN.out];exact e0⟩);obtain⟨r,s,rfl⟩:=OF.out;have EM:=aI (show en.mx=y from by rw[EE.out]);clear F J P N O hr;rw[EM.out];go_simp;refine u _ _ A (fun _=>?_);clear u K;refine aP 5 9 (.agg #[.int .u64 x,.int .u64 y,.slice r n s]) ?_;refine aP 6 10 (.bool true) ?_;refine cW 7 fun K u=>?_;have k0:E.cell? ⟨w.heap.size+1,0,none⟩=some (.int .u64 0):=by simp[PX,I]
 have k1:E.cell? ⟨w.heap.size+1,1,none⟩=some (.int .u64 0):=by simp[PX,I]
 have k2:E.cell? ⟨w.heap.size+1,2,none⟩=some (.slice none 0 0):=by simp[PX,I]
 have f0:∀j,E.frozen? ⟨w.heap.size+1,j,none⟩=false:=by intro j;simp[PZ,I]
 have E0:=aI (heap_setCell_same _ _ 2 _ _ (.slice r n s) (heap_setCell_same _ _ 1 _ _ (.int .u64 y) (heap_setCell_same _ _ 0 _ _ (.int .u64 x) I)));have OZ:=aI ((((Only.refl (fun q=>q=w.heap.size+1) E).setCell (p:=⟨w.heap.size+1,0,none⟩) (.inl rfl) (.int .u64 x)).setCell (p:=⟨w.heap.size+1,1,none⟩) (.inl rfl) (.int .u64 y)).setCell (p:=⟨w.heap.size+1,2,none⟩) (.inl rfl) (.slice r n s));have m:=A.trans OZ;go_simp;refine u _ _ m (fun _=>?_);clear u K k0 k1 k2 f0;obtain⟨wz,Q⟩:=aG (((E.setCell ⟨w.heap.size+1,0,none⟩ (.int .u64 x)).setCell ⟨w.heap.size+1,1,none⟩ (.int .u64 y)).setCell ⟨w.heap.size+1,2,none⟩ (.slice r n s));rw[Q]at E0 OZ m ⊢;clear Q;refine aP 8 3 (.bool true) ?_;refine iM ?_;have OE:=aI (BU Z OZ (fun q hq e=>by have:=(Z.row.lt q hq).1;omega) (fun q hq=>by have:=(Z.row.lt q hq).1;omega):OwnL wz w.heap.size 123 (.slice r n s) z);have BE:=aI (T.trans (m.below (n:=w.heap.size) T.size (fun k hk=>aA)));clear hS l A m qd q3 I M c1 Y;go_wp2;have hz:=E0.out;refine bodyPost_ret (v:=.tuple #[.agg #[.int .u64 x,.int .u64 y,.slice r n s],.bool true]) (by simp[results,results162,go_sem,PX,hz]) rfl ⟨_,rfl,OE,BE⟩
theorem Ft(a:Option Addr)(len cap:Nat)(l:List EV)(w:World)(h:EntsN w a len l)(hC:CanW (l.map (·.1)))(hs:∀e∈l.map (·.1),e.hs.length≤800000)(A5:len≤100000000) :
  Calls prog 107 #[.slice a len cap] w fun e w'=>∃v A,e=.returned v∧A.map (·.1)=l.map (·.1)∧RowF w' w.heap.size v A∧Below w.heap.size w w':=by
 obtain⟨i0,hi,A1,A2,A3⟩:=info_parts iK;have R:=aI h.at'.length;have H:=aI h;have Y:=aI hC;have HS:=aI hs;clear h hC hs;go_enter func107,ntmps107;go_wp2;go_loopw [3,4] (fun o c wr=>∃(k:Nat) (A:List EV),k≤len∧c=.int .i64 k∧A.map (·.1)=(l.map (·.1)).take k∧RowF wr w.heap.size o A∧Below w.heap.size w wr) (fun _ c _=>len-(intOf c).toNat)
 case atStart=>exact⟨0,[],SI _,rfl,rfl,RowF.nil _ _,PS _ _⟩
 obtain⟨k,A,hk,rfl,E,hF,V⟩:=hrel;have Z:=aI hF;have S:=aI V;have L:=aI E;have A6:(0:Int)≤(k:Int):=aA;have M:A.length=k:=by
  have:=congrArg List.length E;rw[QN,QM,QN,R.out]at this;omega
 have N:=aI M;clear hF E M;by_cases hlt:k<len
 ·have i1:(k:Int)<(len:Int):=aA;have T:=H.below V;obtain⟨b,off,rfl,A8,F,G,B⟩:=T.at'.cells k hlt;have r:=T.at'.mem hlt;have s:(l.getD k EV.z).1∈l.map (·.1):=List.mem_map.2 ⟨_,r,rfl⟩;have hN:=T.holes _ r;have J:=aI (fun W (hW:Below wr.heap.size wr W)=>Fv (l.getD k EV.z) W (hN.below hW).at (Y.words _ s) (Y.can _ s) (HS _ s));have O:=aI (Y.words _ s);have TK:=aI (show(l.map (·.1)).take (k+1)=(l.map (·.1)).take k ++ [(l.getD k EV.z).1] from by
   have A0:k<(l.map (·.1)).length:=by rw[QN,R.out];exact hlt
   rw[QG A0];simp[QF,QC (show k<l.length by rw[R.out];exact hlt)])
  obtain⟨ha,A4,ev,_,_,_⟩:=hN;obtain⟨p,ep⟩:=aG (l.getD k EV.z);rw[ep]at F G B J O TK ev;clear ep r s T V;obtain⟨⟨x,y,z⟩,pv⟩:=p;simp only at F G B ev;subst ev;unfold kO at J;simp only at J;obtain⟨n,en⟩:=aG z.length;rw[en]at J B;clear en;go_wp2_with fail;refine(J _ (PS _ _)).mono ?_;rintro e I ⟨hv,rfl,X,Q⟩;have D:=Q;have U:=aI (Z.only (may:=fun _=>False) (Only.of_below D) (fun _ h=>h.elim));have sz:=S.size;have O1:=aI (show OwnL I w.heap.size 123 hv z from⟨bC X.row aA,X.words⟩);have B1:=aI (aN S D);obtain⟨a1,K,rfl,_,_,_⟩:=X.prs;clear X Q D F G B J;obtain⟨ao,co,rfl,_⟩:=aY U.row;obtain⟨m,em⟩:=aG z.length;rw[em]at O1 ⊢;go_wp2_with(at_builtin;go_loud(refine wpList_append_own_at _ rfl _ _ 76 rfl w.heap.size 96 i0 (.agg #[.int .u64 0,.int .u64 0,.slice none 0 0]) 3 40 underlying76 hi A1 A2 A3 rfl aB _ _ _ rfl ((U.row.alloc _).alloc _) ⟨I.heap.size+1,0,none⟩ 1 1 [.int .u64 x,.int .u64 y,.slice a1 m K] rfl rfl ?z1 ?z2 ?z3 ?z4 ?z5 ?_))
  case z1=>exact iI (aK _ _ aD)
  case z2=>intro u hu;simp at hu;rcases hu with rfl | rfl | rfl<;>rfl
  case z3=>rw[N.out];unfold maxLen;omega
  case z4=>rw[N.out];omega
  case z5=>have:=B1.size;simp;omega
  intro v' w3 C j _ _;have F3:=aI (RowF.push (e:=⟨x,y,z⟩) (o:=.cells #[.int .u64 x,.int .u64 y,.slice a1 m K] 96) (U.only (may:=fun _=>False) (Only.of_below (aJ (PS I.heap.size I) (.cells #[.int .u64 x,.int .u64 y,.slice a1 m K] 96))) (fun _ h=>h.elim))
   (⟨bF O1.row ((Only.refl (fun _=>False) I).alloc _) (fun _ _ h=>h),O1.words⟩) O C j)
  have B3:=aI ((aN B1 (aJ (aJ (PS I.heap.size I) (.cells #[.int .u64 x,.int .u64 y,.slice a1 m K] 96)) (.cells #[.int .u64 x,.int .u64 y,.slice a1 m K] 96))).grown j (by have:=B1.size;simp<;>omega) (fun q hq=>(U.row.lt q hq).1));clear C j;go_wp2;go_roundw
  case rel=>
   have e2:(A ++ [((⟨x,y,z⟩:Ent),PT a1 m K)]).map (·.1)=(l.map (·.1)).take (k+1):=by rw[TK.out,QR,L.out];rfl
   first | exact⟨k+1,_,aA,by go_num,e2,F3,B3⟩ | ((repeat apply Exists.intro);exact⟨⟨k+1,_,aA,by go_num,e2,F3,B3⟩,rfl⟩)
  simp[intOf];omega
 obtain rfl:k=len:=aA;have A7:¬(k:Int)<(k:Int):=aA;have P:=aI (show A.map (·.1)=l.map (·.1)from by rw[L.out,RO (by rw[QN,R.out];exact SH _)]);clear V;go_wp2;go_ret
 first | exact⟨_,rfl,A,P,Z,S⟩ | exact⟨_,A,rfl,P,Z,S⟩
def kI (zs:List Iv):List Int:=zs.flatMap fun z=>[z.1,z.2]
theorem Kz{zs:List Iv}{j:Nat}(h:j<zs.length):kI (zs.take (j+1))=kI (zs.take j) ++ [Lo zs j,Hi zs j]:=by
 unfold kI;rw[QG h,QP];simp[Lo,Hi,QF,QC h]
theorem Bf(zs:List Iv):(kI zs).length=2 * zs.length:=by
 induction zs with
 | nil=>rfl
 | cons z zs ih=>
   have:kI (z :: zs)=[z.1,z.2] ++ kI zs:=rfl;rw[this,QB,ih];simp only[QJ,RZ];omega
def mS (es:List Ent) (k:Nat):List Int:=(es.length:Int) :: (es.take k).flatMap gQ
theorem Ry(es:List Ent):mS es es.length=bG es:=by unfold mS bG;rw[RL]
theorem Ll{es:List Ent}{k:Nat}(h:k<es.length):mS es (k+1)=mS es k ++ [(es.getD k Ent.z).rep,(es.getD k Ent.z).mx,((es.getD k Ent.z).hs.length:Int)] ++ kI (es.getD k Ent.z).hs:=by
 have e:es.getD k Ent.z=es[k]:=by simp[QF,QC h]
 unfold mS;rw[QG h,QP,e];simp[gQ,kI]
theorem Xq{es:List Ent}:∀{k:Nat},k≤es.length→(mS es k).length≤(bG es).length:=by
 intro k b;unfold mS bG;simp only[QJ];have:es.flatMap gQ=(es.take k).flatMap gQ ++ (es.drop k).flatMap gQ:=by rw[← QP,QU]
 rw[this,QB];omega
theorem xJ(a:Option Addr)(len cap:Nat)(l:List EV)(w:World)(hE:EntsAt w a len l)(hs:∀p∈l,p.1.hs.length≤1000000)(C0:len≤1000000)(hN:(bG (l.map (·.1))).length≤100000000) :
  Calls prog 163 #[.slice a len cap] w fun e w'=>∃v,e=.returned v∧OwnI w' w.heap.size v (bG (l.map (·.1)))∧Below w.heap.size w w':=by
 obtain⟨A1,A2,A3,A4,A5⟩:=info_parts iD;obtain⟨es,D⟩:=aG (l.map (·.1));have hl:len=es.length:=by rw[← D,QN,hE.length]
 rw[D]at hN ⊢;have E:=aI hE;have ES:=aI D;have HS:=aI hs;have R:=aI hN;have w64:IntKind.u64.wrap (len:Int)=len:=bA ⟨aA,aA⟩;have WL:Hid (aL (len:Int)):=aI ⟨aA,aA⟩;have HL:=aI hl;have HR:=aI (PY (base:=w.heap.size) (e:=57) (size:=1) w #[.int .u64 (len:Int)] 1 (SH _) aB rfl);have O0:Hid (OwnI (w.alloc (.cells #[.int .u64 (len:Int)] 57)) w.heap.size (.slice (some ⟨w.heap.size,0,none⟩) 1 1) (mS es 0)):=aI (by
  rw[show mS es 0=[(es.length:Int)] from rfl,← HL.out];exact⟨HR,fun z H=>by simp at H;subst H;exact WL⟩)
 clear hE D hs hN hl HR;go_enter func163,ntmps163;go_wp2;go_loopw [3,4] (fun o c wr=>∃k:Nat,k≤len∧c=.int .i64 k∧OwnI wr w.heap.size o (mS es k)∧Below w.heap.size w wr)
  (fun _ c _=>len-(intOf c).toNat)
 case atStart=>exact⟨0,SI _,rfl,O0,aJ (PS _ _) _⟩
 obtain⟨k,hk,rfl,hO,hb⟩:=hrel;have S:=aI hO;have HB:=aI hb;clear hO O0;have i0:(0:Int)≤(k:Int):=aA;by_cases hlt:k<len
 ·have i1:(k:Int)<(len:Int):=aA;obtain⟨b,off,rfl,M,c1,c2,c3⟩:=(E.below hb).cells k hlt;have A:=E.mem hlt;obtain⟨ha,B9,eh,F,N⟩:=(E.holes _ A).at';have hP:=fun W (hW:Below w.heap.size w W)=>F.below hW;have B5:k<es.length:=by rw[← HL.out];exact hlt
  have G:es.getD k Ent.z=(l.getD k EV.z).1:=by rw[← ES.out,cF]
  have hw:=E.words _ A;have I:=HS.out _ A;have J:=aI (Ll B5);have K:=aI (SR (Xq (show k+1≤es.length by omega)) R);rw[G]at J;rw[J.out]at K;rw[eh]at c3;obtain⟨p,ep⟩:=aG (l.getD k EV.z);have EP:=aI ep;rw[ep]at c1 c2 c3 hP F N eh hw I J K;obtain⟨⟨x,y,zs⟩,ev⟩:=p;simp only at c1 c2 c3 hP F N eh hw I J K;subst eh;have HP:=aI hP;have WE:=aI hw;have FL:=aI (Bf zs);obtain⟨n,en⟩:=aG zs.length;have EN:=aI en;rw[en]at c3 I J K HP FL EP;have WN:Hid (aL (n:Int)):=aI ⟨aA,aA⟩;have ww:IntKind.u64.wrap (n:Int)=n:=bA ⟨aA,aA⟩;obtain⟨Q,eQ⟩:=aG (mS es k);rw[eQ]at S J K;have T:=aI (show Q.length+3+2 * n≤100000000 by
   have h1:=K.out;have h3:=FL.out;simp only[QB,QJ,RZ]at h1;omega)
  have U:=aI (show Q.length+3≤maxLen∧(Q.length+3) * 8≤140737488355328 by
   have:=T.out;unfold maxLen;omega)
  clear hP F hw en A N ep eQ G K;go_wp2_with fail;go_region_law (refine step_append_lies _ rfl _ _ 89 rfl w.heap.size 57 A1 (.int .u64 0) 1 8 underlying89 A2 A3 A4 A5 rfl aB _ _ _ rfl (S.row.alloc _).drew ⟨wr.heap.size,0,none⟩ 3 3 [.int .u64 x,.int .u64 y,.int .u64 (n:Int)] rfl rfl ?_ ?_ aB ?_ ?_ ?_ (wr.heap.size+1) ?_ ?_;exact iI (w:=wr.alloc (.cells #[.int .u64 x,.int .u64 y,.int .u64 (n:Int)] 57)) (aK _ _ rfl);(intro u hu;simp at hu;rcases hu with rfl | rfl | rfl<;>rfl);exact U.1;exact U.2;(exact(aS (aJ HB _)).size);simp;intro g3 C1 w3 s r P B1)
  all_goals
   have V:=(aS (aJ HB _)).grown r (aS (aJ HB _)).size (fun g hg=>(S.row.lt g hg).1);have B3:=aI V;have O3:=aI (jM (m:=3) (ys:=[x,y,(n:Int)]) S rfl s (fun z H=>by
    simp at H;rcases H with rfl | rfl | rfl
    ·exact WE.rep
    ·exact WE.mx
    exact WN))
   have X:=aI (show mS es (k+1)=(Q ++ [x,y,(n:Int)]) ++ kI zs from J);have QL:=aI (show(Q ++ [x,y,(n:Int)]).length=Q.length+3 by simp);obtain⟨Q3,A6⟩:=aG (Q ++ [x,y,(n:Int)]);rw[A6]at O3 X QL;clear s r P B1 V A6 c1 c2 c3 hb M;obtain⟨wk,B7⟩:=aH w3;subst B7;go_wp2;go_loopw [3,5] (fun o c wr=>∃j:Nat,j≤n∧c=.int .i64 j∧OwnI wr w.heap.size o (Q3 ++ kI (zs.take j))∧Below w.heap.size w wr)
    (fun _ c _=>n-(intOf c).toNat)
   case atStart=>exact⟨0,SI _,rfl,by rw[List.take_zero];show OwnI _ _ _ (Q3 ++ []);rw[List.append_nil];exact O3,B3⟩
   obtain⟨j,hj,rfl,A7,B⟩:=hrel;have Y:=aI A7;have Z:=aI B;clear A7;have j0:(0:Int)≤(j:Int):=aA;obtain⟨b4,off4,A8,M,_,_,d3⟩:=(E.below B).cells k hlt;rw[EP.out]at d3;obtain⟨rfl,rfl⟩:b=b4∧off=off4:=by simpa using A8
   clear A8;by_cases hjl:j<n
   ·have j1:(j:Int)<(n:Int):=aA;obtain⟨bz,oz,rfl,B8,z1,z2⟩:=(HP wr B).cells j hjl;have C:=(HP wr B).word hjl;have FW:=aI (Kz (zs:=zs) (j:=j) (by rw[EN.out];exact hjl));obtain⟨lo,A9⟩:=aG (Lo zs j);obtain⟨hi,B0⟩:=aG (Hi zs j);rw[A9]at z1 C FW;rw[B0]at z2 C FW;have WZ:=aI C;have FJ:=aI (show(Q3 ++ kI (zs.take j)).length≤Q3.length+2 * n from by
     rw[QB,Bf,QM];omega)
    have L:=aI (show(Q3 ++ kI (zs.take j)).length+2≤maxLen∧((Q3 ++ kI (zs.take j)).length+2) * 8≤140737488355328 by
     have:=FJ.out;have:=T.out;have:=QL.out;unfold maxLen;omega)
    obtain⟨Q4,O⟩:=aG (Q3 ++ kI (zs.take j));have B6:=aI O;rw[O]at Y L;have EP:=aI EP;clear A9 B0 C O FJ B M B8;go_wp2_with fail;go_region_law (refine step_append_lies _ rfl _ _ 89 rfl w.heap.size 57 A1 (.int .u64 0) 1 8 underlying89 A2 A3 A4 A5 rfl aB _ _ _ rfl (Y.row.alloc _).drew ⟨wr.heap.size,0,none⟩ 2 2 [.int .u64 lo,.int .u64 hi] rfl rfl ?_ ?_ aB ?_ ?_ ?_ (wr.heap.size+1) ?_ ?_;exact fE wr _ _ _;(intro u hu;simp at hu;rcases hu with rfl | rfl<;>rfl);exact L.1;exact L.2;(exact(aS (aJ Z _)).size);simp;intro g4 C2 w4 s r P B2)
    all_goals
     have A0:=(aS (aJ Z _)).grown r (aS (aJ Z _)).size (fun g hg=>(Y.row.lt g hg).1);have B4:=aI A0;have O4:=aI (show OwnI w4 w.heap.size _ (Q3 ++ kI (zs.take (j+1)))from by
      rw[FW.out,← RW,B6.out];exact jM (m:=2) (ys:=[lo,hi]) Y rfl s (fun z H=>by
       simp at H;rcases H with rfl | rfl
       ·exact WZ.1
       exact WZ.2))
     clear s r P B2 A0 z1 z2 d3;go_wp2;go_roundw
     case rel=>first | exact⟨j+1,aA,by go_num,O4,B4⟩ | ((repeat apply Exists.intro);exact⟨⟨j+1,aA,by go_num,O4,B4⟩,rfl⟩)
     simp[intOf];omega
   obtain rfl:n=j:=aA;have O4:=aI (show OwnI wr w.heap.size u3 (mS es (k+1))from by rw[X.out];have:=Y.out;rw[RO (by rw[EN.out];exact SH _)]at this;exact this);clear B;go_wp2;go_roundw
   case rel=>first | exact⟨k+1,aA,by go_num,O4,Z⟩ | ((repeat apply Exists.intro);exact⟨⟨k+1,aA,by go_num,O4,Z⟩,rfl⟩)
   simp[intOf];omega
 obtain rfl:k=len:=aA;have O6:=S.out;rw[HL.out,Ry]at O6;have O6:=aI O6;go_wp2;go_ret;exact⟨_,rfl,O6,HB⟩
end Go.Proofs.YtbkkolfpegplgaaGreatDoor
