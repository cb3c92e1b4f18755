import Derived.Test.YtbkkolfpegplgaaGreatDoorTG41
import Derived.Test.YtbkkolfpegplgaaGreatDoorTG49
open List renaming getElem?_eq_getElem→PC,length_append→PD,length_cons→PE,mem_singleton→PF,getElem_mem→PG,getD→PH,length_map→PI,getLast?_eq_some_getLast→PJ,flatMap_cons→PM,take_length→PN,ext_getElem→PO,length_nil→PQ,length_singleton→PS,flatMap_append→PT,take_succ_eq_append_getElem→PU,foldl_cons→PV,dropLast_concat_getLast→PX,getLast?_eq_none_iff→PY,getElem_append_left→PZ,pairwise_singleton→QA,getElem_map→QB,map_append→QC
open List.Pairwise renaming imp_of_mem→QE,nil→QF
open Nat renaming le_refl→QG,mul_le_mul_right→QH,lt_trichotomy→QI
set_option maxHeartbeats 3200000
set_option maxRecDepth 100000
set_option linter.unusedVariables false
set_option linter.unusedSimpArgs false
namespace Go.Proofs.YtbkkolfpegplgaaGreatDoor
open Go Go.RowKit
abbrev Sg:=Iv×Nat
def fD (ss:List Sg) (i:Nat):List Iv:=(ss.filter fun p=>p.2=i).map (·.1)
def kH (vs:List (List Ent)) (ss:List Sg):List Frag:=vs.mapIdx fun i v=>⟨fD ss i,v⟩
def uH (ss:List Sg):List Nat:=ss.foldl (fun u p=>kW u p.2) []
def fA (ss:List Sg):Option Iv:=ss.getLast?.map (·.1)
def rX (ss:List Sg):Int:=match ss.getLast? with | none=>0 | some p=>(p.2:Int)
def vK (last:Option Iv) (l:Int):Int:=match last with | none=>l | some z=>l-z.2-1
def nS:Option Iv→List Sg→List Int
 | _,[]=>[]
 | o,p :: r=>vK o p.1.1 :: (p.1.2-p.1.1) :: (p.2:Int) :: nS (some p.1) r
def nV (vs:List (List Ent)):List Int:=(vs.length:Int) :: vs.flatMap bX
def lE (vs:List (List Ent)) (ss:List Sg):List Int:=nV vs ++ [(ss.length:Int)] ++ nS none ss
theorem Gb(ss:List Sg)(p:Sg)(i:Nat):fD (ss ++ [p]) i=if p.2=i then fD ss i ++ [p.1] else fD ss i:=by
 unfold fD;rw[List.filter_append,QC];by_cases h:p.2=i
 ·simp[h]
 simp[h]
theorem dH{ss:List Sg}{i:Nat}{z:Iv}:z∈fD ss i↔(z,i)∈ss:=by
 unfold fD;simp only[List.mem_map,List.mem_filter,decide_eq_true_eq];constructor
 ·rintro⟨⟨z',b⟩,⟨h1,h2⟩,h3⟩;simp only at h2 h3;subst h2;subst h3;exact h1
 exact fun h=>⟨_,⟨h,rfl⟩,rfl⟩
theorem Jz(ss:List Sg)(i:Nat):(fD ss i).length≤ss.length:=by
 unfold fD;rw[PI];exact List.length_filter_le _ _
theorem cX(vs:List (List Ent))(ss:List Sg):(kH vs ss).length=vs.length:=by unfold kH;simp
theorem lH(vs:List (List Ent))(ss:List Sg){i:Nat}(h:i<vs.length):(kH vs ss)[i]'(by rw[cX];exact h)=⟨fD ss i,vs[i]⟩:=by unfold kH;simp
theorem qY{vs:List (List Ent)}{ss:List Sg}{f:Frag}:f∈kH vs ss↔∃i,∃h:i<vs.length,f=⟨fD ss i,vs[i]⟩:=by
 rw[List.mem_iff_getElem];constructor
 ·rintro⟨i,hi,e⟩;have b:i<vs.length:=by rw[← cX vs ss];exact hi
  exact⟨i,b,by rw[← e,lH vs ss b]⟩
 rintro⟨i,hi,e⟩;exact⟨i,by rw[cX];exact hi,by rw[lH vs ss hi,e]⟩
theorem Dj(vs:List (List Ent))(ss:List Sg):(kH vs ss).map Frag.vec=vs:=by
 refine PO (by rw[PI,cX]) fun i h1 h2=>?_;rw[QB,lH vs ss h2]
theorem Nl(vs:List (List Ent))(v:List Ent):kH (vs ++ [v]) []=kH vs [] ++ [⟨[],v⟩]:=by
 refine PO (by simp[cX]) fun i h1 h2=>?_;rw[lH _ _ (by rw[cX]at h1;exact h1)];by_cases h:i<vs.length
 ·rw[PZ (show i<(kH vs []).length from(cX vs []).symm ▸ h),lH vs [] h];simp only[PZ h]
 have e:i=vs.length:=by rw[cX]at h1;simp at h1;omega
 subst e;rw[List.getElem_append_right (Nat.le_of_eq (cX vs []))];simp[cX,fD]
theorem DX(vs:List (List Ent))(ss:List Sg){i:Nat}(h:i<vs.length)(z:Iv):zC (kH vs ss) i z=kH vs (ss ++ [(z,i)]):=by
 have e:(kH vs ss).getD i Frag.z=⟨fD ss i,vs[i]⟩:=by
  rw[PH,PC (by rw[cX];exact h),lH vs ss h];rfl
 unfold zC;rw[e];refine PO (by simp[cX]) fun j h1 h2=>?_;have b:j<vs.length:=by rw[cX]at h2;exact h2
 rw[lH _ _ b,Gb,List.getElem_set];by_cases g:i=j
 ·subst g;simp
 simp only[if_neg g];rw[lH vs ss b]
theorem Yg(ss:List Sg)(p:Sg):uH (ss ++ [p])=kW (uH ss) p.2:=by unfold uH;rw[List.foldl_append];rfl
theorem qX(ss:List Sg)(p:Sg):fA (ss ++ [p])=some p.1:=by unfold fA;simp
theorem Kl(ss:List Sg)(p:Sg):rX (ss ++ [p])=p.2:=by unfold rX;simp
theorem Mu(p:Sg):∀(ss:List Sg) (o:Option Iv),nS o (ss ++ [p])=nS o ss ++ [vK (ss.foldl (fun _ q=>some q.1) o) p.1.1,p.1.2-p.1.1,(p.2:Int)]
 | [],o=>rfl
 | q :: ss,o=>by
   rw[List.cons_append];show _ :: _ :: _ :: nS (some q.1) (ss ++ [p])=(_ :: _ :: _ :: nS (some q.1) ss) ++ _;rw[Mu p ss (some q.1)];rfl
theorem yH:∀(ss:List Sg) (o:Option Iv),ss.foldl (fun _ q=>some q.1) o=match ss.getLast? with | none=>o | some p=>some p.1
 | [],o=>rfl
 | [q],o=>rfl
 | q :: q' :: ss,o=>by
   show(q' :: ss).foldl _ (some q.1)=_;rw[yH (q' :: ss) (some q.1)];rw[List.getLast?_cons_cons]
   cases h:(q' :: ss).getLast? with
   | none=>simp at h
   | some p=>rfl
theorem Mv(ss:List Sg)(p:Sg):nS none (ss ++ [p])=nS none ss ++ [vK (fA ss) p.1.1,p.1.2-p.1.1,(p.2:Int)]:=by
 rw[Mu,yH];unfold fA
 cases ss.getLast?<;>rfl
theorem qU:∀(ss:List Sg) (o:Option Iv),(nS o ss).length=3 * ss.length
 | [],o=>rfl
 | p :: ss,o=>by
   show(nS _ ss).length+1+1+1=3 * (ss.length+1);rw[qU ss];omega
theorem Zl(N:Int)(vs:List (List Ent))(v:List Ent):N :: (vs ++ [v]).flatMap bX=(N :: vs.flatMap bX) ++ bX v:=by
 rw[PT];simp
theorem Sw:∀{ss:List Sg} {i:Nat},i∈uH ss↔∃p∈ss,p.2=i:=by
 have b:∀(ss:List Sg) (u:List Nat) (i:Nat),i∈ss.foldl (fun u p=>kW u p.2) u↔i∈u∨∃p∈ss,p.2=i:=by
  intro ss;induction ss with
  | nil=>intro u i;simp
  | cons q ss ih=>
    intro u i;rw[PV,ih];have h:i∈kW u q.2↔i∈u∨i=q.2:=by
     unfold kW;by_cases g:q.2∈u
     ·rw[if_pos g];exact⟨.inl,fun h=>h.elim id (fun e=>e ▸ g)⟩
     rw[if_neg g];simp
    rw[h];constructor
    ·rintro((h | h) | ⟨p,j,e⟩)
     ·exact .inl h
     ·exact .inr ⟨q,aD,h.symm⟩
     exact .inr ⟨p,by simp[j],e⟩
    rintro(h | ⟨p,j,e⟩)
    ·exact .inl (.inl h)
    rcases List.mem_cons.1 j with rfl | j
    ·exact .inl (.inr e.symm)
    exact .inr ⟨p,j,e⟩
 intro ss i;have:=b ss [] i;simpa[uH]using this
theorem Lj{u:List Nat}(h:u.Nodup)(i:Nat):(kW u i).Nodup:=by
 unfold kW;by_cases g:i∈u
 ·rw[if_pos g];exact h
 rw[if_neg g];exact List.nodup_append.2 ⟨h,aD,fun a l b j e=>g (by rw[PF]at j;rw[← j,← e];exact l)⟩
theorem Sv(ss:List Sg):(uH ss).Nodup:=by
 have b:∀(ss:List Sg) (u:List Nat),u.Nodup→(ss.foldl (fun u p=>kW u p.2) u).Nodup:=by
  intro ss;induction ss with
  | nil=>intro u h;exact h
  | cons q ss ih=>intro u h;rw[PV];exact ih _ (Lj h _)
 exact b ss [] List.nodup_nil
theorem Xo(u:List Nat)(i:Nat):(kW u i).length≤u.length+1:=by
 unfold kW;split
 ·omega
 simp
theorem CH(ss:List Sg):(uH ss).length≤ss.length:=by
 have b:∀(ss:List Sg) (u:List Nat),(ss.foldl (fun u p=>kW u p.2) u).length≤u.length+ss.length:=by
  intro ss;induction ss with
  | nil=>intro u;simp
  | cons q ss ih=>intro u;rw[PV];have:=ih (kW u q.2);have:=Xo u q.2;simp only[PE];omega
 have:=b ss [];simpa[uH]using this
theorem uO:∀(n:Nat) {u:List Nat},u.Nodup→(∀i∈u,i<n)→u.length≤n
 | 0,u,_,h=>by
   cases u with
   | nil=>simp
   | cons i u=>exact absurd (h i (by simp)) (by omega)
 | n+1,u,hn,h=>by
   have h1:=uO n (u:=u.erase n) (hn.erase n) (fun i hi=>by
    have h2:=h i (List.mem_of_mem_erase hi);have h3:i≠n:=fun e=>by subst e;exact(List.Nodup.not_mem_erase hn) hi
    omega)
   by_cases g:n∈u
   ·rw[List.length_erase_of_mem g]at h1;omega
   rw[List.erase_of_not_mem g]at h1;omega
theorem Ql{n:Nat}{u:List Nat}(l:u.Nodup)(h:∀i∈u,i<n)(m:n≤u.length){i:Nat}(hi:i<n):i∈u:=by
 refine Decidable.byContradiction fun g=>?_;have h1:=uO n (u:=i :: u) (List.nodup_cons.2 ⟨g,l⟩) (fun j b=>by
  rcases List.mem_cons.1 b with rfl | b
  ·exact hi
  exact h j b)
 simp only[PE]at h1;omega
structure SegsOk (n:Nat) (ss:List Sg):Prop where
 each:∀p∈ss,aL p.1.1∧aL p.1.2∧p.1.1≤p.1.2∧p.2<n
 asc:ss.Pairwise (fun p q=>p.1.2<q.1.1∧(p.2=q.2→p.1.2+1<q.1.1))
theorem SegsOk.nil(n:Nat):SegsOk n []:=⟨aD,QF⟩
theorem qC:∀{ss:List Sg} {p:Sg},ss.getLast?=some p→∃j,ss=j ++ [p]:=by
 intro ss p h;have b:ss≠[]:=by intro e;subst e;simp at h
 refine⟨ss.dropLast,?_⟩;rw[PJ b]at h;injection h with h;rw[← h];exact(PX b).symm
theorem SegsOk.snoc{n:Nat}{ss:List Sg}{q:Sg}(h:SegsOk n ss)(A:aL q.1.1∧aL q.1.2∧q.1.1≤q.1.2∧q.2<n)(B:∀z,fA ss=some z→z.2<q.1.1)(C:∀z,fA ss=some z→z.2+1=q.1.1→rX ss≠q.2):SegsOk n (ss ++ [q]):=by
 refine⟨fun p b=>?_,List.pairwise_append.2 ⟨h.asc,QA _ _,fun p b s j=>?_⟩⟩
 ·rcases List.mem_append.1 b with b | b
  ·exact h.each p b
  rw[PF]at b;subst b;exact A
 rw[PF]at j;subst j
 cases hg:ss.getLast? with
 | none=>rw[PY]at hg;subst hg;cases b
 | some r=>
   obtain⟨m,e⟩:=qC hg;have h1:fA ss=some r.1:=by unfold fA;rw[hg];rfl
   have h2:rX ss=r.2:=by unfold rX;rw[hg]
   have h3:=B _ h1;have h4:=C _ h1;rw[h2]at h4;rw[e]at b;rcases List.mem_append.1 b with b | b
   ·have l:=h.asc;rw[e]at l;have D:=(List.pairwise_append.1 l).2.2 p b r aD;have E:=(h.each r (by rw[e];simp)).2.2.1;exact⟨aA,fun _=>aA⟩
   rw[PF]at b;subst b;refine⟨h3,fun u=>?_⟩;have:p.1.2+1≠s.1.1:=fun y=>h4 y (by rw[u]);omega
theorem Xf{zs:List Iv}(h1:∀z∈zs,z.1≤z.2)(h2:zs.Pairwise (fun a b=>a.2+1<b.1)):cL zs:=fun i hi=>by
 have j:Lo zs i=(zs[i]).1:=by unfold Lo;simp[PH,PC hi]
 have m:Hi zs i=(zs[i]).2:=by unfold Hi;simp[PH,PC hi]
 refine⟨by rw[j,m];exact h1 _ (PG hi),fun h0=>?_⟩;have l:i-1<zs.length:=aA;have n:Hi zs (i-1)=(zs[i-1]).2:=by unfold Hi;simp[PH,PC l]
 rw[j,n];exact List.pairwise_iff_getElem.1 h2 (i-1) i l hi aA
theorem SegsOk.cor{n:Nat}{ss:List Sg}(h:SegsOk n ss)(i:Nat):cL (fD ss i):=by
 refine Xf (fun z m=>(h.each _ (dH.1 m)).2.2.1) ?_;unfold fD;refine List.pairwise_map.2 ?_;have h1:=h.asc.filter (fun p=>decide (p.2=i));refine QE (fun {a b} ha hb hab=>?_) h1;have j:=(List.mem_filter.1 ha).2;have l:=(List.mem_filter.1 hb).2;simp only[decide_eq_true_eq]at j l;exact hab.2 (by rw[j,l])
theorem SegsOk.one{n:Nat}{ss:List Sg}(h:SegsOk n ss){p q:Sg}(s:p∈ss)(u:q∈ss){x:Int}(h1:p.1.1≤x∧x≤p.1.2)(h2:q.1.1≤x∧x≤q.1.2):p=q:=by
 obtain⟨i,hi,b⟩:=List.mem_iff_getElem.1 s;obtain⟨j,r,l⟩:=List.mem_iff_getElem.1 u;have m:=List.pairwise_iff_getElem.1 h.asc;rcases QI i j with t | t | t
 ·have:=(m i j hi r t).1;rw[b,l]at this;omega
 ·subst t;rw[← b,← l]
 have:=(m j i r hi t).1;rw[b,l]at this;omega
structure KSOk (vs:List (List Ent)) (ss:List Sg):Prop where
 vec:∀v∈vs,CanW v∧v≠[]
 asc:vs.Pairwise lL
 segs:SegsOk vs.length ss
 all:∀i,i<vs.length→∃z,(z,i)∈ss
theorem KSOk.can{vs:List (List Ent)}{ss:List Sg}(h:KSOk vs ss):CanK (kH vs ss):=by
 refine⟨fun f b=>?_,fun f b=>?_,fun f b=>?_,fun f b=>?_,?_,?_⟩
 ·obtain⟨i,hi,rfl⟩:=qY.1 b;exact h.segs.cor i
 ·obtain⟨i,hi,rfl⟩:=qY.1 b;obtain⟨z,l⟩:=h.all i hi;intro e;have:=dH.2 l;simp only at e;rw[e]at this
  cases this
 ·obtain⟨i,hi,rfl⟩:=qY.1 b;exact(h.vec _ (PG hi)).1
 ·obtain⟨i,hi,rfl⟩:=qY.1 b;exact(h.vec _ (PG hi)).2
 ·refine(List.pairwise_map (f:=Frag.vec) (R:=lL)).1 ?_;rw[Dj];exact h.asc
 refine List.pairwise_iff_getElem.2 fun i j hi m u x n=>?_;rw[cX]at hi m;rw[lH vs ss hi,lH vs ss m]at n;obtain⟨⟨z,l,p⟩,⟨y,r,s⟩⟩:=n;have:=h.segs.one (dH.1 l) (dH.1 r) p s;have e:i=j:=congrArg Prod.snd this;omega
theorem Fe{n:Nat}{ss ss':List Sg}(h:SegsOk n ss)(j:SegsOk n ss')(l:∀p,p∈ss↔p∈ss'):ss=ss':=
 fJ (lt:=fun p q:Sg=>p.1.1<q.1.1) (fun a=>aA) (fun {a b c} h1 h2=>aA)
  (QE (fun {a b} ha hb hab=>by have:=(h.each a ha).2.2.1;have:=hab.1;omega) h.asc)
  (QE (fun {a b} ha hb hab=>by have:=(j.each a ha).2.2.1;have:=hab.1;omega) j.asc) l
theorem DY{vs vs':List (List Ent)}{ss ss':List Sg}(h:SegsOk vs.length ss)(l:SegsOk vs'.length ss')(e:kH vs ss=kH vs' ss'):vs=vs'∧ss=ss':=by
 have m:vs=vs':=by rw[← Dj vs ss,e,Dj]
 subst m;have j:∀i,i<vs.length→fD ss i=fD ss' i:=fun i hi=>by
  have h1:=lH vs ss hi;have h2:=lH vs ss' hi;have h3:(kH vs ss)[i]'(by rw[cX];exact hi)=(kH vs ss')[i]'(by rw[cX];exact hi):=by simp only[e]
  rw[h1,h2]at h3;exact congrArg Frag.items h3
 refine⟨rfl,Fe h l fun p=>?_⟩;obtain⟨z,i⟩:=p;constructor
 ·intro b;have hi:=(h.each _ b).2.2.2;exact dH.1 (by rw[← j i hi];exact dH.2 b)
 intro b;have hi:=(l.each _ b).2.2.2;exact dH.1 (by rw[j i hi];exact dH.2 b)
structure GB (s:St):Prop where
 es:∀e∈s.es,EntW e
 rep:aL s.cur.rep
 mx:aL s.cur.mx
 hs:∀z∈s.cur.hs,aL z.1∧aL z.2
 lo:∀l,s.ph=.hi l→aL l
theorem Bx:aL 0:=by unfold aL;omega
theorem GQ:GB tZ:=⟨fun e b=>(by cases b),Bx,Bx,fun z j=>(by cases j),fun l e=>(by cases e)⟩
theorem Df{es:List Ent}(h:∀e∈es,EntW e)(b:es≠[]):aL (dR es):=by
 have:0<es.length:=List.length_pos_iff.2 b;rw[oK];exact(h _ (fL aA)).rep
theorem Hd{zs:List Iv}(h:∀z∈zs,aL z.1∧aL z.2)(b:zs≠[]):aL (dW zs):=by
 have h0:0<zs.length:=List.length_pos_iff.2 b;have:=He (zs:=zs) (j:=zs.length) h0 (QG _);rw[PN]at this;rw[this];exact(IH h aA).2
theorem Np{s:St}(h:GB s):GB (dJ s):=by
 obtain⟨ph,es,cur,ents,hls⟩:=s;obtain⟨h1,h2,h3,h4,m⟩:=h;unfold dJ;simp only at h1 h2 h3 h4 ⊢;have j:EntW cur:=⟨h2,h3,h4⟩;have b:∀e∈es ++ [cur],EntW e:=fun e b=>by
  rcases List.mem_append.1 b with b | b
  ·exact h1 e b
  rw[PF]at b;subst b;exact j
 split
 ·exact⟨h1,h2,h3,h4,fun l e=>(by cases e)⟩
 split
 ·exact⟨b,h2,h3,h4,fun l e=>(by cases e)⟩
 exact⟨b,h2,h3,h4,fun l e=>(by cases e)⟩
theorem CV{lm:cD}{s s':St}{x rest:Int}(h:bU lm s x rest=.ok s')(u:GB s)(j:aL x):GB s':=by
 obtain⟨ph,es,cur,ents,hls⟩:=s;have m:=u;obtain⟨h1,h2,h3,h4,r⟩:=u;simp only at h1 h2 h3 h4 r;unfold bU at h
 cases ph with
 | count=>
   simp only at h
   (repeat' split at h)<;>cases h
   exact⟨h1,h2,h3,h4,fun l e=>(by cases e)⟩
 | rep=>
   simp only at h;split at h
   ·cases h;exact⟨h1,j,Bx,fun z b=>(by cases b),fun l e=>(by cases e)⟩
   rename_i p;split at h
   ·rename_i hs
    cases h
    have:=Df h1 p;exact⟨h1,⟨by have:=this.1;have:=j.1;simp only;omega,hs⟩,Bx,fun z b=>(by cases b),fun l e=>(by cases e)⟩
   cases h
 | top=>
   simp only at h
   cases h
   exact⟨h1,h2,j,h4,fun l e=>(by cases e)⟩
 | op=>
   simp only at h;split at h
   ·cases h
   cases h
   exact Np ⟨h1,h2,h3,h4,fun l e=>(by cases e)⟩
 | lo=>
   simp only at h;split at h
   ·cases h;exact⟨h1,h2,h3,h4,fun l e=>(by cases e;exact j)⟩
   rename_i p;split at h
   ·rename_i hs
    cases h
    have:=Hd h4 p;exact⟨h1,h2,h3,h4,fun l e=>(by cases e;exact⟨by have:=this.1;have:=j.1;omega,hs⟩)⟩
   cases h
 | hi l=>
   simp only at h;split at h
   ·rename_i hs
    cases h
    have n:=r l rfl;refine Np ⟨h1,h2,h3,fun z b=>?_,fun y e=>(by cases e;exact n)⟩;rcases List.mem_append.1 b with b | b
    ·exact h4 z b
    rw[PF]at b;subst b;exact⟨n,⟨by have:=n.1;have:=j.1;simp only;omega,hs.1⟩⟩
   cases h
 | fin=>simp only at h;cases h;exact m
structure VsOk (vs:List (List Ent)):Prop where
 vec:∀v∈vs,CanW v∧v≠[]
 asc:vs.Pairwise lL
theorem VsOk.nil:VsOk []:=⟨fun v h=>(by cases h),QF⟩
theorem VsOk.snoc{vs:List (List Ent)}{v:List Ent}(h:VsOk vs)(hv:CanW v∧v≠[])(p:∀u,vs.getLast?=some u→lL u v):VsOk (vs ++ [v]):=by
 refine⟨fun u l=>?_,List.pairwise_append.2 ⟨h.asc,QA _ _,fun a j b n=>?_⟩⟩
 ·rcases List.mem_append.1 l with l | l
  ·exact h.vec u l
  rw[PF]at l;subst l;exact hv
 rw[PF]at n;subst n
 cases hg:vs.getLast? with
 | none=>rw[PY]at hg;subst hg;cases j
 | some u=>
   have m:vs≠[]:=by intro e;subst e;cases j
   have h1:=p u hg;rw[PJ m]at hg;injection hg with hg;have h2:vs.dropLast ++ [u]=vs:=by rw[← hg];exact PX m
   have h3:=h.asc;rw[← h2]at h3 j;rcases List.mem_append.1 j with j | j
   ·exact jO ((List.pairwise_append.1 h3).2.2 a j u aD) h1
   rw[PF]at j;subst j;exact h1
theorem FC{last:Option Iv}{x l:Int}(h:DR last x=some l)(b:aL x)(j:∀z,last=some z→aL z.2):aL l∧vK last l=x∧(∀z,last=some z→z.2<l):=by
 unfold DR at h
 cases last with
 | none=>simp only at h;cases h;exact⟨b,rfl,fun z e=>(by cases e)⟩
 | some z=>
   simp only at h;split at h
   ·rename_i hs
    cases h
    have h1:=(j z rfl).1;have h2:=b.1;refine⟨⟨aA,hs⟩,?_,fun y e=>(by cases e;omega)⟩;show z.2+1+0+x-z.2-1=x;omega
   cases h
def wK (last:Option Iv) (l:Int):Bool:=last.isSome && decide (vK last l=0)
inductive Tk:List Int→WS→Prop where
 | start:Tk [] Lm
 | vec {N:Int} {vs:List (List Ent)}:(vs.length:Int)<N→aL N→VsOk vs→Tk (N :: vs.flatMap bX) ⟨.vecs (N-vs.length) (-1) none,kH vs [],[],none,none⟩
 | vin {N fr:Int} {vs:List (List Ent)} {st:St}:(vs.length:Int)<N→aL N→VsOk vs→Ea st→st.ph≠.fin→StI st (Je st).length→GB st→Tk ((N :: vs.flatMap bX) ++ Je st) ⟨.vecs (N-vs.length) fr (some st),kH vs [],[],none,none⟩
 | mid {vs:List (List Ent)}:VsOk vs→Tk (nV vs) ⟨.mid,kH vs [],[],none,none⟩
 | s0 {M:Int} {vs:List (List Ent)} {ss:List Sg} {touch:Bool}:VsOk vs→SegsOk vs.length ss→(ss.length:Int)<M→aL M→Tk (nV vs ++ [M] ++ nS none ss) ⟨.segs (M-ss.length) 0 (rX ss) touch,kH vs ss,uH ss,fA ss,none⟩
 | s1 {M l:Int} {vs:List (List Ent)} {ss:List Sg}:VsOk vs→SegsOk vs.length ss→(ss.length:Int)<M→aL M→aL l→(∀z,fA ss=some z→z.2<l) →
    Tk (nV vs ++ [M] ++ nS none ss ++ [vK (fA ss) l]) ⟨.segs (M-ss.length) 1 (rX ss) (wK (fA ss) l),kH vs ss,uH ss,fA ss,some l⟩
 | s2 {M:Int} {z:Iv} {vs:List (List Ent)} {ss:List Sg}:VsOk vs→SegsOk vs.length ss→(ss.length:Int)<M→aL M→aL z.1∧aL z.2∧z.1≤z.2→(∀y,fA ss=some y→y.2<z.1) →
    Tk (nV vs ++ [M] ++ nS none ss ++ [vK (fA ss) z.1,z.2-z.1]) ⟨.segs (M-ss.length) 2 (rX ss) (wK (fA ss) z.1),kH vs ss,uH ss,some z,none⟩
 | fin {vs:List (List Ent)} {ss:List Sg}:KSOk vs ss→Tk (lE vs ss) ⟨.fin,kH vs ss,uH ss,fA ss,none⟩
theorem Km{n:Nat}{ss:List Sg}(h:SegsOk n ss){z:Iv}(e:fA ss=some z):aL z.1∧aL z.2:=by
 unfold fA at e
 cases hg:ss.getLast? with
 | none=>rw[hg]at e;cases e
 | some p=>
   rw[hg]at e;injection e with e;subst e;obtain⟨b,e⟩:=qC hg;have:=h.each p (by rw[e];simp);exact⟨this.1,this.2.1⟩
theorem pK{s s':WS}{next rest:Int}(h:eH s next rest=.ok s'):¬s.us.length<s.k.length∧¬0<rest∧s'={ s with pt:=.fin }:=by
 unfold eH at h;split at h
 ·cases h
 rename_i h1;split at h
 ·cases h
 rename_i h2
 cases h
 exact⟨h1,h2,rfl⟩
theorem Su{n:Nat}{ss:List Sg}(h:SegsOk n ss)(m:¬(uH ss).length<n):∀i,i<n→∃z,(z,i)∈ss:=fun i hi=>by
 have:=Ql (Sv ss) (n:=n) (fun j l=>by
  obtain⟨p,b,e⟩:=Sw.1 l;have:=(h.each p b).2.2.2;omega) aA hi
 obtain⟨p,b,e⟩:=Sw.1 this;exact⟨p.1,by rw[← e];exact b⟩
theorem EC(vs:List (List Ent))(ss:List Sg)(hn:vs≠[]):((kH vs ss).getD ((kH vs ss).length-1) Frag.z).vec=vs.getLast hn:=by
 have h0:0<vs.length:=List.length_pos_iff.2 hn;rw[cX,PH,PC (by rw[cX];omega),lH vs ss aA];show vs[vs.length-1]=_;rw[List.getLast_eq_getElem]
theorem Ek{lm:cD}{N fr:Int}{vs:List (List Ent)}{j:St}{x b rest:Int}{s':WS}(h1:(vs.length:Int)<N)(h2:aL N)(h3:VsOk vs)(h4:Ea j)(F:j.ph≠.fin)(J:StI j (Je j).length)(K:GB j)(B:aL x)
  {fr0:Int} {inner:Option St} (h:fR lm ⟨.vecs (N-vs.length) fr0 inner,kH vs [],[],none,none⟩ (N-vs.length) fr j x b rest=.ok s'):Tk (((N :: vs.flatMap bX) ++ Je j) ++ [x]) s':=by
 unfold fR at h
 cases hs:bU lm j x rest with
 | error c=>rw[hs]at h;cases h
 | ok st'=>
   rw[hs]at h;simp only at h;obtain⟨A,E⟩:=zT h4 B F hs;have C:=CV hs K B;have en:((N :: vs.flatMap bX) ++ Je j) ++ [x]=(N :: vs.flatMap bX) ++ Je st':=by rw[E,List.append_assoc]
   rw[en];by_cases hf:st'.ph.isFin=true
   ·rw[if_pos hf]at h;have D:=Ds hf;split at h
    ·cases h
    rename_i I;have hv:CanW st'.es∧st'.es≠[]:=⟨CanW.of A.can C.es,FD F hs D⟩;have m:VsOk (vs ++ [st'.es]):=h3.snoc hv fun u r=>by
     have l:vs≠[]:=by intro e;subst e;cases r
     rw[PJ l]at r;injection r with r;subst r;have G:kH vs []≠[]:=by intro e;have:=congrArg List.length e;rw[cX]at this;exact l (List.length_eq_zero_iff.1 this)
     have s:¬0≤cQ (bG ((kH vs []).getD ((kH vs []).length-1) Frag.z).vec) (bG st'.es):=fun g=>I ⟨G,g⟩;rw[EC vs [] l]at s;unfold lL;omega
    cases h
    rw[Ym D A,← Zl];have y:(vs ++ [st'.es]).length=vs.length+1:=aD;by_cases g:N-vs.length-1=0
    ·rw[if_pos g];have H:N=((vs ++ [st'.es]).length:Nat):=by rw[y];omega
     have:=Tk.mid m;rw[Nl]at this;unfold nV at this;rw[← H]at this;exact this
    rw[if_neg g];have:=Tk.vec (N:=N) (vs:=vs ++ [st'.es]) (by rw[y];omega) h2 m;rw[Nl,y,show N-((vs.length+1:Nat):Int)=N-vs.length-1 by omega]at this;exact this
   rw[if_neg hf]at h
   cases h
   have p:st'.ph≠.fin:=fun e=>hf (by rw[e];rfl);have:=Th hs J B (n:=(Je st').length) (by rw[E,PD];simp only[PS];omega) p;exact Tk.vin h1 h2 h3 A p this C
theorem Ce{lm:cD}{xs:List Int}{s s':WS}{x b rest:Int}(G:Tk xs s)(j:aL x)(H:s.pt.isFin=false)(h:cT lm s x b rest=.ok s'):Tk (xs ++ [x]) s':=by
 cases G with
 | start=>
   unfold cT Lm at h;simp only at h;split at h
   ·cases h
   cases h
   by_cases g:x=0
   ·rw[if_pos g];subst g;exact Tk.mid (vs:=[]) VsOk.nil
   rw[if_neg g];have:=Tk.vec (N:=x) (vs:=[]) (by have:=j.1;simp only[PQ];omega) j VsOk.nil;simpa[kH]using this
 | vec h1 h2 h3=>
   unfold cT at h;simp only at h;have:=Ek (fr0:=-1) (inner:=none) h1 h2 h3 Tm (by simp[tZ]) (BP _ aA) GQ j h;simpa[tZ,Je]using this
 | vin h1 h2 h3 h4 h5 h6 h7=>
   unfold cT at h;simp only at h;exact Ek (inner:=some _) h1 h2 h3 h4 h5 h6 h7 j h
 | @mid vs h3=>
   unfold cT at h;simp only at h;split at h
   ·cases h
   split at h
   ·rename_i g;subst g;obtain⟨n,r,rfl⟩:=pK h;simp only[cX,PQ]at n;have e:vs=[]:=List.length_eq_zero_iff.1 aA;subst e;exact Tk.fin (vs:=[]) (ss:=[]) ⟨h3.vec,h3.asc,SegsOk.nil _,fun i hi=>absurd hi aD⟩
   rename_i g
   cases h
   have:=Tk.s0 (M:=x) (vs:=vs) (ss:=[]) (touch:=false) h3 (SegsOk.nil _) (by have:=j.1;simp only[PQ];omega) j;simpa[nS,rX,fA,uH]using this
 | @s0 M vs ss touch h3 h4 h5 h6=>
   unfold cT at h;simp only at h;unfold jY at h;simp only[if_pos]at h
   cases hl:DR (fA ss) x with
   | none=>rw[hl]at h;cases h
   | some l=>
     rw[hl]at h;simp only at h
     cases h
     obtain⟨n,r,C⟩:=FC hl j (fun z e=>(Km h4 e).2);have:=Tk.s1 (M:=M) (l:=l) h3 h4 h5 h6 n C;unfold wK at this;rw[r]at this;exact this
 | @s1 M l vs ss h3 h4 h5 h6 h7 h8=>
   unfold cT at h;simp only at h;unfold jY at h;simp only[show ¬((1:Int)=0) by decide,if_false,if_true,Option.getD_some]at h
   cases hz:GN l x with
   | none=>rw[hz]at h;cases h
   | some z=>
     rw[hz]at h;simp only at h
     cases h
     unfold GN at hz;split at hz
     ·rename_i hs
      cases hz
      have p:=j.1;have:=Tk.s2 (M:=M) (z:=(l,l+x)) h3 h4 h5 h6 ⟨h7,⟨by have:=h7.1;simp only;omega,hs⟩,by simp only;omega⟩ h8;rw[show(l,l+x).2-(l,l+x).1=x by simp only;omega]at this;simpa using this
     cases hz
 | @s2 M z vs ss h3 h4 h5 h6 h7 h8=>
   unfold cT at h;simp only at h;unfold jY at h;simp only[show ¬((2:Int)=0) by decide,show ¬((2:Int)=1) by decide,if_false]at h;split at h
   ·cases h
   rename_i D;split at h
   ·cases h
   rename_i E;rw[cX]at D;have p:=j.1;obtain⟨i,rfl⟩:∃i:Nat,x=i:=⟨x.toNat,aA⟩;have hi:i<vs.length:=aA;simp only[Int.toNat_natCast,Option.getD_some]at h;rw[DX vs ss hi,← Yg ss (z,i)]at h;have m:SegsOk vs.length (ss ++ [(z,i)]):=h4.snoc ⟨h7.1,h7.2.1,h7.2.2,hi⟩ h8 fun y F u A=>E ⟨by
    unfold wK;rw[F];have:z.1-y.2-1=0:=by simp only at u;omega
    simp[vK,this],by rw[A]⟩
   have en:nV vs ++ [M] ++ nS none ss ++ [vK (fA ss) z.1,z.2-z.1] ++ [(i:Int)]=nV vs ++ [M] ++ nS none (ss ++ [(z,i)]):=by
    rw[Mv];simp
   rw[en];have hl:(ss ++ [(z,i)]).length=ss.length+1:=aD;split at h
   ·rename_i g;obtain⟨n,r,rfl⟩:=pK h;simp only[cX]at n;have B:M=((ss ++ [(z,i)]).length:Nat):=by rw[hl];omega
    have:=Tk.fin (vs:=vs) (ss:=ss ++ [(z,i)]) ⟨h3.vec,h3.asc,m,Su m n⟩;rw[qX]at this;unfold lE at this;rw[← B]at this;exact this
   rename_i g
   cases h
   have:=Tk.s0 (M:=M) (vs:=vs) (ss:=ss ++ [(z,i)]) (touch:=wK (fA ss) z.1) h3 m (by rw[hl];omega) h6;rw[qX,Kl,hl,show M-((ss.length+1:Nat):Int)=M-ss.length-1 by omega]at this;exact this
 | fin h=>cases H
theorem Ah(c:Int)(es:List Ent):∀k,k≤es.length→(cZ c es k).length=1+((es.take k).flatMap gQ).length
 | 0,_=>by simp[cZ]
 | k+1,h=>by
   show(cZ c es k ++ oJ (kU es k) (es.getD k Ent.z)).length=_;rw[PD,Ah c es k (by omega),PU (by omega),PT,PD,lF];have e:es.getD k Ent.z=es[k]:=by simp[PH,PC (show k<es.length by omega)]
   rw[e];simp[oU];omega
theorem Iz(es:List Ent)(c:Int):(bG es).length=(cZ c es es.length).length:=by
 rw[Ah c es _ (QG _),PN];unfold bG;rw[PE];omega
theorem pH(es:List Ent):(bX es).length=(bG es).length:=by
 rw[Iz es es.length,xR];rfl
theorem CW{s:St}(h:Ea s):(bG s.es).length≤(Je s).length+1:=by
 have h0:=h.zero;have b:=Iz s.es (s.es.length+s.ents);obtain⟨ph,es,cur,ents,hls⟩:=s;simp only at h0 b;unfold Je
 cases ph
 case count=>rw[h0 rfl];simp[bG]
 all_goals(simp only[PD];omega)
theorem FX(es:List Ent):es.length≤(bG es).length∧∀e∈es,e.hs.length≤(bG es).length:=by
 have b:es.length≤(es.flatMap gQ).length∧∀e∈es,e.hs.length≤(es.flatMap gQ).length:=by
  induction es with
  | nil=>simp
  | cons e es ih=>
    obtain⟨h1,h2⟩:=ih;rw[PM,PD,oU];refine⟨by simp only[PE];omega,fun f j=>?_⟩;rcases List.mem_cons.1 j with rfl | j
    ·omega
    have:=h2 f j;omega
 unfold bG;rw[PE];exact⟨aA,fun e l=>by have:=b.2 e l;omega⟩
theorem Vg{es:List Ent}(h:(bG es).length≤1000000000):DI es:=by
 obtain⟨h1,h2⟩:=FX es;exact⟨aA,fun e b=>by have:=h2 e b;omega,h⟩
theorem StI.mono{s:St}{a b:Int}(h:StI s a)(j:a≤b):StI s b:=⟨h.ph,h.ents,h.hls,by have:=h.es;omega,by have:=h.hs;omega⟩
theorem AB{vs:List (List Ent)}:vs.length≤(vs.flatMap bX).length∧∀v∈vs,(bG v).length≤(vs.flatMap bX).length:=by
 induction vs with
 | nil=>simp
 | cons v vs ih=>
   obtain⟨h1,h2⟩:=ih;rw[PM,PD,pH];have:1≤(bG v).length:=by unfold bG;simp
   refine⟨by simp only[PE];omega,fun u b=>?_⟩;rcases List.mem_cons.1 b with rfl | b
   ·omega
   have:=h2 u b;omega
theorem iT{pt:Pt}{vs:List (List Ent)}{ss:List Sg}{last:Option Iv}{op:Option Int}(h1:(vs.flatMap bX).length≤1000000000)(h2:ss.length≤1000000000):qH ⟨pt,kH vs ss,uH ss,last,op⟩:=by
 obtain⟨l,j⟩:=AB (vs:=vs);refine⟨⟨?_,fun f b=>?_⟩,?_,fun f b=>?_⟩
 ·simp only[cX];omega
 ·obtain⟨i,hi,rfl⟩:=qY.1 b;have:=j _ (PG hi);exact Vg (es:=vs[i]) aA
 ·have:=CH ss;simp only;omega
 obtain⟨i,hi,rfl⟩:=qY.1 b;have:=Jz ss i;simp only;omega
theorem Tk.stepB{xs:List Int}{s:WS}(h:Tk xs s)(b:xs.length≤1000000000):qH s:=by
 cases h with
 | start=>exact iT (vs:=[]) (ss:=[]) aD aD
 | vec=>exact iT (ss:=[]) (by simp only[PE]at b;omega) aD
 | vin=>exact iT (ss:=[]) (by simp only[PE,PD]at b;omega) aD
 | mid=>exact iT (ss:=[]) (by unfold nV at b;simp only[PE]at b;omega) aD
 | s0=>exact iT (by unfold nV at b;simp only[PE,PD]at b;omega) (by simp only[PD,qU]at b;omega)
 | s1=>exact iT (by unfold nV at b;simp only[PE,PD]at b;omega) (by simp only[PD,qU]at b;omega)
 | s2=>exact iT (by unfold nV at b;simp only[PE,PD]at b;omega) (by simp only[PD,qU]at b;omega)
 | fin=>exact iT (by unfold lE nV at b;simp only[PE,PD]at b;omega) (by unfold lE at b;simp only[PD,qU]at b;omega)
theorem Lx{lm:cD}{j b:St}{x rest:Int}(h:bU lm j x rest=.ok b)(h4:Ea j)(n:j.ph≠.fin)(p:aL x)(r:(Je j).length+2≤1000000000):DI b.es:=by
 obtain⟨l,m⟩:=zT h4 p n h;have:=CW l;rw[m,PD]at this;simp only[PS]at this;exact Vg aA
theorem Tk.need{lm:cD}{xs:List Int}{s:WS}{x a rest:Int}(h:Tk xs s)(j:aL x)(l:xs.length+2≤1000000000)(m:(xs.length:Int)≤a):vF lm s x a rest:=by
 cases h with
 | start=>trivial
 | vec=>exact fun b h=>Lx h Tm (by simp[tZ]) j (by simp[tZ,Je])
 | vin h1 h2 h3 h4 h5 h6 h7=>
   simp only[PE,PD]at l m;exact⟨h6.mono aA,fun b h=>Lx h h4 h5 j aA⟩
 | mid=>trivial
 | s0=>exact .inl ⟨rfl,rfl⟩
 | s1=>exact .inr (.inl ⟨rfl,_,rfl⟩)
 | s2=>exact .inr (.inr ⟨rfl,_,rfl⟩)
 | fin=>trivial
theorem zX(lm:cD)(zs:List Int)(u:zs.length+2≤1000000000):∀(m:Nat) (s:WS) (a:Int) (xs:List Int),(zs.length-a).toNat≤m→Tk xs s→s.pt.isFin=false→(xs.length:Int)≤a→a≤zs.length→∃o,mT lm 0 zs s a o
 | m,s,a,xs,hm,hT,hf,ha,hal=>by
   obtain⟨o,j⟩:=Yy zs a;match o,j with
   | .error c,j=>exact⟨_,.rd j⟩
   | .ok (x,n),j=>
     obtain⟨h0,h1,h2,r⟩:=xH j;have l:=hT.stepB aA;have p:=hT.need (lm:=lm) (rest:=zs.length-n) r aA (show(xs.length:Int)≤0+a by omega)
     cases hs:cT lm s x (0+a) (zs.length-n)with
     | error q=>
       obtain⟨c,b⟩:=q;exact⟨_,.stop j l p hs⟩
     | ok s'=>
       cases hf':s'.pt.isFin with
       | true=>exact⟨_,.fin j l p hs hf'⟩
       | false=>
         match m,hm with
         | 0,hm=>omega
         | m+1,hm=>
           obtain⟨o,ho⟩:=zX lm zs u m s' n (xs ++ [x]) aA (Ce hT r hf hs) hf' (by rw[PD];simp only[PS];omega) h2;exact⟨o,.next j l p hs hf' ho⟩
theorem Tw(lm:cD)(zs:List Int)(b:zs.length+2≤1000000000):∃o,mT lm 0 zs Lm 0 o:=
 zX lm zs b _ Lm 0 [] (QG _) .start rfl aD aA
theorem Ov{lm:cD}{s s':WS}{x b rest:Int}(h:cT lm s x b rest=.ok s')(m:s.pt.isFin=false)(j:s'.pt.isFin=true):¬0<rest:=by
 obtain⟨pt,k,us,last,op⟩:=s;have vec:∀{left fr:Int} {l:St} {s:WS},fR lm s left fr l x b rest=.ok s'→False:=by
  intro left fr l s h;unfold fR at h
  cases hs:bU lm l x rest with
  | error c=>rw[hs]at h;cases h
  | ok st'=>
    rw[hs]at h;simp only at h;split at h
    ·split at h
     ·cases h
     cases h
     simp only at j;split at j<;>cases j
    cases h
    cases j
 unfold cT at h
 cases pt with
 | start=>
   simp only at h;split at h
   ·cases h
   cases h
   simp only at j;split at j<;>cases j
 | vecs left fr inner=>
   cases inner with
   | none=>exact absurd h (fun h=>(vec h).elim)
   | some l=>exact absurd h (fun h=>(vec h).elim)
 | mid=>
   simp only at h;split at h
   ·cases h
   split at h
   ·exact(pK h).2.1
   cases h
   cases j
 | segs left turn last' touch=>
   simp only at h;unfold jY at h;split at h
   ·split at h
    ·cases h
    cases h;cases j
   split at h
   ·split at h
    ·cases h
    cases h;cases j
   split at h
   ·cases h
   split at h
   ·cases h
   simp only at h;split at h
   ·exact(pK h).2.1
   cases h;cases j
 | fin=>cases m
theorem zQ{zs:List Int}{a n x:Int}(l:∀i,0≤aW zs i∧aW zs i≤255)(b:Rd zs a (.ok (x,n))){xs:List Int}(m:bL xs=zs.take a.toNat):bL (xs ++ [x])=zs.take n.toNat:=by
 obtain⟨p,r,s,_⟩:=xH b;obtain⟨j,_⟩:=Yz l b;rw[dY,m,j];have e:(zs.take n.toNat)=zs.take (a.toNat+(n-a).toNat):=by congr 1;omega
 rw[e,List.take_add]
theorem Oy{lm:cD}{zs:List Int}(u:∀i,0≤aW zs i∧aW zs i≤255){s:WS}{a:Int}{o:Except (Int×Int) (List Frag)}(h:mT lm 0 zs s a o):∀{k:List Frag} {xs:List Int},o=.ok k→Tk xs s→s.pt.isFin=false→bL xs=zs.take a.toNat →
  ∃vs ss,KSOk vs ss∧k=kH vs ss∧zs=bL (lE vs ss):=by
 induction h with
 | rd=>intro k xs e;cases e
 | stop=>intro k xs e;cases e
 | fin hr hB hN hs hf'=>
   intro k xs e n l p
   cases e
   obtain⟨h0,h1,h2,m⟩:=xH hr;have j:=Ce n m l hs;have b:=zQ u hr p;have r:=Ov hs l hf';rw[List.take_of_length_le aA]at b;generalize hys:xs ++ [_]=ys at j b
   cases j with
   | fin hk=>exact⟨_,_,hk,rfl,b.symm⟩
   | _=>cases hf'
 | next hr hB hN hs hf' hn ih=>
   intro k xs e n l p;obtain⟨h0,h1,h2,m⟩:=xH hr;exact ih e (Ce n m l hs) hf' (zQ u hr p)
theorem Qk{lm:cD}{zs:List Int}(b:∀i,0≤aW zs i∧aW zs i≤255){k:List Frag}(h:mT lm 0 zs Lm 0 (.ok k)):∃vs ss,KSOk vs ss∧k=kH vs ss∧zs=bL (lE vs ss):=
 Oy b h rfl .start rfl rfl
inductive MN (lm:cD) (len:Int):List Int→WS→Int→WS→Int→Prop where
 | nil {s:WS} {a:Int}:MN lm len [] s a s a
 | cons {s s1 s':WS} {a a' x:Int} {xs:List Int}:cT lm s x a (len-(a+(vb 10 x).length))=.ok s1→s1.pt.isFin=false→MN lm len xs s1 (a+(vb 10 x).length) s' a'→MN lm len (x :: xs) s a s' a'
structure OG (lm:cD) (vs:List (List Ent)) (ss:List Sg):Prop where
 ve:(vs.length:Int)≤lm.ve
 en:∀v∈vs,(v.length:Int)≤lm.en
 ho:∀v∈vs,∀e∈v,(e.hs.length:Int)≤lm.ho
 se:(ss.length:Int)≤lm.se
def NT (vs:List (List Ent)) (j:Nat):WS:=⟨if(vs.length:Int)-j=0 then .mid else .vecs ((vs.length:Int)-j) (-1) none,kH (vs.take j) [],[],none,none⟩
theorem qM{α:Type}(l:List α){j:Nat}(h:j<l.length):l.take (j+1)=l.take j ++ [l[j]]:=PU h
structure Xt (vs:List (List Ent)) (ss:List Sg):Prop where
 ve:vs.length≤1000000
 en:∀v∈vs,v.length≤1000000
 ho:∀v∈vs,∀e∈v,e.hs.length≤1000000
 se:ss.length≤1000000
def fY (l:List FV):List Sg:=(aZ l).map fun z=>(z,fQ l z.1)
def Ed (l:List FV):List (List Ent):=l.map FV.es
theorem Sk(l:List FV):∀k,k≤l.length→lQ l k=(l.length:Int) :: ((l.take k).map FV.es).flatMap bX
 | 0,_=>rfl
 | k+1,h=>by
   have b:k<l.length:=aA;have e:l.getD k FV.z=l[k]:=by simp[PH,PC b]
   rw[show lQ l (k+1)=lQ l k ++ bX (l.getD k FV.z).es from rfl,Sk l k aA,qM l b,QC,PT,e];simp
theorem DN(l:List FV):nV (Ed l)=lQ l l.length:=by
 rw[Sk l _ (QG _),PN];unfold nV Ed;rw[PI]
theorem oF(l:List FV):(fY l).length=(aZ l).length:=by unfold fY;rw[PI]
theorem Kn{l:List FV}{k:Nat}(h:k+1≤(fY l).length):fA ((fY l).take (k+1))=some ((aZ l)[k]'(by rw[oF]at h;omega)):=by
 rw[qM (fY l) aA,qX];simp[fY]
theorem Sm(l:List FV):∀k,k≤(fY l).length→kY l k=nV (Ed l) ++ [((fY l).length:Int)] ++ nS none ((fY l).take k)
 | 0,_=>by
   rw[DN,oF];show lQ l l.length ++ [((aZ l).length:Int)]=_;simp[nS]
 | k+1,h=>by
   have j:k<(fY l).length:=aA;have b:k<(aZ l).length:=by rw[← oF];exact j
   have e:(fY l)[k]=((aZ l)[k],fQ l ((aZ l)[k]).1):=by simp[fY]
   have n:Lo (aZ l) k=((aZ l)[k]).1:=by unfold Lo;simp[PH,PC b]
   have p:Hi (aZ l) k=((aZ l)[k]).2:=by unfold Hi;simp[PH,PC b]
   rw[show kY l (k+1)=kY l k ++ zA l k from rfl,Sm l k aA,qM (fY l) j,Mv,e];have r:iL (aZ l) 0 k=vK (fA ((fY l).take k)) ((aZ l)[k]).1:=by
    match k,j,b with
    | 0,j,b=>simp[iL,vK,fA,Lo,PH,PC b]
    | k+1,j,b=>
      rw[Kn aA];have m:k<(aZ l).length:=aA;have s:Hi (aZ l) k=((aZ l)[k]).2:=by unfold Hi;simp[PH,PC m]
      have u:Lo (aZ l) (k+1)=((aZ l)[k+1]).1:=by unfold Lo;simp[PH,PC b]
      unfold iL vK;simp only[Nat.add_eq_zero_iff,Nat.one_ne_zero,and_false,if_false,Nat.add_sub_cancel];rw[s,u];omega
   unfold zA;rw[r,n,p];simp
theorem Sn(l:List FV):sR l=lE (Ed l) (fY l):=by
 show kY l (aZ l).length=_;rw[← oF,Sm l _ (QG _),PN];rfl
theorem Nt{l:List FV}(h:CanL l){i:Nat}(hi:i<l.length){x:Int}(m:aV (l[i]).items x):fQ l x=i:=by
 have b:i∈aX l x l.length:=dG.2 ⟨hi,by simp only[PH,PC hi];exact m⟩;have h1:=rQ h.apart' x;unfold fQ;match hs:aX l x l.length,b,h1 with
 | [j],b,_=>rw[PF]at b;subst b;rfl
 | [],b,_=>cases b
 | _ :: _ :: _,_,h1=>simp at h1
theorem jZ{l:List FV}(h:CanL l){z:Iv}{i:Nat}:(z,i)∈fY l↔∃hi:i<l.length,z∈(l[i]).items:=by
 unfold fY aZ;rw[List.mem_map];constructor
 ·rintro⟨y,n,e⟩;rw[gR]at n;obtain⟨f,b,m⟩:=List.mem_flatMap.1 n;obtain⟨j,p,rfl⟩:=List.mem_iff_getElem.1 b;have:=Nt h p (rE (h.at _ b).1 m);injection e with e1 e2;subst e1;rw[this]at e2;subst e2;exact⟨p,m⟩
 rintro⟨hi,m⟩;have b:=PG hi;exact⟨z,(gR _ _).2 (List.mem_flatMap.2 ⟨_,b,m⟩),by rw[Nt h hi (rE (h.at _ b).1 m)]⟩
theorem Ie{zs:List Iv}(h:cL zs){a b:Iv}(y:a∈zs)(z:b∈zs)(A:a.1<b.1):a.2+1<b.1:=by
 obtain⟨i,hi,p⟩:=List.mem_iff_getElem.1 y;obtain⟨j,m,u⟩:=List.mem_iff_getElem.1 z;have r:Lo zs i=a.1:=by unfold Lo;simp[PH,PC hi,p]
 have n:Lo zs j=b.1:=by unfold Lo;simp[PH,PC m,u]
 have s:Hi zs i=a.2:=by unfold Hi;simp[PH,PC hi,p]
 have l:i<j:=by
  rcases QI i j with t | t | t
  ·exact t
  ·subst t;rw[r]at n;omega
  have:=cG h t hi;have h2:=(h j m).1;have h3:Hi zs j+1<Lo zs i∨Hi zs j<Lo zs i:=aA;omega
 have:=cG h l m;rw[n,s]at this;omega
theorem To{l:List FV}(h:CanL l)(H:∀f∈l,∀z∈f.items,aL z.1∧aL z.2):KSOk (Ed l) (fY l)∧kH (Ed l) (fY l)=l.map FV.frag:=by
 have s:(Ed l).length=l.length:=by unfold Ed;rw[PI]
 have m:∀f∈l,cL f.items:=fun f n=>(h.at f n).1;have B:SegsOk (Ed l).length (fY l):=by
  refine⟨fun p u=>?_,?_⟩
  ·obtain⟨z,i⟩:=p;obtain⟨hi,j⟩:=(jZ h).1 u;have n:=PG hi;have:=H _ n z j;exact⟨this.1,this.2,seg_apart.cor_le (m _ n) j,by rw[s];exact hi⟩
  have h1:=oX (mP m h.apart');have C:(aZ l).Pairwise (fun a b=>a.2<b.1∨b.2<a.1):=((jW (fB l)).pairwise_iff (fun {a b} h=>h.symm)).2 (seg_apart m h.apart');unfold fY;refine List.pairwise_map.2 (QE (fun {a b} hma hmb hab=>?_) (h1.and C));obtain⟨h3,h4⟩:=hab;have I:=Cq m hma;have lb:=Cq m hmb;refine⟨by simp only;omega,fun e=>?_⟩;simp only at e ⊢;have D:(a,fQ l a.1)∈fY l:=List.mem_map.2 ⟨a,hma,rfl⟩;have E:(b,fQ l a.1)∈fY l:=List.mem_map.2 ⟨b,hmb,by rw[e]⟩;obtain⟨hi,F⟩:=(jZ h).1 D;obtain⟨_,G⟩:=(jZ h).1 E;exact Ie (m _ (PG hi)) F G h3
 have r:∀i,i<(Ed l).length→∃z,(z,i)∈fY l:=fun i hi=>by
  rw[s]at hi;have:=(h.at _ (PG hi)).2.1
  cases j:(l[i]).items with
  | nil=>exact absurd j this
  | cons z zs=>exact⟨z,(jZ h).2 ⟨hi,by rw[j];simp⟩⟩
 refine⟨⟨fun v hv=>?_,h.ess,B,r⟩,?_⟩
 ·obtain⟨f,n,rfl⟩:=List.mem_map.1 hv;exact⟨(h.at f n).2.2.1,(h.at f n).2.2.2⟩
 refine PO (by rw[cX,s,PI]) fun i h1 h2=>?_;have hi:i<l.length:=by rw[PI]at h2;exact h2
 rw[lH _ _ (by rw[s];exact hi),QB];have u:fD (fY l) i=(l[i]).items:=by
  refine rC (B.cor i) (m _ (PG hi)) fun x=>?_;constructor
  ·rintro⟨z,j,y⟩;obtain⟨_,A⟩:=(jZ h).1 (dH.1 j);exact⟨z,A,y⟩
  rintro⟨z,j,y⟩;exact⟨z,dH.2 ((jZ h).2 ⟨hi,j⟩),y⟩
 rw[u];simp[Ed,FV.frag,FV.es]
theorem Bd{B:Nat}:∀{vs:List (List Ent)},(∀v∈vs,(bX v).length≤B)→(vs.flatMap bX).length≤vs.length * B
 | [],_=>by simp
 | v :: vs,h=>by
   rw[PM,PD,PE,Nat.succ_mul];have:=Bd (vs:=vs) (fun u b=>h u (by simp[b]));have:=h v aD;omega
theorem tX{A:Nat}:∀{es:List Ent},(∀e∈es,e.hs.length≤A)→(es.flatMap gQ).length≤es.length * (3+2 * A)
 | [],_=>by simp
 | e :: es,h=>by
   rw[PM,PD,PE,Nat.succ_mul,oU];have:=tX (es:=es) (fun u b=>h u (by simp[b]));have:=h e aD;omega
theorem Ji{l:List FV}(n:VecB l 240 402)(z:bD l≤481)(A:l.length≤481):(sR l).length≤95000000∧Xt (Ed l) (fY l):=by
 have hv:∀v∈Ed l,v.length≤240∧∀e∈v,e.hs.length≤402:=fun v hv=>by
  obtain⟨f,m,rfl⟩:=List.mem_map.1 hv;refine⟨by have:=n.vec f m;simpa[FV.es]using this,fun e j=>?_⟩;obtain⟨p,r,rfl⟩:=List.mem_map.1 j;exact n.hs f m p r
 have y:(Ed l).length=l.length:=by unfold Ed;rw[PI]
 have hs:(fY l).length=bD l:=by rw[oF];unfold aZ;rw[jJ,gC]
 have h1:∀v∈Ed l,(bX v).length≤193681:=fun v b=>by
  obtain⟨s,u⟩:=hv v b;have:=tX u;rw[pH];unfold bG;rw[PE];have h3:v.length * (3+2 * 402)≤240 * (3+2 * 402):=QH _ s;omega
 have h2:=Bd h1;have h3:(Ed l).length * 193681≤481 * 193681:=QH _ aA;refine⟨?_,⟨aA,fun v b=>by have:=(hv v b).1;omega,fun v b e j=>by have:=(hv v b).2 e j;omega,aA⟩⟩;rw[Sn];unfold lE nV;simp only[PD,PE,PQ,qU];omega
def CL (ns:List Nat):Nat:=ns.foldl max 0
theorem Kp{w:World}{v:Value}{l:List FV}(h:KnwAt w v l):∀f∈l,∀z∈f.items,aL z.1∧aL z.2:=fun f j=>by
 obtain⟨_,_,_,b,_⟩:=h;exact(FragAt.items (b.frags f j)).words
structure SmallC (c:List FV):Prop where
 can:CanL c
 bnd:VecB c 240 402
 tot:bD c≤481
 len:c.length≤481
 words:∀f∈c,∀z∈f.items,aL z.1∧aL z.2
theorem SmallC.nums{c:List FV}(h:SmallC c):(sR c).length≤95000000∧Xt (Ed c) (fY c):=Ji h.bnd h.tot h.len
def entN (l:List FV):Nat:=CL (l.map fun f=>f.vec.length)
def holN (l:List FV):Nat:=CL (l.map fun f=>CL (f.vec.map fun p=>p.1.hs.length))
def JO (c:List FV):cD:=⟨((bL (sR c)).length:Nat),(c.length:Nat),(entN c:Nat),(holN c:Nat),((aZ c).length:Nat)⟩
theorem wD{b:Nat}{k:List Frag}{e:Ending}{w:World}(h:Bz b (.ok k) e w):∃v l,e=.returned (.tuple #[v,.nilIface])∧KRow w b v l∧l.map FV.frag=k:=by
 obtain⟨v,e,l,h1,h2⟩:=h;exact⟨v,l,e,h1,h2⟩
theorem Le(p:Option Addr)(len cap:Nat)(zs:List Int)(o:Except (Int×Int) (List Frag))(w:World)(C:Laid w)(h:Ints .u8 w p len zs)(s:len≤cap)(u:len≤4000000000)(D:mT Qq 0 zs Lm 0 o) :
  Calls Tryz.prog 14 #[.slice p len cap] w fun e w'=>Below w.heap.size w w'∧Bz w.heap.size o e w':=by
 have j:=aI C;have m:=aI h;have n:=aI D;clear C h D;go_enter Tryz.func14,Tryz.ntmps14;go_wp2_with fail;refine(pU _).mono ?_;rintro e G ⟨rfl,b⟩;have A:=aI (Ef p len cap zs Qq BV Vo o G (j.below b) (m.below b) s u n);have y:=aI b;clear b;go_wp2_with fail;refine A.mono ?_;rintro e w2 ⟨r,z⟩;have B:=aI (y.trans (r.mono y.size));clear r;clear n A
 cases o with
 | error p=>
   obtain⟨c,a⟩:=p;obtain rfl:=z;go_wp2;go_ret2;exact⟨B,rfl⟩
 | ok k=>
   obtain⟨v,l,rfl,h1,h2⟩:=wD z;have E:=aI (h1.base y.size);have F:=aI h2;clear z h1 h2;go_wp2;go_ret2;exact⟨B,v,rfl,l,E,F⟩
end Go.Proofs.YtbkkolfpegplgaaGreatDoor
