/- The numbers of knowledge by its vectors and its segments. No program in sight. The numbers that wire's Reader has taken. No program in sight. Any bytes have an outcome; what is read is canonical, and the bytes are its numbers'. No program in sight. The numbers of canonical knowledge, one by one, are that knowledge. No program in sight. The numbers of an encoding, by vectors and segments. No program in sight. limits.Least. wire.Decode; the least limits allow. -/
import Derived.Test.YtbkkolfpegplgaaGreatDoorS3G39
import Derived.Test.YtbkkolfpegplgaaGreatDoorS3G13
import Derived.Test.YtbkkolfpegplgaaGreatDoorS3G40
import Derived.Test.YtbkkolfpegplgaaGreatDoorS3G41
import Derived.Test.YtbkkolfpegplgaaGreatDoorS3G49
set_option maxHeartbeats 12800000
set_option maxRecDepth 100000
set_option linter.unusedVariables false
set_option linter.unusedSimpArgs false
namespace Go.Proofs.YtbkkolfpegplgaaGreatDoor
open Go Go.RowKit
abbrev Sg:=Iv×Nat
def partOf (ss:List Sg) (i:Nat):List Iv:=(ss.filter fun p=>p.2=i).map (·.1)
def kH (vs:List (List Ent)) (ss:List Sg):List Frag:=vs.mapIdx fun i v=>⟨partOf ss i,v⟩
def uH (ss:List Sg):List Nat:=ss.foldl (fun u p=>addU u p.2) []
def lastH (ss:List Sg):Option Iv:=ss.getLast?.map (·.1)
def lastX (ss:List Sg):Int:=match ss.getLast? with | none=>0 | some p=>(p.2:Int)
def gapL (last:Option Iv) (l:Int):Int:=match last with | none=>l | some z=>l-z.2-1
def nS:Option Iv→List Sg→List Int
 | _,[]=>[]
 | o,p :: r=>gapL o p.1.1 :: (p.1.2-p.1.1) :: (p.2:Int) :: nS (some p.1) r
def nV (vs:List (List Ent)):List Int:=(vs.length:Int) :: vs.flatMap numsV
def numsK (vs:List (List Ent)) (ss:List Sg):List Int:=nV vs ++ [(ss.length:Int)] ++ nS none ss
theorem partOf_snoc(ss:List Sg)(p:Sg)(i:Nat):partOf (ss ++ [p]) i=if p.2=i then partOf ss i ++ [p.1] else partOf ss i:=by
 unfold partOf;rw[List.filter_append,List.map_append];by_cases h:p.2=i
 ·simp[h]
 ·simp[h]
theorem z29{ss:List Sg}{i:Nat}{z:Iv}:z∈partOf ss i↔(z,i)∈ss:=by
 unfold partOf;simp only[List.mem_map,List.mem_filter,decide_eq_true_eq];constructor
 ·rintro⟨⟨z',i'⟩,⟨h1,h2⟩,h3⟩
  simp only at h2 h3;subst h2;subst h3;exact h1
 ·exact fun h=>⟨_,⟨h,rfl⟩,rfl⟩
theorem partOf_len(ss:List Sg)(i:Nat):(partOf ss i).length≤ss.length:=by
 unfold partOf;rw[List.length_map];exact List.length_filter_le _ _
theorem z16(vs:List (List Ent))(ss:List Sg):(kH vs ss).length=vs.length:=by unfold kH;simp
theorem kH_at(vs:List (List Ent))(ss:List Sg){i:Nat}(h:i<vs.length):(kH vs ss)[i]'(by rw[z16];exact h)=⟨partOf ss i,vs[i]⟩:=by unfold kH;simp
theorem kH_mem{vs:List (List Ent)}{ss:List Sg}{f:Frag}:f∈kH vs ss↔∃i,∃h:i<vs.length,f=⟨partOf ss i,vs[i]⟩:=by
 rw[List.mem_iff_getElem];constructor
 ·rintro⟨i,hi,e⟩
  have hi':i<vs.length:=by rw[← z16 vs ss];exact hi
  exact⟨i,hi',by rw[← e,kH_at vs ss hi']⟩
 ·rintro⟨i,hi,e⟩
  exact⟨i,by rw[z16];exact hi,by rw[kH_at vs ss hi,e]⟩
theorem kH_vecs(vs:List (List Ent))(ss:List Sg):(kH vs ss).map Frag.vec=vs:=by
 refine List.ext_getElem (by rw[List.length_map,z16]) fun i h1 h2=>?_;rw[List.getElem_map,kH_at vs ss h2]
theorem kH_snoc(vs:List (List Ent))(v:List Ent):kH (vs ++ [v]) []=kH vs [] ++ [⟨[],v⟩]:=by
 refine List.ext_getElem (by simp[z16]) fun i h1 h2=>?_;rw[kH_at _ _ (by rw[z16]at h1;exact h1)];by_cases h:i<vs.length
 ·rw[List.getElem_append_left (show i<(kH vs []).length from(z16 vs []).symm ▸ h),kH_at vs [] h]
  simp only[List.getElem_append_left h]
 ·have e:i=vs.length:=by rw[z16]at h1;simp at h1;omega
  subst e;rw[List.getElem_append_right (Nat.le_of_eq (z16 vs []))];simp[z16,partOf]
theorem kH_put(vs:List (List Ent))(ss:List Sg){i:Nat}(h:i<vs.length)(z:Iv):putI (kH vs ss) i z=kH vs (ss ++ [(z,i)]):=by
 have e:(kH vs ss).getD i Frag.z=⟨partOf ss i,vs[i]⟩:=by
  rw[List.getD,List.getElem?_eq_getElem (by rw[z16];exact h),kH_at vs ss h];rfl
 unfold putI;rw[e];refine List.ext_getElem (by simp[z16]) fun j h1 h2=>?_;have hj:j<vs.length:=by rw[z16]at h2;exact h2
 rw[kH_at _ _ hj,partOf_snoc,List.getElem_set];by_cases g:i=j
 ·subst g
  simp
 ·simp only[if_neg g]
  rw[kH_at vs ss hj]
theorem uH_snoc(ss:List Sg)(p:Sg):uH (ss ++ [p])=addU (uH ss) p.2:=by unfold uH;rw[List.foldl_append];rfl
theorem z35(ss:List Sg)(p:Sg):lastH (ss ++ [p])=some p.1:=by unfold lastH;simp
theorem lastX_snoc(ss:List Sg)(p:Sg):lastX (ss ++ [p])=p.2:=by unfold lastX;simp
theorem nS_snoc(p:Sg):∀(ss:List Sg) (o:Option Iv),nS o (ss ++ [p])=nS o ss ++ [gapL (ss.foldl (fun _ q=>some q.1) o) p.1.1,p.1.2-p.1.1,(p.2:Int)]
 | [],o=>rfl
 | q :: ss,o=>by
   rw[List.cons_append];show _ :: _ :: _ :: nS (some q.1) (ss ++ [p])=(_ :: _ :: _ :: nS (some q.1) ss) ++ _
   rw[nS_snoc p ss (some q.1)];rfl
theorem foldl_last:∀(ss:List Sg) (o:Option Iv),ss.foldl (fun _ q=>some q.1) o=match ss.getLast? with | none=>o | some p=>some p.1
 | [],o=>rfl
 | [q],o=>rfl
 | q :: q' :: ss,o=>by
   show(q' :: ss).foldl _ (some q.1)=_
   rw[foldl_last (q' :: ss) (some q.1)];rw[List.getLast?_cons_cons]
   cases h:(q' :: ss).getLast? with
   | none=>simp at h
   | some p=>rfl
theorem nS_last(ss:List Sg)(p:Sg):nS none (ss ++ [p])=nS none ss ++ [gapL (lastH ss) p.1.1,p.1.2-p.1.1,(p.2:Int)]:=by
 rw[nS_snoc,foldl_last];unfold lastH
 cases ss.getLast?<;>rfl
theorem nS_len:∀(ss:List Sg) (o:Option Iv),(nS o ss).length=3 * ss.length
 | [],o=>rfl
 | p :: ss,o=>by
   show(nS _ ss).length+1+1+1=3 * (ss.length+1)
   rw[nS_len ss];omega
theorem nV_snoc(N:Int)(vs:List (List Ent))(v:List Ent):N :: (vs ++ [v]).flatMap numsV=(N :: vs.flatMap numsV) ++ numsV v:=by
 rw[List.flatMap_append];simp
theorem uH_mem:∀{ss:List Sg} {i:Nat},i∈uH ss↔∃p∈ss,p.2=i:=by
 have main:∀(ss:List Sg) (u:List Nat) (i:Nat),i∈ss.foldl (fun u p=>addU u p.2) u↔i∈u∨∃p∈ss,p.2=i:=by
  intro ss;induction ss with
  | nil=>intro u i;simp
  | cons q ss ih=>
    intro u i;rw[List.foldl_cons,ih];have h:i∈addU u q.2↔i∈u∨i=q.2:=by
     unfold addU;by_cases g:q.2∈u
     ·rw[if_pos g];exact⟨.inl,fun h=>h.elim id (fun e=>e ▸ g)⟩
     ·rw[if_neg g];simp
    rw[h];constructor
    ·rintro((h | h) | ⟨p,hp,e⟩)
     ·exact .inl h
     ·exact .inr ⟨q,by simp,h.symm⟩
     ·exact .inr ⟨p,by simp[hp],e⟩
    ·rintro(h | ⟨p,hp,e⟩)
     ·exact .inl (.inl h)
     ·rcases List.mem_cons.1 hp with rfl | hp
      ·exact .inl (.inr e.symm)
      ·exact .inr ⟨p,hp,e⟩
 intro ss i;have:=main ss [] i;simpa[uH]using this
theorem addU_nodup{u:List Nat}(h:u.Nodup)(i:Nat):(addU u i).Nodup:=by
 unfold addU;by_cases g:i∈u
 ·rw[if_pos g];exact h
 ·rw[if_neg g]
  exact List.nodup_append.2 ⟨h,by simp,fun a ha b hb e=>g (by rw[List.mem_singleton]at hb;rw[← hb,← e];exact ha)⟩
theorem uH_nodup(ss:List Sg):(uH ss).Nodup:=by
 have main:∀(ss:List Sg) (u:List Nat),u.Nodup→(ss.foldl (fun u p=>addU u p.2) u).Nodup:=by
  intro ss;induction ss with
  | nil=>intro u h;exact h
  | cons q ss ih=>intro u h;rw[List.foldl_cons];exact ih _ (addU_nodup h _)
 exact main ss [] List.nodup_nil
theorem addU_len(u:List Nat)(i:Nat):(addU u i).length≤u.length+1:=by
 unfold addU;split
 ·omega
 ·simp
theorem uH_len(ss:List Sg):(uH ss).length≤ss.length:=by
 have main:∀(ss:List Sg) (u:List Nat),(ss.foldl (fun u p=>addU u p.2) u).length≤u.length+ss.length:=by
  intro ss;induction ss with
  | nil=>intro u;simp
  | cons q ss ih=>intro u;rw[List.foldl_cons];have:=ih (addU u q.2);have:=addU_len u q.2;simp only[List.length_cons];omega
 have:=main ss [];simpa[uH]using this
theorem nodup_below:∀(n:Nat) {u:List Nat},u.Nodup→(∀i∈u,i<n)→u.length≤n
 | 0,u,_,h=>by
   cases u with
   | nil=>simp
   | cons i u=>exact absurd (h i (by simp)) (by omega)
 | n+1,u,hn,h=>by
   have h1:=nodup_below n (u:=u.erase n) (hn.erase n) (fun i hi=>by
    have h2:=h i (List.mem_of_mem_erase hi);have h3:i≠n:=fun e=>by subst e;exact(List.Nodup.not_mem_erase hn) hi
    omega)
   by_cases g:n∈u
   ·rw[List.length_erase_of_mem g]at h1;omega
   ·rw[List.erase_of_not_mem g]at h1;omega
theorem nodup_all{n:Nat}{u:List Nat}(hn:u.Nodup)(h:∀i∈u,i<n)(hl:n≤u.length){i:Nat}(hi:i<n):i∈u:=by
 refine Decidable.byContradiction fun g=>?_;have h1:=nodup_below n (u:=i :: u) (List.nodup_cons.2 ⟨g,hn⟩) (fun j hj=>by
  rcases List.mem_cons.1 hj with rfl | hj
  ·exact hi
  ·exact h j hj)
 simp only[List.length_cons]at h1;omega
structure SegsOk (n:Nat) (ss:List Sg):Prop where
 each:∀p∈ss,Word p.1.1∧Word p.1.2∧p.1.1≤p.1.2∧p.2<n
 asc:ss.Pairwise (fun p q=>p.1.2<q.1.1∧(p.2=q.2→p.1.2+1<q.1.1))
theorem SegsOk.nil(n:Nat):SegsOk n []:=⟨by simp,List.Pairwise.nil⟩
theorem z3i:∀{ss:List Sg} {p:Sg},ss.getLast?=some p→∃ss',ss=ss' ++ [p]:=by
 intro ss p h;have hne:ss≠[]:=by intro e;subst e;simp at h
 refine⟨ss.dropLast,?_⟩;rw[List.getLast?_eq_some_getLast hne]at h;injection h with h
 rw[← h];exact(List.dropLast_concat_getLast hne).symm
theorem SegsOk.snoc{n:Nat}{ss:List Sg}{q:Sg}(h:SegsOk n ss)(hq:Word q.1.1∧Word q.1.2∧q.1.1≤q.1.2∧q.2<n)(hl:∀z,lastH ss=some z→z.2<q.1.1)(ht:∀z,lastH ss=some z→z.2+1=q.1.1→lastX ss≠q.2):SegsOk n (ss ++ [q]):=by
 refine⟨fun p hp=>?_,List.pairwise_append.2 ⟨h.asc,List.pairwise_singleton _ _,fun p hp q' hq'=>?_⟩⟩
 ·rcases List.mem_append.1 hp with hp | hp
  ·exact h.each p hp
  ·rw[List.mem_singleton]at hp;subst hp;exact hq
 ·rw[List.mem_singleton]at hq'
  subst hq'
  cases hg:ss.getLast? with
  | none=>rw[List.getLast?_eq_none_iff]at hg;subst hg;cases hp
  | some r=>
    obtain⟨ss',e⟩:=z3i hg;have h1:lastH ss=some r.1:=by unfold lastH;rw[hg];rfl
    have h2:lastX ss=r.2:=by unfold lastX;rw[hg]
    have h3:=hl _ h1;have h4:=ht _ h1;rw[h2]at h4;rw[e]at hp;rcases List.mem_append.1 hp with hp | hp
    ·have h5:=h.asc
     rw[e]at h5;have h6:=(List.pairwise_append.1 h5).2.2 p hp r (by simp);have h7:=(h.each r (by rw[e];simp)).2.2.1;exact⟨by omega,fun _=>by omega⟩
    ·rw[List.mem_singleton]at hp
     subst hp;refine⟨h3,fun e2=>?_⟩;have:p.1.2+1≠q'.1.1:=fun e3=>h4 e3 (by rw[e2]);omega
theorem cor_pair{zs:List Iv}(h1:∀z∈zs,z.1≤z.2)(h2:zs.Pairwise (fun a b=>a.2+1<b.1)):Cor zs:=fun i hi=>by
 have e1:Lo zs i=(zs[i]).1:=by unfold Lo;simp[List.getD,List.getElem?_eq_getElem hi]
 have e2:Hi zs i=(zs[i]).2:=by unfold Hi;simp[List.getD,List.getElem?_eq_getElem hi]
 refine⟨by rw[e1,e2];exact h1 _ (List.getElem_mem hi),fun h0=>?_⟩;have hj:i-1<zs.length:=by omega
 have e3:Hi zs (i-1)=(zs[i-1]).2:=by unfold Hi;simp[List.getD,List.getElem?_eq_getElem hj]
 rw[e1,e3];exact List.pairwise_iff_getElem.1 h2 (i-1) i hj hi (by omega)
theorem SegsOk.cor{n:Nat}{ss:List Sg}(h:SegsOk n ss)(i:Nat):Cor (partOf ss i):=by
 refine cor_pair (fun z hz=>(h.each _ (z29.1 hz)).2.2.1) ?_;unfold partOf;refine List.pairwise_map.2 ?_;have h1:=h.asc.filter (fun p=>decide (p.2=i));refine List.Pairwise.imp_of_mem (fun {a b} ha hb hab=>?_) h1;have ha':=(List.mem_filter.1 ha).2;have hb':=(List.mem_filter.1 hb).2;simp only[decide_eq_true_eq]at ha' hb';exact hab.2 (by rw[ha',hb'])
structure KSOk (vs:List (List Ent)) (ss:List Sg):Prop where
 vec:∀v∈vs,CanW v∧v≠[]
 asc:vs.Pairwise VLt
 segs:SegsOk vs.length ss
 all:∀i,i<vs.length→∃z,(z,i)∈ss
theorem segs_unique{n:Nat}{ss ss':List Sg}(h:SegsOk n ss)(h':SegsOk n ss')(hm:∀p,p∈ss↔p∈ss'):ss=ss':=
 z27 (lt:=fun p q:Sg=>p.1.1<q.1.1) (fun a=>by omega) (fun {a b c} h1 h2=>by omega)
  (List.Pairwise.imp_of_mem (fun {a b} ha hb hab=>by have:=(h.each a ha).2.2.1;have:=hab.1;omega) h.asc)
  (List.Pairwise.imp_of_mem (fun {a b} ha hb hab=>by have:=(h'.each a ha).2.2.1;have:=hab.1;omega) h'.asc) hm
theorem kH_inj{vs vs':List (List Ent)}{ss ss':List Sg}(h:SegsOk vs.length ss)(h':SegsOk vs'.length ss')(e:kH vs ss=kH vs' ss'):vs=vs'∧ss=ss':=by
 have e1:vs=vs':=by rw[← kH_vecs vs ss,e,kH_vecs]
 subst e1;have ep:∀i,i<vs.length→partOf ss i=partOf ss' i:=fun i hi=>by
  have h1:=kH_at vs ss hi;have h2:=kH_at vs ss' hi;have h3:(kH vs ss)[i]'(by rw[z16];exact hi)=(kH vs ss')[i]'(by rw[z16];exact hi):=by simp only[e]
  rw[h1,h2]at h3;exact congrArg Frag.items h3
 refine⟨rfl,segs_unique h h' fun p=>?_⟩;obtain⟨z,i⟩:=p;constructor
 ·intro hp
  have hi:=(h.each _ hp).2.2.2;exact z29.1 (by rw[← ep i hi];exact z29.2 hp)
 ·intro hp
  have hi:=(h'.each _ hp).2.2.2;exact z29.1 (by rw[ep i hi];exact z29.2 hp)
structure StW (s:St):Prop where
 es:∀e∈s.es,EntW e
 rep:Word s.cur.rep
 mx:Word s.cur.mx
 hs:∀z∈s.cur.hs,Word z.1∧Word z.2
 lo:∀l,s.ph=.hi l→Word l
theorem word_0:Word 0:=by unfold Word;omega
theorem stW_0:StW St0:=⟨fun e he=>(by cases he),word_0,word_0,fun z hz=>(by cases hz),fun l e=>(by cases e)⟩
theorem lastRep_word{es:List Ent}(h:∀e∈es,EntW e)(hn:es≠[]):Word (lastRep es):=by
 have:0<es.length:=List.length_pos_iff.2 hn;rw[z4n];exact(h _ (z15 (by omega))).rep
theorem lastHi_word{zs:List Iv}(h:∀z∈zs,Word z.1∧Word z.2)(hn:zs≠[]):Word (lastHi zs):=by
 have h0:0<zs.length:=List.length_pos_iff.2 hn;have:=lastHi_take (zs:=zs) (j:=zs.length) h0 (Nat.le_refl _);rw[List.take_length]at this;rw[this];exact(hs_at h (by omega)).2
theorem holeS_w{s:St}(h:StW s):StW (holeS s):=by
 obtain⟨ph,es,cur,ents,hls⟩:=s;obtain⟨h1,h2,h3,h4,h5⟩:=h;unfold holeS;simp only at h1 h2 h3 h4 ⊢;have hc:EntW cur:=⟨h2,h3,h4⟩;have he:∀e∈es ++ [cur],EntW e:=fun e he=>by
  rcases List.mem_append.1 he with he | he
  ·exact h1 e he
  ·rw[List.mem_singleton]at he;subst he;exact hc
 split
 ·exact⟨h1,h2,h3,h4,fun l e=>(by cases e)⟩
 ·split
  ·exact⟨he,h2,h3,h4,fun l e=>(by cases e)⟩
  ·exact⟨he,h2,h3,h4,fun l e=>(by cases e)⟩
theorem step_w{lm:Lim}{s s':St}{x rest:Int}(h:stepS lm s x rest=.ok s')(hw:StW s)(hx:Word x):StW s':=by
 obtain⟨ph,es,cur,ents,hls⟩:=s;have hw0:=hw;obtain⟨h1,h2,h3,h4,h5⟩:=hw;simp only at h1 h2 h3 h4 h5;unfold stepS at h
 cases ph with
 | count=>
   simp only at h
   (repeat' split at h)<;>cases h
   exact⟨h1,h2,h3,h4,fun l e=>(by cases e)⟩
 | rep=>
   simp only at h;split at h
   ·cases h
    exact⟨h1,hx,word_0,fun z hz=>(by cases hz),fun l e=>(by cases e)⟩
   ·rename_i hn
    split at h
    ·rename_i hs
     cases h
     have:=lastRep_word h1 hn;exact⟨h1,⟨by have:=this.1;have:=hx.1;simp only;omega,hs⟩,word_0,fun z hz=>(by cases hz),fun l e=>(by cases e)⟩
    ·cases h
 | top=>
   simp only at h
   cases h
   exact⟨h1,h2,hx,h4,fun l e=>(by cases e)⟩
 | op=>
   simp only at h;split at h
   ·cases h
   ·cases h
    exact holeS_w ⟨h1,h2,h3,h4,fun l e=>(by cases e)⟩
 | lo=>
   simp only at h;split at h
   ·cases h
    exact⟨h1,h2,h3,h4,fun l e=>(by cases e;exact hx)⟩
   ·rename_i hn
    split at h
    ·rename_i hs
     cases h
     have:=lastHi_word h4 hn;exact⟨h1,h2,h3,h4,fun l e=>(by cases e;exact⟨by have:=this.1;have:=hx.1;omega,hs⟩)⟩
    ·cases h
 | hi l=>
   simp only at h;split at h
   ·rename_i hs
    cases h
    have hl:=h5 l rfl;refine holeS_w ⟨h1,h2,h3,fun z hz=>?_,fun l' e=>(by cases e;exact hl)⟩;rcases List.mem_append.1 hz with hz | hz
    ·exact h4 z hz
    ·rw[List.mem_singleton]at hz
     subst hz;exact⟨hl,⟨by have:=hl.1;have:=hx.1;simp only;omega,hs.1⟩⟩
   ·cases h
 | fin=>simp only at h;cases h;exact hw0
structure VsOk (vs:List (List Ent)):Prop where
 vec:∀v∈vs,CanW v∧v≠[]
 asc:vs.Pairwise VLt
theorem VsOk.nil:VsOk []:=⟨fun v h=>(by cases h),List.Pairwise.nil⟩
theorem VsOk.snoc{vs:List (List Ent)}{v:List Ent}(h:VsOk vs)(hv:CanW v∧v≠[])(hl:∀u,vs.getLast?=some u→VLt u v):VsOk (vs ++ [v]):=by
 refine⟨fun u hu=>?_,List.pairwise_append.2 ⟨h.asc,List.pairwise_singleton _ _,fun a ha b hb=>?_⟩⟩
 ·rcases List.mem_append.1 hu with hu | hu
  ·exact h.vec u hu
  ·rw[List.mem_singleton]at hu;subst hu;exact hv
 ·rw[List.mem_singleton]at hb
  subst hb
  cases hg:vs.getLast? with
  | none=>rw[List.getLast?_eq_none_iff]at hg;subst hg;cases ha
  | some u=>
    have hne:vs≠[]:=by intro e;subst e;cases ha
    have h1:=hl u hg;rw[List.getLast?_eq_some_getLast hne]at hg;injection hg with hg
    have h2:vs.dropLast ++ [u]=vs:=by rw[← hg];exact List.dropLast_concat_getLast hne
    have h3:=h.asc;rw[← h2]at h3 ha;rcases List.mem_append.1 ha with ha | ha
    ·exact z3q ((List.pairwise_append.1 h3).2.2 a ha u (by simp)) h1
    ·rw[List.mem_singleton]at ha;subst ha;exact h1
theorem gap_lo{last:Option Iv}{x l:Int}(h:loC last x=some l)(hx:Word x)(hw:∀z,last=some z→Word z.2):Word l∧gapL last l=x∧(∀z,last=some z→z.2<l):=by
 unfold loC at h
 cases last with
 | none=>simp only at h;cases h;exact⟨hx,rfl,fun z e=>(by cases e)⟩
 | some z=>
   simp only at h;split at h
   ·rename_i hs
    cases h
    have h1:=(hw z rfl).1;have h2:=hx.1;refine⟨⟨by omega,hs⟩,?_,fun y e=>(by cases e;omega)⟩;show z.2+1+0+x-z.2-1=x
    omega
   ·cases h
def touchL (last:Option Iv) (l:Int):Bool:=last.isSome && decide (gapL last l=0)
inductive Tk:List Int→WS→Prop where
 | start:Tk [] WS0
 | vec {N:Int} {vs:List (List Ent)}:(vs.length:Int)<N→Word N→VsOk vs→Tk (N :: vs.flatMap numsV) ⟨.vecs (N-vs.length) (-1) none,kH vs [],[],none,none⟩
 | vin {N fr:Int} {vs:List (List Ent)} {st:St}:(vs.length:Int)<N→Word N→VsOk vs→SInv st→st.ph≠.fin→StI st (stN st).length→StW st→Tk ((N :: vs.flatMap numsV) ++ stN st) ⟨.vecs (N-vs.length) fr (some st),kH vs [],[],none,none⟩
 | mid {vs:List (List Ent)}:VsOk vs→Tk (nV vs) ⟨.mid,kH vs [],[],none,none⟩
 | s0 {M:Int} {vs:List (List Ent)} {ss:List Sg} {touch:Bool}:VsOk vs→SegsOk vs.length ss→(ss.length:Int)<M→Word M→Tk (nV vs ++ [M] ++ nS none ss) ⟨.segs (M-ss.length) 0 (lastX ss) touch,kH vs ss,uH ss,lastH ss,none⟩
 | s1 {M l:Int} {vs:List (List Ent)} {ss:List Sg}:VsOk vs→SegsOk vs.length ss→(ss.length:Int)<M→Word M→Word l→(∀z,lastH ss=some z→z.2<l) →
    Tk (nV vs ++ [M] ++ nS none ss ++ [gapL (lastH ss) l]) ⟨.segs (M-ss.length) 1 (lastX ss) (touchL (lastH ss) l),kH vs ss,uH ss,lastH ss,some l⟩
 | s2 {M:Int} {z:Iv} {vs:List (List Ent)} {ss:List Sg}:VsOk vs→SegsOk vs.length ss→(ss.length:Int)<M→Word M→Word z.1∧Word z.2∧z.1≤z.2→(∀y,lastH ss=some y→y.2<z.1) →
    Tk (nV vs ++ [M] ++ nS none ss ++ [gapL (lastH ss) z.1,z.2-z.1]) ⟨.segs (M-ss.length) 2 (lastX ss) (touchL (lastH ss) z.1),kH vs ss,uH ss,some z,none⟩
 | fin {vs:List (List Ent)} {ss:List Sg}:KSOk vs ss→Tk (numsK vs ss) ⟨.fin,kH vs ss,uH ss,lastH ss,none⟩
theorem lastH_word{n:Nat}{ss:List Sg}(h:SegsOk n ss){z:Iv}(e:lastH ss=some z):Word z.1∧Word z.2:=by
 unfold lastH at e
 cases hg:ss.getLast? with
 | none=>rw[hg]at e;cases e
 | some p=>
   rw[hg]at e;injection e with e
   subst e;obtain⟨ss',e⟩:=z3i hg;have:=h.each p (by rw[e];simp);exact⟨this.1,this.2.1⟩
theorem finish_ok{s s':WS}{next rest:Int}(h:finishS s next rest=.ok s'):¬s.us.length<s.k.length∧¬0<rest∧s'={ s with pt:=.fin }:=by
 unfold finishS at h;split at h
 ·cases h
 ·rename_i h1
  split at h
  ·cases h
  ·rename_i h2
   cases h
   exact⟨h1,h2,rfl⟩
theorem used_all{n:Nat}{ss:List Sg}(h:SegsOk n ss)(hl:¬(uH ss).length<n):∀i,i<n→∃z,(z,i)∈ss:=fun i hi=>by
 have:=nodup_all (uH_nodup ss) (n:=n) (fun j hj=>by
  obtain⟨p,hp,e⟩:=uH_mem.1 hj;have:=(h.each p hp).2.2.2;omega) (by omega) hi
 obtain⟨p,hp,e⟩:=uH_mem.1 this;exact⟨p.1,by rw[← e];exact hp⟩
theorem kH_end(vs:List (List Ent))(ss:List Sg)(hn:vs≠[]):((kH vs ss).getD ((kH vs ss).length-1) Frag.z).vec=vs.getLast hn:=by
 have h0:0<vs.length:=List.length_pos_iff.2 hn;rw[z16,List.getD,List.getElem?_eq_getElem (by rw[z16];omega),kH_at vs ss (by omega)];show vs[vs.length-1]=_
 rw[List.getLast_eq_getElem]
theorem vec_step{lm:Lim}{N fr:Int}{vs:List (List Ent)}{st:St}{x b rest:Int}{s':WS}(h1:(vs.length:Int)<N)(h2:Word N)(h3:VsOk vs)(h4:SInv st)(h5:st.ph≠.fin)(h6:StI st (stN st).length)(h7:StW st)(hx:Word x)
  {fr0:Int} {inner:Option St} (h:vecS lm ⟨.vecs (N-vs.length) fr0 inner,kH vs [],[],none,none⟩ (N-vs.length) fr st x b rest=.ok s'):Tk (((N :: vs.flatMap numsV) ++ stN st) ++ [x]) s':=by
 unfold vecS at h
 cases hs:stepS lm st x rest with
 | error c=>rw[hs]at h;cases h
 | ok st'=>
   rw[hs]at h;simp only at h;obtain⟨i1,i2⟩:=step_nums h4 hx h5 hs;have iw:=step_w hs h7 hx;have en:((N :: vs.flatMap numsV) ++ stN st) ++ [x]=(N :: vs.flatMap numsV) ++ stN st':=by rw[i2,List.append_assoc]
   rw[en];by_cases hf:st'.ph.isFin=true
   ·rw[if_pos hf]at h
    have hp:=fin_is hf;split at h
    ·cases h
    ·rename_i hc
     have hv:CanW st'.es∧st'.es≠[]:=⟨CanW.of i1.can iw.es,fin_ne h5 hs hp⟩;have hvs:VsOk (vs ++ [st'.es]):=h3.snoc hv fun u hu=>by
      have hne:vs≠[]:=by intro e;subst e;cases hu
      rw[List.getLast?_eq_some_getLast hne]at hu;injection hu with hu
      subst hu;have hk:kH vs []≠[]:=by intro e;have:=congrArg List.length e;rw[z16]at this;exact hne (List.length_eq_zero_iff.1 this)
      have hcc:¬0≤cmpL (absV ((kH vs []).getD ((kH vs []).length-1) Frag.z).vec) (absV st'.es):=fun g=>hc ⟨hk,g⟩;rw[kH_end vs [] hne]at hcc;unfold VLt;omega
     cases h
     rw[stN_fin hp i1,← nV_snoc];have hl:(vs ++ [st'.es]).length=vs.length+1:=by simp
     by_cases g:N-vs.length-1=0
     ·rw[if_pos g]
      have eN:N=((vs ++ [st'.es]).length:Nat):=by rw[hl];omega
      have:=Tk.mid hvs;rw[kH_snoc]at this;unfold nV at this;rw[← eN]at this;exact this
     ·rw[if_neg g]
      have:=Tk.vec (N:=N) (vs:=vs ++ [st'.es]) (by rw[hl];omega) h2 hvs;rw[kH_snoc,hl,show N-((vs.length+1:Nat):Int)=N-vs.length-1 by omega]at this;exact this
   ·rw[if_neg hf]at h
    cases h
    have hnf:st'.ph≠.fin:=fun e=>hf (by rw[e];rfl);have:=step_inv hs h6 hx (n:=(stN st').length) (by rw[i2,List.length_append];simp only[List.length_singleton];omega) hnf;exact Tk.vin h1 h2 h3 i1 hnf this iw
theorem tk_step{lm:Lim}{xs:List Int}{s s':WS}{x b rest:Int}(hT:Tk xs s)(hx:Word x)(hf:s.pt.isFin=false)(h:stepW lm s x b rest=.ok s'):Tk (xs ++ [x]) s':=by
 cases hT with
 | start=>
   unfold stepW WS0 at h;simp only at h;split at h
   ·cases h
   ·cases h
    by_cases g:x=0
    ·rw[if_pos g]
     subst g;exact Tk.mid (vs:=[]) VsOk.nil
    ·rw[if_neg g]
     have:=Tk.vec (N:=x) (vs:=[]) (by have:=hx.1;simp only[List.length_nil];omega) hx VsOk.nil;simpa[kH]using this
 | vec h1 h2 h3=>
   unfold stepW at h;simp only at h;have:=vec_step (fr0:=-1) (inner:=none) h1 h2 h3 sinv_0 (by simp[St0]) (stI_0 _ (by omega)) stW_0 hx h;simpa[St0,stN]using this
 | vin h1 h2 h3 h4 h5 h6 h7=>
   unfold stepW at h;simp only at h;exact vec_step (inner:=some _) h1 h2 h3 h4 h5 h6 h7 hx h
 | @mid vs h3=>
   unfold stepW at h;simp only at h;split at h
   ·cases h
   ·split at h
    ·rename_i g
     subst g;obtain⟨g1,g2,rfl⟩:=finish_ok h;simp only[z16,List.length_nil]at g1;have e:vs=[]:=List.length_eq_zero_iff.1 (by omega);subst e;exact Tk.fin (vs:=[]) (ss:=[]) ⟨h3.vec,h3.asc,SegsOk.nil _,fun i hi=>absurd hi (by simp)⟩
    ·rename_i g
     cases h
     have:=Tk.s0 (M:=x) (vs:=vs) (ss:=[]) (touch:=false) h3 (SegsOk.nil _) (by have:=hx.1;simp only[List.length_nil];omega) hx;simpa[nS,lastX,lastH,uH]using this
 | @s0 M vs ss touch h3 h4 h5 h6=>
   unfold stepW at h;simp only at h;unfold segS at h;simp only[if_pos]at h
   cases hl:loC (lastH ss) x with
   | none=>rw[hl]at h;cases h
   | some l=>
     rw[hl]at h;simp only at h
     cases h
     obtain⟨g1,g2,g3⟩:=gap_lo hl hx (fun z e=>(lastH_word h4 e).2);have:=Tk.s1 (M:=M) (l:=l) h3 h4 h5 h6 g1 g3;unfold touchL at this;rw[g2]at this;exact this
 | @s1 M l vs ss h3 h4 h5 h6 h7 h8=>
   unfold stepW at h;simp only at h;unfold segS at h;simp only[show ¬((1:Int)=0) by decide,if_false,if_true,Option.getD_some]at h
   cases hz:hiC l x with
   | none=>rw[hz]at h;cases h
   | some z=>
     rw[hz]at h;simp only at h
     cases h
     unfold hiC at hz;split at hz
     ·rename_i hs
      cases hz
      have hx1:=hx.1;have:=Tk.s2 (M:=M) (z:=(l,l+x)) h3 h4 h5 h6 ⟨h7,⟨by have:=h7.1;simp only;omega,hs⟩,by simp only;omega⟩ h8;rw[show(l,l+x).2-(l,l+x).1=x by simp only;omega]at this;simpa using this
     ·cases hz
 | @s2 M z vs ss h3 h4 h5 h6 h7 h8=>
   unfold stepW at h;simp only at h;unfold segS at h;simp only[show ¬((2:Int)=0) by decide,show ¬((2:Int)=1) by decide,if_false]at h;split at h
   ·cases h
   ·rename_i hk
    split at h
    ·cases h
    ·rename_i ht
     rw[z16]at hk;have hx1:=hx.1;obtain⟨i,rfl⟩:∃i:Nat,x=i:=⟨x.toNat,by omega⟩;have hi:i<vs.length:=by omega
     simp only[Int.toNat_natCast,Option.getD_some]at h;rw[kH_put vs ss hi,← uH_snoc ss (z,i)]at h;have hsg:SegsOk vs.length (ss ++ [(z,i)]):=h4.snoc ⟨h7.1,h7.2.1,h7.2.2,hi⟩ h8 fun y hy hy2 hy3=>ht ⟨by
      unfold touchL;rw[hy];have:z.1-y.2-1=0:=by simp only at hy2;omega
      simp[gapL,this],by rw[hy3]⟩
     have en:nV vs ++ [M] ++ nS none ss ++ [gapL (lastH ss) z.1,z.2-z.1] ++ [(i:Int)]=nV vs ++ [M] ++ nS none (ss ++ [(z,i)]):=by
      rw[nS_last];simp
     rw[en];have hl:(ss ++ [(z,i)]).length=ss.length+1:=by simp
     split at h
     ·rename_i g
      obtain⟨g1,g2,rfl⟩:=finish_ok h;simp only[z16]at g1;have eM:M=((ss ++ [(z,i)]).length:Nat):=by rw[hl];omega
      have:=Tk.fin (vs:=vs) (ss:=ss ++ [(z,i)]) ⟨h3.vec,h3.asc,hsg,used_all hsg g1⟩;rw[z35]at this;unfold numsK at this;rw[← eM]at this;exact this
     ·rename_i g
      cases h
      have:=Tk.s0 (M:=M) (vs:=vs) (ss:=ss ++ [(z,i)]) (touch:=touchL (lastH ss) z.1) h3 hsg (by rw[hl];omega) h6;rw[z35,lastX_snoc,hl,show M-((ss.length+1:Nat):Int)=M-ss.length-1 by omega]at this;exact this
 | fin h=>cases hf
theorem numsP_len(c:Int)(es:List Ent):∀k,k≤es.length→(numsP c es k).length=1+((es.take k).flatMap absE).length
 | 0,_=>by simp[numsP]
 | k+1,h=>by
   show(numsP c es k ++ numE (repN es k) (es.getD k Ent.z)).length=_
   rw[List.length_append,numsP_len c es k (by omega),List.take_succ_eq_append_getElem (by omega),List.flatMap_append,List.length_append,z2s];have e:es.getD k Ent.z=es[k]:=by simp[List.getD,List.getElem?_eq_getElem (show k<es.length by omega)]
   rw[e];simp[absE_len]
   omega
theorem absV_len(es:List Ent)(c:Int):(absV es).length=(numsP c es es.length).length:=by
 rw[numsP_len c es _ (Nat.le_refl _),List.take_length];unfold absV;rw[List.length_cons];omega
theorem numsV_len(es:List Ent):(numsV es).length=(absV es).length:=by
 rw[absV_len es es.length,numsP_to];rfl
theorem st_abs{s:St}(h:SInv s):(absV s.es).length≤(stN s).length+1:=by
 have h0:=h.zero;have hp:=absV_len s.es (s.es.length+s.ents);obtain⟨ph,es,cur,ents,hls⟩:=s;simp only at h0 hp;unfold stN
 cases ph
 case count=>rw[h0 rfl];simp[absV]
 all_goals(simp only[List.length_append];omega)
theorem abs_es(es:List Ent):es.length≤(absV es).length∧∀e∈es,e.hs.length≤(absV es).length:=by
 have main:es.length≤(es.flatMap absE).length∧∀e∈es,e.hs.length≤(es.flatMap absE).length:=by
  induction es with
  | nil=>simp
  | cons e es ih=>
    obtain⟨h1,h2⟩:=ih;rw[List.flatMap_cons,List.length_append,absE_len];refine⟨by simp only[List.length_cons];omega,fun f hf=>?_⟩;rcases List.mem_cons.1 hf with rfl | hf
    ·omega
    ·have:=h2 f hf;omega
 unfold absV;rw[List.length_cons];exact⟨by omega,fun e he=>by have:=main.2 e he;omega⟩
theorem okV_of{es:List Ent}(h:(absV es).length≤1000000000):okV es:=by
 obtain⟨h1,h2⟩:=abs_es es;exact⟨by omega,fun e he=>by have:=h2 e he;omega,h⟩
theorem StI.mono{s:St}{a b:Int}(h:StI s a)(hab:a≤b):StI s b:=⟨h.ph,h.ents,h.hls,by have:=h.es;omega,by have:=h.hs;omega⟩
theorem flat_le{vs:List (List Ent)}:vs.length≤(vs.flatMap numsV).length∧∀v∈vs,(absV v).length≤(vs.flatMap numsV).length:=by
 induction vs with
 | nil=>simp
 | cons v vs ih=>
   obtain⟨h1,h2⟩:=ih;rw[List.flatMap_cons,List.length_append,numsV_len];have:1≤(absV v).length:=by unfold absV;simp
   refine⟨by simp only[List.length_cons];omega,fun u hu=>?_⟩;rcases List.mem_cons.1 hu with rfl | hu
   ·omega
   ·have:=h2 u hu;omega
theorem z2q{pt:Pt}{vs:List (List Ent)}{ss:List Sg}{last:Option Iv}{op:Option Int}(h1:(vs.flatMap numsV).length≤1000000000)(h2:ss.length≤1000000000):StepB ⟨pt,kH vs ss,uH ss,last,op⟩:=by
 obtain⟨g1,g2⟩:=flat_le (vs:=vs);refine⟨⟨?_,fun f hf=>?_⟩,?_,fun f hf=>?_⟩
 ·simp only[z16];omega
 ·obtain⟨i,hi,rfl⟩:=kH_mem.1 hf
  have:=g2 _ (List.getElem_mem hi);exact okV_of (es:=vs[i]) (by omega)
 ·have:=uH_len ss;simp only;omega
 ·obtain⟨i,hi,rfl⟩:=kH_mem.1 hf
  have:=partOf_len ss i;simp only;omega
theorem Tk.stepB{xs:List Int}{s:WS}(h:Tk xs s)(hl:xs.length≤1000000000):StepB s:=by
 cases h with
 | start=>exact z2q (vs:=[]) (ss:=[]) (by simp) (by simp)
 | vec=>exact z2q (ss:=[]) (by simp only[List.length_cons]at hl;omega) (by simp)
 | vin=>exact z2q (ss:=[]) (by simp only[List.length_cons,List.length_append]at hl;omega) (by simp)
 | mid=>exact z2q (ss:=[]) (by unfold nV at hl;simp only[List.length_cons]at hl;omega) (by simp)
 | s0=>exact z2q (by unfold nV at hl;simp only[List.length_cons,List.length_append]at hl;omega) (by simp only[List.length_append,nS_len]at hl;omega)
 | s1=>exact z2q (by unfold nV at hl;simp only[List.length_cons,List.length_append]at hl;omega) (by simp only[List.length_append,nS_len]at hl;omega)
 | s2=>exact z2q (by unfold nV at hl;simp only[List.length_cons,List.length_append]at hl;omega) (by simp only[List.length_append,nS_len]at hl;omega)
 | fin=>exact z2q (by unfold numsK nV at hl;simp only[List.length_cons,List.length_append]at hl;omega) (by unfold numsK at hl;simp only[List.length_append,nS_len]at hl;omega)
theorem step_ok{lm:Lim}{st st':St}{x rest:Int}(h:stepS lm st x rest=.ok st')(h4:SInv st)(h5:st.ph≠.fin)(hx:Word x)(hl:(stN st).length+2≤1000000000):okV st'.es:=by
 obtain⟨i1,i2⟩:=step_nums h4 hx h5 h;have:=st_abs i1;rw[i2,List.length_append]at this;simp only[List.length_singleton]at this;exact okV_of (by omega)
theorem Tk.need{lm:Lim}{xs:List Int}{s:WS}{x a rest:Int}(h:Tk xs s)(hx:Word x)(hl:xs.length+2≤1000000000)(ha:(xs.length:Int)≤a):NeedW lm s x a rest:=by
 cases h with
 | start=>trivial
 | vec=>exact fun st' h=>step_ok h sinv_0 (by simp[St0]) hx (by simp[St0,stN])
 | vin h1 h2 h3 h4 h5 h6 h7=>
   simp only[List.length_cons,List.length_append]at hl ha;exact⟨h6.mono (by omega),fun st' h=>step_ok h h4 h5 hx (by omega)⟩
 | mid=>trivial
 | s0=>exact .inl ⟨rfl,rfl⟩
 | s1=>exact .inr (.inl ⟨rfl,_,rfl⟩)
 | s2=>exact .inr (.inr ⟨rfl,_,rfl⟩)
 | fin=>trivial
inductive GoW (lm:Lim) (len:Int):List Int→WS→Int→WS→Int→Prop where
 | nil {s:WS} {a:Int}:GoW lm len [] s a s a
 | cons {s s1 s':WS} {a a' x:Int} {xs:List Int}:stepW lm s x a (len-(a+(vb 10 x).length))=.ok s1→s1.pt.isFin=false→GoW lm len xs s1 (a+(vb 10 x).length) s' a'→GoW lm len (x :: xs) s a s' a'
theorem GoW.trans{lm:Lim}{len:Int}{xs ys:List Int}{s s1 s2:WS}{a a1 a2:Int}(h:GoW lm len xs s a s1 a1)(h':GoW lm len ys s1 a1 s2 a2):GoW lm len (xs ++ ys) s a s2 a2:=by
 induction h with
 | nil=>exact h'
 | cons h1 h2 _ ih=>exact .cons h1 h2 (ih h')
theorem GoW.at{lm:Lim}{len:Int}{xs:List Int}{s s1:WS}{a a1:Int}(h:GoW lm len xs s a s1 a1):a1=a+(joinB xs).length:=by
 induction h with
 | nil=>simp[joinB]
 | cons h1 h2 _ ih=>rw[ih,zv,List.length_append];omega
theorem GoW.one{lm:Lim}{len:Int}{x:Int}{s s1:WS}{a:Int}(h1:stepW lm s x a (len-(a+(vb 10 x).length))=.ok s1)(h2:s1.pt.isFin=false):GoW lm len [x] s a s1 (a+(vb 10 x).length):=.cons h1 h2 .nil
theorem GoW.fin{lm:Lim}{len:Int}{xs:List Int}{s s1:WS}{a a1:Int}(h:GoW lm len xs s a s1 a1)(hf:s.pt.isFin=false):s1.pt.isFin=false:=by
 induction h with
 | nil=>exact hf
 | cons h1 h2 _ ih=>exact ih h2
theorem GoW.run{lm:Lim}{zs:List Int}(hz:zs.length+2≤1000000000){o:Except (Int×Int) (List Frag)}:∀{xs:List Int} {s s':WS} {a a':Int},GoW lm zs.length xs s a s' a'→∀{ys pre post:List Int},zs=pre ++ joinB xs ++ post→a=pre.length→(∀x∈xs,Word x)→Tk ys s→s.pt.isFin=false→(ys.length:Int)≤a→RunW lm 0 zs s' a' o→RunW lm 0 zs s a o∧Tk (ys ++ xs) s':=by
 intro xs s s' a a' h;induction h with
 | nil=>intro ys pre post e ea hw hT hf hl hr;exact⟨hr,by rw[List.append_nil];exact hT⟩
 | @cons s s1 s' a a' x xs h1 h2 h3 ih=>
   intro ys pre post e ea hw hT hf hl hr;have hx:=hw x (by simp);have hrd:=rd_vb pre (joinB xs ++ post) x hx;have e2:zs=pre ++ vb 10 x ++ (joinB xs ++ post):=by rw[e,zv];simp
   rw[← e2,← ea]at hrd;have hT':=tk_step hT hx hf h1;have hvl:=vb_len 10 x (by omega);obtain⟨r1,r2⟩:=ih (ys:=ys ++ [x]) (pre:=pre ++ vb 10 x) (post:=post) (by rw[e2];simp) (by rw[ea,List.length_append];omega) (fun y hy=>hw y (by simp[hy])) hT' h2 (by rw[List.length_append];simp only[List.length_singleton];omega) hr;obtain⟨_,h01,h02,_⟩:=rd_ok hrd;refine⟨.next hrd (hT.stepB (by omega)) (hT.need hx (by omega) (by omega)) (by rw[Int.zero_add];exact h1) h2 r1,?_⟩;rw[List.append_assoc]at r2;exact r2
theorem vec_go{lm:Lim}{len left:Int}{k:List Frag}{us:List Nat}{last:Option Iv}{op:Option Int}{es:List Ent}(hk:k=[]∨cmpL (absV (k.getD (k.length-1) Frag.z).vec) (absV es)<0):∀(xs:List Int) (st:St) (a a' fr fr0:Int) (inner:Option St),(inner=some st∧fr0=fr∨inner=none∧st=St0∧fr=a)→walkN lm len xs st a=.ok (.inl (es,a'))→a'=a+(joinB xs).length →
  GoW lm len xs ⟨.vecs left fr0 inner,k,us,last,op⟩ a ⟨if left-1=0 then .mid else .vecs (left-1) (-1) none,k ++ [⟨[],es⟩],us,last,op⟩ a'
 | [],st,a,a',fr,fr0,inner,_,h,_=>by cases h
 | x :: xs,st,a,a',fr,fr0,inner,hi,h,ha=>by
   have e0:stepW lm ⟨.vecs left fr0 inner,k,us,last,op⟩ x a (len-(a+(vb 10 x).length))=vecS lm ⟨.vecs left fr0 inner,k,us,last,op⟩ left fr st x a (len-(a+(vb 10 x).length)):=by
    rcases hi with⟨rfl,rfl⟩ | ⟨rfl,rfl,rfl⟩<;>rfl
   cases hs:stepS lm st x (len-(a+(vb 10 x).length))with
   | error c=>rw[walkN_err hs]at h;cases h
   | ok st'=>
     cases hf:st'.ph.isFin with
     | true=>
       rw[z4y hs hf]at h;injection h with h
       injection h with h
       injection h with h4 h5
       rw[zv,List.length_append]at ha;have hx0:xs=[]:=by
        cases xs with
        | nil=>rfl
        | cons y ys=>have:=z2d (y :: ys);simp only[List.length_cons]at this;omega
       subst hx0;subst h4;rw[← h5];refine .one ?_ (by simp only;split<;>rfl);rw[e0];unfold vecS;rw[hs];simp only[hf,if_true];rw[if_neg];rintro⟨h1,h2⟩;rcases hk with hk | hk
       ·exact h1 hk
       ·omega
     | false=>
       rw[z1w hs hf]at h;refine .cons (s1:=⟨.vecs left fr (some st'),k,us,last,op⟩) ?_ rfl (vec_go hk xs st' _ a' fr fr (some st') (.inl ⟨rfl,rfl⟩) h (by rw[ha,zv,List.length_append];omega));rw[e0];unfold vecS;rw[hs];simp only[hf];rfl
structure FitW (lm:Lim) (vs:List (List Ent)) (ss:List Sg):Prop where
 ve:(vs.length:Int)≤lm.ve
 en:∀v∈vs,(v.length:Int)≤lm.en
 ho:∀v∈vs,∀e∈v,(e.hs.length:Int)≤lm.ho
 se:(ss.length:Int)≤lm.se
def midV (vs:List (List Ent)) (j:Nat):WS:=⟨if(vs.length:Int)-j=0 then .mid else .vecs ((vs.length:Int)-j) (-1) none,kH (vs.take j) [],[],none,none⟩
theorem z36{α:Type}(l:List α){j:Nat}(h:j<l.length):l.take (j+1)=l.take j ++ [l[j]]:=List.take_succ_eq_append_getElem h
theorem vecs_go{lm:Lim}{len:Int}{vs:List (List Ent)}{ss:List Sg}(h:VsOk vs)(hF:FitW lm vs ss)(hlen:((joinB (nV vs)).length:Int)≤len):∀j,j≤vs.length→GoW lm len ((vs.length:Int) :: (vs.take j).flatMap numsV) WS0 0 (midV vs j) (joinB ((vs.length:Int) :: (vs.take j).flatMap numsV)).length
 | 0,_=>by
   rw[show(vs.take 0).flatMap numsV=[] by simp];have h1:stepW lm WS0 (vs.length:Int) 0 (len-(0+(vb 10 (vs.length:Int)).length))=.ok (midV vs 0):=by
    have hv:=flat_le (vs:=vs);have hj:=z2d (vs.flatMap numsV);unfold nV at hlen;rw[zv,List.length_append]at hlen;show(if limitC _ _ _≠0 then _ else _)=_
    rw[z4m hF.ve (by omega),if_neg (by simp)];unfold midV WS0;simp only[List.take_zero];by_cases g:(vs.length:Int)=0
    ·rw[if_pos g,if_pos (by omega)];rfl
    ·rw[if_neg g,if_neg (by omega),show(vs.length:Int)-((0:Nat):Int)=vs.length by omega];rfl
   have:=GoW.one (lm:=lm) (len:=len) h1 (by unfold midV;simp only;split<;>rfl);rw[Int.zero_add]at this;rw[zv,z21,List.append_nil];exact this
 | j+1,hj=>by
   have ih:=vecs_go h hF hlen j (by omega);have hjl:j<vs.length:=by omega
   have e1:(vs.length:Int) :: (vs.take (j+1)).flatMap numsV=((vs.length:Int) :: (vs.take j).flatMap numsV) ++ numsV vs[j]:=by rw[z36 vs hjl,nV_snoc]
   have hmem:=List.getElem_mem hjl;have hv:=h.vec _ hmem;have hle:(joinB ((vs.length:Int) :: (vs.take j).flatMap numsV)).length+(joinB (numsV vs[j])).length≤(joinB (nV vs)).length:=by
    have e2:nV vs=(((vs.length:Int) :: (vs.take j).flatMap numsV) ++ numsV vs[j]) ++ (vs.drop (j+1)).flatMap numsV:=by
     rw[← e1];unfold nV;rw[List.cons_append,← List.flatMap_append,List.take_append_drop]
    rw[e2,zt,zt,List.length_append,List.length_append];omega
   have hw:=canon_walk (lm:=lm) (len:=len) (a:=(joinB ((vs.length:Int) :: (vs.take j).flatMap numsV)).length) (es:=vs[j]) (List.length_pos_iff.2 hv.2) hv.1.words hv.1.v (hF.en _ hmem) (hF.ho _ hmem) (by omega);have hk:kH (vs.take j) []=[]∨cmpL (absV ((kH (vs.take j) []).getD ((kH (vs.take j) []).length-1) Frag.z).vec) (absV vs[j])<0:=by
    by_cases g:j=0
    ·subst g;exact .inl rfl
    ·right
     have hne:vs.take j≠[]:=by intro e;have:=congrArg List.length e;rw[List.length_take]at this;simp only[List.length_nil]at this;omega
     rw[kH_end _ _ hne];have e:(vs.take j).getLast hne=vs[j-1]:=by
      rw[List.getLast_eq_getElem,List.getElem_take];congr 1
      rw[List.length_take];omega
     rw[e];exact List.pairwise_iff_getElem.1 h.asc (j-1) j (by omega) hjl (by omega)
   have em:midV vs j=⟨.vecs ((vs.length:Int)-j) (-1) none,kH (vs.take j) [],[],none,none⟩:=by
    unfold midV;rw[if_neg (by omega)]
   have hg:=vec_go (lm:=lm) (len:=len) (left:=(vs.length:Int)-j) (us:=[]) (last:=none) (op:=none) hk (numsV vs[j]) St0 _ _ _ (-1) none (.inr ⟨rfl,rfl,rfl⟩) hw rfl;rw[e1];rw[em]at ih;have:=ih.trans hg;have en:midV vs (j+1)=⟨if(vs.length:Int)-j-1=0 then .mid else .vecs ((vs.length:Int)-j-1) (-1) none,kH (vs.take j) [] ++ [⟨[],vs[j]⟩],[],none,none⟩:=by
    unfold midV;rw[z36 vs hjl,kH_snoc,show(vs.length:Int)-((j+1:Nat):Int)=(vs.length:Int)-j-1 by omega]
   rw[en,zt,List.length_append,show(((joinB ((vs.length:Int) :: (vs.take j).flatMap numsV)).length+(joinB (numsV vs[j])).length:Nat):Int)=((joinB ((vs.length:Int) :: (vs.take j).flatMap numsV)).length:Int)+(joinB (numsV vs[j])).length by omega];exact this
theorem seg_go{lm:Lim}{len left lx a:Int}{touch:Bool}{k:List Frag}{us:List Nat}{last:Option Iv}{z:Iv}(hz:Word z.1∧Word z.2∧z.1≤z.2)(hl:∀y,last=some y→y.2<z.1) :
  GoW lm len [gapL last z.1,z.2-z.1] ⟨.segs left 0 lx touch,k,us,last,none⟩ a ⟨.segs left 2 lx (touchL last z.1),k,us,some z,none⟩ (a+(joinB [gapL last z.1,z.2-z.1]).length):=by
 have h1:∀b r,stepW lm ⟨.segs left 0 lx touch,k,us,last,none⟩ (gapL last z.1) b r=.ok ⟨.segs left 1 lx (touchL last z.1),k,us,last,some z.1⟩:=fun b r=>by
  have:loC last (gapL last z.1)=some z.1:=by
   cases last with
   | none=>rfl
   | some y=>
     have:=hl y rfl;have hw:=hz.1.2;show(if y.2+1+0+(z.1-y.2-1)<18446744073709551616 then some (y.2+1+0+(z.1-y.2-1))else none)=_
     rw[show y.2+1+0+(z.1-y.2-1)=z.1 by omega,if_pos hw]
  unfold stepW segS;simp only[if_true,this];rfl
 have h2:∀b r,stepW lm ⟨.segs left 1 lx (touchL last z.1),k,us,last,some z.1⟩ (z.2-z.1) b r=.ok ⟨.segs left 2 lx (touchL last z.1),k,us,some z,none⟩:=fun b r=>by
  have:hiC z.1 (z.2-z.1)=some z:=by
   unfold hiC;rw[show z.1+(z.2-z.1)=z.2 by omega,if_pos hz.2.1.2]
  unfold stepW segS;simp only[show ¬((1:Int)=0) by decide,if_false,if_true,Option.getD_some,this]
 have:=GoW.cons (lm:=lm) (len:=len) (h1 a _) rfl (GoW.one (h2 (a+(vb 10 (gapL last z.1)).length) _) rfl);have e:a+(joinB [gapL last z.1,z.2-z.1]).length=a+(vb 10 (gapL last z.1)).length+(vb 10 (z.2-z.1)).length:=by
  rw[zv,zv,z21,List.append_nil,List.length_append];omega
 rw[e];exact this
theorem seg_third{lm:Lim}{left a r:Int}{vs:List (List Ent)}{ss:List Sg}{z:Iv}{i:Nat}(hi:i<vs.length)(ht:¬(touchL (lastH ss) z.1=true∧(i:Int)=lastX ss)) :
  stepW lm ⟨.segs left 2 (lastX ss) (touchL (lastH ss) z.1),kH vs ss,uH ss,some z,none⟩ (i:Int) a r =
   if left-1=0 then finishS ⟨.segs left 2 (lastX ss) (touchL (lastH ss) z.1),kH vs (ss ++ [(z,i)]),uH (ss ++ [(z,i)]),some z,none⟩ (a+sizeV i) r else .ok ⟨.segs (left-1) 0 i (touchL (lastH ss) z.1),kH vs (ss ++ [(z,i)]),uH (ss ++ [(z,i)]),some z,none⟩:=by
 have hk:¬((kH vs ss).length:Int)≤(i:Int):=by rw[z16];omega
 have e1:=kH_put vs ss hi z;have e2:=uH_snoc ss (z,i);obtain⟨k,ek⟩:∃k,kH vs ss=k:=⟨_,rfl⟩;obtain⟨k',ek'⟩:∃k,kH vs (ss ++ [(z,i)])=k:=⟨_,rfl⟩;obtain⟨u,eu⟩:∃u,uH ss=u:=⟨_,rfl⟩;obtain⟨u',eu'⟩:∃u,uH (ss ++ [(z,i)])=u:=⟨_,rfl⟩;obtain⟨t,et⟩:∃t,touchL (lastH ss) z.1=t:=⟨_,rfl⟩;obtain⟨lx,el⟩:∃lx,lastX ss=lx:=⟨_,rfl⟩;rw[ek]at hk e1;rw[ek']at e1;rw[eu,eu']at e2;rw[et,el]at ht;rw[ek,ek',eu,eu',et,el];clear ek ek' eu eu' et el;show segS ⟨.segs left 2 lx t,k,u,some z,none⟩ left 2 lx t (i:Int) a r=_
 unfold segS;rw[if_neg (by decide),if_neg (by decide),if_neg hk,if_neg ht];simp only[Int.toNat_natCast,Option.getD_some];rw[e1,← e2]
theorem segs_part{n:Nat}{ss ss':List Sg}{p:Sg}(h:SegsOk n (ss ++ p :: ss')):SegsOk n ss∧(Word p.1.1∧Word p.1.2∧p.1.1≤p.1.2∧p.2<n)∧(∀y,lastH ss=some y→y.2<p.1.1)∧¬(touchL (lastH ss) p.1.1=true∧(p.2:Int)=lastX ss):=by
 have ha:=List.pairwise_append.1 h.asc;have key:∀q,ss.getLast?=some q→q.1.2<p.1.1∧(q.2=p.2→q.1.2+1<p.1.1):=fun q hq=>by
  obtain⟨ss1,e⟩:=z3i hq;exact ha.2.2 q (by rw[e];simp) p (by simp)
 refine⟨⟨fun q hq=>h.each q (by simp[hq]),ha.1⟩,h.each p (by simp),fun y hy=>?_,fun⟨h1,h2⟩=>?_⟩
 ·unfold lastH at hy
  cases hg:ss.getLast? with
  | none=>rw[hg]at hy;cases hy
  | some q=>
    rw[hg]at hy;injection hy with hy
    subst hy;exact(key q hg).1
 ·unfold touchL lastH at h1
  unfold lastX at h2
  cases hg:ss.getLast? with
  | none=>rw[hg]at h1;simp at h1
  | some q=>
    rw[hg]at h1 h2;have h5:p.1.1-q.1.2-1=0:=of_decide_eq_true (p:=p.1.1-q.1.2-1=0) h1;have h6:(p.2:Int)=q.2:=h2;have h3:=(key q hg).2 (by omega);omega
theorem segs_go{lm:Lim}{len a:Int}{vs:List (List Ent)}{M:Nat}:∀(ss ss':List Sg),ss'≠[]→SegsOk vs.length (ss ++ ss')→(ss ++ ss').length=M →
  ∃touch,GoW lm len (nS none ss) ⟨.segs M 0 0 false,kH vs [],[],none,none⟩ a ⟨.segs ((M:Int)-ss.length) 0 (lastX ss) touch,kH vs ss,uH ss,lastH ss,none⟩ (a+(joinB (nS none ss)).length):=by
 intro ss;have main:∀(j:Nat) (ss ss':List Sg),ss.length=j→ss'≠[]→SegsOk vs.length (ss ++ ss')→(ss ++ ss').length=M →
  ∃touch,GoW lm len (nS none ss) ⟨.segs M 0 0 false,kH vs [],[],none,none⟩ a ⟨.segs ((M:Int)-ss.length) 0 (lastX ss) touch,kH vs ss,uH ss,lastH ss,none⟩ (a+(joinB (nS none ss)).length):=by
  intro j;induction j with
  | zero=>
    intro ss ss' hl hn hs hM;obtain rfl:=List.length_eq_zero_iff.1 hl;refine⟨false,?_⟩;have:GoW lm len [] ⟨.segs M 0 0 false,kH vs [],[],none,none⟩ a ⟨.segs M 0 0 false,kH vs [],[],none,none⟩ a:=.nil;simpa[nS,joinB,lastX,lastH,uH]using this
  | succ j ih=>
    intro ss ss' hl hn hs hM;have hne:ss≠[]:=by intro e;subst e;simp at hl
    obtain⟨ss1,p,rfl⟩:∃ss1 p,ss=ss1 ++ [p]:=⟨_,_,(List.dropLast_concat_getLast hne).symm⟩;have e1:ss1 ++ [p] ++ ss'=ss1 ++ p :: ss':=by simp
    rw[e1]at hs hM;obtain⟨touch,hg⟩:=ih ss1 (p :: ss') (by simpa using hl) (by simp) hs hM;obtain⟨g1,g2,g3,g4⟩:=segs_part hs;obtain⟨z,i⟩:=p;have hg2:=hg.trans (seg_go (lm:=lm) (len:=len) (left:=(M:Int)-ss1.length) (lx:=lastX ss1) (touch:=touch) (k:=kH vs ss1) (us:=uH ss1) ⟨g2.1,g2.2.1,g2.2.2.1⟩ g3);have hlen:0<ss'.length:=List.length_pos_iff.2 hn;have hM':ss1.length+1+ss'.length=M:=by rw[← hM];simp;omega
    have h3:=seg_third (lm:=lm) (left:=(M:Int)-ss1.length) (vs:=vs) (ss:=ss1) (z:=z) (i:=i) (a:=a+(joinB (nS none ss1)).length+(joinB [gapL (lastH ss1) z.1,z.2-z.1]).length) (r:=len-(a+(joinB (nS none ss1)).length+(joinB [gapL (lastH ss1) z.1,z.2-z.1]).length+(vb 10 (i:Int)).length)) g2.2.2.2 g4;rw[if_neg (by omega)]at h3;have hg3:=hg2.trans (GoW.one h3 rfl);refine⟨touchL (lastH ss1) z.1,?_⟩;rw[nS_last,lastX_snoc,z35];have en:nS none ss1 ++ [gapL (lastH ss1) (z,i).1.1,(z,i).1.2-(z,i).1.1,((z,i).2:Int)]=nS none ss1 ++ [gapL (lastH ss1) z.1,z.2-z.1] ++ [(i:Int)]:=by simp
    rw[en];have ea:a+((joinB (nS none ss1 ++ [gapL (lastH ss1) z.1,z.2-z.1] ++ [(i:Int)])).length:Nat)=a+(joinB (nS none ss1)).length+(joinB [gapL (lastH ss1) z.1,z.2-z.1]).length+(vb 10 (i:Int)).length:=by
     rw[zt,zt,List.length_append,List.length_append,zv (i:Int),z21,List.append_nil];omega
    rw[ea];have el:(M:Int)-((ss1 ++ [(z,i)]).length:Nat)=(M:Int)-ss1.length-1:=by rw[List.length_append];simp only[List.length_singleton];omega
    rw[el];exact hg3
 exact fun ss'=>main ss.length ss ss' rfl
theorem nS_words{n:Nat}(hn:n≤1000000000):∀{j:Nat} {ss:List Sg},ss.length=j→SegsOk n ss→∀x∈nS none ss,Word x:=by
 intro j;induction j with
 | zero=>intro ss hl _ x hx;obtain rfl:=List.length_eq_zero_iff.1 hl;cases hx
 | succ j ih=>
   intro ss hl hs x hx;have hne:ss≠[]:=by intro e;subst e;simp at hl
   obtain⟨ss1,p,rfl⟩:∃ss1 p,ss=ss1 ++ [p]:=⟨_,_,(List.dropLast_concat_getLast hne).symm⟩;obtain⟨g1,g2,g3,g4⟩:=segs_part hs;rw[nS_last]at hx;rcases List.mem_append.1 hx with hx | hx
   ·exact ih (by simpa using hl) g1 x hx
   ·have hw1:=g2.1
    have hw2:=g2.2.1;have h12:=g2.2.2.1;unfold Word at hw1 hw2 ⊢;simp only[List.mem_cons,List.not_mem_nil,or_false]at hx;rcases hx with rfl | rfl | rfl
    ·cases hl:lastH ss1 with
     | none=>exact hw1
     | some y=>
       have h1:=g3 y hl;have h2:=(lastH_word g1 hl).2;unfold Word at h2;show 0≤p.1.1-y.2-1∧p.1.1-y.2-1<18446744073709551616
       omega
    ·omega
    ·have:=g2.2.2.2;omega
structure SmallW (vs:List (List Ent)) (ss:List Sg):Prop where
 ve:vs.length≤1000000
 en:∀v∈vs,v.length≤1000000
 ho:∀v∈vs,∀e∈v,e.hs.length≤1000000
 se:ss.length≤1000000
theorem numsK_words{vs:List (List Ent)}{ss:List Sg}(h:KSOk vs ss)(hS:SmallW vs ss):∀x∈numsK vs ss,Word x:=by
 intro x hx;unfold numsK nV at hx;rcases List.mem_append.1 hx with hx | hx
 ·rcases List.mem_append.1 hx with hx | hx
  ·rcases List.mem_cons.1 hx with rfl | hx
   ·have:=hS.ve;unfold Word;omega
   ·obtain⟨v,hv,hx⟩:=List.mem_flatMap.1 hx
    have hc:=(h.vec v hv).1;exact numsTo_words hc.v hc.words (hS.ho v hv) (hS.en v hv) _ (Nat.le_refl _) x hx
  ·rw[List.mem_singleton]at hx;subst hx;have:=hS.se;unfold Word;omega
 ·exact nS_words (n:=vs.length) (by have:=hS.ve;omega) rfl h.segs x hx
theorem run_canW{lm:Lim}{vs:List (List Ent)}{ss:List Sg}(h:KSOk vs ss)(hF:FitW lm vs ss)(hS:SmallW vs ss)(post:List Int)(hsz:(joinB (numsK vs ss)).length+post.length+2≤1000000000) :
  RunW lm 0 (joinB (numsK vs ss) ++ post) WS0 0 (if post=[] then .ok (kH vs ss)else .error (11,((joinB (numsK vs ss)).length:Nat))):=by
 obtain⟨zs,ez⟩:∃zs,joinB (numsK vs ss) ++ post=zs:=⟨_,rfl⟩;have hzl:zs.length=(joinB (numsK vs ss)).length+post.length:=by rw[← ez,List.length_append]
 have hw:=numsK_words h hS;have eK:numsK vs ss=nV vs ++ ((ss.length:Int) :: nS none ss):=by unfold numsK;simp
 have hjK:(joinB (numsK vs ss)).length=(joinB (nV vs)).length+(vb 10 (ss.length:Int)).length+(joinB (nS none ss)).length:=by
  rw[eK,zt,zv,List.length_append,List.length_append];omega
 have hseg:=z2d (nS none ss);rw[nS_len]at hseg;have hg1:=vecs_go (lm:=lm) (len:=zs.length) (ss:=ss) ⟨h.vec,h.asc⟩ hF (by omega) vs.length (Nat.le_refl _);rw[List.take_length]at hg1;have em:midV vs vs.length=⟨.mid,kH vs [],[],none,none⟩:=by
  unfold midV;rw[if_pos (by omega),List.take_length]
 rw[em]at hg1;have hg1':GoW lm zs.length (nV vs) WS0 0 ⟨.mid,kH vs [],[],none,none⟩ (joinB (nV vs)).length:=hg1;have hlim:limitC (ss.length:Int) lm.se (zs.length-((joinB (nV vs)).length+(vb 10 (ss.length:Int)).length))=0:=z4m hF.se (by omega);obtain⟨P,eP⟩:∃P:List Int,(∃x,numsK vs ss=P ++ [x]):=by
  have hne:numsK vs ss≠[]:=by rw[eK];intro e;have:=congrArg List.length e;simp at this
  exact⟨_,_,(List.dropLast_concat_getLast hne).symm⟩
 have last:∀(P:List Int) (x:Int) (s:WS) (a:Int),numsK vs ss=P ++ [x]→GoW lm zs.length P WS0 0 s a→(∀r,0≤r→stepW lm s x a r=finishS ⟨s.pt,kH vs ss,uH ss,lastH ss,none⟩ (a+sizeV x) r) →
   RunW lm 0 zs WS0 0 (if post=[] then .ok (kH vs ss)else .error (11,((joinB (numsK vs ss)).length:Nat))):=by
  intro P x s a e hg hst;have ha:=hg.at;rw[Int.zero_add]at ha;subst ha;have hx:Word x:=hw x (by rw[e];simp);have ej:joinB (numsK vs ss)=joinB P ++ vb 10 x:=by rw[e,zt,zv,z21,List.append_nil]
  have hPl:=z2d P;have hvl:=vb_len 10 x (by omega);have hjl:(joinB (numsK vs ss)).length=(joinB P).length+(vb 10 x).length:=by rw[ej,List.length_append]
  have hrd:=rd_vb (joinB P) post x hx;rw[← ej,ez]at hrd;have hf0:s.pt.isFin=false:=hg.fin rfl;have htk:=(hg.run (o:=.error (5,0+(zs.length:Int))) (by omega) (ys:=[]) (pre:=[]) (post:=vb 10 x ++ post) (by rw[← ez,ej];simp) rfl (fun y hy=>hw y (by rw[e];simp[hy])) .start rfl (by simp));have hT:Tk P s:=by
   have aux:∀{xs ys:List Int} {s s':WS} {a a':Int},GoW lm zs.length xs s a s' a'→Tk ys s→s.pt.isFin=false→(∀x∈xs,Word x)→Tk (ys ++ xs) s':=by
    intro xs ys s s' a a' h;induction h generalizing ys with
    | nil=>intro hT _ _;rw[List.append_nil];exact hT
    | @cons s s1 s' a a' x xs h1 h2 h3 ih=>
      intro hT hf hw;have:=ih (tk_step hT (hw x (by simp)) hf h1) h2 (fun y hy=>hw y (by simp[hy]));rw[List.append_assoc]at this;exact this
   have:=aux hg .start rfl (fun y hy=>hw y (by rw[e];simp[hy]));rwa [List.nil_append]at this
  have hB:=hT.stepB (by omega);have hN:=hT.need (lm:=lm) (a:=0+((joinB P).length:Int)) (rest:=zs.length-((joinB P).length+(vb 10 x).length)) hx (by omega) (by omega);have hu:¬(uH ss).length<vs.length:=by
   intro hlt;have h1:∀i∈List.range vs.length,i∈uH ss:=fun i hi=>by
    obtain⟨z,hz⟩:=h.all i (List.mem_range.1 hi);exact uH_mem.2 ⟨_,hz,rfl⟩
   have h2:=List.Nodup.length_le_of_subset (List.nodup_range) h1;rw[List.length_range]at h2;omega
  have hstep:=hst (zs.length-((joinB P).length+(vb 10 x).length)) (by omega);unfold finishS at hstep;simp only[z16]at hstep;rw[if_neg hu]at hstep;have hgo:=fun o (ho:RunW lm 0 zs s ((joinB P).length:Int) o)=>(hg.run (by omega) (ys:=[]) (pre:=[]) (post:=vb 10 x ++ post) (by rw[← ez,ej];simp) rfl (fun y hy=>hw y (by rw[e];simp[hy])) .start rfl (by simp) ho).1;refine hgo _ ?_;by_cases hp:post=[]
  ·rw[if_pos hp]
   have hp0:post.length=0:=by rw[hp];rfl
   rw[if_neg (by omega)]at hstep;exact .fin hrd hB hN (by rw[Int.zero_add];exact hstep) rfl
  ·rw[if_neg hp]
   have hp0:0<post.length:=List.length_pos_iff.2 hp;rw[if_pos (by omega)]at hstep;have e2:((joinB P).length:Int)+sizeV x=((joinB (numsK vs ss)).length:Nat):=by unfold sizeV;omega
   rw[e2]at hstep;exact .stop hrd hB hN (by rw[Int.zero_add];exact hstep)
 rw[ez];by_cases hss:ss=[]
 ·subst hss
  have hvs:vs=[]:=by
   cases vs with
   | nil=>rfl
   | cons v vs=>obtain⟨z,hz⟩:=h.all 0 (by simp);cases hz
  subst hvs;refine last (nV []) 0 _ _ (by rfl) hg1' (fun r hr=>?_);show(if limitC 0 lm.se r≠0 then _ else _)=_
  rw[z4m (show(0:Int)≤lm.se from hF.se) hr,if_neg (by simp)];rfl
 ·obtain⟨ss1,p,rfl⟩:∃ss1 p,ss=ss1 ++ [p]:=⟨_,_,(List.dropLast_concat_getLast hss).symm⟩
  have hM:¬(((ss1 ++ [p]).length:Nat):Int)=0:=by rw[List.length_append];simp only[List.length_singleton];omega
  have h2:stepW lm ⟨.mid,kH vs [],[],none,none⟩ ((ss1 ++ [p]).length:Nat) ((joinB (nV vs)).length:Int) (zs.length-(((joinB (nV vs)).length:Int)+(vb 10 (((ss1 ++ [p]).length:Nat):Int)).length))=.ok ⟨.segs ((ss1 ++ [p]).length:Nat) 0 0 false,kH vs [],[],none,none⟩:=by
   show(if limitC _ _ _≠0 then _ else if _ then _ else _)=_
   rw[hlim,if_neg (by simp),if_neg hM]
  obtain⟨touch,hg3⟩:=segs_go (lm:=lm) (len:=zs.length) (a:=((joinB (nV vs)).length:Int)+(vb 10 (((ss1 ++ [p]).length:Nat):Int)).length) ss1 [p] (by simp) h.segs rfl;obtain⟨g1,g2,g3,g4⟩:=segs_part (ss':=[]) h.segs;obtain⟨z,i⟩:=p;have hg4:=((hg1'.trans (GoW.one h2 rfl)).trans hg3).trans (seg_go (lm:=lm) (len:=zs.length) (left:=(((ss1 ++ [(z,i)]).length:Nat):Int)-ss1.length) (lx:=lastX ss1) (touch:=touch) (k:=kH vs ss1) (us:=uH ss1) ⟨g2.1,g2.2.1,g2.2.2.1⟩ g3);refine last _ (i:Int) _ _ ?_ hg4 (fun r _=>?_)
  ·rw[eK,nS_last]
   simp
  ·rw[seg_third g2.2.2.2 g4,if_pos (by rw[List.length_append];simp only[List.length_singleton];omega),z35]
def segL (l:List FV):List Sg:=(segZ l).map fun z=>(z,findI l z.1)
def esL (l:List FV):List (List Ent):=l.map FV.es
theorem weV_eq(l:List FV):∀k,k≤l.length→weV l k=(l.length:Int) :: ((l.take k).map FV.es).flatMap numsV
 | 0,_=>rfl
 | k+1,h=>by
   have hk:k<l.length:=by omega
   have e:l.getD k FV.z=l[k]:=by simp[List.getD,List.getElem?_eq_getElem hk]
   rw[show weV l (k+1)=weV l k ++ numsV (l.getD k FV.z).es from rfl,weV_eq l k (by omega),z36 l hk,List.map_append,List.flatMap_append,e];simp
theorem nV_esL(l:List FV):nV (esL l)=weV l l.length:=by
 rw[weV_eq l _ (Nat.le_refl _),List.take_length];unfold nV esL;rw[List.length_map]
theorem z3m(l:List FV):(segL l).length=(segZ l).length:=by unfold segL;rw[List.length_map]
theorem lastH_take{l:List FV}{k:Nat}(h:k+1≤(segL l).length):lastH ((segL l).take (k+1))=some ((segZ l)[k]'(by rw[z3m]at h;omega)):=by
 rw[z36 (segL l) (by omega),z35];simp[segL]
theorem weS_eq(l:List FV):∀k,k≤(segL l).length→weS l k=nV (esL l) ++ [((segL l).length:Int)] ++ nS none ((segL l).take k)
 | 0,_=>by
   rw[nV_esL,z3m];show weV l l.length ++ [((segZ l).length:Int)]=_
   simp[nS]
 | k+1,h=>by
   have hk:k<(segL l).length:=by omega
   have hz:k<(segZ l).length:=by rw[← z3m];exact hk
   have e:(segL l)[k]=((segZ l)[k],findI l ((segZ l)[k]).1):=by simp[segL]
   have e1:Lo (segZ l) k=((segZ l)[k]).1:=by unfold Lo;simp[List.getD,List.getElem?_eq_getElem hz]
   have e2:Hi (segZ l) k=((segZ l)[k]).2:=by unfold Hi;simp[List.getD,List.getElem?_eq_getElem hz]
   rw[show weS l (k+1)=weS l k ++ segT l k from rfl,weS_eq l k (by omega),z36 (segL l) hk,nS_last,e];have eg:gapD (segZ l) 0 k=gapL (lastH ((segL l).take k)) ((segZ l)[k]).1:=by
    match k,hk,hz with
    | 0,hk,hz=>simp[gapD,gapL,lastH,Lo,List.getD,List.getElem?_eq_getElem hz]
    | k+1,hk,hz=>
      rw[lastH_take (by omega)];have hz':k<(segZ l).length:=by omega
      have e3:Hi (segZ l) k=((segZ l)[k]).2:=by unfold Hi;simp[List.getD,List.getElem?_eq_getElem hz']
      have e4:Lo (segZ l) (k+1)=((segZ l)[k+1]).1:=by unfold Lo;simp[List.getD,List.getElem?_eq_getElem hz]
      unfold gapD gapL;simp only[Nat.add_eq_zero_iff,Nat.one_ne_zero,and_false,if_false,Nat.add_sub_cancel];rw[e3,e4];omega
   unfold segT;rw[eg,e1,e2];simp
theorem weN_eq(l:List FV):weN l=numsK (esL l) (segL l):=by
 show weS l (segZ l).length=_
 rw[← z3m,weS_eq l _ (Nat.le_refl _),List.take_length];rfl
theorem find_at{l:List FV}(h:CanL l){i:Nat}(hi:i<l.length){x:Int}(hx:InL (l[i]).items x):findI l x=i:=by
 have hm:i∈selI l x l.length:=z1j.2 ⟨hi,by simp only[List.getD,List.getElem?_eq_getElem hi];exact hx⟩;have h1:=selI_one h.apart' x;unfold findI;match hs:selI l x l.length,hm,h1 with
 | [j],hm,_=>rw[List.mem_singleton]at hm;subst hm;rfl
 | [],hm,_=>cases hm
 | _ :: _ :: _,_,h1=>simp at h1
theorem z3n{l:List FV}(h:CanL l){z:Iv}{i:Nat}:(z,i)∈segL l↔∃hi:i<l.length,z∈(l[i]).items:=by
 unfold segL segZ;rw[List.mem_map];constructor
 ·rintro⟨y,hy,e⟩
  rw[z31]at hy;obtain⟨f,hf,hz⟩:=List.mem_flatMap.1 hy;obtain⟨j,hj,rfl⟩:=List.mem_iff_getElem.1 hf;have:=find_at h hj (cor_in (h.at _ hf).1 hz);injection e with e1 e2
  subst e1;rw[this]at e2;subst e2;exact⟨hj,hz⟩
 ·rintro⟨hi,hz⟩
  have hf:=List.getElem_mem hi;exact⟨z,(z31 _ _).2 (List.mem_flatMap.2 ⟨_,hf,hz⟩),by rw[find_at h hi (cor_in (h.at _ hf).1 hz)]⟩
theorem cor_between{zs:List Iv}(h:Cor zs){a b:Iv}(ha:a∈zs)(hb:b∈zs)(hab:a.1<b.1):a.2+1<b.1:=by
 obtain⟨i,hi,e1⟩:=List.mem_iff_getElem.1 ha;obtain⟨j,hj,e2⟩:=List.mem_iff_getElem.1 hb;have l1:Lo zs i=a.1:=by unfold Lo;simp[List.getD,List.getElem?_eq_getElem hi,e1]
 have l2:Lo zs j=b.1:=by unfold Lo;simp[List.getD,List.getElem?_eq_getElem hj,e2]
 have l3:Hi zs i=a.2:=by unfold Hi;simp[List.getD,List.getElem?_eq_getElem hi,e1]
 have hij:i<j:=by
  rcases Nat.lt_trichotomy i j with t | t | t
  ·exact t
  ·subst t;rw[l1]at l2;omega
  ·have:=z1f h t hi
   have h2:=(h j hj).1;have h3:Hi zs j+1<Lo zs i∨Hi zs j<Lo zs i:=by omega
   omega
 have:=z1f h hij hj;rw[l2,l3]at this;omega
theorem segs_can{l:List FV}(h:CanL l)(hw:∀f∈l,∀z∈f.items,Word z.1∧Word z.2):KSOk (esL l) (segL l)∧kH (esL l) (segL l)=l.map FV.frag:=by
 have hE:(esL l).length=l.length:=by unfold esL;rw[List.length_map]
 have hc:∀f∈l,Cor f.items:=fun f hf=>(h.at f hf).1;have hS:SegsOk (esL l).length (segL l):=by
  refine⟨fun p hp=>?_,?_⟩
  ·obtain⟨z,i⟩:=p
   obtain⟨hi,hz⟩:=(z3n h).1 hp;have hf:=List.getElem_mem hi;have:=hw _ hf z hz;exact⟨this.1,this.2,seg_apart.cor_le (hc _ hf) hz,by rw[hE];exact hi⟩
  ·have h1:=sortZ_asc (flat_dis hc h.apart')
   have ha:(segZ l).Pairwise (fun a b=>a.2<b.1∨b.2<a.1):=((z37 (flatZ l)).pairwise_iff (fun {a b} h=>h.symm)).2 (seg_apart hc h.apart');unfold segL;refine List.pairwise_map.2 (List.Pairwise.imp_of_mem (fun {a b} hma hmb hab=>?_) (h1.and ha));obtain⟨h3,h4⟩:=hab;have la:=seg_le hc hma;have lb:=seg_le hc hmb;refine⟨by simp only;omega,fun e=>?_⟩;simp only at e ⊢;have m1:(a,findI l a.1)∈segL l:=List.mem_map.2 ⟨a,hma,rfl⟩;have m2:(b,findI l a.1)∈segL l:=List.mem_map.2 ⟨b,hmb,by rw[e]⟩;obtain⟨hi,z1⟩:=(z3n h).1 m1;obtain⟨_,z2⟩:=(z3n h).1 m2;exact cor_between (hc _ (List.getElem_mem hi)) z1 z2 h3
 have hall:∀i,i<(esL l).length→∃z,(z,i)∈segL l:=fun i hi=>by
  rw[hE]at hi;have:=(h.at _ (List.getElem_mem hi)).2.1
  cases hz:(l[i]).items with
  | nil=>exact absurd hz this
  | cons z zs=>exact⟨z,(z3n h).2 ⟨hi,by rw[hz];simp⟩⟩
 refine⟨⟨fun v hv=>?_,h.ess,hS,hall⟩,?_⟩
 ·obtain⟨f,hf,rfl⟩:=List.mem_map.1 hv
  exact⟨(h.at f hf).2.2.1,(h.at f hf).2.2.2⟩
 ·refine List.ext_getElem (by rw[z16,hE,List.length_map]) fun i h1 h2=>?_
  have hi:i<l.length:=by rw[List.length_map]at h2;exact h2
  rw[kH_at _ _ (by rw[hE];exact hi),List.getElem_map];have hp:partOf (segL l) i=(l[i]).items:=by
   refine cor_unique (hS.cor i) (hc _ (List.getElem_mem hi)) fun x=>?_;constructor
   ·rintro⟨z,hz,hx⟩
    obtain⟨_,hz'⟩:=(z3n h).1 (z29.1 hz);exact⟨z,hz',hx⟩
   ·rintro⟨z,hz,hx⟩
    exact⟨z,z29.2 ((z3n h).2 ⟨hi,hz⟩),hx⟩
  rw[hp];simp[esL,FV.frag,FV.es]
theorem weN_same{l l':List FV}(h:CanL l)(h':CanL l')(hw:∀f∈l,∀z∈f.items,Word z.1∧Word z.2)(hw':∀f∈l',∀z∈f.items,Word z.1∧Word z.2)(e:l.map FV.frag=l'.map FV.frag):weN l=weN l'∧esL l=esL l'∧segL l=segL l':=by
 obtain⟨k1,k2⟩:=segs_can h hw;obtain⟨k1',k2'⟩:=segs_can h' hw';obtain⟨e1,e2⟩:=kH_inj k1.segs k1'.segs (by rw[k2,k2',e]);exact⟨by rw[weN_eq,weN_eq,e1,e2],e1,e2⟩
theorem flat_most{B:Nat}:∀{vs:List (List Ent)},(∀v∈vs,(numsV v).length≤B)→(vs.flatMap numsV).length≤vs.length * B
 | [],_=>by simp
 | v :: vs,h=>by
   rw[List.flatMap_cons,List.length_append,List.length_cons,Nat.succ_mul];have:=flat_most (vs:=vs) (fun u hu=>h u (by simp[hu]));have:=h v (by simp);omega
theorem absE_most{A:Nat}:∀{es:List Ent},(∀e∈es,e.hs.length≤A)→(es.flatMap absE).length≤es.length * (3+2 * A)
 | [],_=>by simp
 | e :: es,h=>by
   rw[List.flatMap_cons,List.length_append,List.length_cons,Nat.succ_mul,absE_len];have:=absE_most (es:=es) (fun u hu=>h u (by simp[hu]));have:=h e (by simp);omega
theorem small_nums{l:List FV}(hB:VecB l 240 402)(ht:totI l≤481)(hl:l.length≤481):(weN l).length≤95000000∧SmallW (esL l) (segL l):=by
 have hv:∀v∈esL l,v.length≤240∧∀e∈v,e.hs.length≤402:=fun v hv=>by
  obtain⟨f,hf,rfl⟩:=List.mem_map.1 hv;refine⟨by have:=hB.vec f hf;simpa[FV.es]using this,fun e he=>?_⟩;obtain⟨p,hp,rfl⟩:=List.mem_map.1 he;exact hB.hs f hf p hp
 have hE:(esL l).length=l.length:=by unfold esL;rw[List.length_map]
 have hs:(segL l).length=totI l:=by rw[z3m];unfold segZ;rw[z2e,z1z]
 have h1:∀v∈esL l,(numsV v).length≤193681:=fun v hv'=>by
  obtain⟨g1,g2⟩:=hv v hv';have:=absE_most g2;rw[numsV_len];unfold absV;rw[List.length_cons];have h3:v.length * (3+2 * 402)≤240 * (3+2 * 402):=Nat.mul_le_mul_right _ g1;omega
 have h2:=flat_most h1;have h3:(esL l).length * 193681≤481 * 193681:=Nat.mul_le_mul_right _ (by omega);refine⟨?_,⟨by omega,fun v hv'=>by have:=(hv v hv').1;omega,fun v hv' e he=>by have:=(hv v hv').2 e he;omega,by omega⟩⟩;rw[weN_eq];unfold numsK nV;simp only[List.length_append,List.length_cons,List.length_nil,nS_len];omega
theorem small_enc{l:List FV}(hB:VecB l 240 402)(ht:totI l≤481)(hl:l.length≤481):EncB l:=by
 obtain⟨h1,_⟩:=small_nums hB ht hl;refine⟨by omega,fun f hf e he=>?_,?_⟩
 ·obtain⟨p,hp,rfl⟩:=List.mem_map.1 he
  have:=hB.hs f hf p hp;omega
 ·unfold segZ
  rw[z2e,z1z];omega
def topN (ns:List Nat):Nat:=ns.foldl max 0
theorem topN_snoc(ns:List Nat)(n:Nat):topN (ns ++ [n])=max (topN ns) n:=by unfold topN;rw[List.foldl_append];rfl
theorem topN_ge{ns:List Nat}{n:Nat}(h:n∈ns):n≤topN ns:=by
 have main:∀(ns:List Nat) (a:Nat),a≤ns.foldl max a∧∀n∈ns,n≤ns.foldl max a:=by
  intro ns;induction ns with
  | nil=>intro a;simp
  | cons m ns ih=>
    intro a;rw[List.foldl_cons];obtain⟨h1,h2⟩:=ih (max a m);refine⟨by omega,fun n hn=>?_⟩;rcases List.mem_cons.1 hn with rfl | hn
    ·omega
    ·exact h2 n hn
 exact(main ns 0).2 n h
theorem topN_le{ns:List Nat}{B:Nat}(h:∀n∈ns,n≤B):topN ns≤B:=by
 have main:∀(ns:List Nat) (a:Nat),a≤B→(∀n∈ns,n≤B)→ns.foldl max a≤B:=by
  intro ns;induction ns with
  | nil=>intro a ha _;exact ha
  | cons m ns ih=>
    intro a ha h;rw[List.foldl_cons];have:=h m (by simp);exact ih _ (by omega) (fun n hn=>h n (by simp[hn]))
 exact main ns 0 (Nat.zero_le _) h
theorem topN_take{α:Type}(F:α→Nat)(l:List α){k:Nat}(h:k<l.length){z:α}:topN ((l.take (k+1)).map F)=max (topN ((l.take k).map F)) (F (l.getD k z)):=by
 rw[List.take_succ_eq_append_getElem h,List.map_append,List.map_cons,List.map_nil,topN_snoc];simp[List.getD,List.getElem?_eq_getElem h]
theorem know_words{w:World}{v:Value}{l:List FV}(h:KnwAt w v l):∀f∈l,∀z∈f.items,Word z.1∧Word z.2:=fun f hf=>by
 obtain⟨_,_,_,hK,_⟩:=h;exact(FragAt.items (hK.frags f hf)).words
structure SmallC (c:List FV):Prop where
 can:CanL c
 bnd:VecB c 240 402
 tot:totI c≤481
 len:c.length≤481
 words:∀f∈c,∀z∈f.items,Word z.1∧Word z.2
theorem SmallC.nums{c:List FV}(h:SmallC c):(weN c).length≤95000000∧SmallW (esL c) (segL c):=small_nums h.bnd h.tot h.len
theorem tot_frag:∀(l:List FV),totI l=((l.map FV.frag).map fun f=>f.items.length).sum
 | []=>rfl
 | f :: l=>by
   show f.items.length+totI l=_
   rw[tot_frag l];simp[FV.frag,Function.comp_def]
theorem SmallC.same{c c':List FV}(h:SmallC c)(hc:CanL c')(hk:∀x r k,KnK (c'.map FV.frag) x r k↔KnK (c.map FV.frag) x r k):SmallC c'∧c'.map FV.frag=c.map FV.frag∧weN c'=weN c:=by
 have e:c'.map FV.frag=c.map FV.frag:=know_unique hc h.can hk;have hm:∀f∈c',∃g∈c,g.frag=f.frag:=fun f hf=>by
  have:f.frag∈c.map FV.frag:=by rw[← e];exact List.mem_map_of_mem hf
  obtain⟨g,hg,eg⟩:=List.mem_map.1 this;exact⟨g,hg,eg⟩
 have hw:∀f∈c',∀z∈f.items,Word z.1∧Word z.2:=fun f hf z hz=>by
  obtain⟨g,hg,eg⟩:=hm f hf;exact h.words g hg z (by have:=congrArg Frag.items eg;simp only[FV.frag]at this;rw[this];exact hz)
 have hv:∀f∈c',∃g∈c,g.es=f.es:=fun f hf=>by
  obtain⟨g,hg,eg⟩:=hm f hf;exact⟨g,hg,congrArg Frag.vec eg⟩
 have hl:c'.length=c.length:=by have:=congrArg List.length e;rwa [List.length_map,List.length_map]at this
 refine⟨⟨hc,⟨fun f hf=>(hc.at f hf).2.2.1,fun f hf=>?_,fun f hf p hp=>?_⟩,by rw[tot_frag,e,← tot_frag];exact h.tot,by rw[hl];exact h.len,hw⟩,e,(weN_same hc h.can hw h.words e).1⟩
 ·obtain⟨g,hg,eg⟩:=hv f hf
  have:=congrArg List.length eg;simp only[FV.es,List.length_map]at this;rw[← this];exact h.bnd.vec g hg
 ·obtain⟨g,hg,eg⟩:=hv f hf
  have h1:p.1∈f.es:=List.mem_map_of_mem hp;rw[← eg]at h1;obtain⟨q,hq,eq⟩:=List.mem_map.1 h1;rw[← eq];exact h.bnd.hs g hg q hq
theorem can_small{v:Value}{l:List FV}{w:World}(h:KOk w v l 240 396 240) :
  Calls Tryz.prog 11 #[v] w fun e w'=>∃v' c,e=.returned v'∧KRow w' w.heap.size v' c∧SmallC c∧(∀x r k,KnK (c.map FV.frag) x r k↔KnK (l.map FV.frag) x r k)∧Below w.heap.size w w':=by
 obtain⟨hE,hn,⟨V,A,N,hO,hN,v1,v2,v3,v4⟩,ht,hl⟩:=h;have hV:V≤1000000:=Nat.le_trans (Nat.le_mul_of_pos_left _ (Nat.succ_pos N)) v1;have hA:A+3≤1000000:=Nat.le_trans (Nat.le_mul_of_pos_left _ (Nat.succ_pos N)) v2;refine(canon_any v l 1000000 V A N w hE hO (Nat.le_refl _) (by omega) (by omega) hV (by omega) hN (by omega) (by omega)).mono ?_;rintro e w' ⟨v',c,rfl,h⟩;have hw:=know_words h.row.know;exact⟨v',c,rfl,h.row,⟨h.can,⟨h.bnd.can,fun f hf=>Nat.le_trans (h.bnd.vec f hf) v3,fun f hf p hp=>by have:=h.bnd.hs f hf p hp;omega⟩,by have:=h.tot;omega,by have:=h.len;omega,hw⟩,h.kn,h.bl⟩
theorem small_encode{v:Value}{c:List FV}{b:Nat}{w:World}(h:KRow w b v c)(hS:SmallC c) :
  Calls Tryz.prog 13 #[v] w fun e w'=>∃vb,e=.returned (.tuple #[vb,.nilIface])∧OwnB w' w.heap.size vb (joinB (weN c))∧Below w.heap.size w w':=by
 have hk:KOk w v c 240 405 481:=⟨h.know,h.nilOk,⟨240,402,1,⟨fun f hf=>(hS.can.at f hf).1,fun f hf=>CanV.right (CanW.v (hS.can.at f hf).2.2.1),fun f hf=>by have h1:=z4f hf;have h2:=hS.tot;omega,fun f hf=>hS.bnd.vec f hf,fun f hf=>hS.bnd.hs f hf⟩,selI_one hS.can.apart',by omega,by omega,by omega,by omega⟩,hS.tot,hS.len⟩;obtain⟨T,V,A,K⟩:=wenc_kok hk (by decide) (by decide) (by decide) (fun l' h1 h2=>by
  have hs:=(hS.same h1 h2).1;exact small_enc hs.bnd hs.tot hs.len)
 refine K.mono ?_;rintro e w' ⟨vb,l',rfl,h1,h2,_,_,hO,hb⟩;rw[(hS.same h1 h2).2.2]at hO;exact⟨vb,rfl,hO,hb⟩
theorem any_encode{v:Value}{l:List FV}{w:World}(h:KOk w v l 240 396 240) :
  Calls Tryz.prog 13 #[v] w fun e w'=>∃vb c,e=.returned (.tuple #[vb,.nilIface])∧SmallC c∧(∀x r k,KnK (c.map FV.frag) x r k↔KnK (l.map FV.frag) x r k)∧OwnB w' w.heap.size vb (joinB (weN c))∧Below w.heap.size w w':=by
 obtain⟨hE,hn,⟨V,A,N,hO,hN,v1,v2,v3,v4⟩,ht,hl⟩:=h;have hV:V≤1000000:=Nat.le_trans (Nat.le_mul_of_pos_left _ (Nat.succ_pos N)) v1;have hA:A+3≤1000000:=Nat.le_trans (Nat.le_mul_of_pos_left _ (Nat.succ_pos N)) v2;have hsm:∀c,CanL c→(∀x r k,KnK (c.map FV.frag) x r k↔KnK (l.map FV.frag) x r k)→totI c≤1+2 * totI l→VecB c (N * V) (N * (A+3))→SmallC c:=fun c h1 h2 h3 h4=>by
  refine⟨h1,⟨h4.can,fun f hf=>Nat.le_trans (h4.vec f hf) v3,fun f hf p hp=>by have:=h4.hs f hf p hp;omega⟩,by omega,Nat.le_trans (can_len h1) (by omega),fun f hf=>?_⟩;have hwx:∀x,InL f.items x→Word x:=fun x hx=>by
   obtain⟨g1,g2,g3,g4⟩:=h1.at f hf;obtain⟨r,k,hrk⟩:=g3.ne_nil g4;obtain⟨g,hg,hgx,_⟩:=(h2 x r k).1 ⟨f.frag,List.mem_map_of_mem hf,hx,hrk⟩;obtain⟨g',hg',rfl⟩:=List.mem_map.1 hg;exact z57 hE g' hg' x hgx
  intro z hz;have hle:=seg_apart.cor_le (h1.at f hf).1 hz;exact⟨hwx _ ⟨z,hz,Int.le_refl _,hle⟩,hwx _ ⟨z,hz,hle,Int.le_refl _⟩⟩
 refine(wenc_any v l 1000000 V A N w hE hO (Nat.le_refl _) (by omega) (by omega) hV (by omega) hN (by omega) (by omega) (fun c h1 h2 h3 h4=>by
  have hs:=hsm c h1 h2 h3 h4;exact small_enc hs.bnd hs.tot hs.len)).mono ?_
 rintro e w' ⟨vb,c,rfl,h1,h2,h3,h4,hO,hb⟩;exact⟨vb,c,rfl,hsm c h1 h2 h3 h4,h2,hO,hb⟩
theorem run_small{lm:Lim}{c:List FV}(hS:SmallC c)(hF:FitW lm (esL c) (segL c))(post:List Int)(hp:post.length≤1000) :
  RunW lm 0 (joinB (weN c) ++ post) WS0 0 (if post=[] then .ok (c.map FV.frag)else .error (11,((joinB (weN c)).length:Nat))):=by
 obtain⟨h1,h2⟩:=segs_can hS.can hS.words;obtain⟨n1,n2⟩:=hS.nums;have hj:=z12 (weN c);have:=run_canW h1 hF n2 post (by rw[← weN_eq];omega);rw[h2,← weN_eq]at this;exact this
theorem small_fit{c:List FV}(hS:SmallC c):FitW lmU (esL c) (segL c):=by
 obtain⟨_,n⟩:=hS.nums;have e:lmU=⟨9223372036854775807,9223372036854775807,9223372036854775807,9223372036854775807,9223372036854775807⟩:=rfl;rw[e];exact⟨by have:=n.ve;simp only;omega,fun v hv=>by have:=n.en v hv;simp only;omega,fun v hv f hf=>by have:=n.ho v hv f hf;simp only;omega,by have:=n.se;simp only;omega⟩
theorem least1_any(vi:Value)(a:Option Addr)(n c:Nat)(w:World) :
  Calls Tryz.prog 49 #[.agg #[vi,.slice a n c]] w fun e w'=>e=.returned (.int .i64 n)∧Below w.heap.size w w':=by
 go_enter Tryz.func49,Tryz.ntmps49
 go_wp2
 go_ret
 exact⟨rfl,zc (Below.refl _ _) _⟩
theorem least3_any(x y:Int)(a:Option Addr)(n c:Nat)(w:World) :
  Calls Tryz.prog 52 #[.agg #[.int .u64 x,.int .u64 y,.slice a n c]] w fun e w'=>e=.returned (.int .i64 n)∧Below w.heap.size w w':=by
 go_enter Tryz.func52,Tryz.ntmps52
 go_wp2
 go_ret
 exact⟨rfl,zc (Below.refl _ _) _⟩
theorem greatE_any(a:Option Addr)(len cap:Nat)(l:List EV)(w:World)(hE:EntsAt w a len l)(hs:∀p∈l,p.1.hs.length≤1000000)(hlen:len≤1000000000) :
  Calls Tryz.prog 51 #[.slice a len cap,.func (.func 52) #[] #[]] w fun e w'=>e=.returned (.int .i64 (topN (l.map fun p=>p.1.hs.length):Nat))∧Below w.heap.size w w':=by
 have H:=z7 hE;have HS:=z7 hs;have hl:=z7 hE.length;clear hE hs;go_enter Tryz.func51,Tryz.ntmps51
 go_wp2
 go_loopw [5,10] (fun o i wr=>∃k t:Nat,k≤len∧i=.int .i64 k∧o=.int .i64 t∧t=topN ((l.take k).map fun p=>p.1.hs.length)∧Below w.heap.size w wr) (fun _ i _=>len-(intOf i).toNat)
 case atStart=>exact⟨0,0,Nat.zero_le _,rfl,rfl,rfl,Below.refl _ _⟩
 case round=>
  obtain⟨k,t,hk,rfl,rfl,ht,hb⟩:=hrel;have HT:=z7 ht;have HB:=z7 hb;clear ht;have i0:(0:Int)≤(k:Int):=by omega
  by_cases hlt:k<len
  ·have i1:(k:Int)<(len:Int):=by omega
   have Hr:=H.out.below hb;obtain⟨b,off,rfl,hbl,hc1,hc2,hc3⟩:=Hr.cells k hlt;have hmem:=H.out.mem hlt;obtain⟨av,cv,ev,_⟩:=(Hr.holes _ hmem).at';have hsm:=HS.out _ hmem;have HN:=z7 (topN_take (fun p:EV=>p.1.hs.length) l (k:=k) (z:=EV.z) (by rw[hl.out];exact hlt));obtain⟨p,ep⟩:∃p,l.getD k EV.z=p:=⟨_,rfl⟩;rw[ep]at hc1 hc2 hc3 ev hsm HN;obtain⟨⟨x,y,zs⟩,hv⟩:=p;simp only at hc1 hc2 hc3 ev hsm HN;subst ev;obtain⟨m,em⟩:∃m,zs.length=m:=⟨_,rfl⟩;rw[em]at hc3 hsm HN;have n9:(wr.alloc (.cells #[.int .u64 x,.int .u64 y,.slice av m cv] 96)).heap[wr.heap.size]?=some (.cells #[.int .u64 x,.int .u64 y,.slice av m cv] 96 (0,0)):=ze _ _ rfl;have BA:=z7 (zc (Below.refl wr.heap.size wr) (.cells #[.int .u64 x,.int .u64 y,.slice av m cv] 96));have KC:=z7 (fun W=>least3_any x y av m cv W);clear hbl Hr hmem em ep;go_wp2_with fail
   refine(KC.out _).mono ?_;rintro e w5 ⟨rfl,hb5⟩;have B5:=z7 (HB.out.trans ((BA.out.trans (hb5.mono (by simp))).mono HB.out.size));clear hb5 hb;go_wp2
   go_roundw
   case rel=>exact⟨k+1,max t m,by omega,by go_num,by go_num,by rw[HN.out,← HT.out],B5.out⟩
   case measure=>simp[intOf];omega
  ·obtain rfl:len=k:=by omega
   have HF:=z7 (show t=topN (l.map fun p=>p.1.hs.length)from by rw[HT.out,← hl.out,List.take_length]);go_wp2
   go_ret
   exact⟨by rw[HF.out];rfl,HB.out⟩
theorem least2_any(vi:Value)(a:Option Addr)(n c:Nat)(l:List EV)(w:World)(hE:EntsAt w a n l)(hs:∀p∈l,p.1.hs.length≤1000000)(hlen:n≤1000000000) :
  Calls Tryz.prog 50 #[.agg #[vi,.slice a n c]] w fun e w'=>e=.returned (.int .i64 (topN (l.map fun p=>p.1.hs.length):Nat))∧Below w.heap.size w w':=by
 have BA:=z7 (zc (Below.refl w.heap.size w) (.cells #[vi,.slice a n c] 80));have KG:=z7 (greatE_any a n c l _ (hE.below BA.out) hs hlen);obtain⟨t,et⟩:∃t,topN (l.map fun p=>p.1.hs.length)=t:=⟨_,rfl⟩;rw[et]at KG ⊢;clear hE hs et;go_enter Tryz.func50,Tryz.ntmps50
 go_wp2_with fail
 refine KG.out.mono ?_;rintro e w5 ⟨rfl,hb5⟩;have B5:=z7 (BA.out.trans (hb5.mono (by simp)));clear hb5;go_wp2
 go_ret
 exact⟨rfl,B5.out⟩
theorem greatF1_any(F:FV→Nat)(a:Option Addr)(len cap:Nat)(l:List FV)(w:World)(hE:KnowAt w a len l)(hlen:len≤1000000000)
  (KG:∀f∈l,∀W,Below w.heap.size w W→Calls Tryz.prog 49 #[.agg #[f.iv,f.vv]] W fun e w'=>e=.returned (.int .i64 (F f:Nat))∧Below W.heap.size W w') :
  Calls Tryz.prog 48 #[.slice a len cap,.func (.func 49) #[] #[]] w fun e w'=>e=.returned (.int .i64 (topN (l.map F):Nat))∧Below w.heap.size w w':=by
 have H:=z7 hE;have KG:=z7 KG;have hl:=z7 hE.length;clear hE;go_enter Tryz.func48,Tryz.ntmps48
 go_wp2
 go_loopw [5,10] (fun o i wr=>∃k t:Nat,k≤len∧i=.int .i64 k∧o=.int .i64 t∧t=topN ((l.take k).map F)∧Below w.heap.size w wr) (fun _ i _=>len-(intOf i).toNat)
 case atStart=>exact⟨0,0,Nat.zero_le _,rfl,rfl,rfl,Below.refl _ _⟩
 case round=>
  obtain⟨k,t,hk,rfl,rfl,ht,hb⟩:=hrel;have HT:=z7 ht;have HB:=z7 hb;clear ht;have i0:(0:Int)≤(k:Int):=by omega
  by_cases hlt:k<len
  ·have i1:(k:Int)<(len:Int):=by omega
   have Hr:=H.out.below hb;obtain⟨b,off,rfl,hbl,hc1,hc2⟩:=Hr.cells k hlt;have hmem:=H.out.mem hlt;have hfr:=Hr.frags _ hmem;have hK:=KG.out _ hmem;have HN:=z7 (topN_take F l (k:=k) (z:=FV.z) (by rw[hl.out];exact hlt));obtain⟨p,ep⟩:∃p,l.getD k FV.z=p:=⟨_,rfl⟩;rw[ep]at hc1 hc2 hfr HN hK;obtain⟨ai,ci,ei,_⟩:=hfr.items;obtain⟨av,cv,ev,_⟩:=hfr.vec;obtain⟨m,em⟩:∃m,F p=m:=⟨_,rfl⟩;rw[em]at HN hK;rw[ei,ev]at hK;rw[ei]at hc1;rw[ev]at hc2;obtain⟨n1,en1⟩:∃n1,p.items.length=n1:=⟨_,rfl⟩;obtain⟨n2,en2⟩:∃n2,p.vec.length=n2:=⟨_,rfl⟩;rw[en1]at hK hc1;rw[en2]at hK hc2;have BA:=z7 (zc (Below.refl wr.heap.size wr) (.cells #[.slice ai n1 ci,.slice av n2 cv] 80));have n9:(wr.alloc (.cells #[.slice ai n1 ci,.slice av n2 cv] 80)).heap[wr.heap.size]?=some (.cells #[.slice ai n1 ci,.slice av n2 cv] 80 (0,0)):=ze _ _ rfl;have KC:=z7 (hK _ (HB.out.trans (BA.out.mono HB.out.size)));clear hbl Hr hmem em ep hfr hK ei ev en1 en2;go_wp2_with fail
   refine KC.out.mono ?_;rintro e w5 ⟨rfl,hb5⟩;have B5:=z7 (HB.out.trans ((BA.out.trans (hb5.mono (by simp))).mono HB.out.size));clear hb5 hb;go_wp2
   go_roundw
   case rel=>exact⟨k+1,max t m,by omega,by go_num,by go_num,by rw[HN.out,← HT.out],B5.out⟩
   case measure=>simp[intOf];omega
  ·obtain rfl:len=k:=by omega
   have HF:=z7 (show t=topN (l.map F)from by rw[HT.out,← hl.out,List.take_length]);go_wp2
   go_ret
   exact⟨by rw[HF.out];rfl,HB.out⟩
theorem greatF2_any(F:FV→Nat)(a:Option Addr)(len cap:Nat)(l:List FV)(w:World)(hE:KnowAt w a len l)(hlen:len≤1000000000)
  (KG:∀f∈l,∀W,Below w.heap.size w W→Calls Tryz.prog 50 #[.agg #[f.iv,f.vv]] W fun e w'=>e=.returned (.int .i64 (F f:Nat))∧Below W.heap.size W w') :
  Calls Tryz.prog 48 #[.slice a len cap,.func (.func 50) #[] #[]] w fun e w'=>e=.returned (.int .i64 (topN (l.map F):Nat))∧Below w.heap.size w w':=by
 have H:=z7 hE;have KG:=z7 KG;have hl:=z7 hE.length;clear hE;go_enter Tryz.func48,Tryz.ntmps48
 go_wp2
 go_loopw [5,10] (fun o i wr=>∃k t:Nat,k≤len∧i=.int .i64 k∧o=.int .i64 t∧t=topN ((l.take k).map F)∧Below w.heap.size w wr) (fun _ i _=>len-(intOf i).toNat)
 case atStart=>exact⟨0,0,Nat.zero_le _,rfl,rfl,rfl,Below.refl _ _⟩
 case round=>
  obtain⟨k,t,hk,rfl,rfl,ht,hb⟩:=hrel;have HT:=z7 ht;have HB:=z7 hb;clear ht;have i0:(0:Int)≤(k:Int):=by omega
  by_cases hlt:k<len
  ·have i1:(k:Int)<(len:Int):=by omega
   have Hr:=H.out.below hb;obtain⟨b,off,rfl,hbl,hc1,hc2⟩:=Hr.cells k hlt;have hmem:=H.out.mem hlt;have hfr:=Hr.frags _ hmem;have hK:=KG.out _ hmem;have HN:=z7 (topN_take F l (k:=k) (z:=FV.z) (by rw[hl.out];exact hlt));obtain⟨p,ep⟩:∃p,l.getD k FV.z=p:=⟨_,rfl⟩;rw[ep]at hc1 hc2 hfr HN hK;obtain⟨ai,ci,ei,_⟩:=hfr.items;obtain⟨av,cv,ev,_⟩:=hfr.vec;obtain⟨m,em⟩:∃m,F p=m:=⟨_,rfl⟩;rw[em]at HN hK;rw[ei,ev]at hK;rw[ei]at hc1;rw[ev]at hc2;obtain⟨n1,en1⟩:∃n1,p.items.length=n1:=⟨_,rfl⟩;obtain⟨n2,en2⟩:∃n2,p.vec.length=n2:=⟨_,rfl⟩;rw[en1]at hK hc1;rw[en2]at hK hc2;have BA:=z7 (zc (Below.refl wr.heap.size wr) (.cells #[.slice ai n1 ci,.slice av n2 cv] 80));have n9:(wr.alloc (.cells #[.slice ai n1 ci,.slice av n2 cv] 80)).heap[wr.heap.size]?=some (.cells #[.slice ai n1 ci,.slice av n2 cv] 80 (0,0)):=ze _ _ rfl;have KC:=z7 (hK _ (HB.out.trans (BA.out.mono HB.out.size)));clear hbl Hr hmem em ep hfr hK ei ev en1 en2;go_wp2_with fail
   refine KC.out.mono ?_;rintro e w5 ⟨rfl,hb5⟩;have B5:=z7 (HB.out.trans ((BA.out.trans (hb5.mono (by simp))).mono HB.out.size));clear hb5 hb;go_wp2
   go_roundw
   case rel=>exact⟨k+1,max t m,by omega,by go_num,by go_num,by rw[HN.out,← HT.out],B5.out⟩
   case measure=>simp[intOf];omega
  ·obtain rfl:len=k:=by omega
   have HF:=z7 (show t=topN (l.map F)from by rw[HT.out,← hl.out,List.take_length]);go_wp2
   go_ret
   exact⟨by rw[HF.out];rfl,HB.out⟩
def entN (l:List FV):Nat:=topN (l.map fun f=>f.vec.length)
def holN (l:List FV):Nat:=topN (l.map fun f=>topN (f.vec.map fun p=>p.1.hs.length))
def leastLm (c:List FV):Lim:=⟨((joinB (weN c)).length:Nat),(c.length:Nat),(entN c:Nat),(holN c:Nat),((segZ c).length:Nat)⟩
theorem least_any(v:Value)(l:List FV)(w:World)(h:KOk w v l 240 396 240) :
  Calls Tryz.prog 15 #[v] w fun e w'=>∃c,SmallC c∧(∀x r k,KnK (c.map FV.frag) x r k↔KnK (l.map FV.frag) x r k)∧e=.returned (.tuple #[limV (leastLm c),.nilIface])∧Below w.heap.size w w':=by
 obtain⟨a,cap,rfl⟩:=h.slice;have H:=z7 h;obtain⟨w1,ew1⟩:∃w1,w.alloc (.cells #[.int .i64 0,.int .i64 0,.int .i64 0,.int .i64 0,.int .i64 0] 38)=w1:=⟨_,rfl⟩;have b1:Below w.heap.size w w1:=by rw[← ew1];exact zc (Below.refl _ _) _
 have q1:w1.heap[w.heap.size]?=some (.cells #[.int .i64 0,.int .i64 0,.int .i64 0,.int .i64 0,.int .i64 0] 38 (0,0)):=by rw[← ew1];exact ze _ _ rfl
 have hcr:(∀f∈l,Cor f.items)∧(∀f∈l,RightV (f.vec.map (·.1)))∧∀f∈l,f.items.length≤1000000:=by
  obtain⟨V,A,N,hO,_⟩:=h.bnd;exact⟨hO.cor,hO.right,hO.items⟩
 have KC:=z7 (z4c (.slice a l.length cap) l w1 (h.at'.below b1) hcr.1 hcr.2.1 (by have:=h.len;omega));have KN:=z7 (fun W (hb:Below w.heap.size w W)=>can_small (h.below hb));have B1:=z7 b1;have Q1:=z7 q1;obtain⟨n,en⟩:∃n,l.length=n:=⟨_,rfl⟩;rw[en]at KC KN;rw[en];clear h hcr en b1 q1;go_enter Tryz.func15,Tryz.ntmps15
 go_wp2_with fail
 clear ew1;refine KC.out.mono ?_;rintro e w2 ⟨rfl,hb2⟩;have B2:=z7 (B1.out.trans (hb2.mono B1.out.size));have Q2:=z7 ((hb2.block _ (zh Q1.out)).trans Q1.out);clear hb2;go_wp2_with fail
 refine(KN.out _ B2.out).mono ?_;rintro e w3 ⟨vc,c,rfl,hR,hS,hk,hb3⟩;have B3:=z7 (B2.out.trans (hb3.mono B2.out.size));have Q3:=z7 ((hb3.block _ (zh Q2.out)).trans Q2.out);have HS:=z7 hS;have HK:=z7 hk;have KS:=z7 (segs_any vc c _ w3 hR (fun f hf=>(hS.can.at f hf).1) hS.can.apart' (by have:=hS.tot;omega) (by have:=hS.len;omega));have HR:=z7 hR;obtain⟨ac,cc,evc,hKn,_⟩:=hR.know;subst evc;have KE:=z7 (fun W (hb:Below w3.heap.size w3 W)=>small_encode (hR.below hb) hS);have KG1:=z7 (fun W (hb:Below w3.heap.size w3 W)=>greatF1_any (fun f=>f.vec.length) ac c.length cc c W (hKn.below hb) (by have:=hS.len;omega) (fun f hf W' hb'=>by
  obtain⟨av,cv,ev,_⟩:=((hKn.below hb).frags f hf).vec;rw[ev];exact least1_any _ _ _ _ W'))
 have KG2:=z7 (fun W (hb:Below w3.heap.size w3 W)=>greatF2_any (fun f=>topN (f.vec.map fun p=>p.1.hs.length)) ac c.length cc c W (hKn.below hb) (by have:=hS.len;omega) (fun f hf W' hb'=>by
  obtain⟨av,cv,ev,hEn,_⟩:=(((hKn.below hb).frags f hf).below hb').vec;rw[ev];exact least2_any _ _ _ _ _ W' hEn.at' (fun p hp=>by have:=hS.bnd.hs f hf p hp;omega) (by have:=hS.bnd.vec f hf;omega)))
 obtain⟨m,em⟩:∃m,c.length=m:=⟨_,rfl⟩;have EM:=z7 em;rw[em]at KS KE KG1 KG2;rw[em];clear hR hS hk hKn hb3 em;go_wp2_with fail
 refine KS.out.mono ?_;rintro e w4 ⟨vl,vi,rfl,hL,hJ,hb4⟩;have B34:=z7 hb4;have Q4:=z7 ((hb4.block _ (zh Q3.out)).trans Q3.out);obtain⟨al,cl,evl,_⟩:=hL.prs;subst evl;obtain⟨nz,enz⟩:∃nz,(segZ c).length=nz:=⟨_,rfl⟩;have ENZ:=z7 enz;rw[enz];clear hL hJ hb4 enz;go_wp2_with fail
 refine(KE.out _ B34.out).mono ?_;rintro e w5 ⟨vb,rfl,hO,hb5⟩;have B35:=z7 (B34.out.trans (hb5.mono B34.out.size));have Q5:=z7 ((hb5.block _ (zh Q4.out)).trans Q4.out);obtain⟨ab,cb,evb,_⟩:=hO.ints (by have:=z12 (weN c);have:=(HS.out.nums).1;omega);subst evb;obtain⟨nb,enb⟩:∃nb,(joinB (weN c)).length=nb:=⟨_,rfl⟩;have ENB:=z7 enb;rw[enb];clear hO hb5 enb;go_wp2_with fail
 refine(KG1.out _ B35.out).mono ?_;rintro e w6 ⟨rfl,hb6⟩;have B36:=z7 (B35.out.trans (hb6.mono B35.out.size));have Q6:=z7 ((hb6.block _ (zh Q5.out)).trans Q5.out);obtain⟨g1,eg1⟩:∃g1,entN c=g1:=⟨_,rfl⟩;have EG1:=z7 eg1;rw[show topN (c.map fun f=>f.vec.length)=g1 from eg1];clear hb6 eg1;go_wp2_with fail
 refine(KG2.out _ B36.out).mono ?_;rintro e w7 ⟨rfl,hb7⟩;have B37:=z7 (B36.out.trans (hb7.mono B36.out.size));have q7:=(hb7.block _ (zh Q6.out)).trans Q6.out;obtain⟨g2,eg2⟩:∃g2,holN c=g2:=⟨_,rfl⟩;have EG2:=z7 eg2;rw[show topN (c.map fun f=>topN (f.vec.map fun p=>p.1.hs.length))=g2 from eg2];clear hb7 eg2;have k0:w7.cell? ⟨w.heap.size,0,none⟩=some (.int .i64 0):=by simp[World.cell?,q7]
 have k1:w7.cell? ⟨w.heap.size,1,none⟩=some (.int .i64 0):=by simp[World.cell?,q7]
 have k2:w7.cell? ⟨w.heap.size,2,none⟩=some (.int .i64 0):=by simp[World.cell?,q7]
 have k3:w7.cell? ⟨w.heap.size,3,none⟩=some (.int .i64 0):=by simp[World.cell?,q7]
 have k4:w7.cell? ⟨w.heap.size,4,none⟩=some (.int .i64 0):=by simp[World.cell?,q7]
 have f0:∀j,w7.frozen? ⟨w.heap.size,j,none⟩=false:=by intro j;simp[World.frozen?,q7]
 have e0:=z7 (heap_setCell_same _ _ 4 _ _ (.int .i64 (nz:Nat)) (heap_setCell_same _ _ 3 _ _ (.int .i64 (g2:Nat)) (heap_setCell_same _ _ 2 _ _ (.int .i64 (g1:Nat)) (heap_setCell_same _ _ 1 _ _ (.int .i64 (m:Nat)) (heap_setCell_same _ _ 0 _ _ (.int .i64 (nb:Nat)) q7)))));have BL:=z7 (fun(a b c d e:Value)=>show Below w.heap.size w (((((w7.setCell ⟨w.heap.size,0,none⟩ a).setCell ⟨w.heap.size,1,none⟩ b).setCell ⟨w.heap.size,2,none⟩ c).setCell ⟨w.heap.size,3,none⟩ d).setCell ⟨w.heap.size,4,none⟩ e)from(z1u (z1u (z1u (z1u (z1u (B3.out.trans (B37.out.mono B3.out.size)) (p:=⟨w.heap.size,0,none⟩) (Nat.le_refl _) _) (p:=⟨w.heap.size,1,none⟩) (Nat.le_refl _) _) (p:=⟨w.heap.size,2,none⟩) (Nat.le_refl _) _) (p:=⟨w.heap.size,3,none⟩) (Nat.le_refl _) _) (p:=⟨w.heap.size,4,none⟩) (Nat.le_refl _) _));clear q7;go_wp2
 have e0:=e0.out;exact bodyPost_ret (v:=.tuple #[.agg #[.int .i64 (nb:Nat),.int .i64 (m:Nat),.int .i64 (g1:Nat),.int .i64 (g2:Nat),.int .i64 (nz:Nat)],.nilIface]) (by simp[results,Tryz.results15,go_sem,World.cell?,e0]) rfl ⟨c,HS.out,HK.out,by unfold limV leastLm;rw[ENB.out,EM.out,EG1.out,EG2.out,ENZ.out],BL.out _ _ _ _ _⟩
theorem withinR_ok{b:Nat}{k:List Frag}{e:Ending}{w:World}(h:withinR b (.ok k) e w):∃v l,e=.returned (.tuple #[v,.nilIface])∧KRow w b v l∧l.map FV.frag=k:=by
 obtain⟨v,e,l,h1,h2⟩:=h;exact⟨v,l,e,h1,h2⟩
theorem decode_any(p:Option Addr)(len cap:Nat)(zs:List Int)(o:Except (Int×Int) (List Frag))(w:World)(hg:Laid w)(h:Ints .u8 w p len zs)(hcap:len≤cap)(hlen:len≤4000000000)(hr:RunW lmU 0 zs WS0 0 o) :
  Calls Tryz.prog 14 #[.slice p len cap] w fun e w'=>Below w.heap.size w w'∧withinR w.heap.size o e w':=by
 have LAID:=z7 hg;have INTS:=z7 h;have RUN:=z7 hr;clear hg h hr;go_enter Tryz.func14,Tryz.ntmps14
 go_wp2_with fail
 refine(z5c _).mono ?_;rintro e w1 ⟨rfl,hb1⟩;have KW:=z7 (wwithin_any p len cap zs lmU lmU_w lmU_w2 o w1 (LAID.out.below hb1) (INTS.out.below hb1) hcap hlen RUN.out);have B1:=z7 hb1;clear hb1;go_wp2_with fail
 refine KW.out.mono ?_;rintro e w2 ⟨hb2,hR⟩;have B2:=z7 (B1.out.trans (hb2.mono B1.out.size));clear hb2;clear RUN KW
 cases o with
 | error p=>
   obtain⟨c,a⟩:=p;obtain rfl:=hR;go_wp2
   go_ret2
   exact⟨B2.out,rfl⟩
 | ok k=>
   obtain⟨v,l,rfl,h1,h2⟩:=withinR_ok hR;have H1:=z7 (h1.base B1.out.size);have H2:=z7 h2;clear hR h1 h2;go_wp2
   go_ret2
   exact⟨B2.out,v,rfl,l,H1.out,H2.out⟩
theorem least_fit{c:List FV}(hS:SmallC c):FitW (leastLm c) (esL c) (segL c)∧LimW (leastLm c)∧LimW2 (leastLm c):=by
 obtain⟨_,n⟩:=hS.nums;have hE:(esL c).length=c.length:=by unfold esL;rw[List.length_map]
 have e1:entN c≤240:=topN_le fun m hm=>by
  obtain⟨f,hf,rfl⟩:=List.mem_map.1 hm;exact hS.bnd.vec f hf
 have e2:holN c≤402:=topN_le fun m hm=>by
  obtain⟨f,hf,rfl⟩:=List.mem_map.1 hm;exact topN_le fun m hm=>by
   obtain⟨p,hp,rfl⟩:=List.mem_map.1 hm;exact hS.bnd.hs f hf p hp
 have e3:=n.se;have e4:=z3m c;have e5:=hS.len;refine⟨⟨?_,fun v hv=>?_,fun v hv e he=>?_,?_⟩,⟨?_,?_⟩,⟨?_,?_⟩⟩
 ·unfold leastLm;simp only;omega
 ·obtain⟨f,hf,rfl⟩:=List.mem_map.1 hv
  have:f.vec.length≤entN c:=topN_ge (List.mem_map.2 ⟨f,hf,rfl⟩);unfold leastLm;simp only[FV.es,List.length_map];omega
 ·obtain⟨f,hf,rfl⟩:=List.mem_map.1 hv
  obtain⟨p,hp,rfl⟩:=List.mem_map.1 he;have h1:p.1.hs.length≤topN (f.vec.map fun p=>p.1.hs.length):=topN_ge (List.mem_map.2 ⟨p,hp,rfl⟩);have h2:topN (f.vec.map fun p=>p.1.hs.length)≤holN c:=topN_ge (List.mem_map.2 ⟨f,hf,rfl⟩);unfold leastLm;simp only;omega
 ·unfold leastLm;simp only;omega
 all_goals(unfold leastLm;simp only;omega)
end Go.Proofs.YtbkkolfpegplgaaGreatDoor
