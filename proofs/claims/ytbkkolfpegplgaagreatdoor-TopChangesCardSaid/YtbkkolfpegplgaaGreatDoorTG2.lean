import Derived.Test.YtbkkolfpegplgaaGreatDoorTG1
import Derived.Deep.AppendLies
import Derived.Deep.AppendSrc
open List renaming getElem?_cons_succ→PC
namespace Go.Proofs.YtbkkolfpegplgaaGreatDoor
open Go.RowKit
def bB (zs:List Iv):List Value:=zs.flatMap fun z=>[.int .u64 z.1,.int .u64 z.2]
theorem oQ(z:Iv)(zs:List Iv):bB (z :: zs)=.int .u64 z.1 :: .int .u64 z.2 :: bB zs:=rfl
theorem dF(zs ys:List Iv):bB (zs ++ ys)=bB zs ++ bB ys:=by unfold bB;rw[List.flatMap_append]
theorem dD(zs:List Iv):(bB zs).length=zs.length * 2:=by
 induction zs with
 | nil=>rfl
 | cons z zs ih=>rw[oQ];simp only[List.length_cons,ih];omega
theorem mQ(zs:List Iv):∀i,i<zs.length→(bB zs)[i * 2]?=some (.int .u64 (Lo zs i)):=by
 induction zs with
 | nil=>intro i h;simp at h
 | cons z zs ih=>
   intro i h;rw[oQ]
   cases i with
   | zero=>rfl
   | succ i=>
     rw[show(i+1) * 2=i * 2+1+1 by omega,PC,PC,ih i (by simpa using h)];rfl
theorem mR(zs:List Iv):∀i,i<zs.length→(bB zs)[i * 2+1]?=some (.int .u64 (Hi zs i)):=by
 induction zs with
 | nil=>intro i h;simp at h
 | cons z zs ih=>
   intro i h;rw[oQ]
   cases i with
   | zero=>rfl
   | succ i=>
     rw[show(i+1) * 2+1=i * 2+1+1+1 by omega,PC,PC,ih i (by simpa using h)];rfl
theorem kK(zs:List Iv):∀u∈bB zs,u.oneCell'=true:=by
 intro u b;unfold bB at b;rw[List.mem_flatMap]at b;obtain⟨z,_,j⟩:=b;simp at j;rcases j with rfl | rfl<;>rfl
theorem Prs.news{w:World}{b off len:Nat}{zs:List Iv}(h:Prs w (some ⟨b,off,none⟩) len zs):∀j u,(bB zs)[j]?=some u→w.cell? ((⟨b,off,none⟩:Addr).add j)=some u:=by
 intro j u l;have s:=dD zs;have y:=h.length;have p:j<(bB zs).length:=(List.getElem?_eq_some_iff.1 l).1;have r:∀j,(⟨b,off,none⟩:Addr).add j=⟨b,off+j,none⟩:=by
  intro j;unfold Addr.add;split<;>simp_all
 rw[r];obtain⟨z,n,e,_,h1,h2⟩:=h.cells (j / 2) aA;simp only[Option.some.injEq,Addr.mk.injEq]at e;obtain⟨rfl,rfl,_⟩:=e;by_cases hp:j % 2=0
 ·have m:j=j / 2 * 2:=aA;rw[m]at l;rw[mQ zs _ aA]at l;rw[m];have:u=.int .u64 (Lo zs (j / 2)):=by simpa using l.symm
  rw[this];exact h1
 have m:j=j / 2 * 2+1:=aA;rw[m]at l;rw[mR zs _ aA]at l;rw[m];have:u=.int .u64 (Hi zs (j / 2)):=by simpa using l.symm
 rw[this,← Nat.add_assoc];exact h2
structure OwnL (w:World) (base:Nat) (t:TypeId) (v:Value) (zs:List Iv):Prop where
 row:w.ownsRow base t 2 v zs.length (bB zs)
 words:∀z∈zs,aL z.1∧aL z.2
theorem OwnL.prs{w:World}{base:Nat}{t:TypeId}{v:Value}{zs:List Iv}(h:OwnL w base t v zs):∃a cap,v=.slice a zs.length cap∧Prs w a zs.length zs∧zs.length≤cap∧(a=none→cap=0):=by
 rcases h.row.2 with⟨rfl,hn⟩ | ⟨g,cap,cur,rfl,_,hg,hle,hm,hs,ht⟩
 ·rw[hn];exact⟨none,0,rfl,⟨hn,aA,h.words,fun i hi=>absurd hi aA⟩,Nat.le_refl _,fun _=>rfl⟩
 have m:cap≤9223372036854775807:=by unfold maxLen at hm;omega
 refine⟨_,cap,rfl,⟨rfl,aA,h.words,fun i hi=>?_⟩,hle,fun e=>by cases e⟩;have l:=(Array.getElem?_eq_some_iff.1 hg).1;have b:∀j,j<zs.length * 2→w.cell? ⟨g,0+j,none⟩=(bB zs)[j]?:=by
  intro j n;rw[← ht,List.getElem?_take];rw[if_pos n];simp[World.cell?,hg]
 refine⟨g,0,rfl,l,?_,?_⟩
 ·rw[b _ aA];exact mQ zs i hi
 rw[Nat.add_assoc,b _ aA];exact mR zs i hi
theorem fE(w:World)(x y:Value)(t:TypeId):∀j u,[x,y][j]?=some u→(w.alloc (.cells #[x,y] t)).cell? ((⟨w.heap.size,0,none⟩:Addr).add j)=some u:=by
 intro j u b;have l:∀j,(⟨w.heap.size,0,none⟩:Addr).add j=⟨w.heap.size,0+j,none⟩:=by
  intro j;unfold Addr.add;split<;>simp_all
 rw[l];match j,b with
 | 0,b=>simp at b;subst b;simp
 | 1,b=>simp at b;subst b;simp
theorem kZ(x y:Int):∀u∈[Value.int .u64 x,Value.int .u64 y],u.oneCell'=true:=by
 intro u b;simp at b;rcases b with rfl | rfl<;>rfl
theorem gS(zs:List Iv)(x y:Int):bB zs ++ [.int .u64 x,.int .u64 y]=bB (zs ++ [(x,y)]):=by rw[dF];rfl
end Go.Proofs.YtbkkolfpegplgaaGreatDoor
