/- Lists of intervals that the call itself made: a row of its own, that reads as a list. -/
import Derived.Test.YtbkkolfpegplgaaGreatDoorS3G1
import Derived.Deep.AppendLies
import Derived.Deep.AppendSrc
import Derived.ArgAppend
import Derived.Maps.AppendAt
namespace Go.Proofs.YtbkkolfpegplgaaGreatDoor
open Go.RowKit
def cellsL (zs:List Iv):List Value:=zs.flatMap fun z=>[.int .u64 z.1,.int .u64 z.2]
theorem z4k(z:Iv)(zs:List Iv):cellsL (z :: zs)=.int .u64 z.1 :: .int .u64 z.2 :: cellsL zs:=rfl
theorem z26(zs ys:List Iv):cellsL (zs ++ ys)=cellsL zs ++ cellsL ys:=by unfold cellsL;rw[List.flatMap_append]
theorem z1e(zs:List Iv):(cellsL zs).length=zs.length * 2:=by
 induction zs with
 | nil=>rfl
 | cons z zs ih=>rw[z4k];simp only[List.length_cons,ih];omega
theorem z4v(zs:List Iv):∀i,i<zs.length→(cellsL zs)[i * 2]?=some (.int .u64 (Lo zs i)):=by
 induction zs with
 | nil=>intro i h;simp at h
 | cons z zs ih=>
   intro i h;rw[z4k]
   cases i with
   | zero=>rfl
   | succ i=>
     rw[show(i+1) * 2=i * 2+1+1 by omega,List.getElem?_cons_succ,List.getElem?_cons_succ,ih i (by simpa using h)];rfl
theorem z4w(zs:List Iv):∀i,i<zs.length→(cellsL zs)[i * 2+1]?=some (.int .u64 (Hi zs i)):=by
 induction zs with
 | nil=>intro i h;simp at h
 | cons z zs ih=>
   intro i h;rw[z4k]
   cases i with
   | zero=>rfl
   | succ i=>
     rw[show(i+1) * 2+1=i * 2+1+1+1 by omega,List.getElem?_cons_succ,List.getElem?_cons_succ,ih i (by simpa using h)];rfl
theorem cellsL_one(zs:List Iv):∀u∈cellsL zs,u.oneCell'=true:=by
 intro u hu;unfold cellsL at hu;rw[List.mem_flatMap]at hu;obtain⟨z,_,hz⟩:=hu;simp at hz
 rcases hz with rfl | rfl<;>rfl
theorem Prs.news{w:World}{b off len:Nat}{zs:List Iv}(h:Prs w (some ⟨b,off,none⟩) len zs):∀j u,(cellsL zs)[j]?=some u→w.cell? ((⟨b,off,none⟩:Addr).add j)=some u:=by
 intro j u hj;have hl:=z1e zs;have hz:=h.length;have hjl:j<(cellsL zs).length:=(List.getElem?_eq_some_iff.1 hj).1;have ea:∀j,(⟨b,off,none⟩:Addr).add j=⟨b,off+j,none⟩:=by
  intro j;unfold Addr.add;split<;>simp_all
 rw[ea];obtain⟨b',off',e,_,h1,h2⟩:=h.cells (j / 2) (by omega);simp only[Option.some.injEq,Addr.mk.injEq]at e;obtain⟨rfl,rfl,_⟩:=e;by_cases hp:j % 2=0
 ·have ej:j=j / 2 * 2:=by omega
  rw[ej]at hj;rw[z4v zs _ (by omega)]at hj;rw[ej];have:u=.int .u64 (Lo zs (j / 2)):=by simpa using hj.symm
  rw[this];exact h1
 ·have ej:j=j / 2 * 2+1:=by omega
  rw[ej]at hj;rw[z4w zs _ (by omega)]at hj;rw[ej];have:u=.int .u64 (Hi zs (j / 2)):=by simpa using hj.symm
  rw[this,← Nat.add_assoc];exact h2
structure OwnL (w:World) (base:Nat) (t:TypeId) (v:Value) (zs:List Iv):Prop where
 row:w.ownsRow base t 2 v zs.length (cellsL zs)
 words:∀z∈zs,Word z.1∧Word z.2
theorem OwnL.prs{w:World}{base:Nat}{t:TypeId}{v:Value}{zs:List Iv}(h:OwnL w base t v zs):∃a cap,v=.slice a zs.length cap∧Prs w a zs.length zs∧zs.length≤cap∧(a=none→cap=0):=by
 rcases h.row.2 with⟨rfl,hn⟩ | ⟨g,cap,cur,rfl,_,hg,hle,hm,hs,ht⟩
 ·rw[hn]
  exact⟨none,0,rfl,⟨hn,by omega,h.words,fun i hi=>absurd hi (by omega)⟩,Nat.le_refl _,fun _=>rfl⟩
 ·have hmm:cap≤9223372036854775807:=by unfold maxLen at hm;omega
  refine⟨_,cap,rfl,⟨rfl,by omega,h.words,fun i hi=>?_⟩,hle,fun e=>by cases e⟩;have hlt:=(Array.getElem?_eq_some_iff.1 hg).1;have get:∀j,j<zs.length * 2→w.cell? ⟨g,0+j,none⟩=(cellsL zs)[j]?:=by
   intro j hj;rw[← ht,List.getElem?_take];rw[if_pos hj];simp[World.cell?,hg]
  refine⟨g,0,rfl,hlt,?_,?_⟩
  ·rw[get _ (by omega)];exact z4v zs i hi
  ·rw[Nat.add_assoc,get _ (by omega)];exact z4w zs i hi
theorem cell_two_new(w:World)(x y:Value)(t:TypeId):∀j u,[x,y][j]?=some u→(w.alloc (.cells #[x,y] t)).cell? ((⟨w.heap.size,0,none⟩:Addr).add j)=some u:=by
 intro j u hj;have ea:∀j,(⟨w.heap.size,0,none⟩:Addr).add j=⟨w.heap.size,0+j,none⟩:=by
  intro j;unfold Addr.add;split<;>simp_all
 rw[ea];match j,hj with
 | 0,hj=>simp at hj;subst hj;simp
 | 1,hj=>simp at hj;subst hj;simp
theorem two_one(x y:Int):∀u∈[Value.int .u64 x,Value.int .u64 y],u.oneCell'=true:=by
 intro u hu;simp at hu;rcases hu with rfl | rfl<;>rfl
theorem z4l(zs:List Iv)(x y:Int):cellsL zs ++ [.int .u64 x,.int .u64 y]=cellsL (zs ++ [(x,y)]):=by rw[z26];rfl
end Go.Proofs.YtbkkolfpegplgaaGreatDoor
