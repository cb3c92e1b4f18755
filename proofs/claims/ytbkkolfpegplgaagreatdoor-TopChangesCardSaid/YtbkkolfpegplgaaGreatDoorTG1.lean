import Derived.Test.YtbkkolfpegplgaaGreatDoorTK
import Derived.Test.YtbkkolfpegplgaaGreatDoorRows
import Derived.WalkSpells
import Derived.WalkLawsBesides
open Bool renaming false_eq_true→PC,and_eq_true→PD,eq_iff_iff→PE
open Go.IntKind renaming wrap_u64→PF
open Go.RowKit.Below renaming refl→PG,heap_alloc→PH
open Int renaming le_refl→PI
open List renaming getElem?_eq_getElem→PJ,length_cons→PM,getD→PN,length_append→PO,getElem_mem→PQ,filter_cons→PS,drop_succ_cons→PT
open Nat renaming lt_of_lt_of_le→PU,add_sub_cancel→PV,le_refl→PX
open Go.Proofs.Tryz
set_option maxHeartbeats 3200000
set_option maxRecDepth 100000
set_option linter.unusedSimpArgs false
namespace Go.Proofs.YtbkkolfpegplgaaGreatDoor
open Go.RowKit
theorem aI{p:Prop}(h:p):Hid p:=h
def aL (x:Int):Prop:=0≤x∧x<18446744073709551616
def pR (n:Int):Int:=n / 18446744073709551616 % 18446744073709551616
def tH (n:Int):Int:=n % 18446744073709551616
def val (h l:Int):Int:=h * 18446744073709551616+l
def Lq (n:Int):Prop:=0≤n∧n<340282366920938463463374607431768211456
theorem Yd(n:Int):aL (pR n):=by unfold aL pR;omega
theorem Yc(n:Int):aL (tH n):=by unfold aL tH;omega
theorem Ss{n:Int}(h:Lq n):val (pR n) (tH n)=n:=by unfold Lq at h;unfold pR tH val;omega
theorem Sr(l:Int):val 0 l=l:=by unfold val;omega
theorem fT{k:IntKind}{a j:Int}{b l:Bool}(m:a=j)(n:b=l):Ending.returned (.tuple #[.int k a,.bool b])=.returned (.tuple #[.int k j,.bool l]):=by rw[m,n]
theorem Mi{k j:IntKind}{a l b m:Int}(n:a=l)(p:b=m):Ending.returned (.agg #[.int k a,.int j b])=.returned (.agg #[.int k l,.int j m]):=by rw[n,p]
theorem Cv{k:IntKind}{a b:Int}(h:a=b):Ending.returned (.int k a)=.returned (.int k b):=by rw[h]
theorem iC{a b:Bool}(h:a=b):Ending.returned (.bool a)=.returned (.bool b):=by rw[h]
theorem aJ{a w:World}(h:Below a.heap.size a w)(o:Obj):Below a.heap.size a (w.alloc o):=h.alloc h.size o
theorem aS{a w:World}(h:Below a.heap.size a w):Below a.heap.size a w.drew:=h.drew
theorem aU{a w:World}(h:Below a.heap.size a w)(n:Nat):Below a.heap.size a (w.drewN n):=below_drewN h n
theorem aN{a w w1:World}(h:Below a.heap.size a w)(k:Below w.heap.size w w1):Below a.heap.size a w1:=h.trans (k.mono h.size)
theorem fO{a w:World}{p:Addr}(h:Below a.heap.size a w)(b:a.heap.size≤p.block)(u:Value):Below a.heap.size a (w.setCell p u):=h.setCell b u
theorem It{W j:World}(l:Below W.heap.size W j):(∀b o,b<W.heap.size→j.cell? ⟨b,o,none⟩=W.cell? ⟨b,o,none⟩)∧(∀b o,b<W.heap.size→j.frozen? ⟨b,o,none⟩=W.frozen? ⟨b,o,none⟩):=
 ⟨fun b o h=>l.cell (p:=⟨b,o,none⟩) h,fun b o h=>l.frozen (p:=⟨b,o,none⟩) h⟩
theorem aK(w:World)(o:Obj){g:Nat}(h:g=w.heap.size):(w.alloc o).heap[g]?=some o:=by subst h;exact Go.heap_alloc_new w o
theorem aT(w:World)(o:Obj){g:Nat}{x:Obj}(h:g<w.heap.size)(b:w.heap[g]?=some x):(w.alloc o).heap[g]?=some x:=(PH w o g h).trans b
theorem aM{X Y:World}{b i:Nat}{v:Value}(l:Below X.heap.size X Y)(j:b<X.heap.size)(m:X.cell? ⟨b,i,none⟩=some v):Y.cell? ⟨b,i,none⟩=some v:=(l.cell (p:=⟨b,i,none⟩) j).trans m
theorem Di{X Y:World}{n:Nat}(b:Below X.heap.size X Y)(h:n<X.heap.size):n<Y.heap.size:=PU h b.size
theorem aO{w:World}{g:Nat}{o:Obj}(h:w.heap[g]?=some o):g<w.heap.size:=(Array.getElem?_eq_some_iff.1 h).1
structure Ints (k:IntKind) (w:World) (a:Option Addr) (len:Nat) (zs:List Int):Prop where
 length:zs.length=len
 most:len≤9223372036854775807
 wf:∀z∈zs,(Lit.int k z).wf=true
 cells:∀i,i<len→∃b off,a=some ⟨b,off,none⟩∧b<w.heap.size∧w.cell? ⟨b,off+i,none⟩=some (.int k (zs.getD i 0))
theorem Ints.below{k:IntKind}{w l:World}{a:Option Addr}{len:Nat}{zs:List Int}(h:Ints k w a len zs)(m:Below w.heap.size w l):Ints k l a len zs:=
 ⟨h.length,h.most,h.wf,fun i hi=>by
  obtain⟨b,off,e,j,n⟩:=h.cells i hi;exact⟨b,off,e,PU j m.size,(m.cell (p:=⟨b,off+i,none⟩) j).trans n⟩⟩
theorem Ints.getD_wf{k:IntKind}{w:World}{a:Option Addr}{len:Nat}{zs:List Int}(h:Ints k w a len zs){i:Nat}(hi:i<len):(Lit.int k (zs.getD i 0)).wf=true:=by
 have b:=h.length;have e:zs.getD i 0=zs[i]' aA:=by simp[PN,PJ (show i<zs.length by omega)]
 rw[e];exact h.wf _ (PQ _)
theorem oL{k:IntKind}{w:World}{base:Nat}{e:TypeId}{v:Value}{n:Nat}{zs:List Int}(h:w.ownsRow base e 1 v n (zs.map (Value.int k)))(j:n≤9223372036854775807)(l:∀z∈zs,(Lit.int k z).wf=true) :
  ∃a cap,v=.slice a n cap∧n≤cap∧cap≤9223372036854775807∧Ints k w a n zs:=by
 obtain⟨b,h⟩:=h;simp at b;rcases h with⟨rfl,rfl⟩ | ⟨g,cap,cur,rfl,hb,hg,hnc,hcm,hcs,hx⟩
 ·exact⟨none,0,rfl,PX _,aA,b,j,l,fun i hi=>absurd hi aA⟩
 refine⟨_,cap,rfl,hnc,by unfold maxLen at hcm;omega,b,j,l,fun i hi=>⟨g,0,rfl,aO hg,?_⟩⟩;rw[cell_of_row _ _ _ _ _ _ hg,Nat.zero_add];have m:(cur.toList.take (n * 1))[i]?=cur[i]?:=by simp[hi]
 rw[← m,hx,List.getElem?_map];simp[PN,PJ (show i<zs.length by omega)]
theorem jV{x:Int}(h:(Lit.int .u64 x).wf=true):aL x:=by
 simp[Lit.wf,IntKind.min,IntKind.max,IntKind.signed,IntKind.bits]at h;exact⟨aA,aA⟩
abbrev Iv:=Int×Int
def Lo (zs:List Iv) (i:Nat):Int:=(zs.getD i (0,0)).1
def Hi (zs:List Iv) (i:Nat):Int:=(zs.getD i (0,0)).2
structure Prs (w:World) (a:Option Addr) (len:Nat) (zs:List Iv):Prop where
 length:zs.length=len
 most:len≤9223372036854775807
 words:∀z∈zs,aL z.1∧aL z.2
 cells:∀i,i<len→∃b off,a=some ⟨b,off,none⟩∧b<w.heap.size∧w.cell? ⟨b,off+i * 2,none⟩=some (.int .u64 (Lo zs i))∧w.cell? ⟨b,off+i * 2+1,none⟩=some (.int .u64 (Hi zs i))
theorem Prs.below{w m:World}{a:Option Addr}{len:Nat}{zs:List Iv}(h:Prs w a len zs)(l:Below w.heap.size w m):Prs m a len zs:=
 ⟨h.length,h.most,h.words,fun i hi=>by
  obtain⟨b,off,e,j,h1,h2⟩:=h.cells i hi;exact⟨b,off,e,PU j l.size,aM l j h1,aM l j h2⟩⟩
theorem Prs.word{w:World}{a:Option Addr}{len:Nat}{zs:List Iv}(h:Prs w a len zs){i:Nat}(hi:i<len):aL (Lo zs i)∧aL (Hi zs i):=by
 have b:=h.length;have e:zs.getD i (0,0)=zs[i]' aA:=by simp[PN,PJ (show i<zs.length by omega)]
 unfold Lo Hi;rw[e];exact h.words _ (PQ _)
def CorTo (zs:List Iv) (k:Nat):Prop:=∀i,i<k→Lo zs i≤Hi zs i∧(0<i→Hi zs (i-1)+1<Lo zs i)
def cL (zs:List Iv):Prop:=CorTo zs zs.length
theorem CorTo.succ{zs:List Iv}{k:Nat}(h:CorTo zs k)(h1:Lo zs k≤Hi zs k)(h2:0<k→Hi zs (k-1)+1<Lo zs k):CorTo zs (k+1):=by
 intro i hi;by_cases e:i=k
 ·subst e;exact⟨h1,h2⟩
 exact h i aA
theorem tL(l:List Iv)(x:Iv)(i:Nat):(l ++ [x]).getD i (0,0)=if i<l.length then l.getD i (0,0)else if i=l.length then x else(0,0):=by
 simp only[PN,List.getElem?_append];split
 ·rfl
 split
 ·next h=>subst h;simp
 next h1 h2=>
 have:i-l.length≠0:=aA;rw[List.getElem?_eq_none (by simp;omega)];rfl
def Mt (x:Int):Int:=tH (x+1)
def Gt (x:Int):Bool:=decide (x+1<18446744073709551616)
def Us (x:Int):Int:=if x=0 then 0 else x-1
def Ut (x:Int):Bool:=decide (0<x)
theorem Gr(x:Int)(h:aL x)(w:World) :
  Calls prog 184 #[.int .u64 x] w fun e w'=>e=.returned (.tuple #[.int .u64 (Mt x),.bool (Gt x)])∧w=w':=by
 obtain⟨h0,h1⟩:=h;have b:IntKind.u64.wrap (x+1)=Mt x:=by rw[PF];rfl
 have j:(IntKind.u64.wrap (x+1) != 0)=Gt x:=by
  rw[PF,PE];unfold Gt;simp;omega
 have l:Hid (IntKind.u64.wrap (x+1)=Mt x):=b;have m:Hid ((IntKind.u64.wrap (x+1) != 0)=Gt x):=j;clear b j;go_enter func184,ntmps184;go_wp2;go_ret2;exact⟨fT l m,rfl⟩
theorem Fy(x:Int)(h:aL x)(w:World) :
  Calls prog 185 #[.int .u64 x] w fun e w'=>e=.returned (.tuple #[.int .u64 (Us x),.bool (Ut x)])∧w=w':=by
 obtain⟨h0,h1⟩:=h;by_cases hx:x=0
 ·subst hx;go_enter func185,ntmps185;go_wp2;go_ret2;exact⟨fT rfl rfl,rfl⟩
 have b:1≤x:=aA;clear hx;go_enter func185,ntmps185;go_wp2;go_ret2;exact⟨fT (by unfold Us;rw[if_neg aA]) (by unfold Ut;simp;omega),rfl⟩
def IX (a b:Int):Int:=if a<b then b-a-1 else 0
def IY (a b:Int):Bool:=decide (a<b)
theorem uZ(a b:Int)(l:aL a)(m:aL b)(w:World) :
  Calls prog 89 #[.int .u64 a,.int .u64 b] w fun e w'=>e=.returned (.tuple #[.int .u64 (IX a b),.bool (IY a b)])∧w=w':=by
 obtain⟨h0,h1⟩:=l;obtain⟨h2,h3⟩:=m;go_enter func89,ntmps89;go_wp2
 ·have j:b≤a:=aF;go_ret2;exact⟨fT (by unfold IX;rw[if_neg aA]) (by unfold IY;simp;omega),rfl⟩
 have j:a<b:=aF;go_ret2;exact⟨fT (by unfold IX;rw[if_pos j]) (by unfold IY;simp;omega),rfl⟩
theorem xD(w:World):Calls prog 221 #[] w fun e w'=>e=.returned (.int .u64 18446744073709551615)∧w=w':=by
 go_enter func221,ntmps221;go_wp2;go_ret;exact⟨rfl,rfl⟩
theorem Py{j b l bl:Int}(h:(b+bl) % 18446744073709551616<b)(h2:aL b)(h4:aL bl) :
  ((j+l) % 18446744073709551616+1) % 18446744073709551616=pR (val j b+val l bl):=by unfold aL at h2 h4;unfold pR val;omega
theorem Px{j b l bl:Int}(h:b≤(b+bl) % 18446744073709551616)(h2:aL b)(h4:aL bl) :
  (j+l) % 18446744073709551616=pR (val j b+val l bl):=by unfold aL at h2 h4;unfold pR val;omega
theorem Mj{j b l bl:Int}:(b+bl) % 18446744073709551616=tH (val j b+val l bl):=by unfold tH val;omega
theorem Uv(b al j bl:Int)(h1:aL b)(h2:aL al)(h3:aL j)(h4:aL bl)(w:World) :
  Calls prog 263 #[.agg #[.int .u64 b,.int .u64 al],.agg #[.int .u64 j,.int .u64 bl]] w fun e w'=>
   e=.returned (.agg #[.int .u64 (pR (val b al+val j bl)),.int .u64 (tH (val b al+val j bl))])∧Below w.heap.size w w':=by
 have m:=h2;have n:=h4;obtain⟨a1,a2⟩:=h1;obtain⟨b1,b2⟩:=h2;obtain⟨p,r⟩:=h3;obtain⟨s,u⟩:=h4;go_enter func263,ntmps263;go_wp2
 ·have l:IntKind.u64.wrap (al+bl)<al:=aF;refine bodyPost_ret (v:=.agg #[.int .u64 (IntKind.u64.wrap (IntKind.u64.wrap (b+j)+1)),.int .u64 (IntKind.u64.wrap (al+bl))]) (by simp[results,results263,go_sem]) rfl ⟨?_,?_⟩
  ·simp only[PF]at l ⊢;exact Mi (Py l m n) Mj
  repeat (first | exact PG _ _ | refine aJ ?_ _ | refine aS ?_ | refine fO ?_ (by first | (simp;done) | (simp;omega)) _ | refine aN ?_ aF)
 have l:al≤IntKind.u64.wrap (al+bl):=aF;refine bodyPost_ret (v:=.agg #[.int .u64 (IntKind.u64.wrap (b+j)),.int .u64 (IntKind.u64.wrap (al+bl))]) (by simp[results,results263,go_sem]) rfl ⟨?_,?_⟩
 ·simp only[PF]at l ⊢;exact Mi (Px l m n) Mj
 repeat (first | exact PG _ _ | refine aJ ?_ _ | refine aS ?_ | refine fO ?_ (by first | (simp;done) | (simp;omega)) _ | refine aN ?_ aF)
def wd (lo hi:Int):Int:=if lo≤hi then hi-lo+1 else 0
def NW (m n:Int):Int:=if m=n then 0 else if m<n then -1 else 1
theorem Ms(x:Int)(h:aL x)(b:x<18446744073709551615)(w:World) :
  Calls prog 184 #[.int .u64 x] w fun e w'=>e=.returned (.tuple #[.int .u64 (x+1),.bool true])∧w=w':=
 (Gr x h w).mono fun _ _ ⟨he,hw⟩=>⟨he.trans (fT (by unfold aL at h;unfold Mt tH;omega) (by unfold Gt;simp;omega)),hw⟩
theorem Gq(w:World) :
  Calls prog 184 #[.int .u64 18446744073709551615] w fun e w'=>e=.returned (.tuple #[.int .u64 0,.bool false])∧w=w':=
 (Gr _ ⟨aB,aB⟩ w).mono fun _ _ ⟨he,hw⟩=>⟨he.trans (fT aB aB),hw⟩
theorem Ur(x:Int)(h:aL x)(b:0<x)(w:World) :
  Calls prog 185 #[.int .u64 x] w fun e w'=>e=.returned (.tuple #[.int .u64 (x-1),.bool true])∧w=w':=
 (Fy x h w).mono fun _ _ ⟨he,hw⟩=>⟨he.trans (fT (by unfold Us;rw[if_neg aA]) (by unfold Ut;simp;omega)),hw⟩
theorem Pw(w:World) :
  Calls prog 185 #[.int .u64 0] w fun e w'=>e=.returned (.tuple #[.int .u64 0,.bool false])∧w=w':=
 (Fy _ ⟨aB,aB⟩ w).mono fun _ _ ⟨he,hw⟩=>⟨he.trans (fT aB aB),hw⟩
theorem iN(a b:Int)(j:aL a)(l:aL b)(h:a<b)(w:World) :
  Calls prog 89 #[.int .u64 a,.int .u64 b] w fun e w'=>e=.returned (.tuple #[.int .u64 (b-a-1),.bool true])∧w=w':=
 (uZ a b j l w).mono fun _ _ ⟨he,hw⟩=>⟨he.trans (fT (by unfold IX;rw[if_pos h]) (by unfold IY;simp;omega)),hw⟩
theorem kM(a b:Int)(j:aL a)(l:aL b)(h:b≤a)(w:World) :
  Calls prog 89 #[.int .u64 a,.int .u64 b] w fun e w'=>e=.returned (.tuple #[.int .u64 0,.bool false])∧w=w':=
 (uZ a b j l w).mono fun _ _ ⟨he,hw⟩=>⟨he.trans (fT (by unfold IX;rw[if_neg aA]) (by unfold IY;simp;omega)),hw⟩
end Go.Proofs.YtbkkolfpegplgaaGreatDoor
namespace Go.Proofs.YtbkkolfpegplgaaGreatDoor
open Go Go.RowKit
structure Only (may:Nat→Prop) (W W':World):Prop where
 os:W'.os=W.os
 tape:W'.tape=W.tape
 output:W'.output=W.output
 size:W.heap.size≤W'.heap.size
 block:∀k,k<W.heap.size→¬may k→W'.heap[k]?=W.heap[k]?
variable {may:Nat→Prop} {A B C:World}
theorem Only.refl(may:Nat→Prop)(W:World):Only may W W:=⟨rfl,rfl,rfl,PX _,fun _ _ _=>rfl⟩
theorem Only.trans(h:Only may A B)(k:Only may B C):Only may A C:=
 ⟨k.os.trans h.os,k.tape.trans h.tape,k.output.trans h.output,Nat.le_trans h.size k.size,fun i hi b=>(k.block i (PU hi h.size) b).trans (h.block i hi b)⟩
theorem Only.wide{may':Nat→Prop}(h:Only may A B)(l:∀k,may k→may' k):Only may' A B:=
 ⟨h.os,h.tape,h.output,h.size,fun i hi b=>h.block i hi (fun j=>b (l i j))⟩
theorem Only.of_below(h:Below A.heap.size A B):Only may A B:=⟨h.os,h.tape,h.output,h.size,fun i hi _=>h.block i hi⟩
theorem Only.below{n:Nat}(h:Only may A B)(hs:n≤A.heap.size)(j:∀k,may k→n≤k):Below n A B:=⟨h.os,h.tape,h.output,h.size,fun i hi=>h.block i aA (fun b=>by have:=j i b;omega)⟩
theorem Only.alloc(h:Only may A B)(o:Obj):Only may A (B.alloc o):=
 ⟨h.os,h.tape,h.output,Nat.le_trans h.size aD,fun i hi b=>(PH B o i (PU hi h.size)).trans (h.block i hi b)⟩
theorem Only.drew(h:Only may A B):Only may A B.drew:=⟨h.os,h.tape,h.output,h.size,h.block⟩
theorem Only.drewN(h:Only may A B)(n:Nat):Only may A (B.drewN n):=h.trans ⟨rfl,rfl,rfl,PX _,fun _ _ _=>rfl⟩
theorem Only.call(h:Only may A B)(k:Below B.heap.size B C):Only may A C:=h.trans (Only.of_below k)
theorem Only.setCell(h:Only may A B){p:Addr}(b:may p.block∨A.heap.size≤p.block)(v:Value):Only may A (B.setCell p v):=
 ⟨h.os,h.tape,h.output,by simpa[World.setCell]using h.size,fun i hi j=>(Below.heap_setCell B p v i (by rintro rfl;rcases b with b | b<;>first | exact j b | omega)).trans (h.block i hi j)⟩
theorem Only.obj(h:Only may A B){b:Nat}{o:Obj}(l:¬may b)(j:A.heap[b]?=some o):B.heap[b]?=some o:=
 (h.block b (Array.getElem?_eq_some_iff.1 j).1 l).trans j
theorem Only.cell(h:Only may A B){b i:Nat}{v:Value}(l:¬may b)(j:A.cell? ⟨b,i,none⟩=some v):B.cell? ⟨b,i,none⟩=some v:=by
 refine(World.cell?_of_block (w:=A) ?_).trans j;refine h.block b ?_ l;rcases Nat.lt_or_ge b A.heap.size with hlt | hge
 ·exact hlt
 have e:A.heap[b]?=none:=by simp;omega
 simp[World.cell?,e]at j
end Go.Proofs.YtbkkolfpegplgaaGreatDoor
namespace Go.Proofs.YtbkkolfpegplgaaGreatDoor
open Go.RowKit
theorem wX(lo hi:Int)(h1:aL lo)(h2:aL hi)(w:World) :
  Calls prog 170 #[.agg #[.int .u64 lo,.int .u64 hi]] w fun e w'=>e=.returned (.bool (decide (lo≤hi)))∧Below w.heap.size w w':=by
 obtain⟨a1,a2⟩:=h1;obtain⟨b1,b2⟩:=h2;go_enter func170,ntmps170;go_wp2;go_ret;exact⟨rfl,by repeat (first | exact PG _ _ | refine aJ ?_ _)⟩
theorem wW(lo hi:Int)(h1:aL lo)(h2:aL hi)(h:lo≤hi)(w:World) :
  Calls prog 170 #[.agg #[.int .u64 lo,.int .u64 hi]] w fun e w'=>e=.returned (.bool true)∧Below w.heap.size w w':=
 (wX lo hi h1 h2 w).mono fun _ _ ⟨he,hb⟩=>⟨he.trans (iC (by simp;omega)),hb⟩
theorem Pd(lo hi:Int)(h1:aL lo)(h2:aL hi)(h:hi<lo)(w:World) :
  Calls prog 170 #[.agg #[.int .u64 lo,.int .u64 hi]] w fun e w'=>e=.returned (.bool false)∧Below w.heap.size w w':=
 (wX lo hi h1 h2 w).mono fun _ _ ⟨he,hb⟩=>⟨he.trans (iC (by simp;omega)),hb⟩
def iU (al ah bl bh:Int):Int:=if ah<bl then(if bl-ah=1 then 1 else 0)else if bh<al then(if al-bh=1 then 3 else 4)else 2
theorem uI(b j bl l:Int)(h1:aL b)(h2:aL j)(h3:aL bl)(h4:aL l)(w:World) :
  Calls prog 171 #[.agg #[.int .u64 b,.int .u64 j],.agg #[.int .u64 bl,.int .u64 l]] w fun e w'=>e=.returned (.int .i64 (iU b j bl l))∧Below w.heap.size w w':=by
 obtain⟨a1,a2⟩:=h1;obtain⟨b1,b2⟩:=h2;obtain⟨m,n⟩:=h3;obtain⟨p,r⟩:=h4;go_enter func171,ntmps171;go_wp2
 all_goals go_ret
 all_goals(refine⟨Cv ?_,by repeat (first | exact PG _ _ | refine aJ ?_ _)⟩)
 all_goals((try simp only[beq_iff_eq,beq_eq_false_iff_ne,ne_eq]at *);unfold iU;split<;>(try split)<;>(try split)<;>omega)
def zJ (lo hi x:Int):Bool:=decide (lo≤x∧x≤hi)
theorem Ud(lo hi x:Int)(h1:aL lo)(h2:aL hi)(h3:aL x)(w:World) :
  Calls prog 115 #[.agg #[.int .u64 lo,.int .u64 hi],.int .u64 x] w fun e w'=>e=.returned (.bool (zJ lo hi x))∧Below w.heap.size w w':=by
 obtain⟨a1,a2⟩:=h1;obtain⟨b1,b2⟩:=h2;obtain⟨l,m⟩:=h3;by_cases g1:lo≤x;by_cases g2:x≤hi;skip
 rotate_left;skip
 have b:hi<x:=aA;clear g2;rotate_left;skip
 have j:x<lo:=aA;clear g1;rotate_left
 all_goals
  go_enter func115,ntmps115;go_wp2;go_ret;exact⟨iC (by unfold zJ;rw[PE];simp;omega),by repeat (first | exact PG _ _ | refine aJ ?_ _)⟩
end Go.Proofs.YtbkkolfpegplgaaGreatDoor
namespace Go.Proofs.YtbkkolfpegplgaaGreatDoor
def ApTo (zs:List Iv) (ap:Int) (k:Nat):Prop:=∀i,i<k→Lo zs i≤Hi zs i∧(0<i→Hi zs (i-1)<Lo zs i∧ap≤Lo zs i-Hi zs (i-1)-1)
theorem ApTo.zero(zs:List Iv)(b:Int):ApTo zs b 0:=fun i h=>absurd h aA
theorem ApTo.succ{zs:List Iv}{b:Int}{k:Nat}(h:ApTo zs b k)(h1:Lo zs k≤Hi zs k)(h2:0<k→Hi zs (k-1)<Lo zs k∧b≤Lo zs k-Hi zs (k-1)-1):ApTo zs b (k+1):=by
 intro i hi;by_cases e:i=k
 ·subst e;exact⟨h1,h2⟩
 exact h i aA
def iL (zs:List Iv) (ap:Int) (i:Nat):Int:=if i=0 then Lo zs 0 else Lo zs i-Hi zs (i-1)-1-ap
def gV (zs:List Iv) (ap:Int):Nat→List Int
 | 0=>[]
 | k+1=>gV zs ap k ++ [iL zs ap k,Hi zs k-Lo zs k]
theorem gN(zs:List Iv)(b:Int):∀k,(gV zs b k).length=2 * k:=by
 intro k;induction k with
 | zero=>rfl
 | succ k ih=>unfold gV;rw[PO,ih];simp;omega
def JP (ds:List Int) (ap:Int):Nat→Int
 | 0=>ds.getD 0 0+ds.getD 1 0
 | j+1=>JP ds ap j+1+ap+ds.getD (2 * (j+1)) 0+ds.getD (2 * (j+1)+1) 0
def MT (ds:List Int) (ap:Int):Nat→Int
 | 0=>ds.getD 0 0
 | j+1=>JP ds ap j+1+ap+ds.getD (2 * (j+1)) 0
def OV (ds:List Int) (ap:Int) (j:Nat):List Iv:=(List.range j).map fun i=>(MT ds ap i,JP ds ap i)
def MJ (ds:List Int) (ap:Int) (k:Nat):Prop:=(∀j,2 * j<k→MT ds ap j<18446744073709551616)∧(∀j,2 * j+1<k→JP ds ap j<18446744073709551616)
def ME (ds:List Int) (ap:Int):Prop:=ds.length % 2=0∧MJ ds ap ds.length
def aV (zs:List Iv) (x:Int):Prop:=∃z∈zs,z.1≤x∧x≤z.2
instance (zs:List Iv) (x:Int):Decidable (aV zs x):=by unfold aV;infer_instance
theorem cY(x:Int):¬aV [] x:=fun⟨_,h,_⟩=>by cases h
theorem bM{z:Iv}{zs:List Iv}{x:Int}:aV (z :: zs) x↔(z.1≤x∧x≤z.2)∨aV zs x:=by
 constructor
 ·rintro⟨y,b,h⟩;rcases List.mem_cons.1 b with rfl | b
  ·exact .inl h
  exact .inr ⟨y,b,h⟩
 rintro(h | ⟨y,b,h⟩)
 ·exact⟨z,aD,h⟩
 exact⟨y,by simp[b],h⟩
theorem nM{zs ys:List Iv}{x:Int}:aV (zs ++ ys) x↔aV zs x∨aV ys x:=by
 constructor
 ·rintro⟨y,b,h⟩;rcases List.mem_append.1 b with b | b
  ·exact .inl ⟨y,b,h⟩
  exact .inr ⟨y,b,h⟩
 rintro(⟨y,b,h⟩ | ⟨y,b,h⟩)
 ·exact⟨y,by simp[b],h⟩
 exact⟨y,by simp[b],h⟩
theorem dU{z:Iv}{x:Int}:aV [z] x↔z.1≤x∧x≤z.2:=by
 rw[bM];exact⟨fun h=>h.elim id (fun h=>absurd h (cY x)),.inl⟩
def Nor (m:Int):List Iv→Prop
 | []=>True
 | z :: zs=>m≤z.1∧z.1≤z.2∧Nor (z.2+2) zs
theorem Nor.ge{m:Int}:∀{zs:List Iv},Nor m zs→∀{x},aV zs x→m≤x
 | [],_,x,h=>absurd h (cY x)
 | z :: zs,⟨h1,h2,h3⟩,x,h=>by
   rcases bM.1 h with h | h
   ·omega
   have:=h3.ge h;omega
theorem xS:∀{zs ys:List Iv} {m m':Int},Nor m zs→Nor m' ys→(∀x,aV zs x↔aV ys x)→zs=ys
 | [],[],_,_,_,_,_=>rfl
 | [],y :: ys,_,_,_,hy,h=>absurd ((h y.1).2 (bM.2 (.inl ⟨PI _,hy.2.1⟩))) (cY _)
 | z :: zs,[],_,_,hz,_,h=>absurd ((h z.1).1 (bM.2 (.inl ⟨PI _,hz.2.1⟩))) (cY _)
 | z :: zs,y :: ys,_,_,⟨_,hz2,hz3⟩,⟨_,hy2,hy3⟩,h=>by
   have a1:∀{x},aV (z :: zs) x→z.1≤x:=fun b=>by
    rcases bM.1 b with b | b
    ·exact b.1
    have:=hz3.ge b;omega
   have b1:∀{x},aV (y :: ys) x→y.1≤x:=fun b=>by
    rcases bM.1 b with b | b
    ·exact b.1
    have:=hy3.ge b;omega
   have j:z.1=y.1:=by
    have h1:=b1 ((h z.1).1 (bM.2 (.inl ⟨PI _,hz2⟩)));have h2:=a1 ((h y.1).2 (bM.2 (.inl ⟨PI _,hy2⟩)));omega
   have a2:¬aV (z :: zs) (z.2+1):=fun b=>by
    rcases bM.1 b with b | b
    ·omega
    have:=hz3.ge b;omega
   have b2:¬aV (y :: ys) (y.2+1):=fun b=>by
    rcases bM.1 b with b | b
    ·omega
    have:=hy3.ge b;omega
   have l:z.2=y.2:=by
    by_cases g:z.2<y.2
    ·exact absurd ((h (z.2+1)).2 (bM.2 (.inl ⟨aA,aA⟩))) a2
    by_cases g':y.2<z.2
    ·exact absurd ((h (y.2+1)).1 (bM.2 (.inl ⟨aA,aA⟩))) b2
    omega
   have e:z=y:=Prod.ext j l;subst e;congr 1
   refine xS hz3 hy3 fun x=>?_;constructor
   ·intro b;rcases bM.1 ((h x).1 (bM.2 (.inr b)))with g | g
    ·have:=hz3.ge b;omega
    exact g
   intro b;rcases bM.1 ((h x).2 (bM.2 (.inr b)))with g | g
   ·have:=hy3.ge b;omega
   exact g
theorem Nc(z:Iv)(zs:List Iv)(i:Nat):Lo (z :: zs) (i+1)=Lo zs i:=rfl
theorem Nq(z:Iv)(zs:List Iv)(i:Nat):Hi (z :: zs) (i+1)=Hi zs i:=rfl
theorem Xe{z:Iv}{zs:List Iv}(h:cL (z :: zs)):cL zs:=fun i hi=>by
 have h1:=h (i+1) (by simpa using hi);refine⟨h1.1,fun h0=>?_⟩;have h2:=h1.2 aA;obtain⟨j,rfl⟩:∃j,i=j+1:=⟨i-1,aA⟩;simpa[Nc,Nq]using h2
theorem dV:∀{zs:List Iv} {m:Int},cL zs→(zs=[]∨m≤Lo zs 0)→Nor m zs
 | [],_,_,_=>trivial
 | z :: zs,m,h,hm=>by
   refine⟨hm.elim (fun e=>by cases e) id,(h 0 (by simp)).1,dV (Xe h) ?_⟩
   cases zs with
   | nil=>exact .inl rfl
   | cons y ys=>
     right
     have:=(h 1 aD).2 aA;simp only[Nat.sub_self]at this;have b:Hi (z :: y :: ys) 0=z.2:=rfl;have j:Lo (z :: y :: ys) 1=Lo (y :: ys) 0:=rfl;rw[b,j]at this;omega
theorem fW:∀{zs:List Iv} {m:Int},Nor m zs→cL zs
 | [],_,_=>fun i hi=>absurd hi (by simp)
 | z :: zs,m,⟨_,h2,h3⟩=>by
   have l:=fW h3;intro i hi
   cases i with
   | zero=>exact⟨h2,fun h=>absurd h aA⟩
   | succ j=>
     have b:j<zs.length:=by simpa using hi
     have h1:=l j b;refine⟨h1.1,fun _=>?_⟩
     cases j with
     | zero=>
       cases zs with
       | nil=>simp at b
       | cons y ys=>
         have n:Hi (z :: y :: ys) (0+1-1)=z.2:=rfl;have p:Lo (z :: y :: ys) (0+1)=y.1:=rfl;rw[n,p];have:=h3.1;omega
     | succ k=>exact h1.2 aA
theorem rC{zs ys:List Iv}(b:cL zs)(j:cL ys)(h:∀x,aV zs x↔aV ys x):zs=ys:=
 xS (m:=Lo zs 0) (m':=Lo ys 0) (dV b (.inr (PI _))) (dV j (.inr (PI _))) h
theorem fU{zs:List Iv}{x:Int}:aV zs x↔∃i,i<zs.length∧Lo zs i≤x∧x≤Hi zs i:=by
 constructor
 ·rintro⟨z,j,h⟩;obtain⟨i,hi,e⟩:=List.mem_iff_getElem.1 j;refine⟨i,hi,?_⟩;have b:zs.getD i (0,0)=z:=by simp[PN,PJ hi,e]
  unfold Lo Hi;rw[b];exact h
 rintro⟨i,hi,h⟩;refine⟨zs[i],PQ _,?_⟩;have b:zs.getD i (0,0)=zs[i]:=by simp[PN,PJ hi]
 unfold Lo Hi at h;rw[b]at h;exact h
theorem cG{zs:List Iv}(h:cL zs):∀{i j},i<j→j<zs.length→Hi zs i+1<Lo zs j
 | i,0,hij,_=>absurd hij (by omega)
 | i,j+1,hij,hj=>by
   have h1:=(h (j+1) hj).2 aA;rw[PV]at h1;by_cases e:i=j
   ·subst e;exact h1
   have h2:=cG h (i:=i) (j:=j) aA aA;have h3:=(h j aA).1;omega
def dC:List Iv→Int→Option Int
 | [],_=>none
 | z :: zs,x=>if x<z.1 then some z.1 else if z.2+1<18446744073709551616∧x<z.2+1 then some (z.2+1)else dC zs x
def nO:List Iv→List Int
 | []=>[]
 | z :: zs=>z.1 :: (z.2+1) :: nO zs
theorem uW(zs:List Iv):(nO zs).length=2 * zs.length:=by
 induction zs with
 | nil=>rfl
 | cons z zs ih=>simp only[nO,PM,ih];omega
theorem nG:∀{zs:List Iv} {m x y:Int},Nor m zs→(∀z∈zs,aL z.1∧aL z.2)→dC zs x=some y→x<y∧y<18446744073709551616∧y∈nO zs∧∀t,x≤t→t<y→(aV zs t↔aV zs x)
 | [],_,_,_,_,_,h=>by cases h
 | z :: zs,m,x,y,⟨h1,h2,h3⟩,hw,h=>by
   unfold dC at h;obtain⟨p,w2⟩:=hw z aD;by_cases g:x<z.1
   ·rw[if_pos g]at h
    cases h
    refine⟨g,p.2,by simp[nO],fun t j b=>?_⟩;have a:∀s,s<z.1→¬aV (z :: zs) s:=fun s hs n=>by
     rcases bM.1 n with q | q
     ·omega
     have:=h3.ge q;omega
    exact⟨fun q=>absurd q (a t b),fun q=>absurd q (a x g)⟩
   rw[if_neg g]at h;by_cases g2:z.2+1<18446744073709551616∧x<z.2+1
   ·rw[if_pos g2]at h
    cases h
    refine⟨g2.2,g2.1,by simp[nO],fun t j b=>?_⟩;exact⟨fun _=>bM.2 (.inl ⟨aA,aA⟩),fun _=>bM.2 (.inl ⟨aA,aA⟩)⟩
   rw[if_neg g2]at h;obtain⟨a1,a2,r,u⟩:=nG h3 (fun q A=>hw q (by simp[A])) h;have B:z.2<x:=by
    have:=w2.2;by_cases e:z.2+1<18446744073709551616
    ·have:¬x<z.2+1:=fun q=>g2 ⟨e,q⟩;omega

    have l:zs=[]∨zs≠[]:=by cases zs<;>simp
    rcases l with rfl | l
    ·cases h
    obtain⟨q,qs,rfl⟩:∃q qs,zs=q :: qs:=by cases zs with | nil=>exact absurd rfl l | cons q qs=>exact⟨q,qs,rfl⟩
    have:=h3.1;have:=(hw q aD).1.2;omega
   refine⟨a1,a2,by simp[nO,r],fun t j b=>?_⟩;rw[bM,bM,u t j b];exact⟨fun q=>q.elim (fun q=>aA) .inr,fun q=>q.elim (fun q=>aA) .inr⟩
theorem kD:∀{zs:List Iv} {m x:Int},Nor m zs→(∀z∈zs,aL z.1∧aL z.2)→dC zs x=none→∀t,x≤t→t<18446744073709551616→(aV zs t↔aV zs x)
 | [],_,_,_,_,_,t,_,_=>⟨fun h=>absurd h (cY t),fun h=>absurd h (cY _)⟩
 | z :: zs,m,x,⟨h1,h2,h3⟩,hw,h,t,ht1,ht2=>by
   unfold dC at h;obtain⟨l,w2⟩:=hw z aD;by_cases g:x<z.1
   ·rw[if_pos g]at h;cases h
   rw[if_neg g]at h;by_cases g2:z.2+1<18446744073709551616∧x<z.2+1
   ·rw[if_pos g2]at h;cases h
   rw[if_neg g2]at h;have b:=kD h3 (fun q j=>hw q (by simp[j])) h t ht1 ht2;rw[bM,bM,b];by_cases e:z.2+1<18446744073709551616
   ·have:¬x<z.2+1:=fun q=>g2 ⟨e,q⟩;exact⟨fun q=>q.elim (fun q=>aA) .inr,fun q=>q.elim (fun q=>aA) .inr⟩
   exact⟨fun q=>q.elim (fun _=>by have:=w2.2;by_cases k:x≤z.2<;>first | exact .inl ⟨aA,k⟩ | omega) .inr,
    fun q=>q.elim (fun _=>.inl ⟨aA,aA⟩) .inr⟩
theorem qT:∀(zs:List Iv) (i:Nat) (x:Int),(∀j,j<i→Lo zs j≤Hi zs j∧Hi zs j<x)→dC (zs.drop i) x=dC zs x
 | zs,0,x,_=>rfl
 | [],i+1,x,_=>by simp
 | z :: zs,i+1,x,h=>by
   have h0:=h 0 aA;have b:Lo (z :: zs) 0=z.1:=rfl;have l:Hi (z :: zs) 0=z.2:=rfl;rw[b,l]at h0;rw[PT,qT zs i x (fun j m=>h (j+1) aA)];conv=>rhs;unfold dC;rw[if_neg aA,if_neg aA]
theorem Gs(zs:List Iv)(x:Int):∀k,k≤zs.length→(∀j,j<k→¬x<Lo zs j∧¬(Hi zs j+1<18446744073709551616∧x<Hi zs j+1))→dC zs x=dC (zs.drop k) x:=by
 induction zs with
 | nil=>intro k b _;simp
 | cons z zs ih=>
   intro k b h
   cases k with
   | zero=>rfl
   | succ k=>
     have h0:=h 0 aA;have l:Lo (z :: zs) 0=z.1:=rfl;have m:Hi (z :: zs) 0=z.2:=rfl;rw[l,m]at h0;rw[PT,← ih k (by simpa using b) (fun j n=>h (j+1) aA)];conv=>lhs;unfold dC;rw[if_neg h0.1,if_neg h0.2]
theorem Rk{zs:List Iv}{k:Nat}(h:k<zs.length):zs.drop k=(Lo zs k,Hi zs k) :: zs.drop (k+1):=by
 rw[List.drop_eq_getElem_cons h];congr 1
 unfold Lo Hi;simp[PN,PJ h]
def nx (zs ys:List Iv) (x:Int):Option Int:=
 match dC zs x,dC ys x with
 | none,o=>o
 | some a,none=>some a
 | some a,some b=>some (if b<a then b else a)
theorem pG{zs ys:List Iv}{m m' x y:Int}(A:Nor m zs)(r:Nor m' ys)(B:∀z∈zs,aL z.1∧aL z.2)(s:∀z∈ys,aL z.1∧aL z.2)(h:nx zs ys x=some y) :
  x<y∧y<18446744073709551616∧y∈nO zs ++ nO ys∧∀t,x≤t→t<y→(aV zs t↔aV zs x)∧(aV ys t↔aV ys x):=by
 unfold nx at h
 cases h1:dC zs x with
 | none=>
   rw[h1]at h;simp only at h;obtain⟨a1,a2,p,n⟩:=nG r s h;exact⟨a1,a2,by simp[p],fun t j l=>⟨kD A B h1 t j aA,n t j l⟩⟩
 | some a=>
   obtain⟨a1,a2,p,n⟩:=nG A B h1;rw[h1]at h
   cases h2:dC ys x with
   | none=>
     rw[h2]at h
     cases h
     exact⟨a1,a2,by simp[p],fun t j l=>⟨n t j l,kD r s h2 t j aA⟩⟩
   | some b=>
     obtain⟨b1,b2,C,u⟩:=nG r s h2;rw[h2]at h;simp only at h;by_cases g:b<a
     ·rw[if_pos g]at h
      cases h
      exact⟨b1,b2,by simp[C],fun t j l=>⟨n t j aA,u t j l⟩⟩
     rw[if_neg g]at h
     cases h
     exact⟨a1,a2,by simp[p],fun t j l=>⟨n t j l,u t j aA⟩⟩
theorem Zk{zs ys:List Iv}{m m' x:Int}(n:Nor m zs)(p:Nor m' ys)(r:∀z∈zs,aL z.1∧aL z.2)(s:∀z∈ys,aL z.1∧aL z.2)(h:nx zs ys x=none) :
  ∀t,x≤t→t<18446744073709551616→(aV zs t↔aV zs x)∧(aV ys t↔aV ys x):=by
 unfold nx at h
 cases h1:dC zs x with
 | none=>
   rw[h1]at h;simp only at h;exact fun t j l=>⟨kD n r h1 t j l,kD p s h t j l⟩
 | some a=>
   rw[h1]at h
   cases h2:dC ys x with
   | none=>rw[h2]at h;cases h
   | some b=>rw[h2]at h;cases h
def fr (zs ys:List Iv):Nat→Int
 | 0=>0
 | k+1=>(nx zs ys (fr zs ys k)).getD 0
def nP (l:List Int) (x:Int):Nat:=(l.filter (fun y=>decide (x<y))).length
theorem Xr(l:List Int)(x:Int):nP l x≤l.length:=List.length_filter_le _ _
theorem yU{l:List Int}{x y:Int}(h:x<y)(m:y∈l):nP l y<nP l x:=by
 induction l with
 | nil=>cases m
 | cons z zs ih=>
   have j:∀l:List Int,nP l y≤nP l x:=by
    intro l;induction l with
    | nil=>exact PX _
    | cons q qs ih2=>
      unfold nP at *;simp only[PS];by_cases g:y<q
      ·have b:x<q:=aA;simp only[g,b,decide_true,if_true,PM];omega
      by_cases b:x<q
      ·simp only[g,b,decide_true,decide_false,if_true,PC,if_false,PM];omega
      simp only[g,b,decide_false,PC,if_false];exact ih2
   rcases List.mem_cons.1 m with rfl | hy'
   ·have:=j zs;unfold nP at *;simp only[PS];simp only[h,decide_true,if_true,PM,Int.lt_irrefl,decide_false,PC,if_false];omega
   have:=ih hy';unfold nP at *;simp only[PS];by_cases g:y<z
   ·have b:x<z:=aA;simp only[g,b,decide_true,if_true,PM];omega
   by_cases b:x<z
   ·simp only[g,b,decide_true,decide_false,if_true,PC,if_false,PM];omega
   simp only[g,b,decide_false,PC,if_false];exact this
structure rG (zs ys:List Iv) (N:Nat):Prop where
 pos:0<N
 most:N≤2 * zs.length+2 * ys.length+1
 next:∀k,k+1<N→nx zs ys (fr zs ys k)=some (fr zs ys (k+1))
 last:nx zs ys (fr zs ys (N-1))=none
theorem Fz{zs ys:List Iv}{m m':Int}(p:Nor m zs)(r:Nor m' ys)(s:∀z∈zs,aL z.1∧aL z.2)(u:∀z∈ys,aL z.1∧aL z.2):∃N,rG zs ys N:=by
 have n:∀(c k:Nat),nP (nO zs ++ nO ys) (fr zs ys k)≤c→(∀j,j<k→nx zs ys (fr zs ys j)=some (fr zs ys (j+1)))→k+c≤2 * zs.length+2 * ys.length→∃N,rG zs ys N:=by
  intro c;induction c with
  | zero=>
    intro k B b C;refine⟨k+1,aA,aA,fun j l=>b j aA,?_⟩;rw[PV]
    cases h:nx zs ys (fr zs ys k)with
    | none=>rfl
    | some y=>
      obtain⟨h1,_,h3,_⟩:=pG p r s u h;have:=yU h1 h3;omega
  | succ c ih=>
    intro k B b C
    cases h:nx zs ys (fr zs ys k)with
    | none=>exact⟨k+1,aA,aA,fun j l=>b j aA,by rw[PV];exact h⟩
    | some y=>
      obtain⟨h1,_,h3,_⟩:=pG p r s u h;have e:fr zs ys (k+1)=y:=by show(nx zs ys (fr zs ys k)).getD 0=y;rw[h];rfl
      have:=yU h1 h3;refine ih (k+1) (by rw[e];omega) (fun j l=>?_) aA;by_cases g:j=k
      ·subst g;rw[e];exact h
      exact b j aA
 have A:(nO zs ++ nO ys).length=2 * zs.length+2 * ys.length:=by rw[PO,uW,uW]
 exact n (2 * zs.length+2 * ys.length) 0 (by rw[← A];exact Xr _ _) (fun j l=>absurd l aA) aA
def uL (zs ys:List Iv) (N k:Nat):Int:=if k+1<N then fr zs ys (k+1)-1 else 18446744073709551615
theorem Dp{zs ys:List Iv}{N k:Nat}(h:k+1<N):fr zs ys (k+1)=uL zs ys N k+1:=by unfold uL;rw[if_pos h];omega
section
variable {zs ys:List Iv} {m m':Int} {N:Nat} (hz:Nor m zs) (hy:Nor m' ys) (wz:∀z∈zs,aL z.1∧aL z.2) (wy:∀z∈ys,aL z.1∧aL z.2) (hN:rG zs ys N)
include hz hy wz wy hN
theorem lK:∀k,k<N→0≤fr zs ys k∧fr zs ys k<18446744073709551616
 | 0,_=>⟨PI _,by show(0:Int)<_;decide⟩
 | k+1,h=>by
   have h1:=pG hz hy wz wy (hN.next k h);have h2:=lK k aA;exact⟨aA,h1.2.1⟩
theorem Uq{k:Nat}(h:k<N):fr zs ys k≤uL zs ys N k∧uL zs ys N k<18446744073709551616:=by
 unfold uL;by_cases g:k+1<N
 ·rw[if_pos g];have h1:=pG hz hy wz wy (hN.next k g);omega
 rw[if_neg g];have:=lK hz hy wz wy hN k h;omega
theorem Jw{k:Nat}(h:k<N){t:Int}(h1:fr zs ys k≤t)(h2:t≤uL zs ys N k):(aV zs t↔aV zs (fr zs ys k))∧(aV ys t↔aV ys (fr zs ys k)):=by
 unfold uL at h2;by_cases g:k+1<N
 ·rw[if_pos g]at h2;exact(pG hz hy wz wy (hN.next k g)).2.2.2 t h1 aA
 rw[if_neg g]at h2;have b:=hN.last;have e:N-1=k:=aA;rw[e]at b;exact Zk hz hy wz wy b t h1 aA
end
def zB (l:List Iv) (p:Iv):List Iv:=if l≠[]∧Hi l (l.length-1)+1=p.1 then l.take (l.length-1) ++ [(Lo l (l.length-1),p.2)] else l ++ [p]
def pQ (zs ys:List Iv) (N:Nat) (tk:Bool→Bool→Bool):Nat→List Iv
 | 0=>[]
 | k+1=>if tk (decide (aV zs (fr zs ys k))) (decide (aV ys (fr zs ys k)))then zB (pQ zs ys N tk k) (fr zs ys k,uL zs ys N k)else pQ zs ys N tk k
theorem sU{l:List Iv}(h:l≠[]):l=l.take (l.length-1) ++ [(Lo l (l.length-1),Hi l (l.length-1))]:=by
 have b:l.length-1<l.length:=by have:=List.length_pos_iff.2 h;omega
 have e:(Lo l (l.length-1),Hi l (l.length-1))=l[l.length-1]:=by unfold Lo Hi;simp[PN,PJ b]
 rw[e,← List.take_succ_eq_append_getElem b,List.take_of_length_le aA]
theorem qS:∀{l:List Iv} {m:Int} {p:Iv},Nor m l→(∀x,aV l x→x+1<p.1)→m≤p.1→p.1≤p.2→Nor m (l ++ [p])
 | [],_,_,_,_,h1,h2=>⟨h1,h2,trivial⟩
 | z :: zs,m,p,⟨a1,a2,a3⟩,hx,h1,h2=>by
   have:=hx z.2 (bM.2 (.inl ⟨a2,PI _⟩));exact⟨a1,a2,qS a3 (fun x b=>hx x (bM.2 (.inr b))) aA h2⟩
theorem Dd:∀{l:List Iv} {m:Int} {p:Iv},Nor m (l ++ [p])→Nor m l∧(∀x,aV l x→x+1<p.1)∧m≤p.1∧p.1≤p.2
 | [],_,_,⟨h1,h2,_⟩=>⟨trivial,fun x h=>absurd h (cY x),h1,h2⟩
 | z :: zs,m,p,⟨a1,a2,a3⟩=>by
   obtain⟨b1,b2,n,b⟩:=Dd a3;refine⟨⟨a1,a2,b1⟩,fun x j=>?_,aA,b⟩;rcases bM.1 j with q | q
   ·omega
   exact b2 x q
theorem Uo{l:List Iv}{m:Int}{p:Iv}(h:Nor m l)(z:∀x,aV l x→x<p.1)(h1:m≤p.1)(h2:p.1≤p.2):Nor m (zB l p)∧∀x,aV (zB l p) x↔aV l x∨(p.1≤x∧x≤p.2):=by
 unfold zB;by_cases g:l≠[]∧Hi l (l.length-1)+1=p.1
 ·rw[if_pos g];have e:=sU g.1;generalize ea:l.take (l.length-1)=a at e ⊢;generalize eb:Lo l (l.length-1)=lo at e ⊢;generalize ec:Hi l (l.length-1)=hi at e g;subst e;obtain⟨b1,b2,n,r⟩:=Dd h;simp only at b2 n r;refine⟨qS b1 b2 n (by show lo≤p.2;omega),fun x=>?_⟩;rw[nM,nM,dU,dU];simp only;constructor
  ·rintro(q | q)
   ·exact .inl (.inl q)
   by_cases k:x≤hi
   ·exact .inl (.inr ⟨q.1,k⟩)
   exact .inr ⟨aA,q.2⟩
  rintro((q | q) | q)
  ·exact .inl q
  ·exact .inr ⟨q.1,aA⟩
  exact .inr ⟨aA,q.2⟩
 rw[if_neg g];refine⟨qS h (fun x b=>?_) h1 h2,fun x=>by rw[nM,dU]⟩;by_cases e:l=[]
 ·subst e;exact absurd b (cY x)
 have A:¬Hi l (l.length-1)+1=p.1:=fun q=>g ⟨e,q⟩;have s:=sU e;have j:aV l (Hi l (l.length-1)):=by
  have y:=fW h;have u:l.length-1<l.length:=by have:=List.length_pos_iff.2 e;omega
  exact fU.2 ⟨_,u,(y _ u).1,PI _⟩
 have a1:=z _ j;have a2:x≤Hi l (l.length-1):=by
  rw[s]at h;obtain⟨b1,b2,n,r⟩:=Dd h;rw[s]at b;rcases nM.1 b with q | q
  ·have:=b2 x q;simp only at this r;omega
  exact(dU.1 q).2
 omega
theorem Up(l:List Iv)(p:Iv):(zB l p).length≤l.length+1:=by
 unfold zB;split
 ·simp only[PO,List.length_take,PM,List.length_nil];omega
 simp
section
variable {zs ys:List Iv} {m m':Int} {N:Nat} (hz:Nor m zs) (hy:Nor m' ys) (wz:∀z∈zs,aL z.1∧aL z.2) (wy:∀z∈ys,aL z.1∧aL z.2) (hN:rG zs ys N) (tk:Bool→Bool→Bool)
include hz hy wz wy hN
theorem De:∀k,k≤N→Nor 0 (pQ zs ys N tk k)∧(∀x,aV (pQ zs ys N tk k) x↔0≤x∧x<18446744073709551616∧(0<k→x≤uL zs ys N (k-1))∧0<k∧tk (decide (aV zs x)) (decide (aV ys x))=true)
 | 0,_=>⟨trivial,fun x=>⟨fun h=>absurd h (cY x),fun h=>absurd h.2.2.2.1 (by omega)⟩⟩
 | k+1,hk=>by
   obtain⟨s,u⟩:=De k aA;have D:=lK hz hy wz wy hN k aA;have E:=Uq hz hy wz wy hN (show k<N by omega);have n:∀x,aV (pQ zs ys N tk k) x→x<fr zs ys k:=fun x H=>by
    obtain⟨_,_,h3,h4,_⟩:=(u x).1 H;have:=h3 h4;have e:=Dp (zs:=zs) (ys:=ys) (N:=N) (k:=k-1) aA;rw[show k-1+1=k by omega]at e;omega
   have l:∀x,(0<k→x≤uL zs ys N (k-1))∧0<k∧0≤x↔0<k∧0≤x∧x<fr zs ys k:=fun x=>by
    by_cases g:0<k
    ·have e:=Dp (zs:=zs) (ys:=ys) (N:=N) (k:=k-1) aA;rw[show k-1+1=k by omega]at e;constructor
     ·rintro⟨a,b,c⟩;have:=a b;exact⟨b,c,aA⟩
     rintro⟨a,b,c⟩;exact⟨fun _=>aA,a,b⟩
    constructor
    ·rintro⟨a,b,c⟩;exact absurd b g
    rintro⟨a,b,c⟩;exact absurd a g
   have h0:k=0→fr zs ys k=0:=fun e=>by subst e;rfl
   have m:∀{t},fr zs ys k≤t→t≤uL zs ys N k→tk (decide (aV zs t)) (decide (aV ys t))=tk (decide (aV zs (fr zs ys k))) (decide (aV ys (fr zs ys k))):=fun {t} a b=>by
    obtain⟨B,C⟩:=Jw hz hy wz wy hN (show k<N by omega) a b;rw[decide_eq_decide.2 B,decide_eq_decide.2 C]
   have j:∀x,(0≤x∧x<18446744073709551616∧(0<k+1→x≤uL zs ys N (k+1-1))∧0<k+1∧tk (decide (aV zs x)) (decide (aV ys x))=true) ↔
     aV (pQ zs ys N tk k) x∨((fr zs ys k≤x∧x≤uL zs ys N k)∧tk (decide (aV zs (fr zs ys k))) (decide (aV ys (fr zs ys k)))=true):=fun x=>by
    rw[u,PV];constructor
    ·rintro⟨a1,a2,y,_,z⟩;have r:=y aA;by_cases g:fr zs ys k≤x
     ·exact .inr ⟨⟨g,r⟩,by rw[← m g r];exact z⟩
     have A:0<k:=by
      by_cases e:k=0
      ·have:=h0 e;omega
      omega
     obtain⟨b1,b2,F⟩:=(l x).2 ⟨A,a1,aA⟩;exact .inl ⟨a1,a2,b1,b2,z⟩
    rintro(⟨a1,a2,y,G,z⟩ | ⟨⟨a1,a2⟩,y⟩)
    ·obtain⟨b1,b2,F⟩:=(l x).1 ⟨y,G,a1⟩;exact⟨a1,a2,fun _=>aA,aA,z⟩
    exact⟨aA,aA,fun _=>a2,aA,by rw[m a1 a2];exact y⟩
   unfold pQ;by_cases g:tk (decide (aV zs (fr zs ys k))) (decide (aV ys (fr zs ys k)))=true
   ·rw[if_pos g];obtain⟨B,C⟩:=Uo (p:=(fr zs ys k,uL zs ys N k)) s n D.1 E.1;refine⟨B,fun x=>?_⟩;rw[C,j];exact⟨fun q=>q.elim .inl (fun q=>.inr ⟨q,g⟩),fun q=>q.elim .inl (fun q=>.inr q.1)⟩
   rw[if_neg g];refine⟨s,fun x=>?_⟩;rw[j];exact⟨.inl,fun q=>q.elim id (fun q=>absurd q.2 g)⟩
theorem Mx:cL (pQ zs ys N tk N)∧(∀z∈pQ zs ys N tk N,aL z.1∧aL z.2)∧∀x,aV (pQ zs ys N tk N) x↔0≤x∧x<18446744073709551616∧tk (decide (aV zs x)) (decide (aV ys x))=true:=by
 obtain⟨h1,h2⟩:=De hz hy wz wy hN tk N (PX _);have n:=hN.pos;have e:uL zs ys N (N-1)=18446744073709551615:=by unfold uL;rw[if_neg aA]
 have h3:∀x,aV (pQ zs ys N tk N) x↔0≤x∧x<18446744073709551616∧tk (decide (aV zs x)) (decide (aV ys x))=true:=fun x=>by
  rw[h2,e];constructor
  ·rintro⟨a,b,_,_,c⟩;exact⟨a,b,c⟩
  rintro⟨a,b,c⟩;exact⟨a,b,fun _=>aA,n,c⟩
 refine⟨fW h1,fun z j=>?_,h3⟩;obtain⟨i,hi,m⟩:=List.mem_iff_getElem.1 j;have l:=(fW h1 i hi).1;have p:Lo (pQ zs ys N tk N) i=z.1:=by unfold Lo;simp[PN,PJ hi,m]
 have r:Hi (pQ zs ys N tk N) i=z.2:=by unfold Hi;simp[PN,PJ hi,m]
 rw[p,r]at l;have a:=(h3 z.1).1 ⟨z,j,PI _,l⟩;have b:=(h3 z.2).1 ⟨z,j,l,PI _⟩;exact⟨⟨a.1,a.2.1⟩,⟨b.1,b.2.1⟩⟩
end
theorem Aj{α:Type} [DecidableEq α]:∀{l m:List α},l.Nodup→(∀x∈l,x∈m)→l.length≤m.length
 | [],_,_,_=>Nat.zero_le _
 | x :: xs,m,h,hs=>by
   obtain⟨h1,h2⟩:=List.nodup_cons.1 h;have b:x∈m:=hs x aD;have:=Aj (m:=m.erase x) h2 fun y j=>(List.mem_erase_of_ne (fun e=>h1 (by rw[← e];exact j))).2 (hs y (by simp[j]));rw[List.length_erase_of_mem b]at this;have:=List.length_pos_of_mem b;simp only[PM];omega
theorem Ai:∀{l:List Iv} {m:Int},Nor m l→(l.map (·.1)).Nodup
 | [],_,_=>by simp
 | z :: zs,m,⟨h1,h2,h3⟩=>by
   rw[List.map_cons,List.nodup_cons];refine⟨fun r=>?_,Ai h3⟩;obtain⟨y,j,e⟩:=List.mem_map.1 r;have n:=fW h3;obtain⟨i,hi,p⟩:=List.mem_iff_getElem.1 j;have b:y.1≤y.2:=by
    have:=(n i hi).1;unfold Lo Hi at this;simpa[PN,PJ hi,p]using this
   have:=h3.ge ⟨y,j,PI _,b⟩;omega
theorem Ti{l:List Iv}(h:cL l){z:Iv}(p:z∈l):aV l z.1∧¬aV l (z.1-1):=by
 obtain⟨i,hi,b⟩:=List.mem_iff_getElem.1 p;have r:Lo l i=z.1:=by unfold Lo;simp[PN,PJ hi,b]
 refine⟨fU.2 ⟨i,hi,aA,by have:=(h i hi).1;omega⟩,fun n=>?_⟩;obtain⟨j,m,h1,h2⟩:=fU.1 n;rcases Nat.lt_trichotomy i j with g | g | g
 ·have:=cG h g m;have:=(h i hi).1;omega
 ·subst g;omega
 have:=cG h g hi;omega
theorem nZ{l:List Iv}{x:Int}(h1:aV l x)(h2:¬aV l (x-1)):x∈l.map (·.1):=by
 obtain⟨z,j,a,b⟩:=h1;refine List.mem_map.2 ⟨z,j,?_⟩;by_cases g:z.1=x
 ·exact g
 exact absurd ⟨z,j,aA,aA⟩ h2
theorem FI{l:List Iv}{x:Int}(h1:¬aV l x)(h2:aV l (x-1)):x∈l.map (fun z=>z.2+1):=by
 obtain⟨z,j,a,b⟩:=h2;refine List.mem_map.2 ⟨z,j,?_⟩;by_cases g:z.2+1=x
 ·exact g
 exact absurd ⟨z,j,aA,aA⟩ h1
def vO:Bool→Bool→Bool:=fun a b=>a || b
def GJ:Bool→Bool→Bool:=fun a b=>a && b
def uD:Bool→Bool→Bool:=fun a b=>a && !b
theorem Vd{zs ys out:List Iv}(tk:Bool→Bool→Bool)(D:tk=vO∨tk=GJ∨tk=uD)(y:cL out)(s:∀x,aV zs x→0≤x)(u:∀x,aV ys x→0≤x)
  (h:∀x,aV out x↔0≤x∧x<18446744073709551616∧tk (decide (aV zs x)) (decide (aV ys x))=true):out.length≤zs.length+ys.length:=by
 have A:=Ai (dV y (m:=Lo out 0) (.inr (PI _)));obtain⟨g0,r⟩:∃g0:Iv→Int,∀x∈out.map (·.1),x∈zs.map (·.1) ++ ys.map g0:=by
  refine⟨if tk true true=false then(fun z=>z.2+1)else(·.1),?_⟩;intro x C;obtain⟨z,B,rfl⟩:=List.mem_map.1 C;obtain⟨a1,a2⟩:=Ti y B;obtain⟨b1,b2,l⟩:=(h z.1).1 a1;have n:¬(0≤z.1-1∧tk (decide (aV zs (z.1-1))) (decide (aV ys (z.1-1)))=true):=fun q=>a2 ((h _).2 ⟨q.1,aA,q.2⟩);have j:z.1=0→¬aV zs (z.1-1):=fun e q=>by have:=s _ q;omega
  have p:z.1=0→¬aV ys (z.1-1):=fun e q=>by have:=u _ q;omega
  have b:z.1=0∨0≤z.1-1:=aA;rw[List.mem_append];rcases D with rfl | rfl | rfl
  ·rw[if_neg aB];simp only[vO,Bool.or_eq_true,decide_eq_true_eq]at l n;rcases l with q | q
   ·by_cases g:aV zs (z.1-1)
    ·rcases b with e | e
     ·exact absurd g (j e)
     exact absurd ⟨e,.inl g⟩ n
    exact .inl (nZ q g)
   by_cases g:aV ys (z.1-1)
   ·rcases b with e | e
    ·exact absurd g (p e)
    exact absurd ⟨e,.inr g⟩ n
   exact .inr (nZ q g)
  ·rw[if_neg aB];simp only[GJ,PD,decide_eq_true_eq]at l n;by_cases g:aV zs (z.1-1)
   ·by_cases g':aV ys (z.1-1)
    ·rcases b with e | e
     ·exact absurd g (j e)
     exact absurd ⟨e,g,g'⟩ n
    exact .inr (nZ l.2 g')
   exact .inl (nZ l.1 g)
  rw[if_pos aB];simp only[uD,PD,decide_eq_true_eq,Bool.not_eq_true',decide_eq_false_iff_not]at l n;by_cases g:aV zs (z.1-1)
  ·by_cases g':aV ys (z.1-1)
   ·exact .inr (FI l.2 g')
   rcases b with e | e
   ·exact absurd g (j e)
   exact absurd ⟨e,g,g'⟩ n
  exact .inl (nZ l.1 g)
 have:=Aj A r;simpa using this
end Go.Proofs.YtbkkolfpegplgaaGreatDoor
namespace Go.Proofs.YtbkkolfpegplgaaGreatDoor
open Go.RowKit
def Of (zs:List Iv) (x:Int) (k:Nat):Prop:=∀j,j<k→¬x<Lo zs j∧¬(Hi zs j+1<18446744073709551616∧x<Hi zs j+1)
def lG (o:Option Int):Value:=.tuple #[.int .u64 (o.getD 0),.bool o.isSome]
theorem Kg{zs:List Iv}{x:Int}{k:Nat}(b:k<zs.length)(h:Of zs x k) :
  dC zs x=if x<Lo zs k then some (Lo zs k)else if Hi zs k+1<18446744073709551616∧x<Hi zs k+1 then some (Hi zs k+1)else dC (zs.drop (k+1)) x:=by
 rw[Gs zs x k aA h,Rk b];conv=>lhs;unfold dC
theorem nextL_over{zs:List Iv}{x:Int}(h:Of zs x zs.length):dC zs x=none:=by
 rw[Gs zs x zs.length (PX _) h,List.drop_length];rfl
theorem xQ(a:Option Addr)(len cap:Nat)(zs:List Iv)(x:Int)(w:World)(h:Prs w a len zs) :
  Calls prog 234 #[.slice a len cap,.int .u64 x] w fun e w'=>e=.returned (lG (dC zs x))∧Below w.heap.size w w':=by
 have L:=h.most;have E:=aI h.length;have H:=aI h;clear h;go_enter func234,ntmps234;go_wp2;go_loopw [12] (fun c wr=>∃k:Nat,k≤len∧c=.int .i64 k∧Of zs x k∧Below w.heap.size w wr) (fun c _=>len-(intOf c).toNat)
 case atStart=>exact⟨0,Nat.zero_le _,rfl,fun j p=>absurd p aA,PG _ _⟩
 obtain⟨k,O,rfl,p,A⟩:=hrel;have s:=aI A;have F:=aI p;have M:(0:Int)≤(k:Int):=aA;by_cases hlt:k<len
 ·obtain⟨b,off,rfl,J,C,D⟩:=(H.below A).cells k hlt;have m:=H.word hlt;have N:(k:Int)<(len:Int):=aA;have n:=aI (Kg (x:=x) (show k<zs.length by rw[E.out];exact hlt) p);have l:=aI (fun(g:¬x<Lo zs k) (B:¬(Hi zs k+1<18446744073709551616∧x<Hi zs k+1))=>show Of zs x (k+1)from fun j K=>by
   by_cases e:j=k
   ·subst e;exact⟨g,B⟩
   exact p j aA)
  obtain⟨lo,u⟩:=aG (Lo zs k);obtain⟨hi,y⟩:=aG (Hi zs k);rw[u]at C m n l;rw[y]at D m n l;clear u y A p F;by_cases g:x<lo
  ·have R:=aI (show lG (dC zs x)=.tuple #[.int .u64 lo,.bool true] from by rw[n.out,if_pos g];rfl);clear n l m;go_wp2;go_ret2;exact⟨by rw[R.out];rfl,aJ s _⟩
  by_cases g1:hi<18446744073709551615
  ·have z:=aI (fun W=>Ms hi m.2 g1 W);by_cases B:x<hi+1
   ·have R:=aI (show lG (dC zs x)=.tuple #[.int .u64 (hi+1),.bool true] from by rw[n.out,if_neg g,if_pos ⟨aA,B⟩];rfl);clear n l m g1;go_wp2_with fail;refine(z _).mono ?_;rintro e G ⟨rfl,rfl⟩;go_wp2;go_ret2;exact⟨by rw[R.out];rfl,aJ s _⟩
   have r:=aI (l g (fun q=>B q.2));clear n l m g1;go_wp2_with fail;refine(z _).mono ?_;rintro e G ⟨rfl,rfl⟩;go_wp2;go_roundw
   case rel=>exact⟨k+1,aA,by go_num,r,aJ s _⟩
   simp[intOf];omega
  obtain rfl:hi=18446744073709551615:=by have:=m.2.2;omega
  have z:=aI (fun W=>Gq W);have r:=aI (l g (fun q=>aA));clear n l m g1;go_wp2_with fail;refine(z _).mono ?_;rintro e G ⟨rfl,rfl⟩;go_wp2;go_roundw
  case rel=>exact⟨k+1,aA,by go_num,r,aJ s _⟩
  simp[intOf];omega
 obtain rfl:k=len:=aA;have I:¬(k:Int)<(k:Int):=aA;have R:=aI (show lG (dC zs x)=.tuple #[.int .u64 0,.bool false] from by rw[nextL_over (by rw[E.out];exact p)];rfl);clear A p F;go_wp2;go_ret2;exact⟨by rw[R.out];rfl,s⟩
structure NY (w:World) (a:Option Addr) (len:Nat) (ss:List ByteArray):Prop where
 length:ss.length=len
 most:len≤9223372036854775807
 sizes:∀s∈ss,s.size≤9223372036854775807
 cells:∀i,i<len→∃b off,a=some ⟨b,off,none⟩∧b<w.heap.size∧w.cell? ⟨b,off+i,none⟩=some (.string (ss.getD i ByteArray.empty))
end Go.Proofs.YtbkkolfpegplgaaGreatDoor
