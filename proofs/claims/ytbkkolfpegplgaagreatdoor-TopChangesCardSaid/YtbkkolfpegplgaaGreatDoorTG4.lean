import Derived.Test.YtbkkolfpegplgaaGreatDoorTG3
import Derived.Laws.EntriesVeiled
import Derived.Deep.RegionWith
open Go.IntKind renaming signed→PC,bits→PD,min→PE,max→PF
open Go.World renaming cell?→PG
open Nat renaming le_refl→PH
open Go.Proofs.Tryz
set_option maxHeartbeats 800000
namespace Go.Proofs.YtbkkolfpegplgaaGreatDoor
open Go.RowKit
def CurAt (w:World) (p:Nat) (ap lo llo lhi:Int) (sm op:Bool) (f:FuncId):Prop:=
 w.heap[p]?=some (.cells #[.int .u64 ap,.int .u64 lo,.int .u64 llo,.int .u64 lhi,.bool sm,.bool op,.func (.func f) #[.pointer (some ⟨p,0,none⟩)] #[]] 234 (0,0))
section
variable {w w':World} {p:Nat} {ap lo llo lhi:Int} {sm op:Bool} {f:FuncId}
theorem CurAt.lt(h:CurAt w p ap lo llo lhi sm op f):p<w.heap.size:=aO h
theorem CurAt.below(h:CurAt w p ap lo llo lhi sm op f)(b:Below w.heap.size w w'):CurAt w' p ap lo llo lhi sm op f:=(b.block p h.lt).trans h
theorem CurAt.c0(h:CurAt w p ap lo llo lhi sm op f):w.cell? ⟨p,0,none⟩=some (.int .u64 ap):=by simp[PG,show w.heap[p]?=_ from h]
theorem CurAt.c1(h:CurAt w p ap lo llo lhi sm op f):w.cell? ⟨p,1,none⟩=some (.int .u64 lo):=by simp[PG,show w.heap[p]?=_ from h]
theorem CurAt.c2(h:CurAt w p ap lo llo lhi sm op f):w.cell? ⟨p,2,none⟩=some (.int .u64 llo):=by simp[PG,show w.heap[p]?=_ from h]
theorem CurAt.c3(h:CurAt w p ap lo llo lhi sm op f):w.cell? ⟨p,3,none⟩=some (.int .u64 lhi):=by simp[PG,show w.heap[p]?=_ from h]
theorem CurAt.c4(h:CurAt w p ap lo llo lhi sm op f):w.cell? ⟨p,4,none⟩=some (.bool sm):=by simp[PG,show w.heap[p]?=_ from h]
theorem CurAt.c5(h:CurAt w p ap lo llo lhi sm op f):w.cell? ⟨p,5,none⟩=some (.bool op):=by simp[PG,show w.heap[p]?=_ from h]
theorem CurAt.c6(h:CurAt w p ap lo llo lhi sm op f):w.cell? ⟨p,6,none⟩=some (.func (.func f) #[.pointer (some ⟨p,0,none⟩)] #[]):=by simp[PG,show w.heap[p]?=_ from h]
theorem CurAt.free(h:CurAt w p ap lo llo lhi sm op f):∀j,w.frozen? ⟨p,j,none⟩=false:=by intro j;simp[World.frozen?,show w.heap[p]?=_ from h]
end
theorem zU(b:Int)(w:World) :
  Calls prog 95 #[.int .u64 b] w fun e w'=>e=.returned (.pointer (some ⟨w.heap.size,0,none⟩))∧CurAt w' w.heap.size b 0 0 0 false false 153∧Below w.heap.size w w':=by
 go_enter func95,ntmps95;go_wp2;go_ret;exact⟨rfl,aK _ _ rfl,aJ (Below.refl _ _) _⟩
theorem Ic{w m:World}{p:Nat}{n lo j l:Int}{r:Bool}{f:FuncId}(h:CurAt m p n lo j l r false f)(s:Only (fun b=>b=p) w m)(x:Int) :
  CurAt ((m.setCell ⟨p,1,none⟩ (.int .u64 x)).setCell ⟨p,5,none⟩ (.bool true)) p n x j l r true f∧Only (fun b=>b=p) w ((m.setCell ⟨p,1,none⟩ (.int .u64 x)).setCell ⟨p,5,none⟩ (.bool true)):=
 ⟨heap_setCell_same _ _ 5 _ _ _ (heap_setCell_same _ _ 1 _ _ _ h),(s.setCell (p:=⟨p,1,none⟩) (.inl rfl) _).setCell (p:=⟨p,5,none⟩) (.inl rfl) _⟩
theorem Gy(p:Nat)(d:Int)(m lo j l:Int)(w:World)(h:CurAt w p m lo j l false false 153) :
  Calls prog 213 #[.pointer (some ⟨p,0,none⟩),.int .u64 d] w fun e w'=>e=.returned (.tuple #[.int .u64 d,.bool true])∧CurAt w' p m d j l false true 153∧Only (fun b=>b=p) w w':=by
 have n:=h.c1;have r:=h.c5;have s:=h.c6;have u:=h.free;have H:=aI h;clear h;go_enter func213,ntmps213;go_wp2;go_ret2;exact⟨rfl,Ic H (Only.refl _ _) d⟩
theorem CC{w:World}{b:Nat}{x y:Int}(m:aL x)(n:aL y)(h:w.heap[b]?=some (.cells #[.int .u64 x,.int .u64 y] 57 (0,0))):Ints .u64 w (some ⟨b,0,none⟩) 2 [x,y]:=by
 refine⟨rfl,aB,?_,?_⟩
 ·intro z j;simp at j;rcases j with rfl | rfl<;>(simp[Lit.wf,PE,PF,PC,PD];unfold aL at *;omega)
 intro i hi;have l:=aO h;have:i=0∨i=1:=aA;rcases this with rfl | rfl<;>exact⟨b,0,rfl,l,by simp[PG,h]⟩
theorem BX{w:World}{b:Nat}{x y z:Int}(m:aL x)(n:aL y)(j:aL z)(h:w.heap[b]?=some (.cells #[.int .u64 x,.int .u64 y,.int .u64 z] 57 (0,0))):Ints .u64 w (some ⟨b,0,none⟩) 3 [x,y,z]:=by
 refine⟨rfl,aB,?_,?_⟩
 ·intro z j;simp at j;rcases j with rfl | rfl | rfl<;>(simp[Lit.wf,PE,PF,PC,PD];unfold aL at *;omega)
 intro i hi;have l:=aO h;have:i=0∨i=1∨i=2:=aA;rcases this with rfl | rfl | rfl<;>exact⟨b,0,rfl,l,by simp[PG,h]⟩
theorem IG{w:World}{b:Nat}{x y z u:Int}(m:aL x)(n:aL y)(j:aL z)(p:aL u)(h:w.heap[b]?=some (.cells #[.int .u64 x,.int .u64 y,.int .u64 z,.int .u64 u] 57 (0,0))):Ints .u64 w (some ⟨b,0,none⟩) 4 [x,y,z,u]:=by
 refine⟨rfl,aB,?_,?_⟩
 ·intro z j;simp at j;rcases j with rfl | rfl | rfl | rfl<;>(simp[Lit.wf,PE,PF,PC,PD];unfold aL at *;omega)
 intro i hi;have l:=aO h;have:i=0∨i=1∨i=2∨i=3:=aA;rcases this with rfl | rfl | rfl | rfl<;>exact⟨b,0,rfl,l,by simp[PG,h]⟩
theorem zR(x y z u:Int):Ex [x,y,z,u]=if x+y+z+u<18446744073709551616 then x+y+z+u else 0:=by
 unfold Ex;rw[show [x,y,z,u].sum=x+y+z+u by simp;omega]
theorem zS(x y z u:Int):Ez [x,y,z,u]=decide (x+y+z+u<18446744073709551616):=by
 unfold Ez;rw[show [x,y,z,u].sum=x+y+z+u by simp;omega]
theorem iV:aL 1:=⟨aB,aB⟩
theorem Og:aL 0:=⟨aB,aB⟩
theorem Ao(p:Nat)(d:Int)(l lo n j:Int)(s op:Bool)(f:FuncId)(w:World)(h:CurAt w p l lo n j s op f)(u:aL l)(y:aL j)(z:aL d) :
  Calls prog 245 #[.pointer (some ⟨p,0,none⟩),.int .u64 d] w fun e w'=>e=.returned (.tuple #[.int .u64 (Ex [j,1,l,d]),.bool (Ez [j,1,l,d])])∧Below w.heap.size w w':=by
 have B:=h.c0;have C:=h.c3;have r:=aI (fun(W:World) (b:Nat)=>fun(A:W.heap[b]?=some (.cells #[.int .u64 j,.int .u64 1,.int .u64 l,.int .u64 d] 57 (0,0)))=>Ch (some ⟨b,0,none⟩) 4 4 [j,1,l,d] W (IG y iV u z A));clear h;go_enter func245,ntmps245;go_wp2;go_region_with (go_at_call 244;refine(r (w.alloc (.cells #[.int .u64 j,.int .u64 1,.int .u64 l,.int .u64 d] 57)).drew w.heap.size (aK w _ rfl)).mono ?_;rintro e D ⟨rfl,m⟩)
 all_goals
  go_wp2;go_ret2;exact⟨rfl,aN (aS (aJ (Below.refl _ _) _)) m⟩
theorem Qr(p:Nat)(d:Int)(j lo l b:Int)(m op:Bool)(f:FuncId)(w:World)(h:CurAt w p j lo l b m op f)(n:aL j)(r:aL b)(s:aL d)(hs:b+1+j+d<18446744073709551616) :
  Calls prog 245 #[.pointer (some ⟨p,0,none⟩),.int .u64 d] w fun e w'=>e=.returned (.tuple #[.int .u64 (b+1+j+d),.bool true])∧Below w.heap.size w w':=
 (Ao p d j lo l b m op f w h n r s).mono fun _ _ ⟨he,hb⟩=>⟨he.trans (fT (by rw[zR,if_pos hs]) (by rw[zS,decide_eq_true hs])),hb⟩
theorem Vq(p:Nat)(d:Int)(l lo j b:Int)(m op:Bool)(f:FuncId)(w:World)(h:CurAt w p l lo j b m op f)(n:aL l)(r:aL b)(s:aL d)(hs:¬b+1+l+d<18446744073709551616) :
  Calls prog 245 #[.pointer (some ⟨p,0,none⟩),.int .u64 d] w fun e w'=>e=.returned (.tuple #[.int .u64 0,.bool false])∧Below w.heap.size w w':=
 (Ao p d l lo j b m op f w h n r s).mono fun _ _ ⟨he,hb⟩=>⟨he.trans (fT (by rw[zR,if_neg hs]) (by rw[zS,decide_eq_false hs])),hb⟩
theorem Gx(p:Nat)(d:Int)(l lo m j:Int)(r:Bool)(w:World)(h:CurAt w p l lo m j r false 245)(C:aL l)(D:aL j)(E:aL d)(hs:j+1+l+d<18446744073709551616) :
  Calls prog 213 #[.pointer (some ⟨p,0,none⟩),.int .u64 d] w fun e w'=>e=.returned (.tuple #[.int .u64 (j+1+l+d),.bool true])∧CurAt w' p l (j+1+l+d) m j r true 245∧Only (fun b=>b=p) w w':=by
 have y:=h.c5;have z:=h.c6;have A:=h.lt;have H:=aI h;have u:=aI (Qr p d l lo m j r false _ w h C D E hs);obtain⟨s,es⟩:=aH (j+1+l+d);rw[← es]at u ⊢;clear h hs es;go_enter func213,ntmps213;go_wp2_with fail;refine u.mono ?_;rintro e J ⟨rfl,b1⟩;have n:=H.below b1;have F:=n.c1;have G:=n.c5;have I:=n.free;have B:=aI n;clear n y z;go_wp2;go_ret2;exact⟨rfl,Ic B (Only.of_below b1) s⟩
theorem uQ(p:Nat)(d:Int)(l lo j b:Int)(m:Bool)(w:World)(h:CurAt w p l lo j b m false 245)(s:aL l)(u:aL b)(y:aL d)(hs:¬b+1+l+d<18446744073709551616) :
  Calls prog 213 #[.pointer (some ⟨p,0,none⟩),.int .u64 d] w fun e w'=>e=.returned (.tuple #[.int .u64 0,.bool false])∧Below w.heap.size w w':=by
 have z:=h.c5;have A:=h.c6;have n:=h.lt;have r:=aI (Vq p d l lo j b m false _ w h s u y hs);clear h hs;go_enter func213,ntmps213;go_wp2_with fail;refine r.mono ?_;rintro e B ⟨rfl,b1⟩;go_wp2;go_ret2;exact⟨rfl,b1⟩
theorem Lw(a:Option Addr)(len cap:Nat)(zs:List Int)(s:Int)(w:World)(h:Ints .u64 w a len zs)(es:zs.sum=s)(hs:s<18446744073709551616) :
  Calls prog 244 #[.slice a len cap] w fun e w'=>e=.returned (.tuple #[.int .u64 s,.bool true])∧Below w.heap.size w w':=
 (Ch a len cap zs w h).mono fun _ _ ⟨he,hb⟩=>⟨he.trans (fT (by unfold Ex;rw[es,if_pos hs]) (by unfold Ez;rw[es,decide_eq_true hs])),hb⟩
theorem Te(a:Option Addr)(len cap:Nat)(zs:List Int)(w:World)(h:Ints .u64 w a len zs)(hs:¬zs.sum<18446744073709551616) :
  Calls prog 244 #[.slice a len cap] w fun e w'=>e=.returned (.tuple #[.int .u64 0,.bool false])∧Below w.heap.size w w':=
 (Ch a len cap zs w h).mono fun _ _ ⟨he,hb⟩=>⟨he.trans (fT (by unfold Ex;rw[if_neg hs]) (by unfold Ez;rw[decide_eq_false hs])),hb⟩
theorem CF(p:Nat)(d:Int)(A lo m n:Int)(B:Bool)(f:FuncId)(w:World)(h:CurAt w p A lo m n B true f)(C:aL lo)(D:aL d)(hs:¬lo+d<18446744073709551616) :
  Calls prog 214 #[.pointer (some ⟨p,0,none⟩),.int .u64 d] w fun e w'=>e=.returned (.tuple #[.agg #[.int .u64 0,.int .u64 0],.bool false])∧Below w.heap.size w w':=by
 have F:=h.c1;have G:=h.c5;have r:=h.lt;have s:=aI (fun(W:World) (b:Nat) (E:W.heap[b]?=some (.cells #[.int .u64 lo,.int .u64 d] 57 (0,0)))=>Te (some ⟨b,0,none⟩) 2 2 [lo,d] W (CC C D E) (by simpa using hs));clear h hs;go_enter func214,ntmps214;go_wp2_with fail;refine(s _ _ (aK _ _ aD)).mono ?_;rintro e l ⟨rfl,b1⟩;have u:l.cell? ⟨w.heap.size,0,none⟩=some (.int .u64 0):=aM b1 (by simp;omega) aD;have y:l.cell? ⟨w.heap.size,1,none⟩=some (.int .u64 0):=aM b1 (by simp;omega) aD;have H:∀j,l.frozen? ⟨w.heap.size,j,none⟩=false:=fun j=>(b1.frozen (p:=⟨w.heap.size,j,none⟩) (by simp;omega)).trans aD;have z:=aN (aJ (aJ (Below.refl _ _) (.cells #[.int .u64 0,.int .u64 0] 123)) _) b1;go_wp2;exact bodyPost_ret (v:=.tuple #[.agg #[.int .u64 0,.int .u64 0],.bool false]) (by simp[results,results214,go_sem,u,y]) rfl ⟨rfl,fO (fO z (PH _) _) (PH _) _⟩
theorem Rl{l:World}{p:Nat}{m lo b j:Int}{n:Bool}{f:FuncId}(h:CurAt l p m lo b j n true f)(x:Int) :
  CurAt (((((l.setCell ⟨p,2,none⟩ (.int .u64 lo)).setCell ⟨p,3,none⟩ (.int .u64 x)).setCell ⟨p,4,none⟩ (.bool true)).setCell ⟨p,5,none⟩ (.bool false)).setCell ⟨p,6,none⟩ (.func (.func 245) #[.pointer (some ⟨p,0,none⟩)] #[])) p m lo lo x true false 245:=
 heap_setCell_same _ _ 6 _ _ _ (heap_setCell_same _ _ 5 _ _ _ (heap_setCell_same _ _ 4 _ _ _ (heap_setCell_same _ _ 3 _ _ _ (heap_setCell_same _ _ 2 _ _ _ h))))
theorem Kt(p:Nat)(d:Int)(A lo r u:Int)(J:Bool)(f:FuncId)(w:World)(h:CurAt w p A lo r u J true f)(K:aL lo)(L:aL d)(hs:lo+d<18446744073709551616) :
  Calls prog 214 #[.pointer (some ⟨p,0,none⟩),.int .u64 d] w fun e w'=>e=.returned (.tuple #[.agg #[.int .u64 lo,.int .u64 (lo+d)],.bool true])∧CurAt w' p A lo lo (lo+d) true false 245∧Only (fun b=>b=p) w w':=by
 have B:=h.c1;have C:=h.c5;have D:=h.lt;have H:=aI h;obtain⟨s,es⟩:=aH (lo+d);have E:=aI (fun(W:World) (b:Nat) (M:W.heap[b]?=some (.cells #[.int .u64 lo,.int .u64 d] 57 (0,0)))=>Lw (some ⟨b,0,none⟩) 2 2 [lo,d] s W (CC K L M) (by rw[es];simp) (by rw[es];exact hs));rw[← es];clear h hs es;go_enter func214,ntmps214;go_wp2_with fail;refine(E _ _ (aK _ _ aD)).mono ?_;rintro e n ⟨rfl,b1⟩;have N:n.cell? ⟨w.heap.size,0,none⟩=some (.int .u64 0):=aM b1 (by simp;omega) aD;have O:n.cell? ⟨w.heap.size,1,none⟩=some (.int .u64 0):=aM b1 (by simp;omega) aD;have P:∀j,n.frozen? ⟨w.heap.size,j,none⟩=false:=fun j=>(b1.frozen (p:=⟨w.heap.size,j,none⟩) (by simp;omega)).trans aD;have y:=aN (aJ (aJ (Below.refl _ _) (.cells #[.int .u64 0,.int .u64 0] 123)) _) b1;have l:=H.below y;have Q:=l.c1;have R:=l.c2;have S:=l.c3;have T:=l.c4;have U:=l.c5;have V:=l.c6;have X:=l.free;have F:=aI l;clear l B C;go_wp2;have m:p≠w.heap.size:=aA;have G:n.heap[w.heap.size]?=some (.cells #[.int .u64 0,.int .u64 0] 123 (0,0)):=(b1.block _ (by simp;omega)).trans (aT _ _ aD (aK _ _ rfl));have z:=(((((Only.refl (fun b=>b=p) n).setCell (p:=⟨p,2,none⟩) (.inl rfl) (.int .u64 lo)).setCell (p:=⟨p,3,none⟩) (.inl rfl) (.int .u64 s)).setCell (p:=⟨p,4,none⟩) (.inl rfl) (.bool true)).setCell (p:=⟨p,5,none⟩) (.inl rfl) (.bool false)).setCell (p:=⟨p,6,none⟩) (.inl rfl) (.func (.func 245) #[.pointer (some ⟨p,0,none⟩)] #[]);have I:=heap_setCell_same _ _ 1 _ _ (.int .u64 s) (heap_setCell_same _ _ 0 _ _ (.int .u64 lo) (z.obj (fun h=>m h.symm) G));refine bodyPost_ret (v:=.tuple #[.agg #[.int .u64 lo,.int .u64 s],.bool true]) ?_ rfl ⟨rfl,(((Only.refl (fun b=>b=w.heap.size) _).setCell (p:=⟨w.heap.size,0,none⟩) (.inl rfl) (.int .u64 lo)).setCell (p:=⟨w.heap.size,1,none⟩) (.inl rfl) (.int .u64 s)).obj m (Rl F s),(((Only.of_below y).trans z).setCell (p:=⟨w.heap.size,0,none⟩) (.inr (PH _)) _).setCell (p:=⟨w.heap.size,1,none⟩) (.inr (PH _)) _⟩;simp[results,results214,go_sem,PG,I]
theorem Vr(p:Nat)(r lo b j:Int)(l op:Bool)(f:FuncId)(w:World)(h:CurAt w p r lo b j l op f) :
  Calls prog 212 #[.pointer (some ⟨p,0,none⟩)] w fun e w'=>e=.returned (.tuple #[.agg #[.int .u64 b,.int .u64 j],.bool l])∧Below w.heap.size w w':=by
 have s:=h.c2;have u:=h.c3;have y:=h.c4;have m:=h.lt;have n:p≠w.heap.size:=aA;clear h;go_enter func212,ntmps212;go_wp2;go_region;go_goals
 all_goals go_wp2
 all_goals exact bodyPost_ret (v:=.tuple #[.agg #[.int .u64 b,.int .u64 j],.bool l]) (by simp[results,results212,go_sem]) rfl ⟨rfl,aS (aJ (Below.refl _ _) _)⟩
end Go.Proofs.YtbkkolfpegplgaaGreatDoor
