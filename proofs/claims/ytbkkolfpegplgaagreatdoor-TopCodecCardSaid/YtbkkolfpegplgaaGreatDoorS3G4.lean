/- Contracts of delta's cursor: Start, Lo, Hi, Last. -/
import Derived.Test.YtbkkolfpegplgaaGreatDoorS3G3
import Derived.Test.YtbkkolfpegplgaaGreatDoorS3G1
import Derived.Laws.EntriesVeiled
import Derived.RegionTactic
import Derived.Deep.RegionWith
set_option maxHeartbeats 800000
namespace Go.Proofs.YtbkkolfpegplgaaGreatDoor
open Go.RowKit
def CurAt (w:World) (p:Nat) (ap lo llo lhi:Int) (sm op:Bool) (f:FuncId):Prop:=
 w.heap[p]?=some (.cells #[.int .u64 ap,.int .u64 lo,.int .u64 llo,.int .u64 lhi,.bool sm,.bool op,.func (.func f) #[.pointer (some ⟨p,0,none⟩)] #[]] 234 (0,0))
section
variable {w w':World} {p:Nat} {ap lo llo lhi:Int} {sm op:Bool} {f:FuncId}
theorem CurAt.lt(h:CurAt w p ap lo llo lhi sm op f):p<w.heap.size:=zh h
theorem CurAt.below(h:CurAt w p ap lo llo lhi sm op f)(hb:Below w.heap.size w w'):CurAt w' p ap lo llo lhi sm op f:=(hb.block p h.lt).trans h
theorem CurAt.c0(h:CurAt w p ap lo llo lhi sm op f):w.cell? ⟨p,0,none⟩=some (.int .u64 ap):=by simp[World.cell?,show w.heap[p]?=_ from h]
theorem CurAt.c1(h:CurAt w p ap lo llo lhi sm op f):w.cell? ⟨p,1,none⟩=some (.int .u64 lo):=by simp[World.cell?,show w.heap[p]?=_ from h]
theorem CurAt.c2(h:CurAt w p ap lo llo lhi sm op f):w.cell? ⟨p,2,none⟩=some (.int .u64 llo):=by simp[World.cell?,show w.heap[p]?=_ from h]
theorem CurAt.c3(h:CurAt w p ap lo llo lhi sm op f):w.cell? ⟨p,3,none⟩=some (.int .u64 lhi):=by simp[World.cell?,show w.heap[p]?=_ from h]
theorem CurAt.c4(h:CurAt w p ap lo llo lhi sm op f):w.cell? ⟨p,4,none⟩=some (.bool sm):=by simp[World.cell?,show w.heap[p]?=_ from h]
theorem CurAt.c5(h:CurAt w p ap lo llo lhi sm op f):w.cell? ⟨p,5,none⟩=some (.bool op):=by simp[World.cell?,show w.heap[p]?=_ from h]
theorem CurAt.c6(h:CurAt w p ap lo llo lhi sm op f):w.cell? ⟨p,6,none⟩=some (.func (.func f) #[.pointer (some ⟨p,0,none⟩)] #[]):=by simp[World.cell?,show w.heap[p]?=_ from h]
theorem CurAt.free(h:CurAt w p ap lo llo lhi sm op f):∀j,w.frozen? ⟨p,j,none⟩=false:=by intro j;simp[World.frozen?,show w.heap[p]?=_ from h]
end
theorem start_any(ap:Int)(w:World) :
  Calls Tryz.prog 95 #[.int .u64 ap] w fun e w'=>e=.returned (.pointer (some ⟨w.heap.size,0,none⟩))∧CurAt w' w.heap.size ap 0 0 0 false false 153∧Below w.heap.size w w':=by
 go_enter Tryz.func95,Tryz.ntmps95
 go_wp2
 go_ret
 exact⟨rfl,ze _ _ rfl,zc (Below.refl _ _) _⟩
theorem cur_took{w w1:World}{p:Nat}{ap lo llo lhi:Int}{sm:Bool}{f:FuncId}(h:CurAt w1 p ap lo llo lhi sm false f)(hb:Only (fun b=>b=p) w w1)(x:Int) :
  CurAt ((w1.setCell ⟨p,1,none⟩ (.int .u64 x)).setCell ⟨p,5,none⟩ (.bool true)) p ap x llo lhi sm true f∧Only (fun b=>b=p) w ((w1.setCell ⟨p,1,none⟩ (.int .u64 x)).setCell ⟨p,5,none⟩ (.bool true)):=
 ⟨heap_setCell_same _ _ 5 _ _ _ (heap_setCell_same _ _ 1 _ _ _ h),(hb.setCell (p:=⟨p,1,none⟩) (.inl rfl) _).setCell (p:=⟨p,5,none⟩) (.inl rfl) _⟩
theorem lo_first(p:Nat)(d:Int)(ap lo llo lhi:Int)(w:World)(h:CurAt w p ap lo llo lhi false false 153) :
  Calls Tryz.prog 213 #[.pointer (some ⟨p,0,none⟩),.int .u64 d] w fun e w'=>e=.returned (.tuple #[.int .u64 d,.bool true])∧CurAt w' p ap d llo lhi false true 153∧Only (fun b=>b=p) w w':=by
 have c1:=h.c1;have c5:=h.c5;have c6:=h.c6;have fz:=h.free;have H:=z7 h;clear h;go_enter Tryz.func213,Tryz.ntmps213
 go_wp2
 go_ret2
 exact⟨rfl,cur_took H.out (Only.refl _ _) d⟩
theorem ints2{w:World}{b:Nat}{x y:Int}(hx:Word x)(hy:Word y)(h:w.heap[b]?=some (.cells #[.int .u64 x,.int .u64 y] 57 (0,0))):Ints .u64 w (some ⟨b,0,none⟩) 2 [x,y]:=by
 refine⟨rfl,by decide,?_,?_⟩
 ·intro z hz
  simp at hz
  rcases hz with rfl | rfl<;>(simp[Lit.wf,IntKind.min,IntKind.max,IntKind.signed,IntKind.bits];unfold Word at *;omega)
 ·intro i hi
  have hb:=zh h;have:i=0∨i=1:=by omega
  rcases this with rfl | rfl<;>exact⟨b,0,rfl,hb,by simp[World.cell?,h]⟩
theorem ints3{w:World}{b:Nat}{x y z:Int}(hx:Word x)(hy:Word y)(hz:Word z)(h:w.heap[b]?=some (.cells #[.int .u64 x,.int .u64 y,.int .u64 z] 57 (0,0))):Ints .u64 w (some ⟨b,0,none⟩) 3 [x,y,z]:=by
 refine⟨rfl,by decide,?_,?_⟩
 ·intro z hz
  simp at hz
  rcases hz with rfl | rfl | rfl<;>(simp[Lit.wf,IntKind.min,IntKind.max,IntKind.signed,IntKind.bits];unfold Word at *;omega)
 ·intro i hi
  have hb:=zh h;have:i=0∨i=1∨i=2:=by omega
  rcases this with rfl | rfl | rfl<;>exact⟨b,0,rfl,hb,by simp[World.cell?,h]⟩
theorem ints4{w:World}{b:Nat}{x y z u:Int}(hx:Word x)(hy:Word y)(hz:Word z)(hu:Word u)(h:w.heap[b]?=some (.cells #[.int .u64 x,.int .u64 y,.int .u64 z,.int .u64 u] 57 (0,0))):Ints .u64 w (some ⟨b,0,none⟩) 4 [x,y,z,u]:=by
 refine⟨rfl,by decide,?_,?_⟩
 ·intro z hz
  simp at hz
  rcases hz with rfl | rfl | rfl | rfl<;>(simp[Lit.wf,IntKind.min,IntKind.max,IntKind.signed,IntKind.bits];unfold Word at *;omega)
 ·intro i hi
  have hb:=zh h;have:i=0∨i=1∨i=2∨i=3:=by omega
  rcases this with rfl | rfl | rfl | rfl<;>exact⟨b,0,rfl,hb,by simp[World.cell?,h]⟩
theorem sumV_four(x y z u:Int):sumV [x,y,z,u]=if x+y+z+u<18446744073709551616 then x+y+z+u else 0:=by
 unfold sumV;rw[show [x,y,z,u].sum=x+y+z+u by simp;omega]
theorem sumB_four(x y z u:Int):sumB [x,y,z,u]=decide (x+y+z+u<18446744073709551616):=by
 unfold sumB;rw[show [x,y,z,u].sum=x+y+z+u by simp;omega]
theorem z3p:Word 1:=⟨by decide,by decide⟩
theorem zero_word:Word 0:=⟨by decide,by decide⟩
theorem later_any(p:Nat)(d:Int)(ap lo llo lhi:Int)(sm op:Bool)(f:FuncId)(w:World)(h:CurAt w p ap lo llo lhi sm op f)(ha:Word ap)(hh:Word lhi)(hd:Word d) :
  Calls Tryz.prog 245 #[.pointer (some ⟨p,0,none⟩),.int .u64 d] w fun e w'=>e=.returned (.tuple #[.int .u64 (sumV [lhi,1,ap,d]),.bool (sumB [lhi,1,ap,d])])∧Below w.heap.size w w':=by
 have c0:=h.c0;have c3:=h.c3;have HS:=z7 (fun(W:World) (b:Nat)=>fun(hW:W.heap[b]?=some (.cells #[.int .u64 lhi,.int .u64 1,.int .u64 ap,.int .u64 d] 57 (0,0)))=>sum_any (some ⟨b,0,none⟩) 4 4 [lhi,1,ap,d] W (ints4 hh z3p ha hd hW));clear h;go_enter Tryz.func245,Tryz.ntmps245
 go_wp2
 go_region_with (go_at_call 244;refine(HS.out (w.alloc (.cells #[.int .u64 lhi,.int .u64 1,.int .u64 ap,.int .u64 d] 57)).drew w.heap.size (ze w _ rfl)).mono ?_;rintro e w1 ⟨rfl,hb1⟩)
 all_goals
  go_wp2
  go_ret2
  exact⟨rfl,zf (z1q (zc (Below.refl _ _) _)) hb1⟩
theorem later_yes(p:Nat)(d:Int)(ap lo llo lhi:Int)(sm op:Bool)(f:FuncId)(w:World)(h:CurAt w p ap lo llo lhi sm op f)(ha:Word ap)(hh:Word lhi)(hd:Word d)(hs:lhi+1+ap+d<18446744073709551616) :
  Calls Tryz.prog 245 #[.pointer (some ⟨p,0,none⟩),.int .u64 d] w fun e w'=>e=.returned (.tuple #[.int .u64 (lhi+1+ap+d),.bool true])∧Below w.heap.size w w':=
 (later_any p d ap lo llo lhi sm op f w h ha hh hd).mono fun _ _ ⟨he,hb⟩=>⟨he.trans (z1t (by rw[sumV_four,if_pos hs]) (by rw[sumB_four,decide_eq_true hs])),hb⟩
theorem later_no(p:Nat)(d:Int)(ap lo llo lhi:Int)(sm op:Bool)(f:FuncId)(w:World)(h:CurAt w p ap lo llo lhi sm op f)(ha:Word ap)(hh:Word lhi)(hd:Word d)(hs:¬lhi+1+ap+d<18446744073709551616) :
  Calls Tryz.prog 245 #[.pointer (some ⟨p,0,none⟩),.int .u64 d] w fun e w'=>e=.returned (.tuple #[.int .u64 0,.bool false])∧Below w.heap.size w w':=
 (later_any p d ap lo llo lhi sm op f w h ha hh hd).mono fun _ _ ⟨he,hb⟩=>⟨he.trans (z1t (by rw[sumV_four,if_neg hs]) (by rw[sumB_four,decide_eq_false hs])),hb⟩
theorem lo_later(p:Nat)(d:Int)(ap lo llo lhi:Int)(sm:Bool)(w:World)(h:CurAt w p ap lo llo lhi sm false 245)(ha:Word ap)(hh:Word lhi)(hd:Word d)(hs:lhi+1+ap+d<18446744073709551616) :
  Calls Tryz.prog 213 #[.pointer (some ⟨p,0,none⟩),.int .u64 d] w fun e w'=>e=.returned (.tuple #[.int .u64 (lhi+1+ap+d),.bool true])∧CurAt w' p ap (lhi+1+ap+d) llo lhi sm true 245∧Only (fun b=>b=p) w w':=by
 have c5:=h.c5;have c6:=h.c6;have hlt:=h.lt;have H:=z7 h;have HL:=z7 (later_yes p d ap lo llo lhi sm false _ w h ha hh hd hs);obtain⟨s,es⟩:∃s,s=lhi+1+ap+d:=⟨_,rfl⟩;rw[← es]at HL ⊢;clear h hs es;go_enter Tryz.func213,Tryz.ntmps213
 go_wp2_with fail
 refine HL.out.mono ?_;rintro e w1 ⟨rfl,b1⟩;have hC:=H.out.below b1;have d1:=hC.c1;have d5:=hC.c5;have fz:=hC.free;have HC:=z7 hC;clear hC c5 c6;go_wp2
 go_ret2
 exact⟨rfl,cur_took HC.out (Only.of_below b1) s⟩
theorem lo_later_no(p:Nat)(d:Int)(ap lo llo lhi:Int)(sm:Bool)(w:World)(h:CurAt w p ap lo llo lhi sm false 245)(ha:Word ap)(hh:Word lhi)(hd:Word d)(hs:¬lhi+1+ap+d<18446744073709551616) :
  Calls Tryz.prog 213 #[.pointer (some ⟨p,0,none⟩),.int .u64 d] w fun e w'=>e=.returned (.tuple #[.int .u64 0,.bool false])∧Below w.heap.size w w':=by
 have c5:=h.c5;have c6:=h.c6;have hlt:=h.lt;have HL:=z7 (later_no p d ap lo llo lhi sm false _ w h ha hh hd hs);clear h hs;go_enter Tryz.func213,Tryz.ntmps213
 go_wp2_with fail
 refine HL.out.mono ?_;rintro e w1 ⟨rfl,b1⟩;go_wp2
 go_ret2
 exact⟨rfl,b1⟩
theorem sum_yes(a:Option Addr)(len cap:Nat)(zs:List Int)(s:Int)(w:World)(h:Ints .u64 w a len zs)(es:zs.sum=s)(hs:s<18446744073709551616) :
  Calls Tryz.prog 244 #[.slice a len cap] w fun e w'=>e=.returned (.tuple #[.int .u64 s,.bool true])∧Below w.heap.size w w':=
 (sum_any a len cap zs w h).mono fun _ _ ⟨he,hb⟩=>⟨he.trans (z1t (by unfold sumV;rw[es,if_pos hs]) (by unfold sumB;rw[es,decide_eq_true hs])),hb⟩
theorem sum_no(a:Option Addr)(len cap:Nat)(zs:List Int)(w:World)(h:Ints .u64 w a len zs)(hs:¬zs.sum<18446744073709551616) :
  Calls Tryz.prog 244 #[.slice a len cap] w fun e w'=>e=.returned (.tuple #[.int .u64 0,.bool false])∧Below w.heap.size w w':=
 (sum_any a len cap zs w h).mono fun _ _ ⟨he,hb⟩=>⟨he.trans (z1t (by unfold sumV;rw[if_neg hs]) (by unfold sumB;rw[decide_eq_false hs])),hb⟩
theorem hi_no(p:Nat)(d:Int)(ap lo llo lhi:Int)(sm:Bool)(f:FuncId)(w:World)(h:CurAt w p ap lo llo lhi sm true f)(hl:Word lo)(hd:Word d)(hs:¬lo+d<18446744073709551616) :
  Calls Tryz.prog 214 #[.pointer (some ⟨p,0,none⟩),.int .u64 d] w fun e w'=>e=.returned (.tuple #[.agg #[.int .u64 0,.int .u64 0],.bool false])∧Below w.heap.size w w':=by
 have c1:=h.c1;have c5:=h.c5;have hlt:=h.lt;have HS:=z7 (fun(W:World) (b:Nat) (hW:W.heap[b]?=some (.cells #[.int .u64 lo,.int .u64 d] 57 (0,0)))=>sum_no (some ⟨b,0,none⟩) 2 2 [lo,d] W (ints2 hl hd hW) (by simpa using hs));clear h hs;go_enter Tryz.func214,Tryz.ntmps214
 go_wp2_with fail
 refine(HS.out _ _ (ze _ _ (by simp))).mono ?_;rintro e w1 ⟨rfl,b1⟩;have k0:w1.cell? ⟨w.heap.size,0,none⟩=some (.int .u64 0):=zg b1 (by simp;omega) (by simp);have k1:w1.cell? ⟨w.heap.size,1,none⟩=some (.int .u64 0):=zg b1 (by simp;omega) (by simp);have f0:∀j,w1.frozen? ⟨w.heap.size,j,none⟩=false:=fun j=>(b1.frozen (p:=⟨w.heap.size,j,none⟩) (by simp;omega)).trans (by simp);have hb:=zf (zc (zc (Below.refl _ _) (.cells #[.int .u64 0,.int .u64 0] 123)) _) b1;go_wp2
 exact bodyPost_ret (v:=.tuple #[.agg #[.int .u64 0,.int .u64 0],.bool false]) (by simp[results,Tryz.results214,go_sem,k0,k1]) rfl ⟨rfl,z1u (z1u hb (Nat.le_refl _) _) (Nat.le_refl _) _⟩
theorem cur_ended{w1:World}{p:Nat}{ap lo llo lhi:Int}{sm:Bool}{f:FuncId}(h:CurAt w1 p ap lo llo lhi sm true f)(x:Int) :
  CurAt (((((w1.setCell ⟨p,2,none⟩ (.int .u64 lo)).setCell ⟨p,3,none⟩ (.int .u64 x)).setCell ⟨p,4,none⟩ (.bool true)).setCell ⟨p,5,none⟩ (.bool false)).setCell ⟨p,6,none⟩ (.func (.func 245) #[.pointer (some ⟨p,0,none⟩)] #[])) p ap lo lo x true false 245:=
 heap_setCell_same _ _ 6 _ _ _ (heap_setCell_same _ _ 5 _ _ _ (heap_setCell_same _ _ 4 _ _ _ (heap_setCell_same _ _ 3 _ _ _ (heap_setCell_same _ _ 2 _ _ _ h))))
theorem hi_yes(p:Nat)(d:Int)(ap lo llo lhi:Int)(sm:Bool)(f:FuncId)(w:World)(h:CurAt w p ap lo llo lhi sm true f)(hl:Word lo)(hd:Word d)(hs:lo+d<18446744073709551616) :
  Calls Tryz.prog 214 #[.pointer (some ⟨p,0,none⟩),.int .u64 d] w fun e w'=>e=.returned (.tuple #[.agg #[.int .u64 lo,.int .u64 (lo+d)],.bool true])∧CurAt w' p ap lo lo (lo+d) true false 245∧Only (fun b=>b=p) w w':=by
 have c1:=h.c1;have c5:=h.c5;have hlt:=h.lt;have H:=z7 h;obtain⟨s,es⟩:∃s,s=lo+d:=⟨_,rfl⟩;have HS:=z7 (fun(W:World) (b:Nat) (hW:W.heap[b]?=some (.cells #[.int .u64 lo,.int .u64 d] 57 (0,0)))=>sum_yes (some ⟨b,0,none⟩) 2 2 [lo,d] s W (ints2 hl hd hW) (by rw[es];simp) (by rw[es];exact hs));rw[← es];clear h hs es;go_enter Tryz.func214,Tryz.ntmps214
 go_wp2_with fail
 refine(HS.out _ _ (ze _ _ (by simp))).mono ?_;rintro e w1 ⟨rfl,b1⟩;have k0:w1.cell? ⟨w.heap.size,0,none⟩=some (.int .u64 0):=zg b1 (by simp;omega) (by simp);have k1:w1.cell? ⟨w.heap.size,1,none⟩=some (.int .u64 0):=zg b1 (by simp;omega) (by simp);have f0:∀j,w1.frozen? ⟨w.heap.size,j,none⟩=false:=fun j=>(b1.frozen (p:=⟨w.heap.size,j,none⟩) (by simp;omega)).trans (by simp);have hb:=zf (zc (zc (Below.refl _ _) (.cells #[.int .u64 0,.int .u64 0] 123)) _) b1;have hC:=H.out.below hb;have d1:=hC.c1;have d2:=hC.c2;have d3:=hC.c3;have d4:=hC.c4;have d5:=hC.c5;have d6:=hC.c6;have fz:=hC.free;have HC:=z7 hC;clear hC c1 c5;go_wp2
 have hne:p≠w.heap.size:=by omega
 have hr:w1.heap[w.heap.size]?=some (.cells #[.int .u64 0,.int .u64 0] 123 (0,0)):=(b1.block _ (by simp;omega)).trans (zk _ _ (by simp) (ze _ _ rfl));have hO:=(((((Only.refl (fun b=>b=p) w1).setCell (p:=⟨p,2,none⟩) (.inl rfl) (.int .u64 lo)).setCell (p:=⟨p,3,none⟩) (.inl rfl) (.int .u64 s)).setCell (p:=⟨p,4,none⟩) (.inl rfl) (.bool true)).setCell (p:=⟨p,5,none⟩) (.inl rfl) (.bool false)).setCell (p:=⟨p,6,none⟩) (.inl rfl) (.func (.func 245) #[.pointer (some ⟨p,0,none⟩)] #[]);have e0:=heap_setCell_same _ _ 1 _ _ (.int .u64 s) (heap_setCell_same _ _ 0 _ _ (.int .u64 lo) (hO.obj (fun h=>hne h.symm) hr));refine bodyPost_ret (v:=.tuple #[.agg #[.int .u64 lo,.int .u64 s],.bool true]) ?_ rfl ⟨rfl,(((Only.refl (fun b=>b=w.heap.size) _).setCell (p:=⟨w.heap.size,0,none⟩) (.inl rfl) (.int .u64 lo)).setCell (p:=⟨w.heap.size,1,none⟩) (.inl rfl) (.int .u64 s)).obj hne (cur_ended HC.out s),(((Only.of_below hb).trans hO).setCell (p:=⟨w.heap.size,0,none⟩) (.inr (Nat.le_refl _)) _).setCell (p:=⟨w.heap.size,1,none⟩) (.inr (Nat.le_refl _)) _⟩;simp[results,Tryz.results214,go_sem,World.cell?,e0]
theorem last_any(p:Nat)(ap lo llo lhi:Int)(sm op:Bool)(f:FuncId)(w:World)(h:CurAt w p ap lo llo lhi sm op f) :
  Calls Tryz.prog 212 #[.pointer (some ⟨p,0,none⟩)] w fun e w'=>e=.returned (.tuple #[.agg #[.int .u64 llo,.int .u64 lhi],.bool sm])∧Below w.heap.size w w':=by
 have c2:=h.c2;have c3:=h.c3;have c4:=h.c4;have hlt:=h.lt;have hne:p≠w.heap.size:=by omega
 clear h;go_enter Tryz.func212,Tryz.ntmps212
 go_wp2
 go_region
 go_goals
 all_goals go_wp2
 all_goals exact bodyPost_ret (v:=.tuple #[.agg #[.int .u64 llo,.int .u64 lhi],.bool sm]) (by simp[results,Tryz.results212,go_sem]) rfl ⟨rfl,z1q (zc (Below.refl _ _) _)⟩
end Go.Proofs.YtbkkolfpegplgaaGreatDoor
