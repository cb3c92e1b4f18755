/- Contracts of Sum, of the package word and of the reference: the sum of a list of words, or false. Contracts of the package span: Relate, Meet, Join, Has, Check, Shift. -/
import Derived.Test.YtbkkolfpegplgaaGreatDoorS3G1
import Derived.Deep.QuietTactic
set_option maxHeartbeats 800000
namespace Go.Proofs.YtbkkolfpegplgaaGreatDoor
open Go.RowKit
def sumTo (zs:List Int) (k:Nat):Int:=(zs.take k).sum
theorem sumTo_zero(zs:List Int):sumTo zs 0=0:=by simp[sumTo]
theorem sumTo_succ(zs:List Int)(k:Nat)(h:k<zs.length):sumTo zs (k+1)=sumTo zs k+zs.getD k 0:=by
 unfold sumTo;rw[List.take_succ_eq_append_getElem h,List.sum_append];simp[List.getD,List.getElem?_eq_getElem h]
theorem sumTo_all(zs:List Int):sumTo zs zs.length=zs.sum:=by simp[sumTo]
theorem sumTo_range{w:World}{a:Option Addr}{len:Nat}{zs:List Int}(h:Ints .u64 w a len zs):∀k,k≤len→0≤sumTo zs k∧sumTo zs k≤18446744073709551615 * (k:Int):=by
 intro k;induction k with
 | zero=>intro _;rw[sumTo_zero];omega
 | succ k ih=>
   intro hk;have hl:=h.length;rw[sumTo_succ zs k (by omega)];obtain⟨a1,a2⟩:=ih (by omega);obtain⟨b1,b2⟩:=z41 (h.getD_wf (i:=k) (by omega));omega
theorem sum_long{w:World}{a:Option Addr}{len:Nat}{zs:List Int}(h:Ints .u64 w a len zs){k:Nat}(hk:k≤len):Long (sumTo zs k):=by
 obtain⟨a1,a2⟩:=sumTo_range h k hk;have:=h.most;unfold Long;omega
def sumV (zs:List Int):Int:=if zs.sum<18446744073709551616 then zs.sum else 0
def sumB (zs:List Int):Bool:=decide (zs.sum<18446744073709551616)
theorem sum_any(a:Option Addr)(len cap:Nat)(zs:List Int)(w:World)(h:Ints .u64 w a len zs) :
  Calls Tryz.prog 244 #[.slice a len cap] w fun e w'=>e=.returned (.tuple #[.int .u64 (sumV zs),.bool (sumB zs)])∧Below w.heap.size w w':=by
 have hm:=h.most;have H:=z7 h;clear h;go_enter Tryz.func244,Tryz.ntmps244
 go_wp2
 go_loopw [9] (fun c wr=>∃k:Nat,k≤len∧c=.int .i64 k∧wr.heap[w.heap.size]?=some (.cells #[.int .u64 (hi64 (sumTo zs k)),.int .u64 (lo64 (sumTo zs k))] 358 (0,0))∧Below w.heap.size w wr)
  (fun c _=>len-(intOf c).toNat)
 case atStart=>exact⟨0,Nat.zero_le _,rfl,ze _ _ rfl,(Below.refl _ _).alloc (Nat.le_refl _) _⟩
 case round=>
  obtain⟨k,hk,rfl,hP,hb⟩:=hrel;have c0:wr.cell? ⟨w.heap.size,0,none⟩=some (.int .u64 (hi64 (sumTo zs k))):=by simp[World.cell?,hP]
  have c1:wr.cell? ⟨w.heap.size,1,none⟩=some (.int .u64 (lo64 (sumTo zs k))):=by simp[World.cell?,hP]
  have fz:∀j,wr.frozen? ⟨w.heap.size,j,none⟩=false:=by intro j;simp[World.frozen?,hP]
  have hlt0:w.heap.size<wr.heap.size:=zh hP;have HP:=z7 hP;clear hP;by_cases hlt:k<len
  ·obtain⟨b,off,rfl,hbl,hcell⟩:=H.out.cells k hlt
   have hz:=z41 (H.out.getD_wf hlt);have hs:=z7 (sumTo_succ zs k (by rw[H.out.length];exact hlt));obtain⟨z,ez⟩:∃z,z=zs.getD k 0:=⟨_,rfl⟩;rw[← ez]at hcell hz hs;clear ez;have hcell':wr.cell? ⟨b,off+k,none⟩=some (.int .u64 z):=(hb.cell (p:=⟨b,off+k,none⟩) hbl).trans hcell;clear hcell;go_wp2_with(go_at_call 263;refine(plus_any _ _ 0 z (word_hi _) (word_lo _) ⟨by decide,by decide⟩ hz _).mono ?_;rintro e w1 ⟨rfl,hb1⟩;obtain⟨hc,hf⟩:=bcell hb1)
   have e1:val (hi64 (sumTo zs k)) (lo64 (sumTo zs k))+val 0 z=sumTo zs (k+1):=by rw[val_hilo (sum_long H.out hk),val_zero,hs.out]
   rw[e1];go_roundw
   case rel=>
    have h0:=(hb1.block w.heap.size hlt0).trans HP.out;exact⟨k+1,by omega,by go_num,heap_setCell_same _ _ 1 _ _ _ (heap_setCell_same _ _ 0 _ _ _ h0),z1u (z1u (zf hb hb1) (Nat.le_refl _) _) (Nat.le_refl _) _⟩
   case measure=>simp[intOf];omega
  ·have:k=len:=by omega
   subst this;have hl:=z7 (sum_long H.out (Nat.le_refl k));have es:=z7 (sumTo_all zs);have el:=z7 H.out.length;go_wp2
   ·have hc:0<hi64 (sumTo zs k):=by assumption
    go_ret2
    refine⟨?_,hb⟩;have e:=hl.out;rw[← el.out,es.out]at hc e;have hn:¬zs.sum<18446744073709551616:=by unfold Long at e;unfold hi64 at hc;omega
    exact z1t (by unfold sumV;rw[if_neg hn]) (by unfold sumB;rw[decide_eq_false hn])
   ·have hc:hi64 (sumTo zs k)≤0:=by assumption
    go_ret2
    refine⟨?_,hb⟩;have e:=hl.out;rw[← el.out,es.out]at hc e ⊢;have hn:zs.sum<18446744073709551616:=by unfold Long at e;unfold hi64 at hc;omega
    exact z1t (by unfold sumV;rw[if_pos hn];unfold lo64;unfold Long at e;omega) (by unfold sumB;rw[decide_eq_true hn])
theorem z44{P:Program}{f:FuncId}{args:Array Value}{w:World}{n:Nat}{v:Value}
  (h:Calls P f args (w.drewN n) fun e w'=>e=.returned v∧w.drewN n=w'):Calls P f args (w.drewN n) fun e w''=>e=.returned v∧∃m,w''=w.drewN m:=
 h.mono fun _ _ ⟨he,hm⟩=>⟨he,n,hm.symm⟩
theorem relate_any(al ah bl bh:Int)(h1:Word al)(h2:Word ah)(h3:Word bl)(h4:Word bh)(ha:al≤ah)(hb:bl≤bh)(w:World) :
  Calls Tryz.prog 144 #[.agg #[.int .u64 al,.int .u64 ah],.agg #[.int .u64 bl,.int .u64 bh]] w fun e w'=>e=.returned (.int .i64 (relI al ah bl bh))∧Below w.heap.size w w':=by
 by_cases c1:ah<bl
 ·have K1:=z7 (fun W=>z2j ah bl h2 h3 c1 W)
  have K2:=z7 (fun W=>z38 bh al h4 h1 (by omega) W);by_cases c2:bl-ah=1
  ·have R:=z7 (show relI al ah bl bh=1 by unfold relI;rw[if_pos c1,if_pos c2])
   have g1:¬0<bl-ah-1:=by omega
   clear h1 h2 h3 h4 ha hb c1 c2;go_enter Tryz.func144,Tryz.ntmps144
   go_wp2_with fail
   refine(K1.out _).mono ?_;rintro e w1 ⟨rfl,rfl⟩;go_wp2_with fail
   refine(K2.out _).mono ?_;rintro e w2 ⟨rfl,rfl⟩;go_wp2
   go_ret
   exact⟨z40 R.out.symm,zc (zc (Below.refl _ _) _) _⟩
  ·have R:=z7 (show relI al ah bl bh=0 by unfold relI;rw[if_pos c1,if_neg c2])
   have g1:0<bl-ah-1:=by omega
   clear h1 h2 h3 h4 ha hb c1 c2;go_enter Tryz.func144,Tryz.ntmps144
   go_wp2_with fail
   refine(K1.out _).mono ?_;rintro e w1 ⟨rfl,rfl⟩;go_wp2_with fail
   refine(K2.out _).mono ?_;rintro e w2 ⟨rfl,rfl⟩;go_wp2
   go_ret
   exact⟨z40 R.out.symm,zc (zc (Below.refl _ _) _) _⟩
 ·have K1:=z7 (fun W=>z38 ah bl h2 h3 (by omega) W)
  by_cases c3:bh<al
  ·have K2:=z7 (fun W=>z2j bh al h4 h1 c3 W)
   by_cases c2:al-bh=1
   ·have R:=z7 (show relI al ah bl bh=3 by unfold relI;rw[if_neg c1,if_pos c3,if_pos c2])
    have g1:¬0<al-bh-1:=by omega
    clear h1 h2 h3 h4 ha hb c1 c2 c3;go_enter Tryz.func144,Tryz.ntmps144
    go_wp2_with fail
    refine(K1.out _).mono ?_;rintro e w1 ⟨rfl,rfl⟩;go_wp2_with fail
    refine(K2.out _).mono ?_;rintro e w2 ⟨rfl,rfl⟩;go_wp2
    go_ret
    exact⟨z40 R.out.symm,zc (zc (Below.refl _ _) _) _⟩
   ·have R:=z7 (show relI al ah bl bh=4 by unfold relI;rw[if_neg c1,if_pos c3,if_neg c2])
    have g1:0<al-bh-1:=by omega
    clear h1 h2 h3 h4 ha hb c1 c2 c3;go_enter Tryz.func144,Tryz.ntmps144
    go_wp2_with fail
    refine(K1.out _).mono ?_;rintro e w1 ⟨rfl,rfl⟩;go_wp2_with fail
    refine(K2.out _).mono ?_;rintro e w2 ⟨rfl,rfl⟩;go_wp2
    go_ret
    exact⟨z40 R.out.symm,zc (zc (Below.refl _ _) _) _⟩
  ·have K2:=z7 (fun W=>z38 bh al h4 h1 (by omega) W)
   have R:=z7 (show relI al ah bl bh=2 by unfold relI;rw[if_neg c1,if_neg c3]);clear h1 h2 h3 h4 ha hb c1 c3;go_enter Tryz.func144,Tryz.ntmps144
   go_wp2_with fail
   refine(K1.out _).mono ?_;rintro e w1 ⟨rfl,rfl⟩;go_wp2_with fail
   refine(K2.out _).mono ?_;rintro e w2 ⟨rfl,rfl⟩;go_wp2
   go_ret
   exact⟨z40 R.out.symm,zc (zc (Below.refl _ _) _) _⟩
def mxI (a b:Int):Int:=if a<b then b else a
def mnI (a b:Int):Int:=if b<a then b else a
def mtB (al ah bl bh:Int):Bool:=decide (mxI al bl≤mnI ah bh)
def mtL (al ah bl bh:Int):Int:=if mxI al bl≤mnI ah bh then mxI al bl else 0
def mtH (al ah bl bh:Int):Int:=if mxI al bl≤mnI ah bh then mnI ah bh else 0
def joB (r:Int):Bool:=decide (r≠0∧r≠4)
def joL (r al bl:Int):Int:=if r≠0∧r≠4 then mnI al bl else 0
def joH (r ah bh:Int):Int:=if r≠0∧r≠4 then mxI ah bh else 0
end Go.Proofs.YtbkkolfpegplgaaGreatDoor
