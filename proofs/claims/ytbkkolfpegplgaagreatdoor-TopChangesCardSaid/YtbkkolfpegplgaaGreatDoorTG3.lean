import Derived.Test.YtbkkolfpegplgaaGreatDoorTG1
import Derived.Deep.QuietTactic
open Nat renaming le_refl→PC
open Go.Proofs.Tryz
set_option maxHeartbeats 800000
namespace Go.Proofs.YtbkkolfpegplgaaGreatDoor
open Go.RowKit
def gY (zs:List Int) (k:Nat):Int:=(zs.take k).sum
theorem Jg(zs:List Int):gY zs 0=0:=by simp[gY]
theorem wN(zs:List Int)(k:Nat)(h:k<zs.length):gY zs (k+1)=gY zs k+zs.getD k 0:=by
 unfold gY;rw[List.take_succ_eq_append_getElem h,List.sum_append];simp[List.getD,List.getElem?_eq_getElem h]
theorem Ou(zs:List Int):gY zs zs.length=zs.sum:=by simp[gY]
theorem Ey{w:World}{a:Option Addr}{len:Nat}{zs:List Int}(h:Ints .u64 w a len zs):∀k,k≤len→0≤gY zs k∧gY zs k≤18446744073709551615 * (k:Int):=by
 intro k;induction k with
 | zero=>intro _;rw[Jg];omega
 | succ k ih=>
   intro j;have b:=h.length;rw[wN zs k aA];obtain⟨a1,a2⟩:=ih aA;obtain⟨b1,b2⟩:=jV (h.getD_wf (i:=k) aA);omega
theorem Ew{w:World}{a:Option Addr}{len:Nat}{zs:List Int}(h:Ints .u64 w a len zs){k:Nat}(b:k≤len):Lq (gY zs k):=by
 obtain⟨a1,a2⟩:=Ey h k b;have:=h.most;unfold Lq;omega
def Ex (zs:List Int):Int:=if zs.sum<18446744073709551616 then zs.sum else 0
def Ez (zs:List Int):Bool:=decide (zs.sum<18446744073709551616)
theorem Ch(a:Option Addr)(len cap:Nat)(zs:List Int)(w:World)(h:Ints .u64 w a len zs) :
  Calls prog 244 #[.slice a len cap] w fun e w'=>e=.returned (.tuple #[.int .u64 (Ex zs),.bool (Ez zs)])∧Below w.heap.size w w':=by
 have K:=h.most;have H:=aI h;clear h;go_enter func244,ntmps244;go_wp2;go_loopw [9] (fun c wr=>∃k:Nat,k≤len∧c=.int .i64 k∧wr.heap[w.heap.size]?=some (.cells #[.int .u64 (pR (gY zs k)),.int .u64 (tH (gY zs k))] 358 (0,0))∧Below w.heap.size w wr)
  (fun c _=>len-(intOf c).toNat)
 case atStart=>exact⟨0,Nat.zero_le _,rfl,aK _ _ rfl,(Below.refl _ _).alloc (PC _) _⟩
 obtain⟨k,J,rfl,r,A⟩:=hrel;have L:wr.cell? ⟨w.heap.size,0,none⟩=some (.int .u64 (pR (gY zs k))):=by simp[World.cell?,r]
 have M:wr.cell? ⟨w.heap.size,1,none⟩=some (.int .u64 (tH (gY zs k))):=by simp[World.cell?,r]
 have N:∀j,wr.frozen? ⟨w.heap.size,j,none⟩=false:=by intro j;simp[World.frozen?,r]
 have s:w.heap.size<wr.heap.size:=aO r;have G:=aI r;clear r;by_cases hlt:k<len
 ·obtain⟨b,off,rfl,B,l⟩:=H.cells k hlt;have C:=jV (H.getD_wf hlt);have hs:=aI (wN zs k (by rw[H.length];exact hlt));obtain⟨z,F⟩:=aH (zs.getD k 0);rw[← F]at l C hs;clear F;have y:wr.cell? ⟨b,off+k,none⟩=some (.int .u64 z):=(A.cell (p:=⟨b,off+k,none⟩) B).trans l;clear l;go_wp2_with(go_at_call 263;refine(Uv _ _ 0 z (Yd _) (Yc _) ⟨aB,aB⟩ C _).mono ?_;rintro e O ⟨rfl,m⟩;obtain⟨n,P⟩:=It m);have I:val (pR (gY zs k)) (tH (gY zs k))+val 0 z=gY zs (k+1):=by rw[Ss (Ew H.out J),Sr,hs.out]
  rw[I];go_roundw
  case rel=>
   have h0:=(m.block w.heap.size s).trans G;exact⟨k+1,aA,by go_num,heap_setCell_same _ _ 1 _ _ _ (heap_setCell_same _ _ 0 _ _ _ h0),fO (fO (aN A m) (PC _) _) (PC _) _⟩
  simp[intOf];omega
 have:k=len:=aA;subst this;have D:=aI (Ew H (PC k));have es:=aI (Ou zs);have E:=aI H.length;go_wp2
 ·have n:0<pR (gY zs k):=aF;go_ret2;refine⟨?_,A⟩;have e:=D.out;rw[← E.out,es.out]at n e;have u:¬zs.sum<18446744073709551616:=by unfold Lq at e;unfold pR at n;omega
  exact fT (by unfold Ex;rw[if_neg u]) (by unfold Ez;rw[decide_eq_false u])
 have n:pR (gY zs k)≤0:=aF;go_ret2;refine⟨?_,A⟩;have e:=D.out;rw[← E.out,es.out]at n e ⊢;have u:zs.sum<18446744073709551616:=by unfold Lq at e;unfold pR at n;omega
 exact fT (by unfold Ex;rw[if_pos u];unfold tH;unfold Lq at e;omega) (by unfold Ez;rw[decide_eq_true u])
theorem iJ{P:Program}{f:FuncId}{args:Array Value}{w:World}{n:Nat}{v:Value}
  (h:Calls P f args (w.drewN n) fun e w'=>e=.returned v∧w.drewN n=w'):Calls P f args (w.drewN n) fun e b=>e=.returned v∧∃m,b=w.drewN m:=
 h.mono fun _ _ ⟨he,hm⟩=>⟨he,n,hm.symm⟩
theorem Jp(b l bl j:Int)(h1:aL b)(h2:aL l)(h3:aL bl)(h4:aL j)(m:b≤l)(n:bl≤j)(w:World) :
  Calls prog 144 #[.agg #[.int .u64 b,.int .u64 l],.agg #[.int .u64 bl,.int .u64 j]] w fun e w'=>e=.returned (.int .i64 (iU b l bl j))∧Below w.heap.size w w':=by
 by_cases c1:l<bl;have s:=aI (fun W=>iN l bl h2 h3 c1 W);have p:=aI (fun W=>kM j b h4 h1 aA W);by_cases c2:bl-l=1;have R:=aI (show iU b l bl j=1 by unfold iU;rw[if_pos c1,if_pos c2]);have r:¬0<bl-l-1:=aA;clear h1 h2 h3 h4 m n c1 c2;rotate_left;have R:=aI (show iU b l bl j=0 by unfold iU;rw[if_pos c1,if_neg c2]);have r:0<bl-l-1:=aA;clear h1 h2 h3 h4 m n c1 c2;rotate_left;have s:=aI (fun W=>kM l bl h2 h3 aA W);by_cases c3:j<b;have p:=aI (fun W=>iN j b h4 h1 c3 W);by_cases c2:b-j=1;have R:=aI (show iU b l bl j=3 by unfold iU;rw[if_neg c1,if_pos c3,if_pos c2]);have r:¬0<b-j-1:=aA;clear h1 h2 h3 h4 m n c1 c2 c3;rotate_left;have R:=aI (show iU b l bl j=4 by unfold iU;rw[if_neg c1,if_pos c3,if_neg c2]);have r:0<b-j-1:=aA;clear h1 h2 h3 h4 m n c1 c2 c3;rotate_left;have p:=aI (fun W=>kM j b h4 h1 aA W);have R:=aI (show iU b l bl j=2 by unfold iU;rw[if_neg c1,if_neg c3]);clear h1 h2 h3 h4 m n c1 c3;rotate_left
 all_goals
  go_enter func144,ntmps144;go_wp2_with fail;refine(s _).mono ?_;rintro e u ⟨rfl,rfl⟩;go_wp2_with fail;refine(p _).mono ?_;rintro e w2 ⟨rfl,rfl⟩;go_wp2;go_ret;exact⟨Cv R.symm,aJ (aJ (Below.refl _ _) _) _⟩
def IA (a b:Int):Int:=if a<b then b else a
def IB (a b:Int):Int:=if b<a then b else a
def OR (al ah bl bh:Int):Bool:=decide (IA al bl≤IB ah bh)
def OP (al ah bl bh:Int):Int:=if IA al bl≤IB ah bh then IA al bl else 0
def OQ (al ah bl bh:Int):Int:=if IA al bl≤IB ah bh then IB ah bh else 0
def OU (r:Int):Bool:=decide (r≠0∧r≠4)
def OS (r al bl:Int):Int:=if r≠0∧r≠4 then IB al bl else 0
def OT (r ah bh:Int):Int:=if r≠0∧r≠4 then IA ah bh else 0
end Go.Proofs.YtbkkolfpegplgaaGreatDoor
