/- Contracts of the reference of layer 4 that the laws on lists use: a list is correct, has a number, is the same as another one. Package span over intervals that are apart, package ranges over a correct list: no error. -/
import Derived.Test.YtbkkolfpegplgaaGreatDoorS3G1
import Derived.Test.YtbkkolfpegplgaaGreatDoorS3G3
import Derived.Test.YtbkkolfpegplgaaGreatDoorS3G12
import Derived.Deep.RegionHeld3
import Derived.BigQuiet
import Derived.Deep.QuietTactic
set_option maxHeartbeats 3200000
set_option maxRecDepth 100000
set_option linter.unusedSimpArgs false
namespace Go.Proofs.YtbkkolfpegplgaaGreatDoor
open Go.RowKit
def CheckPost (zs:List Iv) (e:Ending):Prop:=∃c i:Int,e=.returned (.tuple #[.int .i64 c,.int .i64 i])∧((c=0∧Cor zs)∨((c=2∨c=3)∧¬Cor zs))
theorem rel0{al ah bl bh:Int}(_h1:al≤ah)(_h2:bl≤bh):relI al ah bl bh=0↔ah+1<bl:=by
 unfold relI;split<;>(try split)<;>(try split)<;>omega
theorem check_any(a:Option Addr)(len cap:Nat)(zs:List Iv)(w:World)(h:Prs w a len zs) :
  Calls Tryz.prog 114 #[.slice a len cap] w fun e w'=>CheckPost zs e∧Below w.heap.size w w':=by
 have hm:=h.most;have hl:=z7 h.length;have H:=z7 h;clear h;go_enter Tryz.func114,Tryz.ntmps114
 go_wp2
 go_loopw [4] (fun c wr=>∃k:Nat,k≤len∧c=.int .i64 k∧CorTo zs k∧Below w.heap.size w wr)
  (fun c _=>len-(intOf c).toNat)
 case atStart=>exact⟨0,Nat.zero_le _,rfl,fun i hi=>absurd hi (by omega),Below.refl _ _⟩
 case round=>
  obtain⟨k,hk,rfl,hcor,hb⟩:=hrel;have HC:=z7 hcor;clear hcor;by_cases hlt:k<len
  ·obtain⟨b,off,rfl,hbl,hc1,hc2⟩:=(H.out.below hb).cells k hlt
   obtain⟨⟨l0,l1⟩,⟨u0,u1⟩⟩:=H.out.word hlt;obtain⟨lo,elo⟩:∃lo,lo=Lo zs k:=⟨_,rfl⟩;obtain⟨hi,ehi⟩:∃hi,hi=Hi zs k:=⟨_,rfl⟩;rw[← elo]at hc1 l0 l1;rw[← ehi]at hc2 u0 u1;have ELO:=z7 elo;have EHI:=z7 ehi;clear elo ehi;have i0:(0:Int)≤(k:Int):=by omega
   have i1:(k:Int)<(len:Int):=by omega
   by_cases hle:lo≤hi
   ·by_cases hk0:0<k
    ·obtain⟨b',off',eb,_,hd1,hd2⟩:=(H.out.below hb).cells (k-1) (by omega)
     obtain⟨rfl,rfl⟩:b=b'∧off=off':=by simpa using eb
     clear eb;obtain⟨⟨m0,m1⟩,⟨n0,n1⟩⟩:=H.out.word (i:=k-1) (by omega);obtain⟨plo,eplo⟩:∃lo,lo=Lo zs (k-1):=⟨_,rfl⟩;obtain⟨phi,ephi⟩:∃hi,hi=Hi zs (k-1):=⟨_,rfl⟩;rw[← eplo]at hd1 m0 m1;rw[← ephi]at hd2 n0 n1;have EPLO:=z7 eplo;have EPHI:=z7 ephi;clear eplo ephi;have hple:Hid (plo≤phi):=by have:=(HC.out (k-1) (by omega)).1;rw[← EPLO.out,← EPHI.out]at this;exact this
     have j0:(0:Int)≤(k:Int)-1:=by omega
     have j1:(k:Int)-1<(len:Int):=by omega
     have j2:IntKind.i64.wrap ((k:Int)-1)=(k:Int)-1:=IntWalk.i64_in _ (by omega);have j3:((k:Int)-1).toNat=k-1:=by omega
     have j4:(0:Int)<(k:Int):=by omega
     have j5:(1:Int)≤(k:Int):=by omega
     have j6:1≤k:=by omega
     have j7:(k:Int)≤(len:Int):=by omega
     go_wp2_with(go_at_call 170;refine(rright_yes lo hi ⟨l0,l1⟩ ⟨u0,u1⟩ hle _).mono ?_;rintro e w1 ⟨rfl,hb1⟩;have hx1:=zg hb1 hbl hc1;have hx2:=zg hb1 hbl hc2;have hx3:=zg hb1 hbl hd1;have hx4:=zg hb1 hbl hd2;have hx5:=keep_lt hb1 hbl)
     have HR:Hid (∀W:World,Calls Tryz.prog 171 #[.agg #[.int .u64 plo,.int .u64 phi],.agg #[.int .u64 lo,.int .u64 hi]] W fun e w'=>e=.returned (.int .i64 (relI plo phi lo hi))∧Below W.heap.size W w'):=rrelate_any plo phi lo hi ⟨m0,m1⟩ ⟨n0,n1⟩ ⟨l0,l1⟩ ⟨u0,u1⟩;have hrel:=z7 (rel0 hple.out hle);obtain⟨r,er⟩:∃r,r=relI plo phi lo hi:=⟨_,rfl⟩;rw[← er]at HR hrel;clear er hc1 hc2 hd1 hd2;by_cases hr:r=0
     ·subst hr
      go_region_held3 (fun w'=>w'.cell? ⟨b,off+k * 2,none⟩=some (.int .u64 lo)∧w'.cell? ⟨b,off+k * 2+1,none⟩=some (.int .u64 hi)∧w'.cell? ⟨b,off+(k-1) * 2,none⟩=some (.int .u64 plo)∧w'.cell? ⟨b,off+(k-1) * 2+1,none⟩=some (.int .u64 phi)∧b<w'.heap.size)
       (first | (go_split_ands;exact⟨zg hb3 (by assumption) (by assumption),zg hb3 (by assumption) (by assumption),zg hb3 (by assumption) (by assumption),zg hb3 (by assumption) (by assumption),keep_lt hb3 (by assumption)⟩) | (refine⟨?_,?_,?_,?_,?_⟩<;>first | assumption | (simp[*];done)))
       (first | (go_at_call 171;refine(HR.out _).mono ?_;rintro e w3 ⟨rfl,hb3⟩))
      go_wp2
      go_roundw
      case rel=>exact⟨k+1,by omega,by go_num,HC.out.succ (by rw[← ELO.out,← EHI.out];exact hle) (fun _=>by rw[← ELO.out,← EPHI.out];first | exact hrel.out.1 rfl | exact hrel.out.1 trivial),by repeat (first | exact Below.refl _ _ | assumption | refine z1q ?_ | refine zf ?_ (by assumption))⟩
      case measure=>simp[intOf];omega
     ·have hne:(r != 0)=true:=by simpa using hr
      have HN:=z7 hr;clear hr;go_region_held3 (fun w'=>w'.cell? ⟨b,off+k * 2,none⟩=some (.int .u64 lo)∧w'.cell? ⟨b,off+k * 2+1,none⟩=some (.int .u64 hi)∧w'.cell? ⟨b,off+(k-1) * 2,none⟩=some (.int .u64 plo)∧w'.cell? ⟨b,off+(k-1) * 2+1,none⟩=some (.int .u64 phi)∧b<w'.heap.size)
       (first | (go_split_ands;exact⟨zg hb3 (by assumption) (by assumption),zg hb3 (by assumption) (by assumption),zg hb3 (by assumption) (by assumption),zg hb3 (by assumption) (by assumption),keep_lt hb3 (by assumption)⟩) | (refine⟨?_,?_,?_,?_,?_⟩<;>first | assumption | (simp[*];done)))
       (first | (go_at_call 171;refine(HR.out _).mono ?_;rintro e w3 ⟨rfl,hb3⟩))
      go_wp2
      go_ret2
      refine⟨⟨3,_,rfl,.inr ⟨.inr rfl,fun hC=>?_⟩⟩,by repeat (first | exact Below.refl _ _ | assumption | refine z1q ?_ | refine zf ?_ (by assumption))⟩;have:=(hC k (by rw[hl.out];exact hlt)).2 hk0;rw[← ELO.out,← EPHI.out]at this;exact HN.out (hrel.out.2 this)
    ·obtain rfl:k=0:=by omega
     have i2:decide ((0:Int)<0)=false:=by decide
     simp only[Nat.zero_mul,Nat.add_zero]at hc1 hc2;go_wp2_with(go_at_call 170;refine(rright_yes lo hi ⟨l0,l1⟩ ⟨u0,u1⟩ hle _).mono ?_;rintro e w1 ⟨rfl,hb1⟩)
     go_quiet (fail)
     go_wp2
     go_roundw
     case rel=>exact⟨1,by omega,by go_num,HC.out.succ (by rw[← ELO.out,← EHI.out];exact hle) (fun h=>absurd h (by omega)),by repeat (first | exact Below.refl _ _ | assumption | refine zm ?_ _ | refine z1q ?_ | refine zf ?_ (by assumption))⟩
     case measure=>simp[intOf];omega
   ·have hgt:hi<lo:=by omega
    clear hle;go_wp2_with(go_at_call 170;refine(rright_no lo hi ⟨l0,l1⟩ ⟨u0,u1⟩ hgt _).mono ?_;rintro e w1 ⟨rfl,hb1⟩)
    go_ret2
    refine⟨⟨2,_,rfl,.inr ⟨.inl rfl,fun hC=>?_⟩⟩,zf hb hb1⟩;have:=(hC k (by rw[hl.out];exact hlt)).1;rw[← ELO.out,← EHI.out]at this;omega
  ·have:k=len:=by omega
   subst this;go_wp2
   go_ret2
   exact⟨⟨0,-1,rfl,.inl ⟨rfl,by unfold Cor;rw[hl.out];exact HC.out⟩⟩,hb⟩
def hasL (zs:List Iv) (x:Int):Bool:=zs.any fun z=>hasI z.1 z.2 x
def sameL (zs ys:List Iv):Bool:=decide (zs=ys)
theorem list_ext_iv{zs ys:List Iv}(hl:zs.length=ys.length)(h:∀i,i<zs.length→Lo zs i=Lo ys i∧Hi zs i=Hi ys i):zs=ys:=by
 refine List.ext_getElem hl fun i h1 h2=>?_;obtain⟨a,b⟩:=h i h1;unfold Lo at a;unfold Hi at b;have e1:zs.getD i (0,0)=zs[i]:=by simp[List.getD,List.getElem?_eq_getElem h1]
 have e2:ys.getD i (0,0)=ys[i]:=by simp[List.getD,List.getElem?_eq_getElem h2]
 rw[e1,e2]at a b;exact Prod.ext a b
theorem same_any(a a':Option Addr)(len cap len' cap':Nat)(zs ys:List Iv)(w:World)(h:Prs w a len zs)(h':Prs w a' len' ys) :
  Calls Tryz.prog 40 #[.slice a len cap,.slice a' len' cap'] w fun e w'=>e=.returned (.bool (sameL zs ys))∧Below w.heap.size w w':=by
 have hm:=h.most;have hm':=h'.most;have hl:=z7 h.length;have hl':=z7 h'.length;have H:=z7 h;have H':=z7 h';clear h h';by_cases hn:len=len'
 ·subst hn
  go_enter Tryz.func40,Tryz.ntmps40
  go_wp2
  go_loopw [5] (fun c wr=>∃k:Nat,k≤len∧c=.int .i64 k∧(∀i,i<k→Lo zs i=Lo ys i∧Hi zs i=Hi ys i)∧Below w.heap.size w wr)
   (fun c _=>len-(intOf c).toNat)
  case atStart=>exact⟨0,Nat.zero_le _,rfl,fun i hi=>absurd hi (by omega),Below.refl _ _⟩
  case round=>
   obtain⟨k,hk,rfl,hno,hb⟩:=hrel;have HN:=z7 hno;clear hno;by_cases hlt:k<len
   ·obtain⟨b,off,rfl,hbl,hc1,hc2⟩:=(H.out.below hb).cells k hlt
    obtain⟨b',off',rfl,hbl',hd1,hd2⟩:=(H'.out.below hb).cells k hlt;have i0:(0:Int)≤(k:Int):=by omega
    have i1:(k:Int)<(len:Int):=by omega
    obtain⟨x1,e1⟩:∃x,x=Lo zs k:=⟨_,rfl⟩;obtain⟨x2,e2⟩:∃x,x=Hi zs k:=⟨_,rfl⟩;obtain⟨y1,e3⟩:∃x,x=Lo ys k:=⟨_,rfl⟩;obtain⟨y2,e4⟩:∃x,x=Hi ys k:=⟨_,rfl⟩;rw[← e1]at hc1;rw[← e2]at hc2;rw[← e3]at hd1;rw[← e4]at hd2;have E1:=z7 e1;have E2:=z7 e2;have E3:=z7 e3;have E4:=z7 e4;clear e1 e2 e3 e4;have bad:Hid ((x1≠y1∨x2≠y2)→sameL zs ys=false):=by
     intro hor;unfold sameL;refine decide_eq_false fun e=>?_;subst e;rw[← E3.out]at E1;rw[← E4.out]at E2;rcases hor with h | h
     ·exact h E1.out
     ·exact h E2.out
    by_cases g1:x1=y1
    ·by_cases g2:x2=y2
     ·subst g1;subst g2
      go_wp2
      go_quiet (fail)
      go_wp2
      go_roundw
      case rel=>
       refine⟨k+1,by omega,by go_num,fun i hi=>?_,below_drewN hb _⟩;by_cases e:i=k
       ·subst e;exact⟨E1.out.symm.trans E3.out,E2.out.symm.trans E4.out⟩
       ·exact HN.out i (by omega)
      case measure=>simp[intOf];omega
     ·have f2:(x2 == y2)=false:=by simpa using g2
      have BAD:=z7 (bad.out (.inr g2));subst g1;clear g2;go_wp2
      go_quiet (fail)
      go_wp2
      go_ret
      exact⟨by rw[BAD.out];rfl,below_drewN hb _⟩
    ·have f1:(x1 == y1)=false:=by simpa using g1
     have BAD:=z7 (bad.out (.inl g1));clear g1;go_wp2
     go_quiet (fail)
     go_wp2
     go_ret
     exact⟨by rw[BAD.out];rfl,below_drewN hb _⟩
   ·have:k=len:=by omega
    subst this;go_wp2
    go_ret
    refine⟨?_,hb⟩;have:zs=ys:=list_ext_iv (by rw[hl.out,hl'.out]) (by rw[hl.out];exact HN.out);have e:sameL zs ys=true:=decide_eq_true this;rw[e];rfl
 ·have hne:((len:Int) != (len':Int))=true:=by simpa using (show ¬(len:Int)=(len':Int) by omega)
  have BAD:=z7 (show sameL zs ys=false from decide_eq_false (fun e=>hn (by rw[← hl.out,← hl'.out,e])));clear hn;go_enter Tryz.func40,Tryz.ntmps40
  go_wp2
  go_ret
  exact⟨by rw[BAD.out];rfl,Below.refl _ _⟩
theorem spcheck_ok(lo hi:Int)(h:lo≤hi)(w:World) :
  Calls Tryz.prog 143 #[.agg #[.int .u64 lo,.int .u64 hi]] w fun e w'=>e=.returned .nilIface∧Below w.heap.size w w':=by
 go_enter Tryz.func143,Tryz.ntmps143
 go_wp2
 go_ret
 exact⟨rfl,zc (Below.refl _ _) _⟩
theorem relate_0(al ah bl bh:Int)(h1:Word al)(h2:Word ah)(h3:Word bl)(h4:Word bh)(ha:al≤ah)(hb:bl≤bh)(hg:ah+1<bl)(w:World) :
  Calls Tryz.prog 144 #[.agg #[.int .u64 al,.int .u64 ah],.agg #[.int .u64 bl,.int .u64 bh]] w fun e w'=>e=.returned (.int .i64 0)∧Below w.heap.size w w':=by
 have K1:=z7 (fun W=>z2j ah bl h2 h3 (by omega) W);have K2:=z7 (fun W=>z38 bh al h4 h1 (by omega) W);have g1:0<bl-ah-1:=by omega
 clear h1 h2 h3 h4 ha hb hg;go_enter Tryz.func144,Tryz.ntmps144
 go_wp2_with fail
 refine(K1.out _).mono ?_;rintro e w1 ⟨rfl,rfl⟩;go_wp2_with fail
 refine(K2.out _).mono ?_;rintro e w2 ⟨rfl,rfl⟩;go_wp2
 go_ret
 exact⟨rfl,zc (zc (Below.refl _ _) _) _⟩
structure Two2 (W0:World) (b o q:Nat) (plo phi lo hi:Int) (W:World):Prop where
 a0:W.cell? ⟨b,o,none⟩=some (.int .u64 plo)
 a1:W.cell? ⟨b,o+1,none⟩=some (.int .u64 phi)
 b0:W.cell? ⟨q,0,none⟩=some (.int .u64 lo)
 b1:W.cell? ⟨q,1,none⟩=some (.int .u64 hi)
 bl:Below W0.heap.size W0 W
theorem kc{X Y:World}{b i:Nat}{v:Value}(hb:Below X.heap.size X Y)(hc:X.cell? ⟨b,i,none⟩=some v):Y.cell? ⟨b,i,none⟩=some v:=zg hb (block_lt_of_cell hc) hc
theorem Two2.below{W0 W W':World}{b o q:Nat}{plo phi lo hi:Int}(h:Two2 W0 b o q plo phi lo hi W)(hb:Below W.heap.size W W'):Two2 W0 b o q plo phi lo hi W':=
 ⟨kc hb h.a0,kc hb h.a1,kc hb h.b0,kc hb h.b1,zf h.bl hb⟩
theorem Two2.drew{W0 W:World}{b o q:Nat}{plo phi lo hi:Int}(h:Two2 W0 b o q plo phi lo hi W):Two2 W0 b o q plo phi lo hi W.drew:=h.below (z1q (Below.refl _ _))
theorem rgcheck_ok(a:Option Addr)(len cap:Nat)(zs:List Iv)(w:World)(h:Prs w a len zs)(hC:Cor zs) :
  Calls Tryz.prog 86 #[.slice a len cap] w fun e w'=>e=.returned .nilIface∧Below w.heap.size w w':=by
 have hmx:Tryz.prog.follows .mixedOrders=true:=by kernel_rfl
 have hm:=h.most;have hl:=z7 h.length;have H:=z7 h;have HC:=z7 hC;clear h hC;go_enter Tryz.func86,Tryz.ntmps86
 go_wp2
 go_loopw [8] (fun c wr=>∃k:Nat,k≤len∧c=.int .i64 k∧Below w.heap.size w wr) (fun c _=>len-(intOf c).toNat)
 case atStart=>exact⟨0,Nat.zero_le _,rfl,Below.refl _ _⟩
 case round=>
  obtain⟨k,hk,rfl,hb⟩:=hrel;have HB:=z7 hb;have i0:(0:Int)≤(k:Int):=by omega
  by_cases hlt:k<len
  ·obtain⟨b,off,rfl,hbl,hc1,hc2⟩:=(H.out.below hb).cells k hlt
   have hw:=H.out.word hlt;have hk':=HC.out k (by rw[hl.out];exact hlt);have i1:(k:Int)<(len:Int):=by omega
   by_cases hk0:k=0
   ·obtain⟨lo,elo⟩:∃lo,Lo zs k=lo:=⟨_,rfl⟩
    obtain⟨hi,ehi⟩:∃hi,Hi zs k=hi:=⟨_,rfl⟩;rw[elo]at hc1 hk';rw[ehi]at hc2 hk';have KC:=z7 (fun W=>spcheck_ok lo hi hk'.1 W);have n0:¬(0:Int)<(k:Int):=by omega
    have n1:decide ((0:Int)<(k:Int))=false:=decide_eq_false n0;have n2:decide (0<k)=false:=decide_eq_false (by omega);clear elo ehi hk0 hw hk' hb;go_wp2_with fail
    refine(KC.out _).mono ?_;rintro e w1 ⟨rfl,hb1⟩;have B1:=z7 (zf (zc HB.out _) hb1);clear hb1;go_wp2_with fail
    go_quiet (fail)
    go_wp2
    go_roundw
    case rel=>exact⟨k+1,by omega,by go_num,zm B1.out _⟩
    case measure=>simp[intOf];omega
   ·obtain⟨b2,off2,eb,_,d0,d1⟩:=(H.out.below hb).cells (k-1) (by omega)
    obtain⟨rfl,rfl⟩:b=b2∧off=off2:=by simpa using eb
    have hwp:=H.out.word (i:=k-1) (by omega);have hkp:=HC.out (k-1) (by rw[hl.out];omega);have hgap:=hk'.2 (by omega);have KR:=fun W=>relate_0 (Lo zs (k-1)) (Hi zs (k-1)) (Lo zs k) (Hi zs k) hwp.1 hwp.2 hw.1 hw.2 hkp.1 hk'.1 hgap W;have KC:=fun W=>spcheck_ok (Lo zs k) (Hi zs k) hk'.1 W;obtain⟨lo,elo⟩:∃lo,Lo zs k=lo:=⟨_,rfl⟩;obtain⟨hi,ehi⟩:∃hi,Hi zs k=hi:=⟨_,rfl⟩;obtain⟨plo,eplo⟩:∃lo,Lo zs (k-1)=lo:=⟨_,rfl⟩;obtain⟨phi,ephi⟩:∃hi,Hi zs (k-1)=hi:=⟨_,rfl⟩;rw[elo]at hc1 KR KC;rw[ehi]at hc2 KR KC;rw[eplo]at d0 KR;rw[ephi]at d1 KR;have HR:=z7 KR;have KC:=z7 KC;have n0:(0:Int)<(k:Int):=by omega
    have n1:(0:Int)≤(k:Int)-1:=by omega
    have n2:(k:Int)-1<(len:Int):=by omega
    have n3:IntKind.i64.wrap ((k:Int)-1)=(k:Int)-1:=IntWalk.i64_in _ (by omega);have n4:((k:Int)-1).toNat=k-1:=by omega
    have n5:0<k:=by omega
    have n6:1≤k:=by omega
    have n7:(1:Int)≤(k:Int):=by omega
    have hbs:b≠wr.heap.size:=by omega
    clear eb elo ehi eplo ephi hk0 hw hk' hwp hkp hgap KR hb;go_wp2_with fail
    refine(KC.out _).mono ?_;rintro e w1 ⟨rfl,hb1⟩;have hb01:=zf (zc (Below.refl wr.heap.size wr) (.cells #[.int .u64 lo,.int .u64 hi] 123)) hb1;have TT:=z7 (Two2.mk (W0:=wr) (kc hb01 d0) (kc hb01 d1) (kc hb1 (show(wr.alloc (.cells #[.int .u64 lo,.int .u64 hi] 123)).cell? ⟨wr.heap.size,0,none⟩=some (.int .u64 lo) by simp)) (kc hb1 (show(wr.alloc (.cells #[.int .u64 lo,.int .u64 hi] 123)).cell? ⟨wr.heap.size,1,none⟩=some (.int .u64 hi) by simp)) hb01);clear hb1 hb01 d0 d1 hc1 hc2;go_wp2_with fail
    refine wp_region_held_drew (S:=Two2 wr b (off+(k-1) * 2) wr.heap.size plo phi lo hi) hmx TT.out.drew (fun hS=>?_);refine tkd (i:=0) (d:=some 21) (v:=(.int .i64 k)) (hy:=.inl ⟨by rfl,?_⟩) (h:=?_)
    ·intro X hX;go_simp
    refine tkd (i:=1) (d:=some 22) (v:=(.bool true)) (hy:=.inl ⟨by rfl,?_⟩) (h:=?_)
    ·intro X hX;go_simp
    refine tkd (i:=2) (d:=some 23) (v:=(.bool true)) (hy:=.inl ⟨by rfl,?_⟩) (h:=?_)
    ·intro X hX;go_simp
    refine tkd (i:=3) (d:=some 24) (v:=(.slice (some ⟨b,off,none⟩) len cap)) (hy:=.inl ⟨by rfl,?_⟩) (h:=?_)
    ·intro X hX;go_simp
    refine tkd (i:=4) (d:=some 25) (v:=(.int .i64 k)) (hy:=.inl ⟨by rfl,?_⟩) (h:=?_)
    ·intro X hX;go_simp
    refine tkd (i:=5) (d:=some 26) (v:=(.int .i64 ((k:Int)-1))) (hy:=.inl ⟨by rfl,?_⟩) (h:=?_)
    ·intro X hX;go_simp
    refine tkd (i:=6) (d:=some 27) (v:=(.pointer (some ⟨b,off+(k-1) * 2,none⟩))) (hy:=.inl ⟨by rfl,?_⟩) (h:=?_)
    ·intro X hX;go_simp
    refine tkd (i:=7) (d:=some 28) (v:=(.agg #[.int .u64 plo,.int .u64 phi])) (hy:=.inl ⟨by rfl,?_⟩) (h:=?_)
    ·intro X hX;obtain⟨x0,x1,x2,x3,x4⟩:=hX;go_simp
    refine tkd (i:=8) (d:=some 29) (v:=(.agg #[.int .u64 lo,.int .u64 hi])) (hy:=.inl ⟨by rfl,?_⟩) (h:=?_)
    ·intro X hX;obtain⟨x0,x1,x2,x3,x4⟩:=hX;go_simp
    refine wpAnyH_ready (rs:=[9]) (by kernel_rfl) (by simp) ?_;refine AllReadyH.cons (o:=_) rfl (fun K hK=>?_) AllReadyH.nil;go_simp
    refine(HR.out _).mono ?_;rintro e wq ⟨rfl,hb⟩;have hS:=hS.below hb;clear hb;go_simp
    refine hK.out _ _ hS (fun _=>?_);clear hK K;refine tkd (i:=10) (d:=some 31) (v:=(.bool false)) (hy:=.inl ⟨by rfl,?_⟩) (h:=?_)
    ·intro X hX;go_simp
    refine tkd (i:=11) (d:=some 32) (v:=(.bool false)) (hy:=.inl ⟨by rfl,?_⟩) (h:=?_)
    ·intro X hX;go_simp
    refine wpAnyH_done (by kernel_rfl) ?_ _;have BB:=z7 (zf HB.out hS.bl);clear hS;go_wp2
    go_roundw
    case rel=>exact⟨k+1,by omega,by go_num,BB.out⟩
    case measure=>simp[intOf];omega
  ·obtain rfl:k=len:=by omega
   go_wp2
   go_ret
   exact⟨rfl,HB.out⟩
end Go.Proofs.YtbkkolfpegplgaaGreatDoor
