import Derived.Test.YtbkkolfpegplgaaGreatDoorTG3
import Derived.Test.YtbkkolfpegplgaaGreatDoorTG12
import Derived.BigQuiet
open Go.RowKit.Below renaming refl→PC
open List renaming getElem?_eq_getElem→PD,getD→PE
open Nat renaming zero_le→PF
open Go.Proofs.Tryz
set_option maxHeartbeats 3200000 set_option linter.unusedVariables false
set_option maxRecDepth 100000
set_option linter.unusedSimpArgs false
namespace Go.Proofs.YtbkkolfpegplgaaGreatDoor
open Go.RowKit
def Sd (zs:List Iv) (e:Ending):Prop:=∃c i:Int,e=.returned (.tuple #[.int .i64 c,.int .i64 i])∧((c=0∧cL zs)∨((c=2∨c=3)∧¬cL zs))
theorem JX{j b bl l:Int}(m:j≤b)(n:bl≤l):iU j b bl l=0↔b+1<bl:=by
 unfold iU;split<;>(try split)<;>(try split)<;>omega
theorem Bm(a:Option Addr)(len cap:Nat)(zs:List Iv)(w:World)(h:Prs w a len zs) :
  Calls prog 114 #[.slice a len cap] w fun e w'=>Sd zs e∧Below w.heap.size w w':=by
 have hm:=h.most;have Q:=aI h.length;have H:=aI h;clear h;go_enter func114,ntmps114;go_wp2;go_loopw [4] (fun c wr=>∃k:Nat,k≤len∧c=.int .i64 k∧CorTo zs k∧Below w.heap.size w wr)
  (fun c _=>len-(intOf c).toNat)
 case atStart=>exact⟨0,PF _,rfl,fun i hi=>absurd hi aA,PC _ _⟩
 obtain⟨k,hk,rfl,B,P⟩:=hrel;have O:=aI B;clear B;by_cases hlt:k<len
 ·obtain⟨b,off,rfl,s,z,A⟩:=(H.below P).cells k hlt;obtain⟨⟨K,L⟩,⟨M,N⟩⟩:=H.word hlt;obtain⟨lo,D⟩:=aH (Lo zs k);obtain⟨hi,E⟩:=aH (Hi zs k);rw[← D]at z K L;rw[← E]at A M N;have n:=aI D;have C:=aI E;clear D E;have i0:(0:Int)≤(k:Int):=aA;have i1:(k:Int)<(len:Int):=aA;by_cases hle:lo≤hi
  ·by_cases hk0:0<k
   ·obtain⟨b',off',U,_,F,G⟩:=(H.below P).cells (k-1) aA;obtain⟨rfl,rfl⟩:b=b'∧off=off':=by simpa using U
    clear U;obtain⟨⟨V,X⟩,⟨Y,Z⟩⟩:=H.word (i:=k-1) aA;obtain⟨l,u⟩:=aH (Lo zs (k-1));obtain⟨m,y⟩:=aH (Hi zs (k-1));rw[← u]at F V X;rw[← y]at G Y Z;have I:=aI u;have p:=aI y;clear u y;have J:Hid (l≤m):=by have:=(O (k-1) aA).1;rw[← I.out,← p.out]at this;exact this
    have j0:(0:Int)≤(k:Int)-1:=aA;have j1:(k:Int)-1<(len:Int):=aA;have j2:IntKind.i64.wrap ((k:Int)-1)=(k:Int)-1:=IntWalk.i64_in _ aA;have j3:((k:Int)-1).toNat=k-1:=aA;have j4:(0:Int)<(k:Int):=aA;have j5:(1:Int)≤(k:Int):=aA;have j6:1≤k:=aA;have j7:(k:Int)≤(len:Int):=aA;go_wp2_with(go_at_call 170;refine(wW lo hi ⟨K,L⟩ ⟨M,N⟩ hle _).mono ?_;rintro e w1 ⟨rfl,j⟩;have A0:=aM j s z;have A1:=aM j s A;have A2:=aM j s F;have A3:=aM j s G;have A4:=Di j s);have R:Hid (∀W:World,Calls prog 171 #[.agg #[.int .u64 l,.int .u64 m],.agg #[.int .u64 lo,.int .u64 hi]] W fun e w'=>e=.returned (.int .i64 (iU l m lo hi))∧Below W.heap.size W w'):=uI l m lo hi ⟨V,X⟩ ⟨Y,Z⟩ ⟨K,L⟩ ⟨M,N⟩;have hrel:=aI (JX J hle);obtain⟨r,er⟩:=aH (iU l m lo hi);rw[← er]at R hrel;clear er z A F G;by_cases hr:r=0
    ·subst hr;go_region_held3 (fun w'=>w'.cell? ⟨b,off+k * 2,none⟩=some (.int .u64 lo)∧w'.cell? ⟨b,off+k * 2+1,none⟩=some (.int .u64 hi)∧w'.cell? ⟨b,off+(k-1) * 2,none⟩=some (.int .u64 l)∧w'.cell? ⟨b,off+(k-1) * 2+1,none⟩=some (.int .u64 m)∧b<w'.heap.size)
      (first | (go_split_ands;exact⟨aM hb3 aF aF,aM hb3 aF aF,aM hb3 aF aF,aM hb3 aF aF,Di hb3 aF⟩) | (refine⟨?_,?_,?_,?_,?_⟩<;>first | assumption | (simp[*];done)))
      (first | (go_at_call 171;refine(R _).mono ?_;rintro e w3 ⟨rfl,hb3⟩))
     go_wp2;go_roundw
     case rel=>exact⟨k+1,aA,by go_num,O.succ (by rw[← n.out,← C.out];exact hle) (fun _=>by rw[← n.out,← p.out];first | exact hrel.1 rfl | exact hrel.1 trivial),by repeat (first | exact PC _ _ | assumption | refine aS ?_ | refine aN ?_ aF)⟩
     simp[intOf];omega
    have A5:(r != 0)=true:=by simpa using hr
    have HN:=aI hr;clear hr;go_region_held3 (fun w'=>w'.cell? ⟨b,off+k * 2,none⟩=some (.int .u64 lo)∧w'.cell? ⟨b,off+k * 2+1,none⟩=some (.int .u64 hi)∧w'.cell? ⟨b,off+(k-1) * 2,none⟩=some (.int .u64 l)∧w'.cell? ⟨b,off+(k-1) * 2+1,none⟩=some (.int .u64 m)∧b<w'.heap.size)
     (first | (go_split_ands;exact⟨aM hb3 aF aF,aM hb3 aF aF,aM hb3 aF aF,aM hb3 aF aF,Di hb3 aF⟩) | (refine⟨?_,?_,?_,?_,?_⟩<;>first | assumption | (simp[*];done)))
     (first | (go_at_call 171;refine(R _).mono ?_;rintro e w3 ⟨rfl,hb3⟩))
    go_wp2;go_ret2;refine⟨⟨3,_,rfl,.inr ⟨.inr rfl,fun T=>?_⟩⟩,by repeat (first | exact PC _ _ | assumption | refine aS ?_ | refine aN ?_ aF)⟩;have:=(T k (by rw[Q.out];exact hlt)).2 hk0;rw[← n.out,← p.out]at this;exact HN (hrel.2 this)
   obtain rfl:k=0:=aA;have i2:decide ((0:Int)<0)=false:=aB;simp only[Nat.zero_mul,Nat.add_zero]at z A;go_wp2_with(go_at_call 170;refine(wW lo hi ⟨K,L⟩ ⟨M,N⟩ hle _).mono ?_;rintro e w1 ⟨rfl,j⟩);go_quiet (fail);go_wp2;go_roundw
   case rel=>exact⟨1,aA,by go_num,O.succ (by rw[← n.out,← C.out];exact hle) (fun h=>absurd h aA),by repeat (first | exact PC _ _ | assumption | refine aU ?_ _ | refine aS ?_ | refine aN ?_ aF)⟩
   simp[intOf];omega
  have S:hi<lo:=aA;clear hle;go_wp2_with(go_at_call 170;refine(Pd lo hi ⟨K,L⟩ ⟨M,N⟩ S _).mono ?_;rintro e w1 ⟨rfl,j⟩);go_ret2;refine⟨⟨2,_,rfl,.inr ⟨.inl rfl,fun T=>?_⟩⟩,aN P j⟩;have:=(T k (by rw[Q.out];exact hlt)).1;rw[← n.out,← C.out]at this;omega
 have:k=len:=aA;subst this;go_wp2;go_ret2;exact⟨⟨0,-1,rfl,.inl ⟨rfl,by unfold cL;rw[Q.out];exact O⟩⟩,P⟩
def gG (zs:List Iv) (x:Int):Bool:=zs.any fun z=>zJ z.1 z.2 x
theorem We{zs:List Iv}{x:Int}{k:Nat}(b:k<zs.length)(h:zJ (Lo zs k) (Hi zs k) x=true):gG zs x=true:=by
 unfold gG;rw[List.any_eq_true];refine⟨zs[k],List.getElem_mem _,?_⟩;have e:zs.getD k (0,0)=zs[k]:=by simp[PE,PD b]
 unfold Lo Hi at h;rw[e]at h;exact h
theorem Zz{zs:List Iv}{x:Int}(h:∀i,i<zs.length→zJ (Lo zs i) (Hi zs i) x=false):gG zs x=false:=by
 unfold gG;rw[List.any_eq_false];intro z b;obtain⟨i,hi,rfl⟩:=List.getElem_of_mem b;have:=h i hi;have e:zs.getD i (0,0)=zs[i]:=by simp[PE,PD hi]
 unfold Lo Hi at this;rw[e]at this;rw[this];decide
theorem mO(a:Option Addr)(len cap:Nat)(zs:List Iv)(x:Int)(w:World)(h:Prs w a len zs)(G:aL x) :
  Calls prog 66 #[.slice a len cap,.int .u64 x] w fun e w'=>e=.returned (.bool (gG zs x))∧Below w.heap.size w w':=by
 have L:=h.most;have D:=aI h.length;have H:=aI h;have I:=aI G;clear h G;go_enter func66,ntmps66;go_wp2;go_loopw [5] (fun c wr=>∃k:Nat,k≤len∧c=.int .i64 k∧(∀i,i<k→zJ (Lo zs i) (Hi zs i) x=false)∧Below w.heap.size w wr)
  (fun c _=>len-(intOf c).toNat)
 case atStart=>exact⟨0,PF _,rfl,fun i hi=>absurd hi aA,PC _ _⟩
 obtain⟨k,O,rfl,s,u⟩:=hrel;have E:=aI s;clear s;by_cases hlt:k<len
 ·obtain⟨b,off,rfl,J,A,B⟩:=(H.below u).cells k hlt;have y:=aI (H.word hlt);obtain⟨lo,j⟩:=aH (Lo zs k);obtain⟨hi,l⟩:=aH (Hi zs k);rw[← j]at A;rw[← l]at B;rw[← j,← l]at y;have n:=aI j;have p:=aI l;clear j l;have z:Hid (∀W:World,Calls prog 115 #[.agg #[.int .u64 lo,.int .u64 hi],.int .u64 x] W fun e w'=>e=.returned (.bool (zJ lo hi x))∧Below W.heap.size W w'):=Ud lo hi x y.1 y.2 I;have M:(0:Int)≤(k:Int):=aA;have N:(k:Int)<(len:Int):=aA;obtain⟨r,C⟩:=aH (zJ lo hi x);rw[← C]at z;have F:=aI C;clear C
  cases r
  ·go_wp2_with(go_at_call 115;refine(z _).mono ?_;rintro e K ⟨rfl,m⟩);go_roundw
   case rel=>
    refine⟨k+1,aA,by go_num,fun i hi=>?_,aN u m⟩;by_cases e:i=k
    ·subst e;rw[← n.out,← p.out];exact F.symm
    exact E i aA
   simp[intOf];omega
  go_wp2_with(go_at_call 115;refine(z _).mono ?_;rintro e K ⟨rfl,m⟩);go_ret;refine⟨?_,aN u m⟩;rw[We (by rw[D.out];exact hlt) (by rw[← n.out,← p.out];exact F.symm)];rfl
 have:k=len:=aA;subst this;go_wp2;go_ret;refine⟨?_,u⟩;rw[Zz (by rw[D.out];exact E.out)];rfl
def qB (zs ys:List Iv):Bool:=decide (zs=ys)
theorem Gz{zs ys:List Iv}(m:zs.length=ys.length)(h:∀i,i<zs.length→Lo zs i=Lo ys i∧Hi zs i=Hi ys i):zs=ys:=by
 refine List.ext_getElem m fun i h1 h2=>?_;obtain⟨a,b⟩:=h i h1;unfold Lo at a;unfold Hi at b;have j:zs.getD i (0,0)=zs[i]:=by simp[PE,PD h1]
 have l:ys.getD i (0,0)=ys[i]:=by simp[PE,PD h2]
 rw[j,l]at a b;exact Prod.ext a b
theorem Fg(a T:Option Addr)(len cap j r:Nat)(zs ys:List Iv)(w:World)(h:Prs w a len zs)(s:Prs w T j ys) :
  Calls prog 40 #[.slice a len cap,.slice T j r] w fun e w'=>e=.returned (.bool (qB zs ys))∧Below w.heap.size w w':=by
 have Y:=h.most;have U:=s.most;have u:=aI h.length;have n:=aI s.length;have H:=aI h;have V:=aI s;clear h s;by_cases hn:len=j
 ·subst hn;go_enter func40,ntmps40;go_wp2;go_loopw [5] (fun c wr=>∃k:Nat,k≤len∧c=.int .i64 k∧(∀i,i<k→Lo zs i=Lo ys i∧Hi zs i=Hi ys i)∧Below w.heap.size w wr)
   (fun c _=>len-(intOf c).toNat)
  case atStart=>exact⟨0,PF _,rfl,fun i hi=>absurd hi aA,PC _ _⟩
  obtain⟨k,hk,rfl,p,m⟩:=hrel;have O:=aI p;clear p;by_cases hlt:k<len
  ·obtain⟨b,off,rfl,X,A,B⟩:=(H.below m).cells k hlt;obtain⟨b',R,rfl,S,C,D⟩:=(V.below m).cells k hlt;have Z:(0:Int)≤(k:Int):=aA;have i1:(k:Int)<(len:Int):=aA;obtain⟨E,F⟩:=aH (Lo zs k);obtain⟨G,I⟩:=aH (Hi zs k);obtain⟨J,K⟩:=aH (Lo ys k);obtain⟨L,M⟩:=aH (Hi ys k);rw[← F]at A;rw[← I]at B;rw[← K]at C;rw[← M]at D;have y:=aI F;have z:=aI I;have P:=aI K;have Q:=aI M;clear F I K M;have bad:Hid ((E≠J∨G≠L)→qB zs ys=false):=by
    intro N;unfold qB;refine decide_eq_false fun e=>?_;subst e;rw[← P.out]at y;rw[← Q.out]at z;rcases N with h | h
    ·exact h y
    exact h z
   by_cases g1:E=J
   ·by_cases g2:G=L
    ·subst g1;subst g2;go_wp2;go_quiet (fail);go_wp2;go_roundw
     case rel=>
      refine⟨k+1,aA,by go_num,fun i hi=>?_,below_drewN m _⟩;by_cases e:i=k
      ·subst e;exact⟨y.symm.trans P,z.symm.trans Q⟩
      exact O i aA
     simp[intOf];omega
    have f2:(G == L)=false:=by simpa using g2
    have l:=aI (bad (.inr g2));subst g1;clear g2;go_wp2;go_quiet (fail);go_wp2;go_ret;exact⟨by rw[l.out];rfl,below_drewN m _⟩
   have f1:(E == J)=false:=by simpa using g1
   have l:=aI (bad (.inl g1));clear g1;go_wp2;go_quiet (fail);go_wp2;go_ret;exact⟨by rw[l.out];rfl,below_drewN m _⟩
  have:k=len:=aA;subst this;go_wp2;go_ret;refine⟨?_,m⟩;have:zs=ys:=Gz (by rw[u.out,n.out]) (by rw[u.out];exact O);have e:qB zs ys=true:=decide_eq_true this;rw[e];rfl
 have W:((len:Int) != (j:Int))=true:=by simpa using (show ¬(len:Int)=(j:Int) by omega)
 have l:=aI (show qB zs ys=false from decide_eq_false (fun e=>hn (by rw[← u.out,← n.out,e])));clear hn;go_enter func40,ntmps40;go_wp2;go_ret;exact⟨by rw[l.out];rfl,PC _ _⟩
theorem wQ(lo hi:Int)(h:lo≤hi)(w:World) :
  Calls prog 143 #[.agg #[.int .u64 lo,.int .u64 hi]] w fun e w'=>e=.returned .nilIface∧Below w.heap.size w w':=by
 go_enter func143,ntmps143;go_wp2;go_ret;exact⟨rfl,aJ (PC _ _) _⟩
theorem Ui(j b bl l:Int)(h1:aL j)(h2:aL b)(h3:aL bl)(h4:aL l)(p:j≤b)(r:bl≤l)(s:b+1<bl)(w:World) :
  Calls prog 144 #[.agg #[.int .u64 j,.int .u64 b],.agg #[.int .u64 bl,.int .u64 l]] w fun e w'=>e=.returned (.int .i64 0)∧Below w.heap.size w w':=by
 have m:=aI (fun W=>iN b bl h2 h3 aA W);have n:=aI (fun W=>kM l j h4 h1 aA W);have u:0<bl-b-1:=aA;clear h1 h2 h3 h4 p r s;go_enter func144,ntmps144;go_wp2_with fail;refine(m _).mono ?_;rintro e y ⟨rfl,rfl⟩;go_wp2_with fail;refine(n _).mono ?_;rintro e w2 ⟨rfl,rfl⟩;go_wp2;go_ret;exact⟨rfl,aJ (aJ (PC _ _) _) _⟩
structure Two2 (W0:World) (b o q:Nat) (plo phi lo hi:Int) (W:World):Prop where
 a0:W.cell? ⟨b,o,none⟩=some (.int .u64 plo)
 a1:W.cell? ⟨b,o+1,none⟩=some (.int .u64 phi)
 b0:W.cell? ⟨q,0,none⟩=some (.int .u64 lo)
 b1:W.cell? ⟨q,1,none⟩=some (.int .u64 hi)
 bl:Below W0.heap.size W0 W
theorem kc{X Y:World}{b i:Nat}{v:Value}(l:Below X.heap.size X Y)(j:X.cell? ⟨b,i,none⟩=some v):Y.cell? ⟨b,i,none⟩=some v:=aM l (block_lt_of_cell j) j
theorem Two2.below{W0 W W':World}{b o q:Nat}{j l lo hi:Int}(h:Two2 W0 b o q j l lo hi W)(m:Below W.heap.size W W'):Two2 W0 b o q j l lo hi W':=
 ⟨kc m h.a0,kc m h.a1,kc m h.b0,kc m h.b1,aN h.bl m⟩
theorem Two2.drew{W0 W:World}{b o q:Nat}{j l lo hi:Int}(h:Two2 W0 b o q j l lo hi W):Two2 W0 b o q j l lo hi W.drew:=h.below (aS (PC _ _))
theorem xE(a:Option Addr)(len cap:Nat)(zs:List Iv)(w:World)(h:Prs w a len zs)(Y:cL zs) :
  Calls prog 86 #[.slice a len cap] w fun e w'=>e=.returned .nilIface∧Below w.heap.size w w':=by
 have L:prog.follows .mixedOrders=true:=aC;have hm:=h.most;have Q:=aI h.length;have H:=aI h;have R:=aI Y;clear h Y;go_enter func86,ntmps86;go_wp2;go_loopw [8] (fun c wr=>∃k:Nat,k≤len∧c=.int .i64 k∧Below w.heap.size w wr) (fun c _=>len-(intOf c).toNat)
 case atStart=>exact⟨0,PF _,rfl,PC _ _⟩
 obtain⟨k,hk,rfl,s⟩:=hrel;have M:=aI s;have i0:(0:Int)≤(k:Int):=aA;by_cases hlt:k<len
 ·obtain⟨b,off,rfl,A1,B,C⟩:=(H.below s).cells k hlt;have J:=H.word hlt;have j:=R.out k (by rw[Q.out];exact hlt);have i1:(k:Int)<(len:Int):=aA;by_cases hk0:k=0
  ·obtain⟨lo,n⟩:=aG (Lo zs k);obtain⟨hi,p⟩:=aG (Hi zs k);rw[n]at B j;rw[p]at C j;have z:=aI (fun W=>wQ lo hi j.1 W);have T:¬(0:Int)<(k:Int):=aA;have Z:decide ((0:Int)<(k:Int))=false:=decide_eq_false T;have n2:decide (0<k)=false:=decide_eq_false aA;clear n p hk0 J j s;go_wp2_with fail;refine(z _).mono ?_;rintro e w1 ⟨rfl,l⟩;have B1:=aI (aN (aJ M _) l);clear l;go_wp2_with fail;go_quiet (fail);go_wp2;go_roundw
   case rel=>exact⟨k+1,aA,by go_num,aU B1 _⟩
   simp[intOf];omega
  obtain⟨b2,off2,U,_,N,O⟩:=(H.below s).cells (k-1) aA;obtain⟨rfl,rfl⟩:b=b2∧off=off2:=by simpa using U
  have A:=H.word (i:=k-1) aA;have E:=R.out (k-1) (by rw[Q.out];omega);have r:=j.2 aA;have D:=fun W=>Ui (Lo zs (k-1)) (Hi zs (k-1)) (Lo zs k) (Hi zs k) A.1 A.2 J.1 J.2 E.1 j.1 r W;have z:=fun W=>wQ (Lo zs k) (Hi zs k) j.1 W;obtain⟨lo,n⟩:=aG (Lo zs k);obtain⟨hi,p⟩:=aG (Hi zs k);obtain⟨G,u⟩:=aG (Lo zs (k-1));obtain⟨I,y⟩:=aG (Hi zs (k-1));rw[n]at B D z;rw[p]at C D z;rw[u]at N D;rw[y]at O D;have HR:=aI D;have z:=aI z;have T:(0:Int)<(k:Int):=aA;have Z:(0:Int)≤(k:Int)-1:=aA;have n2:(k:Int)-1<(len:Int):=aA;have n3:IntKind.i64.wrap ((k:Int)-1)=(k:Int)-1:=IntWalk.i64_in _ aA;have n4:((k:Int)-1).toNat=k-1:=aA;have n5:0<k:=aA;have n6:1≤k:=aA;have n7:(1:Int)≤(k:Int):=aA;have A0:b≠wr.heap.size:=aA;clear U n p u y hk0 J j A E r D s;go_wp2_with fail;refine(z _).mono ?_;rintro e w1 ⟨rfl,l⟩;have m:=aN (aJ (PC wr.heap.size wr) (.cells #[.int .u64 lo,.int .u64 hi] 123)) l;have TT:=aI (Two2.mk (W0:=wr) (kc m N) (kc m O) (kc l (show(wr.alloc (.cells #[.int .u64 lo,.int .u64 hi] 123)).cell? ⟨wr.heap.size,0,none⟩=some (.int .u64 lo) by simp)) (kc l (show(wr.alloc (.cells #[.int .u64 lo,.int .u64 hi] 123)).cell? ⟨wr.heap.size,1,none⟩=some (.int .u64 hi) by simp)) m);clear l m N O B C;go_wp2_with fail;refine wp_region_held_drew (S:=Two2 wr b (off+(k-1) * 2) wr.heap.size G I lo hi) L TT.drew (fun F=>?_);refine aP 0 21 (.int .i64 k) ?_;refine aP 1 22 (.bool true) ?_;refine aP 2 23 (.bool true) ?_;refine aP 3 24 (.slice (some ⟨b,off,none⟩) len cap) ?_;refine aP 4 25 (.int .i64 k) ?_;refine aP 5 26 (.int .i64 ((k:Int)-1)) ?_;refine aP 6 27 (.pointer (some ⟨b,off+(k-1) * 2,none⟩)) ?_;refine dL 7 28 (.agg #[.int .u64 G,.int .u64 I]) ?_ ?_
  ·intro X P;obtain⟨x0,x1,x2,x3,x4⟩:=P;go_simp
  refine dL 8 29 (.agg #[.int .u64 lo,.int .u64 hi]) ?_ ?_
  ·intro X P;obtain⟨x0,x1,x2,x3,x4⟩:=P;go_simp
  refine cW 9 fun K V=>?_;go_simp;refine(HR _).mono ?_;rintro e wq ⟨rfl,s⟩;have F:=F.below s;clear s;go_simp;refine V _ _ F (fun _=>?_);clear V K;refine aP 10 31 (.bool false) ?_;refine aP 11 32 (.bool false) ?_;refine iM ?_;have BB:=aI (aN M F.bl);clear F;go_wp2;go_roundw
  case rel=>exact⟨k+1,aA,by go_num,BB⟩
  simp[intOf];omega
 obtain rfl:k=len:=aA;go_wp2;go_ret;exact⟨rfl,M⟩
end Go.Proofs.YtbkkolfpegplgaaGreatDoor
