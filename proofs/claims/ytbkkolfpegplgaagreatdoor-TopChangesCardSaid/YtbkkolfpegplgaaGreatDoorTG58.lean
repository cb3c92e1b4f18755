import Derived.Test.YtbkkolfpegplgaaGreatDoorTG28
import Derived.Test.YtbkkolfpegplgaaGreatDoorTG57
open List renaming length_append→PC,length_cons→PD,length_nil→PE,append_assoc→PF
open Go.Proofs.Tryz
set_option maxHeartbeats 6400000
set_option maxRecDepth 100000
set_option linter.unusedSimpArgs false
namespace Go.Proofs.YtbkkolfpegplgaaGreatDoor
open Go Go.RowKit
theorem jM{w j:World}{base m:Nat}{v l:Value}{xs ys:List Int}(h:OwnI w base v xs)(n:ys.length=m)(p:j.ownsRow base 57 1 l (xs.length+m) (xs.map (Value.int .u64) ++ ys.map (Value.int .u64)))(r:∀y∈ys,aL y):OwnI j base l (xs ++ ys):=by
 subst n;refine⟨by rw[PC,List.map_append];exact p,fun z b=>?_⟩;rcases List.mem_append.1 b with b | b
 ·exact h.words z b
 exact r z b
theorem Pg(a:Option Addr)(len cap:Nat)(xs:List Int)(w:World)(h:Ints .u64 w a len xs)(hs:len≤100000000) :
  Calls prog 59 #[.slice a len cap] w fun e w'=>∃v,e=.returned v∧OwnB w' w.heap.size v (bL xs)∧Below w.heap.size w w':=by
 have H:=aI h;have C:=h.length;have D:=aI C;clear h C;go_enter func59,ntmps59;go_wp2;go_loopw [3,4] (fun o c wr=>∃k:Nat,k≤len∧c=.int .i64 k∧OwnB wr w.heap.size o (bL (xs.take k))∧Below w.heap.size w wr)
  (fun _ c _=>len-(intOf c).toNat)
 case atStart=>exact⟨0,Nat.zero_le _,rfl,OwnB.nil _ _,Below.refl _ _⟩
 obtain⟨k,X,rfl,z,A⟩:=hrel;have E:=aI z;have F:=aI A;have U:(0:Int)≤(k:Int):=aA;by_cases hlt:k<len
 ·obtain⟨b,off,rfl,S,L⟩:=(H.below A).cells k hlt;have V:(k:Int)<(len:Int):=aA;have u:aL (xs.getD k 0):=jV (H.getD_wf hlt);have G:=aI (show bL (xs.take (k+1))=bL (xs.take k) ++ vb 10 (xs.getD k 0) by
   have p:k<xs.length:=by rw[D.out];exact hlt
   rw[List.take_succ_eq_append_getElem p,dY];simp[List.getD,List.getElem?_eq_getElem p])
  have O:=aI (show(bL (xs.take k)).length≤10 * k by
   have:=dI (xs.take k);rw[List.length_take]at this;omega)
  obtain⟨x,M⟩:=aG (xs.getD k 0);rw[M]at L u G;have P:=aI (fun W=>xI 10 x W u (by have:=u.2;omega) aB aB);have I:=aI (jF 10 x);clear M u z A;go_wp2_with fail;refine(P _).mono ?_;rintro e Y ⟨Z,rfl,l,m⟩;obtain⟨a1,N,rfl,r,B⟩:=l.ints (by have:=I.out;omega);have Q:=aI r;have R:=aI (show a1=none→N=0 from fun e=>by subst e;exact mL l.row);have J:=aI (E.below m);have y:=aI (aN F m);clear l r m B L;go_wp2_with(at_builtin;refine eF rfl _ _ rfl w.heap.size _ (bL (xs.take k)) rfl J a1 (vb 10 x).length N (vb 10 x) rfl Q R ?o1 ?o2 ?_)
  case o1=>have:=O.out;have:=I.out;omega
  case o2=>exact y.size
  intro v2 w2 n s;rw[← G.out]at n;have j:=aI n;have K:=aI (y.grown s y.size (fun q T=>(J.row.lt q T).1));clear n s;go_wp2;go_roundw
  case rel=>first | exact⟨k+1,aA,by go_num,j,K⟩ | ((repeat apply Exists.intro);exact⟨⟨k+1,aA,by go_num,j,K⟩,rfl⟩)
  simp[intOf];omega
 obtain rfl:k=len:=aA;have j:=E.out;rw[← D.out,List.take_length]at j;have j:=aI j;clear z;go_wp2;go_ret;exact⟨_,rfl,j,F⟩
theorem Cu(a:Option Addr)(len cap:Nat)(l:List EV)(es:List Ent)(w:World)(hE:EntsAt w a len l)(A8:l.map (·.1)=es)(hC:CanV es)(hn:∀e∈es,e.hs.length≤1000)(Y:(bX es).length≤1000000) :
  Calls prog 105 #[.slice a len cap] w fun e w'=>∃v,e=.returned v∧OwnI w' w.heap.size v (bX es)∧Below w.heap.size w w':=by
 obtain⟨A3,A4,A5,A6,A7⟩:=info_parts iD;have hl:len=es.length:=by rw[← A8,List.length_map,hE.length]
 have C3:es.length≤(bX es).length:=by
  have:∀k,k≤(bI es k).length:=fun k=>by
   induction k with
   | zero=>omega
   | succ k ih=>rw[show bI es (k+1)=bI es k ++ oJ (kU es k) (es.getD k Ent.z)from rfl,PC,lF];omega
  exact this es.length
 have C4:∀e∈es,EntW e:=fun e he=>by
  rw[← A8]at he;obtain⟨p,hp,rfl⟩:=List.mem_map.1 he;exact hE.words p hp
 have E:=aI hE;have B0:=aI hC;have ES:=aI A8;have HN:=aI hn;have WD:=aI C4;have C5:=aI Y;have w64:IntKind.u64.wrap (len:Int)=len:=bA ⟨aA,aA⟩;have WL:Hid (aL (len:Int)):=aI ⟨aA,aA⟩;have D2:len≤1000000:=aA;have HL:=aI hl;have HR:=aI (World.ownsRow_lit (base:=w.heap.size) (e:=57) (size:=1) w #[.int .u64 (len:Int)] 1 (Nat.le_refl _) aB rfl);have O0:Hid (OwnI (w.alloc (.cells #[.int .u64 (len:Int)] 57)) w.heap.size (.slice (some ⟨w.heap.size,0,none⟩) 1 1) (bI es 0)):=aI (by
  rw[show bI es 0=[(es.length:Int)] from rfl,← HL.out];exact⟨HR,fun z K=>by simp at K;subst K;exact WL⟩)
 clear hE A8 hC hn C4 Y hl C3 HR;go_enter func105,ntmps105;go_wp2;go_loopw [3,4] (fun o c wr=>∃k:Nat,k≤len∧c=.int .i64 k∧OwnI wr w.heap.size o (bI es k)∧Below w.heap.size w wr)
  (fun _ c _=>len-(intOf c).toNat)
 case atStart=>exact⟨0,Nat.zero_le _,rfl,O0,aJ (Below.refl _ _) _⟩
 obtain⟨k,hk,rfl,hO,hb⟩:=hrel;have HO:=aI hO;have HB:=aI hb;clear hO O0;by_cases hlt:k<len
 ·obtain⟨b,off,rfl,D4,c1,c2,c3⟩:=(E.below hb).cells k hlt;have A9:=E.mem hlt;obtain⟨ha,O,eh,hP,B9⟩:=(E.holes _ A9).at';have M:k<es.length:=by rw[← HL.out];exact hlt
  have I:es.getD k Ent.z=(l.getD k EV.z).1:=by rw[← ES.out,cF]
  have N:=B0.ents k M;have hn:=HN.out _ (fL M);have hw:=WD.out _ (fL M);have B1:=zY B0 WD M;have NX:Hid (bI es (k+1)=bI es k ++ oJ (kU es k) (es.getD k Ent.z)):=rfl;have ML:=aI (Af es (show k+1≤es.length by omega));have RD:Hid (kU es k=if k=0 then(es.getD 0 Ent.z).rep else(es.getD k Ent.z).rep-(es.getD (k-1) Ent.z).rep-1):=rfl;have C6:=aI (B0.asc k);rw[eh]at c3;obtain⟨e,ee⟩:=aG ((l.getD k EV.z).1);obtain⟨ev,C0⟩:=aG ((l.getD k EV.z).2);rw[ee]at c1 c2 c3 hP I B9 eh;rw[I]at N hn hw NX RD C6;have D0:Hid ((es.getD k Ent.z).rep=e.rep):=aI (by rw[I]);have EE:=aI ee;obtain⟨x,y,zs⟩:=e;simp only at c1 c2 c3 hP B9 hn eh;rw[C0]at eh;obtain⟨p,ep⟩:=aG (kU es k);rw[ep]at B1 NX RD;have NE:Hid (oJ p ⟨x,y,zs⟩=[p] ++ [y,(zs.length:Int)] ++ gV zs 1 zs.length):=rfl;rw[NE.out,← PF,← PF]at NX;have B4:=tR N.cor;have DL:=aI (gN zs 1 zs.length);simp only at B4;have HP:=aI hP;have AP:=aI B4;have WE:=aI hw;have B7:zs.length≤1000:=hn;obtain⟨n,en⟩:=aG zs.length;rw[en]at c3 B7 NX DL HP AP eh;have WN:Hid (aL (n:Int)):=aI ⟨aA,aA⟩;have ww:IntKind.u64.wrap (n:Int)=n:=bA ⟨aA,aA⟩;have WP:=aI B1;have A0:Hid ((l.getD k EV.z).2=.slice ha n O):=aI (by rw[C0,eh]);rw[NX.out]at ML;have A1:=aI (show(bI es k).length+3+2 * n≤1000000 by
   have h1:=ML.out;have h2:=C5.out;have h3:=DL.out;simp only[PC,PD,PE]at h1;omega)
  have i0:(0:Int)≤(k:Int):=aA;have i1:(k:Int)<(len:Int):=aA;have L:=aI (show(bI es k ++ [p]).length+2≤maxLen∧((bI es k ++ [p]).length+2) * 8≤140737488355328 by
   have:=A1.out;unfold maxLen;simp only[PC,PD,PE];omega)
  have A2:=aI (show(bI es k).length+1≤maxLen∧((bI es k).length+1) * 8≤140737488355328 by
   have:=A1.out;unfold maxLen;omega)
  clear hP N hw hn ee I eh A9 B9 B4 B1 en C0 ep NE;by_cases hk0:k=0
  ·have A:=RD.out;rw[if_pos hk0]at A;have hp:x=p:=by
    rw[A,← hk0];exact D0.symm
   subst hp;have n0:((k:Int) == 0)=true:=by simp;omega
   clear A hk0;go_wp2_with(at_builtin;(refine wpList_append_own_at _ rfl _ _ 89 rfl w.heap.size 57 A3 (.int .u64 0) 1 8 underlying89 A4 A5 A6 A7 rfl aB _ _ _ rfl (HO.row.alloc _) ⟨wr.heap.size,0,none⟩ 1 1 [.int .u64 x] rfl rfl ?s1 ?s2 ?s3 ?s4 ?s5 ?_))
   first | (case s1=>exact cell_one_new wr _ _) | skip
   case s2=>first | (intro u V;simp at V;subst V;rfl) | rfl
   case s3=>exact A2.1
   case s4=>exact A2.2
   case s5=>first | exact(aJ HB _).size | (have:=HB.size;simp at this ⊢;omega)
   intro v2 w2 r j _ _;have D:=(aJ HB _).grown j (aJ HB _).size (fun g hg=>(HO.row.lt g hg).1);have B2:=aI D;have O2:=aI (jM (m:=1) (ys:=[x]) HO rfl r (fun z K=>by simp at K;subst K;exact WP));obtain⟨b2,off2,P,_,_,R,S⟩:=(E.below D).cells k hlt;obtain⟨rfl,rfl⟩:b=b2∧off=off2:=by simpa using P
   rw[A0.out]at S;rw[EE.out]at R;clear P r j D c1 c2 c3;have QL:=aI (show(bI es k ++ [x]).length=(bI es k).length+1 by simp);obtain⟨Q,eQ⟩:=aG (bI es k ++ [x]);rw[eQ]at O2 NX L QL;have B8:=aI (show bI es (k+1)=Q ++ y :: (n:Int) :: gV zs 1 n by rw[NX.out];simp);clear eQ;go_wp2_with fail;go_region_law (refine step_append_lies _ rfl _ _ 89 rfl w.heap.size 57 A3 (.int .u64 0) 1 8 underlying89 A4 A5 A6 A7 rfl aB _ _ _ rfl (O2.row.alloc _).drew ⟨w2.heap.size,0,none⟩ 2 2 [.int .u64 y,.int .u64 (n:Int)] rfl rfl ?_ ?_ aB ?_ ?_ ?_ (w2.heap.size+1) ?_ ?_;exact fE w2 _ _ _;(intro u V;simp at V;rcases V with rfl | rfl<;>rfl);exact L.1;exact L.2;(exact(aS (aJ B2 _)).size);simp;intro g3 D1 w3 C s C2 W)
   all_goals
    have B:=(aS (aJ B2 _)).grown s (aS (aJ B2 _)).size (fun g hg=>(O2.row.lt g hg).1);have B3:=aI B;have O3:=aI (jM (m:=2) (ys:=[y,(n:Int)]) O2 rfl C (fun z K=>by
     simp at K;rcases K with rfl | rfl
     ·exact WE.mx
     exact WN))
    obtain⟨b4,off4,T,_,_,_,k3⟩:=(E.below B).cells k hlt;obtain⟨rfl,rfl⟩:b=b4∧off=off4:=by simpa using T
    rw[A0.out]at k3;have PR:=aI (HP.below (aN (Below.refl _ _) (B.mono (Nat.le_refl _))));clear T C s C2 W R S B;go_wp2_with fail;refine(xG ha n O zs 1 _ PR iV AP B7).mono ?_;rintro e w5 ⟨v5,rfl,F,G⟩;obtain⟨a5,c5,rfl,U,C1⟩:=F.ints (by rw[DL.out];omega);have I5:=aI U;have CN:=aI (show a5=none→c5=0 from fun e=>by subst e;exact mL F.row);have O4:=aI (O3.below G);have B5:=aI (aN B3 G);clear F U G C1 k3;go_wp2_with(at_builtin;refine cR rfl _ _ rfl w.heap.size _ _ rfl O4 a5 (gV zs 1 n).length c5 (gV zs 1 n) rfl I5 CN ?o1 ?o2 ?_)
    case o1=>have h1:=A1.out;have h2:=DL.out;have h3:=QL.out;simp only[PC,PD,PE];omega
    case o2=>exact B5.size
    intro v6 w6 H X;rw[← B8.out]at H;have Z:=aI H;have B6:=aI (B5.grown X B5.size (fun q hq=>(O4.row.lt q hq).1));clear H X;go_wp2;go_roundw
    case rel=>first | exact⟨k+1,aA,by go_num,Z,B6⟩ | ((repeat apply Exists.intro);exact⟨⟨k+1,aA,by go_num,Z,B6⟩,rfl⟩)
    simp[intOf];omega
  skip
  obtain⟨b2,off2,eb,_,d0,_,_⟩:=(E.below HB).cells (k-1) aA;obtain⟨rfl,rfl⟩:b=b2∧off=off2:=by simpa using eb
  have A:=RD.out;rw[if_neg hk0]at A;have J:=C6.out aA M;rw[← ES.out,cF]at A J;have C7:=(E.words _ (E.mem (i:=k-1) aA)).rep;obtain⟨q,eq⟩:=aG ((l.getD (k-1) EV.z).1.rep);rw[eq]at d0 A J C7;simp only at A J;have wx:=WE.rep;simp only at wx;have n0:¬(k:Int)=0:=aA;have n1:(0:Int)≤(k:Int)-1:=aA;have n2:(k:Int)-1<(len:Int):=aA;have n3:IntKind.i64.wrap ((k:Int)-1)=(k:Int)-1:=IntWalk.i64_in _ aA;have n4:((k:Int)-1).toNat=k-1:=aA;have n5:IntKind.u64.wrap (x-q)=x-q:=bA (by unfold aL at *;omega);have n6:IntKind.u64.wrap (x-q-1)=p:=by rw[A];exact bA (by unfold aL at *;omega)
  have j5:(1:Int)≤(k:Int):=aA;have j6:1≤k:=aA;have j7:(k:Int)≤(len:Int):=aA;have D3:=hb.size;clear eb A J C7 eq hk0 wx hb;go_wp2_with fail;go_region_law (refine step_append_lies _ rfl _ _ 89 rfl w.heap.size 57 A3 (.int .u64 0) 1 8 underlying89 A4 A5 A6 A7 rfl aB _ _ _ rfl (HO.row.alloc _).drew ⟨wr.heap.size,0,none⟩ 1 1 [.int .u64 p] rfl rfl ?_ ?_ aB ?_ ?_ ?_ (wr.heap.size+1) ?_ ?_;exact cell_one_new wr _ _;(intro u V;simp at V;subst V;rfl);exact A2.1;exact A2.2;(exact(aS (aJ HB _)).size);simp;intro g2 D5 w2 r j C8 C9)
  all_goals
   have D:=(aS (aJ HB _)).grown j (aS (aJ HB _)).size (fun g hg=>(HO.row.lt g hg).1);have B2:=aI D;have O2:=aI (jM (m:=1) (ys:=[p]) HO rfl r (fun z K=>by simp at K;subst K;exact WP));obtain⟨b2,off2,P,_,_,R,S⟩:=(E.below D).cells k hlt;obtain⟨rfl,rfl⟩:b=b2∧off=off2:=by simpa using P
   rw[A0.out]at S;rw[EE.out]at R;clear P r j C8 C9 D c1 c2 c3 d0;have QL:=aI (show(bI es k ++ [p]).length=(bI es k).length+1 by simp);obtain⟨Q,eQ⟩:=aG (bI es k ++ [p]);rw[eQ]at O2 NX L QL;have B8:=aI (show bI es (k+1)=Q ++ y :: (n:Int) :: gV zs 1 n by rw[NX.out];simp);clear eQ;go_wp2_with fail;go_region_law (refine step_append_lies _ rfl _ _ 89 rfl w.heap.size 57 A3 (.int .u64 0) 1 8 underlying89 A4 A5 A6 A7 rfl aB _ _ _ rfl (O2.row.alloc _).drew ⟨w2.heap.size,0,none⟩ 2 2 [.int .u64 y,.int .u64 (n:Int)] rfl rfl ?_ ?_ aB ?_ ?_ ?_ (w2.heap.size+1) ?_ ?_;exact fE w2 _ _ _;(intro u V;simp at V;rcases V with rfl | rfl<;>rfl);exact L.1;exact L.2;(exact(aS (aJ B2 _)).size);simp;intro g3 D1 w3 C s C2 W)
   all_goals
    have B:=(aS (aJ B2 _)).grown s (aS (aJ B2 _)).size (fun g hg=>(O2.row.lt g hg).1);have B3:=aI B;have O3:=aI (jM (m:=2) (ys:=[y,(n:Int)]) O2 rfl C (fun z K=>by
     simp at K;rcases K with rfl | rfl
     ·exact WE.mx
     exact WN))
    obtain⟨b4,off4,T,_,_,_,k3⟩:=(E.below B).cells k hlt;obtain⟨rfl,rfl⟩:b=b4∧off=off4:=by simpa using T
    rw[A0.out]at k3;have PR:=aI (HP.below (aN (Below.refl _ _) (B.mono (Nat.le_refl _))));clear T C s C2 W R S B;go_wp2_with fail;refine(xG ha n O zs 1 _ PR iV AP B7).mono ?_;rintro e w5 ⟨v5,rfl,F,G⟩;obtain⟨a5,c5,rfl,U,C1⟩:=F.ints (by rw[DL.out];omega);have I5:=aI U;have CN:=aI (show a5=none→c5=0 from fun e=>by subst e;exact mL F.row);have O4:=aI (O3.below G);have B5:=aI (aN B3 G);clear F U G C1 k3;go_wp2_with(at_builtin;refine cR rfl _ _ rfl w.heap.size _ _ rfl O4 a5 (gV zs 1 n).length c5 (gV zs 1 n) rfl I5 CN ?o1 ?o2 ?_)
    case o1=>have h1:=A1.out;have h2:=DL.out;have h3:=QL.out;simp only[PC,PD,PE];omega
    case o2=>exact B5.size
    intro v6 w6 H X;rw[← B8.out]at H;have Z:=aI H;have B6:=aI (B5.grown X B5.size (fun q hq=>(O4.row.lt q hq).1));clear H X;go_wp2;go_roundw
    case rel=>first | exact⟨k+1,aA,by go_num,Z,B6⟩ | ((repeat apply Exists.intro);exact⟨⟨k+1,aA,by go_num,Z,B6⟩,rfl⟩)
    simp[intOf];omega
 obtain rfl:k=len:=aA;have Z:=HO.out;rw[HL.out]at Z;have Z:=aI Z;go_wp2;go_ret;exact⟨_,rfl,Z,HB⟩
end Go.Proofs.YtbkkolfpegplgaaGreatDoor
