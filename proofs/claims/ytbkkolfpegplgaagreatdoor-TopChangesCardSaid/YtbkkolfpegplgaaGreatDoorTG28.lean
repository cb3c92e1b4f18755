import Derived.Test.YtbkkolfpegplgaaGreatDoorTG13
import Derived.Test.YtbkkolfpegplgaaGreatDoorTG27
import Derived.Test.YtbkkolfpegplgaaGreatDoorTG18
open Go.RowKit.Below renaming refl→PC
open List renaming length_append→PD,getElem?_eq_getElem→PE,append_assoc→PF
open Go.Proofs.Tryz
set_option maxHeartbeats 3200000
set_option maxRecDepth 100000
namespace Go.Proofs.YtbkkolfpegplgaaGreatDoor
open Go Go.RowKit
theorem cR{p:Array Oper}{rest:List Oper}{o:Oper}{a:Act}{Q:Exit→Act→World→Prop}{w:World}(r:o.guard=none)(s x:Operand)
  (ho:o.op=.call { callee:=.builtin .append,args:=#[s,x],argTypes:=#[89,89] })
  (base:Nat) (v:Value) (xs:List Int) (hs:a.eval s=v) (j:OwnI w base v xs) (a2:Option Addr) (m c:Nat) (ys:List Int) (G:a.eval x=.slice a2 m c) (A:Ints .u64 w a2 m ys) (J:a2=none→c=0)
  (K:xs.length+m≤4000000000) (l:base≤w.heap.size)
  (h:∀y w',OwnI w' base y (xs ++ ys)→w.grownBy w' v.ownBlock→wpList prog p Q rest (a.put o.dst y) w'):wpList prog p Q (o :: rest) a w:=by
 obtain⟨F,hi,C,D,E⟩:=info_parts iD;have B:=A.length;have H:∀z∈xs ++ ys,aL z:=fun z n=>by
  rcases List.mem_append.1 n with n | n
  ·exact j.words z n
  exact jV (A.wf z n)
 cases a2 with
 | none=>
   obtain rfl:m=0:=by
    by_cases e:m=0
    ·exact e
    obtain⟨b,off,e,_⟩:=A.cells 0 aA;cases e
   obtain rfl:c=0:=J rfl;obtain rfl:ys=[]:=List.length_eq_zero_iff.1 B;refine wpList_append_own_none r s x 89 ho base 57 F 1 underlying89 hi v xs.length _ hs j.row G (h v w ?_ ⟨rfl,rfl,rfl,Nat.le_refl _,fun _ _ _=>rfl⟩);simpa using j
 | some ad=>
   refine wpList_append_own_at w r s x 89 ho base 57 F (.int .u64 0) 1 8 underlying89 hi C D E rfl aB v xs.length _ hs j.row ad m c (ys.map (Value.int .u64)) G (by simp[B]) (Gg A) ?_ (by unfold maxLen;omega) aA l ?_
   ·intro u I;obtain⟨z,_,rfl⟩:=List.mem_map.1 I;rfl
   intro y w' h1 h2 _ _;exact h y w' ⟨by rw[PD,B,List.map_append];exact h1,H⟩ h2
theorem mL{w:World}{base:Nat}{e:TypeId}{size:Nat}{n cap:Nat}{xs:List Value}(h:w.ownsRow base e size (.slice none n cap) n xs):cap=0:=by
 rcases h.2 with⟨hv,_⟩ | ⟨g,cap',cur,hv,_⟩
 ·cases hv;rfl
 cases hv
theorem OwnI.only{w w':World}{base:Nat}{v:Value}{zs:List Int}{may:Nat→Prop}(h:OwnI w base v zs)(ho:Only may w w')(b:∀k,v.ownBlock=some k→¬may k):OwnI w' base v zs:=⟨bF h.row ho b,h.words⟩
theorem Gc(n:World)(v:Value)(zs:List Int)(a:Option Addr)(len cap:Nat)(l:List EV)(es:List Ent)(w:World)(h:OwnB w n.heap.size v zs)(h0:Below n.heap.size n w)(hE:EntsAt n a len l)(A6:l.map (·.1)=es)
  (hC:CanV es) (hn:∀e∈es,e.hs.length≤1000000) (A5:zs.length+10 * (bX es).length≤3900000000) :
  Calls prog 45 #[v,.slice a len cap] w fun e w'=>∃v',e=.returned v'∧OwnB w' n.heap.size v' (zs ++ bL (bX es))∧Below n.heap.size n w':=by
 have hl:len=es.length:=by rw[← A6,List.length_map,hE.length]
 have C8:es.length≤(bX es).length:=by
  have:∀k,k≤(bI es k).length:=fun k=>by
   induction k with
   | zero=>omega
   | succ k ih=>rw[show bI es (k+1)=bI es k ++ oJ (kU es k) (es.getD k Ent.z)from rfl,PD,lF];omega
  exact this es.length
 have C9:∀e∈es,EntW e:=fun e he=>by
  rw[← A6]at he;obtain⟨p,hp,rfl⟩:=List.mem_map.1 he;exact hE.words p hp
 have E:=aI hE;have B:=aI h;have B0:=aI h0;have A9:=aI hC;have ES:=aI A6;have HN:=aI hn;have WD:=aI C9;have N:=aI A5;have w64:IntKind.u64.wrap (len:Int)=len:=bA ⟨aA,aA⟩;have WL:Hid (aL (len:Int)):=aI ⟨aA,aA⟩;have D9:len≤390000000:=aA;have HL:=aI hl;clear h h0 hE hC A6 hn C9 A5 hl C8;go_enter func45,ntmps45;go_wp2_with fail;refine(rF n v zs len _ B B0 WL (by have:=N.out;omega)).mono ?_;rintro e w1 ⟨v1,rfl,C3,D3⟩;have N1:Hid (zs ++ vb 10 (len:Int)=zs ++ bL (bI es 0)):=aI (by
  rw[show bI es 0=[(es.length:Int)] from rfl,show bL [(es.length:Int)]=vb 10 (es.length:Int) ++ [] from rfl,List.append_nil,← HL.out])
 rw[N1.out]at C3;have O1:=aI C3;have B1:=aI D3;clear C3 D3 N1 B B0;go_wp2_with fail;go_loopw [0,19] (fun o c wr=>∃k:Nat,k≤len∧c=.int .i64 k∧OwnB wr n.heap.size o (zs ++ bL (bI es k))∧Below n.heap.size n wr)
  (fun _ c _=>len-(intOf c).toNat)
 case atStart=>exact⟨0,Nat.zero_le _,rfl,O1,B1⟩
 obtain⟨k,hk,rfl,hO,hb⟩:=hrel;have HO:=aI hO;have HB:=aI hb;clear hO O1 B1;by_cases hlt:k<len
 ·obtain⟨b,off,rfl,E2,c0,c1,c2⟩:=(E.below hb).cells k hlt;have A7:=E.mem hlt;obtain⟨ha,F,eh,hP,D4⟩:=((E.holes _ A7).below hb).at';have O:k<es.length:=by rw[← HL.out];exact hlt
  have M:es.getD k Ent.z=(l.getD k EV.z).1:=by rw[← ES.out,cF]
  have P:=A9.ents k O;have hn:=HN.out _ (fL O);have hw:=WD.out _ (fL O);have B5:=aI (zY A9 WD O);have NX:Hid (bI es (k+1)=bI es k ++ oJ (kU es k) (es.getD k Ent.z)):=rfl;have ML:=aI (Af es (show k+1≤es.length by omega));have RD:Hid (kU es k=if k=0 then(es.getD 0 Ent.z).rep else(es.getD k Ent.z).rep-(es.getD (k-1) Ent.z).rep-1):=rfl;have D0:=aI (A9.asc k);rw[eh]at c2;obtain⟨e,ee⟩:=aG ((l.getD k EV.z).1);rw[ee]at c0 c1 c2 hP M D4;rw[M]at P hn hw NX RD D0;have D7:Hid ((es.getD k Ent.z).rep=e.rep):=aI (by rw[M]);obtain⟨rep,mx,hs⟩:=e;simp only at c0 c1 c2 hP D4;obtain⟨p,ep⟩:=aG (kU es k);rw[ep]at B5 NX RD;have NE:Hid (oJ p ⟨rep,mx,hs⟩=p :: mx :: (hs.length:Int) :: gV hs 1 hs.length):=rfl;have i0:(0:Int)≤(k:Int):=aA;have i1:(k:Int)<(len:Int):=aA;have E0:=hb.size;have E1:b≠wr.heap.size:=aA;have HP:=aI hP;have A8:=aI P;have WE:=aI hw;have ww:IntKind.u64.wrap (hs.length:Int)=hs.length:=bA ⟨aA,by simp only at hn;omega⟩;have DL:=aI (gN hs 1 hs.length);have D8:hs.length≤1000000:=hn;have D1:Hid (aL (hs.length:Int)):=aI ⟨aA,aA⟩;have KD:=aI (fun W hW=>Bi ha hs.length F hs 1 W hW iV D8);have D2:Hid (∀(W W':World) (dv ov:Value),Only (fun _=>False) wr W→False→True):=aI (fun _ _ _ _ _ _=>trivial);clear D2 hP P hw hn ee M ep eh A7;by_cases hk0:k=0
  ·have u:=RD.out;rw[if_pos hk0]at u;have hp:rep=p:=by
    rw[u,← hk0];exact D7.symm
   subst hp;clear u;have n0:¬(0:Int)<(k:Int):=aA;clear hk0;go_wp2_with fail;refine(KD _ (HP.below (aJ (PC _ _) _))).mono ?_;rintro e w2 ⟨r,U⟩;obtain⟨_,v2,rfl,J⟩:=U.resolve_right (fun h=>h.1 (tR A8.cor));have B2:=aI (aN (aJ HB _) r);have B6:=aI (HO.below (aN (aJ (PC _ _) _) r));obtain⟨a2,G,rfl,V,_⟩:=J.ints (by rw[DL.out];omega);have B7:=aI (show a2=none→G=0 from fun e=>by subst e;exact mL J.row);have M2:=aI (show(wr.alloc (.cells #[.int .u64 rep,.int .u64 mx,.slice ha hs.length F] 96)).heap.size≤w2.heap.size from r.size);have k2:∀j x,(wr.alloc (.cells #[.int .u64 rep,.int .u64 mx,.slice ha hs.length F] 96)).cell? ⟨wr.heap.size,j,none⟩=some x→w2.cell? ⟨wr.heap.size,j,none⟩=some x:=fun j x R=>aM r aD R;have g0:=k2 0 _ (by simp;rfl);have g1:=k2 1 _ (by simp;rfl);have g2:=k2 2 _ (by simp;rfl);have I2:=aI V;have B8:=B2.size;clear r U J V KD k2;go_wp2_with(at_builtin;go_loud(refine cR rfl _ _ rfl n.heap.size _ [rep,mx,(hs.length:Int)] rfl ?o1 a2 (gV hs 1 hs.length).length G (gV hs 1 hs.length) rfl ?o2 B7 ?o3 ?o4 ?_))
   case o1=>exact⟨World.ownsRow_lit (base:=n.heap.size) (e:=57) (size:=1) w2 #[.int .u64 rep,.int .u64 mx,.int .u64 (hs.length:Int)] 3 B8 aB rfl,fun z hz=>by
    simp at hz;rcases hz with rfl | rfl | rfl
    ·exact B5
    ·exact WE.mx
    exact D1⟩
   case o2=>exact I2.below (aJ (PC _ _) _)
   case o3=>rw[DL.out];simp;omega
   case o4=>simp;omega
   intro v3 w3 C A4;have H:Below w2.heap.size w2 w3:=(aJ (PC _ _) _).grown A4 aD (fun q hq=>by
    obtain rfl:w2.heap.size=q:=by simpa[Value.ownBlock]using hq
    exact Nat.le_refl _)
   have B3:=aI (aN B2 H);have B9:=aI (B6.below H);obtain⟨L,eL⟩:=aG (rep :: mx :: (hs.length:Int) :: gV hs 1 hs.length);rw[eL]at C NE;have Q:L.length=3+2 * hs.length:=by rw[← NE.out,lF]
   have LL:=aI Q;have C0:L.length≤3000000:=aA;rw[NE.out]at NX;obtain⟨a3,s,rfl,_,_⟩:=C.ints aA;have O3:=aI C;have MB:=aI (show zs.length+10 * (bI es k).length+10 * L.length≤3900000000 by
    have h1:=ML.out;rw[NX.out,PD]at h1;have:=N.out;omega)
   clear C A4 H eL Q;obtain⟨n3,A⟩:=aG L.length;rw[A]at C0 ⊢;rw[A]at MB;have m:=aI A;clear A;have C1:Hid (OwnI w3 n.heap.size (.slice a3 n3 s) L):=by have:=O3.out;rw[m.out]at this;exact this
   clear O3;obtain⟨wo,C4⟩:=aH (wr:World);clear C4 wo;go_wp2_with fail;go_loopw [0,57] (fun o c K=>∃j:Nat,j≤n3∧c=.int .i64 j∧OwnB K n.heap.size o (zs ++ bL (bI es k ++ L.take j))∧OwnI K n.heap.size (.slice a3 n3 s) L∧Below n.heap.size n K)
    (fun _ c _=>n3-(intOf c).toNat)
   case atStart=>exact⟨0,Nat.zero_le _,rfl,by simpa using B9.out,C1,B3⟩
   obtain⟨j,hj,rfl,X,Y,Z⟩:=hrel;have I:=aI X;have y:=aI Y;have B4:=aI Z;clear X Y Z;by_cases hjl:j<n3
   ·obtain⟨a4,cap4,e4,A0,_⟩:=y.ints (by rw[m.out];omega);obtain⟨rfl,C5,rfl⟩:a3=a4∧n3=L.length∧s=cap4:=by simpa using e4
    clear C5;obtain⟨b4,D5,rfl,D6,C6⟩:=A0.cells j (by rw[m.out];exact hjl);have R:aL (L.getD j 0):=y.words _ (by
     rw[show L.getD j 0=L[j]'(by rw[m.out];exact hjl) by simp[List.getD,PE (show j<L.length by rw[m.out];exact hjl)]];exact List.getElem_mem _)
    have TK:=aI (show L.take (j+1)=L.take j ++ [L.getD j 0] by
     have S:j<L.length:=by rw[m.out];exact hjl
     rw[List.take_succ_eq_append_getElem S];simp[List.getD,PE S])
    obtain⟨x,ex⟩:=aG (L.getD j 0);rw[ex]at C6 R TK;have HX:=aI R;have j0:(0:Int)≤(j:Int):=aA;have j1:(j:Int)<(n3:Int):=aA;have LT:=aI (show(L.take j).length≤L.length from by rw[List.length_take];omega);clear e4 A0 ex R;go_wp2_with fail;refine(gT n _ _ x _ I B4 HX (by
     rw[PD];have h1:=dI (bI es k ++ L.take j);rw[PD]at h1;have h2:=MB.out;have h3:=LT.out;have h4:=m.out;omega)).mono ?_
    rintro e w5 ⟨v5,rfl,A1,A2,A3⟩;have O5:Hid (OwnB w5 n.heap.size v5 (zs ++ bL (bI es k ++ L.take (j+1)))):=aI (by
     rw[TK.out,← PF (bI es k),dY,← PF zs];exact A1)
    have T5:=aI (y.only A3.only (fun q hq C7=>Typed.ne (aR I.row C7) (aR y.row hq) aB rfl));clear A1 A3;go_wp2;go_roundw
    case rel=>first | exact⟨j+1,aA,by go_num,O5,T5,A2⟩ | ((repeat apply Exists.intro);exact⟨⟨j+1,aA,by go_num,O5,T5,A2⟩,rfl⟩)
    simp[intOf];omega
   obtain rfl:j=n3:=aA;have T:=I.out;rw[← m.out,List.take_length,← NX.out]at T;have T:=aI T;go_wp2;go_roundw
   case rel=>first | exact⟨k+1,aA,by go_num,T,B4⟩ | ((repeat apply Exists.intro);exact⟨⟨k+1,aA,by go_num,T,B4⟩,rfl⟩)
   simp[intOf];omega
  have u:=RD.out;rw[if_neg hk0]at u;obtain⟨b',off',eb,_,d0,_,_⟩:=(E.below HB).cells (k-1) aA;obtain⟨rfl,rfl⟩:b=b'∧off=off':=by simpa using eb
  have D:=D0.out aA O;rw[← ES.out,cF]at u D;have C2:=(E.words _ (E.mem (i:=k-1) aA)).rep;obtain⟨q,eq⟩:=aG ((l.getD (k-1) EV.z).1.rep);rw[eq]at d0 u D C2;simp only at u D;have KB:=aI (fun W=>iN q rep C2 WE.rep D W);subst u;clear eb D C2 eq;have n0:(0:Int)<(k:Int):=aA;have n3:IntKind.i64.wrap ((k:Int)-1)=(k:Int)-1:=IntWalk.i64_in _ aA;have n1:(0:Int)≤(k:Int)-1:=aA;have n2:(k:Int)-1<(len:Int):=aA;have n4:((k:Int)-1).toNat=k-1:=aA;clear hk0;go_wp2_with fail;go_quiet ((go_at_call 89;exact iJ (KB _)));go_wp2_with fail;refine(KD _ (HP.below (aU (aJ (PC _ _) _) _))).mono ?_;rintro e w2 ⟨r,U⟩;obtain⟨_,v2,rfl,J⟩:=U.resolve_right (fun h=>h.1 (tR A8.cor));have B2:=aI (aN (aU (aJ HB _) _) r);have B6:=aI (HO.below (aN (aU (aJ (PC _ _) _) _) r));obtain⟨a2,G,rfl,V,_⟩:=J.ints (by rw[DL.out];omega);have B7:=aI (show a2=none→G=0 from fun e=>by subst e;exact mL J.row);have M2:=aI (show(wr.alloc (.cells #[.int .u64 rep,.int .u64 mx,.slice ha hs.length F] 96)).heap.size≤w2.heap.size from Nat.le_trans (Nat.le_of_eq aD) r.size);have k2:∀j x,(wr.alloc (.cells #[.int .u64 rep,.int .u64 mx,.slice ha hs.length F] 96)).cell? ⟨wr.heap.size,j,none⟩=some x→w2.cell? ⟨wr.heap.size,j,none⟩=some x:=fun j x R=>aM (aN (aU (PC _ _) _) r) aD R;have g0:=k2 0 _ (by simp;rfl);have g1:=k2 1 _ (by simp;rfl);have g2:=k2 2 _ (by simp;rfl);have I2:=aI V;have B8:=B2.size;clear r U J V KD k2;go_wp2_with(at_builtin;go_loud(refine cR rfl _ _ rfl n.heap.size _ [(rep-q-1),mx,(hs.length:Int)] rfl ?o1 a2 (gV hs 1 hs.length).length G (gV hs 1 hs.length) rfl ?o2 B7 ?o3 ?o4 ?_))
  case o1=>exact⟨World.ownsRow_lit (base:=n.heap.size) (e:=57) (size:=1) w2 #[.int .u64 (rep-q-1),.int .u64 mx,.int .u64 (hs.length:Int)] 3 B8 aB rfl,fun z hz=>by
   simp at hz;rcases hz with rfl | rfl | rfl
   ·exact B5
   ·exact WE.mx
   exact D1⟩
  case o2=>exact I2.below (aJ (PC _ _) _)
  case o3=>rw[DL.out];simp;omega
  case o4=>simp;omega
  intro v3 w3 C A4;have H:Below w2.heap.size w2 w3:=(aJ (PC _ _) _).grown A4 aD (fun q hq=>by
   obtain rfl:w2.heap.size=q:=by simpa[Value.ownBlock]using hq
   exact Nat.le_refl _)
  have B3:=aI (aN B2 H);have B9:=aI (B6.below H);obtain⟨L,eL⟩:=aG ((rep-q-1) :: mx :: (hs.length:Int) :: gV hs 1 hs.length);rw[eL]at C NE;have Q:L.length=3+2 * hs.length:=by rw[← NE.out,lF]
  have LL:=aI Q;have C0:L.length≤3000000:=aA;rw[NE.out]at NX;obtain⟨a3,s,rfl,_,_⟩:=C.ints aA;have O3:=aI C;have MB:=aI (show zs.length+10 * (bI es k).length+10 * L.length≤3900000000 by
   have h1:=ML.out;rw[NX.out,PD]at h1;have:=N.out;omega)
  clear C A4 H eL Q;obtain⟨n3,A⟩:=aG L.length;rw[A]at C0 ⊢;rw[A]at MB;have m:=aI A;clear A;have C1:Hid (OwnI w3 n.heap.size (.slice a3 n3 s) L):=by have:=O3.out;rw[m.out]at this;exact this
  clear O3;obtain⟨wo,C4⟩:=aH (wr:World);clear C4 wo;go_wp2_with fail;go_loopw [0,57] (fun o c K=>∃j:Nat,j≤n3∧c=.int .i64 j∧OwnB K n.heap.size o (zs ++ bL (bI es k ++ L.take j))∧OwnI K n.heap.size (.slice a3 n3 s) L∧Below n.heap.size n K)
   (fun _ c _=>n3-(intOf c).toNat)
  case atStart=>exact⟨0,Nat.zero_le _,rfl,by simpa using B9.out,C1,B3⟩
  obtain⟨j,hj,rfl,X,Y,Z⟩:=hrel;have I:=aI X;have y:=aI Y;have B4:=aI Z;clear X Y Z;by_cases hjl:j<n3
  ·obtain⟨a4,cap4,e4,A0,_⟩:=y.ints (by rw[m.out];omega);obtain⟨rfl,C5,rfl⟩:a3=a4∧n3=L.length∧s=cap4:=by simpa using e4
   clear C5;obtain⟨b4,D5,rfl,D6,C6⟩:=A0.cells j (by rw[m.out];exact hjl);have R:aL (L.getD j 0):=y.words _ (by
    rw[show L.getD j 0=L[j]'(by rw[m.out];exact hjl) by simp[List.getD,PE (show j<L.length by rw[m.out];exact hjl)]];exact List.getElem_mem _)
   have TK:=aI (show L.take (j+1)=L.take j ++ [L.getD j 0] by
    have S:j<L.length:=by rw[m.out];exact hjl
    rw[List.take_succ_eq_append_getElem S];simp[List.getD,PE S])
   obtain⟨x,ex⟩:=aG (L.getD j 0);rw[ex]at C6 R TK;have HX:=aI R;have j0:(0:Int)≤(j:Int):=aA;have j1:(j:Int)<(n3:Int):=aA;have LT:=aI (show(L.take j).length≤L.length from by rw[List.length_take];omega);clear e4 A0 ex R;go_wp2_with fail;refine(gT n _ _ x _ I B4 HX (by
    rw[PD];have h1:=dI (bI es k ++ L.take j);rw[PD]at h1;have h2:=MB.out;have h3:=LT.out;have h4:=m.out;omega)).mono ?_
   rintro e w5 ⟨v5,rfl,A1,A2,A3⟩;have O5:Hid (OwnB w5 n.heap.size v5 (zs ++ bL (bI es k ++ L.take (j+1)))):=aI (by
    rw[TK.out,← PF (bI es k),dY,← PF zs];exact A1)
   have T5:=aI (y.only A3.only (fun q hq C7=>Typed.ne (aR I.row C7) (aR y.row hq) aB rfl));clear A1 A3;go_wp2;go_roundw
   case rel=>first | exact⟨j+1,aA,by go_num,O5,T5,A2⟩ | ((repeat apply Exists.intro);exact⟨⟨j+1,aA,by go_num,O5,T5,A2⟩,rfl⟩)
   simp[intOf];omega
  obtain rfl:j=n3:=aA;have T:=I.out;rw[← m.out,List.take_length,← NX.out]at T;have T:=aI T;go_wp2;go_roundw
  case rel=>first | exact⟨k+1,aA,by go_num,T,B4⟩ | ((repeat apply Exists.intro);exact⟨⟨k+1,aA,by go_num,T,B4⟩,rfl⟩)
  simp[intOf];omega
 obtain rfl:k=len:=aA;go_wp2;go_ret;refine⟨_,rfl,?_,HB⟩;have:=HO.out;rw[HL.out]at this;exact this
end Go.Proofs.YtbkkolfpegplgaaGreatDoor
