import Derived.Test.YtbkkolfpegplgaaGreatDoorTG36
open And renaming intro→PC
open Go.RowKit.Below renaming refl→PD
open Go.World renaming cell?→PE
open List renaming length_map→PF,setIfInBounds_toArray→PG,getD→PH,set_cons_zero→PI,set_cons_succ→PJ,length_append→PM,getElem?_eq_getElem→PN,mem_append_left→PO,filter_congr→PQ,take_length→PS,length_cons→PT,map_append→PU
open Nat renaming le_trans→PV,mul_le_mul_right→PX,le_mul_of_pos_left→PY,zero_le→PZ,succ_pos→QA,le_refl→QB
open Go.Proofs.Tryz
set_option maxHeartbeats 25600000
set_option maxRecDepth 100000
set_option linter.unusedVariables false
set_option linter.unusedSimpArgs false
namespace Go.Proofs.YtbkkolfpegplgaaGreatDoor
open Go Go.RowKit
instance (k:List Frag) (x r c:Int):Decidable (fH k x r c):=by unfold fH;infer_instance
def Eb (tk:Bool→Bool→Bool) (la lb:List FV) (x r c:Int):Prop:=tk (decide (fH (la.map FV.frag) x r c)) (decide (fH (lb.map FV.frag) x r c))=true
theorem vV{tk:Bool→Bool→Bool}{b lb:List FV}{es j:List Ent}{x r c:Int}(h1:dN es r c↔fH (b.map FV.frag) x r c)(h2:dN j r c↔fH (lb.map FV.frag) x r c):zL tk es j r c↔Eb tk b lb x r c:=by
 unfold zL Eb;rw[decide_eq_decide.2 h1,decide_eq_decide.2 h2]
structure GG (tk:Bool→Bool→Bool) (la lb:List FV) (ps:List Iv) (V A:Nat) (k:Nat) (l':List FV):Prop where
 part:PartK ps (Eb tk la lb) k l'
 bnd:VecB l' V A
 cmp:∀f∈l',pS f.vec
theorem tA{b lb:List FV}{x y:Int}(h:aX (b ++ lb) x (b ++ lb).length=aX (b ++ lb) y (b ++ lb).length):aX b x b.length=aX b y b.length∧aX lb x lb.length=aX lb y lb.length:=by
 have p:∀i,i<(b ++ lb).length→(aV ((b ++ lb).getD i FV.z).items x↔aV ((b ++ lb).getD i FV.z).items y):=fun i hi=>by
  have h1:=dG (l:=b ++ lb) (x:=x) (m:=(b ++ lb).length) (i:=i);have h2:=dG (l:=b ++ lb) (x:=y) (m:=(b ++ lb).length) (i:=i);rw[h]at h1;constructor
  ·intro n;exact(h2.1 (h1.2 ⟨hi,n⟩)).2
  intro n;exact(h1.1 (h2.2 ⟨hi,n⟩)).2
 constructor
 ·refine PQ fun i hi=>decide_eq_decide.2 ?_;have j:i<b.length:=by simpa using hi
  have:=p i (by rw[PM];omega);rwa [PH,List.getElem?_append_left j,← PH]at this
 refine PQ fun i hi=>decide_eq_decide.2 ?_;have j:i<lb.length:=by simpa using hi
 have:=p (b.length+i) (by rw[PM];omega);rwa [PH,List.getElem?_append_right aA,Nat.add_sub_cancel_left,← PH]at this
theorem Vw{tk:Bool→Bool→Bool}{b lb:List FV}{x y r c:Int}(h:aX (b ++ lb) x (b ++ lb).length=aX (b ++ lb) y (b ++ lb).length):Eb tk b lb x r c↔Eb tk b lb y r c:=by
 obtain⟨h1,h2⟩:=tA h;unfold Eb;rw[decide_eq_decide.2 (sC (r:=r) (c:=c) h1),decide_eq_decide.2 (sC (r:=r) (c:=c) h2)]
theorem Vv{tk:Bool→Bool→Bool}(l:tk false false=false){m lb:List FV}{x r c:Int}(h:Eb tk m lb x r c):fH ((m ++ lb).map FV.frag) x r c:=by
 by_cases h1:fH (m.map FV.frag) x r c
 ·obtain⟨f,b,j⟩:=h1;exact⟨f,by rw[PU];exact PO _ b,j⟩
 by_cases h2:fH (lb.map FV.frag) x r c
 ·obtain⟨f,b,j⟩:=h2;exact⟨f,by rw[PU];exact List.mem_append_right _ b,j⟩
 unfold Eb at h;rw[decide_eq_false h1,decide_eq_false h2,l]at h
 cases h
theorem wL{m:List FV}(h:∀f∈m,f.items.length≤1):bD m≤m.length:=by
 induction m with
 | nil=>exact QB _
 | cons f m ih=>
   have h1:=h f aD;have h2:=ih (fun g b=>h g (by simp[b]));simp only[bD,PT];omega
theorem bK{P:Program}{fn:Func}{t l:Array Value}{R:Ending→World→Prop}(h:results fn t=results fn l):∀{j:List Deferred} {u:FrameMode} {w:World},Leaves P fn t R j u w→Leaves P fn l R j u w
 | [],.returning,w,⟨v,h1,h2⟩=>⟨v,h ▸ h1,h2⟩
 | [],.panicking _,_,h1=>h1
 | [],.run,_,h1=>h1.elim
 | d :: j,u,w,⟨hu,fv,cap,f,args,h1,h2,h3⟩=>⟨hu,fv,cap,f,args,h1,h2,h3.mono fun e m w' b=>by
   cases e with
   | returned v=>exact bK h b
   | panicked chain=>exact bK h b
   | outgrown=>exact b⟩
theorem Hw{a:Array Value}{d t:Nat}(v u:Value)(h:d≠t):(a.setIfInBounds d v).getD t u=a.getD t u:=by
 simp only[Array.getD_eq_getD_getElem?,Array.getElem?_setIfInBounds_ne h]
theorem fV(a:Act)(d:Tmp)(v:Value)(b:d≠6)(j:d≠7):results f33 (a.put (some d) v).tmps=results f33 a.tmps:=by
 simp only[results,results33,Act.put,List.mapM_toArray,List.mapM_cons,List.mapM_nil,Hw _ _ b,Hw _ _ j]
theorem Ld(g:FuncId)(tk:Bool→Bool→Bool)(hg:Jc g tk)(va vb:Value)(U lb:List FV)(I Va Aa Na Vb Ab Nb:Nat)(w:World)(hA:KnwAt w va U)(hB:KnwAt w vb lb)(nA:iH va)(nB:iH vb)
  (E2:Sa U I Va Aa) (E3:Sa lb I Vb Ab) (hI:I≤1000000000) (F9:bD U+bD lb≤400000000) (C7:U.length+lb.length≤400000000)
  (F0:∀x,(aX U x U.length).length≤Na) (F1:∀x,(aX lb x lb.length).length≤Nb) (G0:(Na+1) * Va≤1000000000) (G1:(Nb+1) * Vb≤1000000000) (G2:(Na+1) * (Aa+3)≤2000000000) (G3:(Nb+1) * (Ab+3)≤2000000000)
  (F2:Na * Va+Nb * Vb≤1000000000) (F3:Na * (Aa+3)+Nb * (Ab+3)+3≤2900000000)
  (D0:∀(x:Int) (pl ql es:List Ent),CanW pl→(∀r c,dN pl r c↔fH (U.map FV.frag) x r c)→CanW ql→(∀r c,dN ql r c↔fH (lb.map FV.frag) x r c)→CanW es→(∀r c,dN es r c↔zL tk pl ql r c)→pl.length≤Na * Va→(∀e∈pl,e.hs.length≤Na * (Aa+3))→ql.length≤Nb * Vb→(∀e∈ql,e.hs.length≤Nb * (Ab+3))→es.length≤pl.length+ql.length→(∀e∈es,e.hs.length≤Na * (Aa+3)+Nb * (Ab+3)+3)→(bG es).length≤4000000000) :
  Calls prog 33 #[va,vb,.func (.func g) #[] #[]] w fun e w'=>∃v' l',e=.returned (.tuple #[v',.nilIface])∧BN w (Eb tk U lb) (1+2 * (bD U+bD lb)) (Na * Va+Nb * Vb) (Na * (Aa+3)+Nb * (Ab+3)+3) v' l' w':=by
 have J8:prog.follows .mixedOrders=true:=aC;have L5:=hg.ent;have HG:=aI hg;have HA:=aI hA;have HB:=aI hB;have H1:=aI nA;have H2:=aI nB;have J9:Va≤1000000000:=PV (PY _ (QA Na)) G0;have K0:Vb≤1000000000:=PV (PY _ (QA Nb)) G1;have K1:Aa+3≤2000000000:=PV (PY _ (QA Na)) G2;have K2:Ab+3≤2000000000:=PV (PY _ (QA Nb)) G3;have H3:=aI (fun W (Q:Below w.heap.size w W)=>qQ va U W (hA.below Q) E2.cor E2.right aA);have H4:=aI (fun W (Q:Below w.heap.size w W)=>qQ vb lb W (hB.below Q) E3.cor E3.right aA);have H5:=aI (fun W (Q:Below w.heap.size w W) x=>Li va U x I Va Aa W (hA.below Q) E2 aA aA aA aA Na (F0 x) aA aA);have H6:=aI (fun W (Q:Below w.heap.size w W) x=>Li vb lb x I Vb Ab W (hB.below Q) E3 aA aA aA aA Nb (F1 x) aA aA);have OA:=aI E2;have OB:=aI E3;have R:=aI (fun x=>PX Va (F0 x));have A6:=aI (fun x=>PX (Aa+3) (F0 x));have T:=aI (fun x=>PX Vb (F1 x));have A7:=aI (fun x=>PX (Ab+3) (F1 x));obtain⟨C1,F4⟩:=aG (Na * Va);obtain⟨C2,F5⟩:=aG (Nb * Vb);obtain⟨A2,F6⟩:=aG (Na * (Aa+3));obtain⟨A3,F7⟩:=aG (Nb * (Ab+3));rw[F4]at R F2 D0 ⊢;rw[F5]at T F2 D0 ⊢;rw[F6]at A6 F3 D0 ⊢;rw[F7]at A7 F3 D0 ⊢;have V:=aI F2;have E4:=aI D0;have A8:=aI F3;have B3:=aI F9;have II:=aI hI;have E5:=aI C7;have WB:=aI (show ∀f∈U ++ lb,∀x,aV f.items x→aL x from fun f E x hx=>(List.mem_append.1 E).elim (fun h=>pI hA f h x hx) (fun h=>pI hB f h x hx));obtain⟨aa,K9,rfl,_⟩:=hA;obtain⟨ab,L0,rfl,_⟩:=hB;obtain⟨E8,D4⟩:=aG U.length;obtain⟨E9,D5⟩:=aG lb.length;have G4:=aI D4;have H7:=aI D5;rw[D4]at HA H3 H5 H1 E5 C7 R A6 ⊢;rw[D5]at HB H4 H6 H2 E5 C7 T A7 ⊢;clear hg E2 E3 nA nB hI F9 J9 K0 K1 K2 G0 G1 G2 G3 F0 F1 F2 F3 D0 F4 F5 F6 F7 D4 D5;go_enter_defers func33,ntmps33;go_wp2_with fail;obtain⟨w1,D6⟩:=aG (w.alloc (.cells #[.nilIface] 27));have B1:=aI (show Below w.heap.size w w1 from by rw[← D6];exact aJ (PD _ _) _);have Q1:=aI (show w1.heap[w.heap.size]?=some (.cells #[.nilIface] 27 (0,0))from by rw[← D6];exact aK _ _ rfl);have S1:=aI (show w1.heap.size=w.heap.size+1 from by rw[← D6];simp);rw[D6];clear D6;refine(H3 _ B1).mono ?_;rintro e w2 ⟨rfl,I8⟩;have B2:=aI I8;clear I8;go_wp2_with fail;refine(Gu _ _).mono ?_;rintro e w3 ⟨rfl,rfl⟩;go_wp2_with fail;refine(H4 _ (aN B1 B2)).mono ?_;rintro e w4 ⟨rfl,I9⟩;have B4:=aI (aN B2 I9);clear I9;go_wp2_with fail;refine(Gu _ _).mono ?_;rintro e w5 ⟨rfl,rfl⟩;obtain⟨i0,hi,L1,L2,L3⟩:=info_parts fK;have H8:=aI (show ∀(X:World) (v:Value) (f:FV) (W:World),Below w1.heap.size w1 X→(∀b,v.ownBlock=some b→w1.heap.size≤b)→Only (fun b=>v.ownBlock=some b) X W→f∈U ++ lb→FragAt W f from fun X v f W hX hv ho E=>by
  have hW:=B1.trans ((hX.trans (ho.below (n:=w1.heap.size) hX.size hv)).mono B1.size);obtain⟨_,_,_,kA,_⟩:=HA.out;obtain⟨_,_,_,kB,_⟩:=HB.out;rcases List.mem_append.1 E with E | E
  ·exact(kA.frags f E).below hW
  exact(kB.frags f E).below hW)
 go_wp2_with(first
  | (at_make;go_loud(refine wpList_make_own _ rfl _ _ 23 rfl w1.heap.size 80 i0 (.agg #[.slice none 0 0,.slice none 0 0]) 2 underlying23 hi L1 L2 .i64 .i64 _ (E8+E9) rfl rfl (by go_num) (by rw[L3];omega) (by unfold maxLen;omega) B4.size ?_;intro w6 D9 C4;have R6:=aI (show RawK w6 w1.heap.size _ [] from⟨D9,aD⟩);have B6:=aI (show Below w1.heap.size w1 w6 from B4.trans ((Only.refl (fun _=>False) w5).grown C4 (fun k hk=>(by cases hk)) |>.below (n:=w1.heap.size) B4.size (fun _ h=>h.elim)));clear D9 C4))
  | (at_builtin;go_loud(refine kX rfl _ _ rfl w1.heap.size _ [] rfl R6 _ U rfl (HA.below (B1.trans (B6.mono B1.size))) H1 (fun f W _ ho E=>H8 w6 _ f W B6 (fun b Q=>(R6.row.lt b Q).1) ho (PO _ E)) (by have:=E5.out;have:=G4.out;simp;omega) B6.size ?_;intro v7 w7 E0 C5;have R7:=aI E0;have B7:=aI (show Below w1.heap.size w1 w7 from B6.trans (((Only.refl (fun b=>(Value.slice (some ⟨w5.heap.size,0,none⟩) 0 (E8+E9)).ownBlock=some b) w6).grown C5 (fun k hk=>hk)).below (n:=w1.heap.size) B6.size (fun b Q=>(R6.row.lt b Q).1)));clear E0 C5))
  | (at_builtin;go_loud(refine kX rfl _ _ rfl w1.heap.size _ U rfl R7 _ lb rfl (HB.below (B1.trans (B7.mono B1.size))) H2 (fun f W _ ho E=>H8 w7 _ f W B7 (fun b Q=>(R7.row.lt b Q).1) ho E) (by have:=E5.out;have:=G4.out;have:=H7.out;omega) B7.size ?_;intro v8 w8 E1 C6;have R8:=aI E1;have B8:=aI (show Below w1.heap.size w1 w8 from B7.trans (((Only.refl (fun b=>v7.ownBlock=some b) w7).grown C6 (fun k hk=>hk)).below (n:=w1.heap.size) B7.size (fun b Q=>(R7.row.lt b Q).1)));clear E1 C6))
  | (fail))
 have A9:=aI (bN U lb);have K3:=aI (show(U ++ lb).length=E8+E9 from by rw[PM,G4.out,H7.out]);have H9:=aI (show ∀f∈U ++ lb,cL f.items∧f.items.length≤I from fun f E=>(List.mem_append.1 E).elim (fun h=>⟨OA.cor f h,OA.items f h⟩) (fun h=>⟨OB.cor f h,OB.items f h⟩));have I0:I≤1000000000:=II.out;refine(Mk v8 (U ++ lb) w8 R8.know (fun f E=>(H9 f E).1) (fun f E=>PV (H9 f E).2 I0) (by have:=A9.out;have:=B3.out;omega) (by rw[K3.out];exact C7)).mono ?_;clear I0;rintro e w9 ⟨vp,ps,rfl,J0,J1,J2,J3⟩;obtain⟨ap,cp,rfl,J4,_,_⟩:=J0.prs;have B9:=aI (B8.trans (J3.mono B8.size));have PK:=aI J1;have PL:=aI J2;have HP:=aI J4;obtain⟨n,en⟩:=aG ps.length;have EN:=aI en;rw[en]at HP PL ⊢;have L6:n≤1000000000:=by have:=PL.out;have:=B3.out;have:=A9.out;omega
 obtain⟨a8,c8,rfl,_⟩:=aY R8.row;clear J0 J1 J2 J4 J3 en;go_wp2;go_loopw [9,32] (fun o c wr=>∃(k:Nat) (l':List FV),k≤n∧c=.int .i64 k∧KRow wr w9.heap.size o l'∧GG tk U lb ps (C1+C2) (A2+A3+3) k l'∧Below w9.heap.size w9 wr) (fun _ c _=>n-(intOf c).toNat)
 case atStart=>exact⟨0,[],PZ _,rfl,KRow.nil _ _,⟨PartK.zero _ _,VecB.nil _ _,fun f E=>(by cases E)⟩,PD _ _⟩
 obtain⟨k,l',hk,rfl,hR,hP,Q⟩:=hrel;have HR:=aI hR;have D:=aI hP;have I1:=aI Q;have L7:(0:Int)≤(k:Int):=aA;clear hP;by_cases hlt:k<n;have i1:(k:Int)<(n:Int):=aA;have Hr:=HP.below Q;obtain⟨b,off,rfl,L4,J5,J6⟩:=Hr.cells k hlt;have hw:=Hr.word hlt;obtain⟨lo,G8⟩:=aG (Lo ps k);obtain⟨j,G9⟩:=aG (Hi ps k);have B5:=aI G8;have E6:=aI G9;rw[G8]at J5 hw;rw[G9]at J6 hw;have WD:=aI hw;obtain⟨ao,co,rfl,_⟩:=aY hR.row;obtain⟨m,em⟩:=aG l'.length;have EM:=aI em;rw[em]at HR ⊢;clear G8 G9 hw Hr hR em;go_wp2_with fail;obtain⟨wq,D7⟩:=aG (wr.alloc (.cells #[.int .u64 lo,.int .u64 j] 123));have BQ:=aI (show Below w9.heap.size w9 wq from by rw[← D7];exact Q.alloc Q.size _);have p1:wq.heap[wr.heap.size]?=some (.cells #[.int .u64 lo,.int .u64 j] 123 (0,0)):=by rw[← D7];exact aK _ _ rfl
 have RQ:=aI (show KRow wq w9.heap.size (.slice ao m co) l' from by rw[← D7];exact HR.below (aJ (PD _ _) _));have c0:wq.cell? ⟨wr.heap.size,0,none⟩=some (.int .u64 lo):=by simp[PE,p1]
 have c1:wq.cell? ⟨wr.heap.size,1,none⟩=some (.int .u64 j):=by simp[PE,p1]
 have I2:∀x,(Value.slice ao m co).ownBlock=some x→x<wr.heap.size:=fun x hx=>(HR.row.lt x hx).2;have nq:¬(Value.slice ao m co).ownBlock=some wr.heap.size:=fun e=>by have:=I2 _ e;omega
 have TO:=aI (fun W (hX:Only (fun _=>False) wq W)=>B1.trans ((B9.trans ((BQ.trans (hX.below (n:=w9.heap.size) BQ.size (fun _ h=>h.elim))).mono B9.size)).mono B1.size));have KA:=aI (fun W (hX:Only (fun _=>False) wq W)=>H5 W (TO W hX) lo);have KB:=aI (fun W (hX:Only (fun _=>False) wq W)=>H6 W (TO W hX) lo);rw[D7];clear J5 J6 L4 Q D7 p1 I2;refine wp_region_held_drew (S:=Only (fun b=>(Value.slice ao m co).ownBlock=some b) wq) J8 (Only.refl _ _).drew (fun z=>?_);refine aP (r:=fun _ _ _ h=>bK (fV _ _ _ aB aB) h) 0 36 (.slice ao m co) ?_;refine dL (r:=fun _ _ _ h=>bK (fV _ _ _ aB aB) h) 1 37 (.agg #[.int .u64 lo,.int .u64 j]) ?_ ?_
 ·intro X hX;have x0:=hX.cell nq c0;have x1:=hX.cell nq c1;go_simp
 refine aP (r:=fun _ _ _ h=>bK (fV _ _ _ aB aB) h) 3 39 (.func (.func g) #[] #[]) ?_;refine aP (r:=fun _ _ _ h=>bK (fV _ _ _ aB aB) h) 4 40 (.slice aa E8 K9) ?_;refine aP (r:=fun _ _ _ h=>bK (fV _ _ _ aB aB) h) 5 41 (.pointer (some ⟨wr.heap.size,0,none⟩)) ?_;refine dL (r:=fun _ _ _ h=>bK (fV _ _ _ aB aB) h) 6 42 (.int .u64 lo) ?_ ?_
 ·intro X hX;have x0:=hX.cell nq c0;go_simp
 refine aP (r:=fun _ _ _ h=>bK (fV _ _ _ aB aB) h) 8 44 (.slice ab E9 L0) ?_;refine aP (r:=fun _ _ _ h=>bK (fV _ _ _ aB aB) h) 9 45 (.pointer (some ⟨wr.heap.size,0,none⟩)) ?_;refine dL (r:=fun _ _ _ h=>bK (fV _ _ _ aB aB) h) 10 46 (.int .u64 lo) ?_ ?_
 ·intro X hX;have x0:=hX.cell nq c0;go_simp
 have X0:=aI ((Only.refl (fun _=>False) wq).drew);clear c0 c1;refine Se 2 7 (fun K A=>?_) fun K A=>?_;have z:=z.alloc (.cells #[.int .u64 lo,.int .u64 j] 123);go_simp;refine A _ _ z (fun _=>?_);clear A K;have X1:=aI (X0.alloc (.cells #[.int .u64 lo,.int .u64 j] 123));have N1:=aI (show(wq.drew.alloc (.cells #[.int .u64 lo,.int .u64 j] 123)).heap[wq.heap.size]?=some (.cells #[.int .u64 lo,.int .u64 j] 123 (0,0))from aK _ _ aD);refine cW 7 fun K A=>?_;go_simp;refine(KA _ X1).mono ?_;rintro e y0 ⟨pv,pl,rfl,J,hH,Y,C,Z,hh,l⟩;have z:=z.call l;obtain⟨pa,pc,rfl,_⟩:=J.vecAt;have G:=aI (PC Y (PC C (PC Z hh)));have C8:=aI J.vecAt;obtain⟨pn,C3⟩:=aG pl.length;have K4:=aI C3;rw[C3]at C8 ⊢;have X2:=aI (X1.call l);have N2:=aI ((l.block _ (aO N1)).trans N1);clear J hH Y C Z hh l C3;go_simp;refine A _ _ z (fun _=>?_);clear A K;refine cW 11 fun K A=>?_;go_simp;refine(KB _ X2).mono ?_;rintro e y1 ⟨qv,ql,rfl,J,hH,Y,C,Z,hh,l⟩;have z:=z.call l;obtain⟨qa,qc,rfl,_⟩:=J.vecAt;have F:=aI (PC Y (PC C (PC Z hh)));have B0:=aI J.vecAt;obtain⟨qn,A4⟩:=aG ql.length;have I3:=aI A4;rw[A4]at B0 ⊢;have C9:=aI (C8.below (show Below y0.heap.size y0 y1 from l));have X3:=aI (X2.call l);have N3:=aI ((l.block _ (aO N2)).trans N2);clear J hH Y C Z hh l A4;go_simp;refine A _ _ z (fun _=>?_);clear A K;refine cW 12 fun K A=>?_;go_simp;refine(HG.run (.slice pa pn pc) (.slice qa qn qc) pl ql A2 A3 _ C9 B0 (CanV.right (CanW.v G.1)) (CanV.right (CanW.v F.1)) (fun p B=>PV (G.2.2.2 p B) (A6 lo)) (fun p B=>PV (F.2.2.2 p B) (A7 lo)) (by have:=A8.out;omega) (by have h1:=G.2.2.1;have h2:=R.out lo;have h3:=V.out;omega) (by have h1:=F.2.2.1;have h2:=T.out lo;have h3:=V.out;omega)).mono ?_;rintro e H ⟨vv,u,rfl,J,hH,Y,C,Z,hh,l⟩;have z:=z.call l;obtain⟨L,M,rfl,_⟩:=J.vecAt;have s:=aI (PC Y (PC C (PC Z hh)));have A0:=aI (J.base (PZ _));obtain⟨nv,A5⟩:=aG u.length;rw[A5]at A0 ⊢;have X4:=aI (X3.call l);have N4:=aI ((l.block _ (aO N3)).trans N3);clear J hH Y C Z hh l A5;go_simp;refine A _ _ z (fun _=>?_);clear A K;have X8:=aI (show Only (fun _=>False) wq H from X4);have N8:=aI (show H.heap[wq.heap.size]?=some (.cells #[.int .u64 lo,.int .u64 j] 123 (0,0))from N4);have F8:=aI (show RowF H 0 (.slice L nv M) u from A0);refine aP (r:=fun _ _ _ h=>bK (fV _ _ _ aB aB) h) 13 49 (.agg #[.slice (some ⟨wq.heap.size,0,none⟩) 1 1,.slice L nv M]) ?_;refine cW 14 fun K A=>?_;have z:=z.alloc (.cells #[.slice (some ⟨wq.heap.size,0,none⟩) 1 1,.slice L nv M] 80);go_simp;refine A _ _ z (fun _=>?_);clear A K;refine cW 15 fun K A=>?_;have P:Only (fun _=>False) wq (H.alloc (.cells #[.slice (some ⟨wq.heap.size,0,none⟩) 1 1,.slice L nv M] 80)):=X8.alloc _;have g8:FragT H ⟨[(lo,j)],.slice (some ⟨wq.heap.size,0,none⟩) 1 1,u,.slice L nv M⟩:=⟨lI WD.1 WD.2 N8,F8⟩;obtain⟨v',w10,hr,N,O⟩:=KRow.app (vb:=(H.heap.size)) (g:=⟨[(lo,j)],.slice (some ⟨wq.heap.size,0,none⟩) 1 1,u,.slice L nv M⟩) (RQ.only P (fun _ h=>h.elim)) (g8.below (aJ (PD _ _) _)) (aK _ _ aD) (by have h1:=D.part.len;have h2:=PL.out;have h3:=B3.out;have h4:=A9.out;omega) (by have h1:=P.size;have h2:=BQ.size;omega) 23;have z:=z.trans O;have C0:=aI N;clear N P g8 O;rw[if_pos (by rfl)];refine cV _ _ _ _ rfl rfl rfl hr ?_;refine A _ _ z (fun _=>?_);clear A K hr;simp only[Act.put,PG,PI,PJ];refine aP (r:=fun _ _ _ h=>bK (fV _ _ _ aB aB) h) 16 9 (v') ?_;refine iM ?_;have D1:=aI (BQ.trans (z.below (n:=w9.heap.size) BQ.size (fun b Q=>(HR.row.lt b Q).1)));have D2:=aI (show GG tk U lb ps (C1+C2) (A2+A3+3) (k+1) (l' ++ [⟨[(lo,j)],.slice (some ⟨wq.heap.size,0,none⟩) 1 1,u,.slice L nv M⟩])from⟨D.part.snoc (by show [(lo,j)]=_;rw[B5.out,E6.out]) (fun r c=>by rw[B5.out];exact(s.2.1 r c).trans (vV (G.2.1 r c) (F.2.1 r c))),D.bnd.snoc s.1 (by have h0:=s.2.2.1;have h1:=G.2.2.1;have h2:=R.out lo;have h3:=F.2.2.1;have h4:=T.out lo;show u.length≤_;omega) (fun p B=>s.2.2.2 p B),fun f E=>by
  rcases List.mem_append.1 E with E | E
  ·exact D.cmp f E
  obtain rfl:f=⟨[(lo,j)],.slice (some ⟨wq.heap.size,0,none⟩) 1 1,u,.slice L nv M⟩:=by simpa using E
  have h0:=s.2.2.1;have h1:=G.2.2.1;have h2:=R.out lo;have h3:=F.2.2.1;have h4:=T.out lo;have h5:=V.out;have h6:=A8.out;refine⟨by show u.length≤_;omega,fun p B=>by have:=s.2.2.2 p B;omega,?_⟩;refine E4 lo (pl.map (·.1)) (ql.map (·.1)) (u.map (·.1)) G.1 G.2.1 F.1 F.2.1 s.1 s.2.1 (by rw[PF];omega) (fun e he=>?_) (by rw[PF];omega) (fun e he=>?_) (by rw[PF,PF,PF];exact h0) (fun e he=>?_)
  ·obtain⟨p,B,rfl⟩:=List.mem_map.1 he;exact PV (G.2.2.2 p B) (A6 lo)
  ·obtain⟨p,B,rfl⟩:=List.mem_map.1 he;exact PV (F.2.2.2 p B) (A7 lo)
  obtain⟨p,B,rfl⟩:=List.mem_map.1 he;exact s.2.2.2 p B⟩)
 rotate_left;go_simp;refine(KA _ X0).mono ?_;rintro e y0 ⟨pv,pl,rfl,J,hH,Y,C,Z,hh,l⟩;have z:=z.call l;obtain⟨pa,pc,rfl,_⟩:=J.vecAt;have G:=aI (PC Y (PC C (PC Z hh)));have C8:=aI J.vecAt;obtain⟨pn,C3⟩:=aG pl.length;have K4:=aI C3;rw[C3]at C8 ⊢;have X1:=aI (X0.call l);clear J hH Y C Z hh l C3;go_simp;refine A _ _ z (fun _=>?_);clear A K;refine Se 2 11 (fun K A=>?_) fun K A=>?_;have z:=z.alloc (.cells #[.int .u64 lo,.int .u64 j] 123);go_simp;refine A _ _ z (fun _=>?_);clear A K;have X2:=aI (X1.alloc (.cells #[.int .u64 lo,.int .u64 j] 123));have N2:=aI (show(y0.alloc (.cells #[.int .u64 lo,.int .u64 j] 123)).heap[y0.heap.size]?=some (.cells #[.int .u64 lo,.int .u64 j] 123 (0,0))from aK _ _ aD);refine cW 11 fun K A=>?_;go_simp;refine(KB _ X2).mono ?_;rintro e y1 ⟨qv,ql,rfl,J,hH,Y,C,Z,hh,l⟩;have z:=z.call l;obtain⟨qa,qc,rfl,_⟩:=J.vecAt;have F:=aI (PC Y (PC C (PC Z hh)));have B0:=aI J.vecAt;obtain⟨qn,A4⟩:=aG ql.length;have I3:=aI A4;rw[A4]at B0 ⊢;have C9:=aI (C8.below (show Below y0.heap.size y0 y1 from aN (aJ (PD _ _) _) l));have X3:=aI (X2.call l);have N3:=aI ((l.block _ (aO N2)).trans N2);clear J hH Y C Z hh l A4;go_simp;refine A _ _ z (fun _=>?_);clear A K;refine cW 12 fun K A=>?_;go_simp;refine(HG.run (.slice pa pn pc) (.slice qa qn qc) pl ql A2 A3 _ C9 B0 (CanV.right (CanW.v G.1)) (CanV.right (CanW.v F.1)) (fun p B=>PV (G.2.2.2 p B) (A6 lo)) (fun p B=>PV (F.2.2.2 p B) (A7 lo)) (by have:=A8.out;omega) (by have h1:=G.2.2.1;have h2:=R.out lo;have h3:=V.out;omega) (by have h1:=F.2.2.1;have h2:=T.out lo;have h3:=V.out;omega)).mono ?_;rintro e H ⟨vv,u,rfl,J,hH,Y,C,Z,hh,l⟩;have z:=z.call l;obtain⟨L,M,rfl,_⟩:=J.vecAt;have s:=aI (PC Y (PC C (PC Z hh)));have A0:=aI (J.base (PZ _));obtain⟨nv,A5⟩:=aG u.length;rw[A5]at A0 ⊢;have X4:=aI (X3.call l);have N4:=aI ((l.block _ (aO N3)).trans N3);clear J hH Y C Z hh l A5;go_simp;refine A _ _ z (fun _=>?_);clear A K;have X8:=aI (show Only (fun _=>False) wq H from X4);have N8:=aI (show H.heap[y0.heap.size]?=some (.cells #[.int .u64 lo,.int .u64 j] 123 (0,0))from N4);have F8:=aI (show RowF H 0 (.slice L nv M) u from A0);refine aP (r:=fun _ _ _ h=>bK (fV _ _ _ aB aB) h) 13 49 (.agg #[.slice (some ⟨y0.heap.size,0,none⟩) 1 1,.slice L nv M]) ?_;refine cW 14 fun K A=>?_;have z:=z.alloc (.cells #[.slice (some ⟨y0.heap.size,0,none⟩) 1 1,.slice L nv M] 80);go_simp;refine A _ _ z (fun _=>?_);clear A K;refine cW 15 fun K A=>?_;have P:Only (fun _=>False) wq (H.alloc (.cells #[.slice (some ⟨y0.heap.size,0,none⟩) 1 1,.slice L nv M] 80)):=X8.alloc _;have g8:FragT H ⟨[(lo,j)],.slice (some ⟨y0.heap.size,0,none⟩) 1 1,u,.slice L nv M⟩:=⟨lI WD.1 WD.2 N8,F8⟩;obtain⟨v',w10,hr,N,O⟩:=KRow.app (vb:=(H.heap.size)) (g:=⟨[(lo,j)],.slice (some ⟨y0.heap.size,0,none⟩) 1 1,u,.slice L nv M⟩) (RQ.only P (fun _ h=>h.elim)) (g8.below (aJ (PD _ _) _)) (aK _ _ aD) (by have h1:=D.part.len;have h2:=PL.out;have h3:=B3.out;have h4:=A9.out;omega) (by have h1:=P.size;have h2:=BQ.size;omega) 23;have z:=z.trans O;have C0:=aI N;clear N P g8 O;rw[if_pos (by rfl)];refine cV _ _ _ _ rfl rfl rfl hr ?_;refine A _ _ z (fun _=>?_);clear A K hr;simp only[Act.put,PG,PI,PJ];refine aP (r:=fun _ _ _ h=>bK (fV _ _ _ aB aB) h) 16 9 (v') ?_;refine iM ?_;have D1:=aI (BQ.trans (z.below (n:=w9.heap.size) BQ.size (fun b Q=>(HR.row.lt b Q).1)));have D2:=aI (show GG tk U lb ps (C1+C2) (A2+A3+3) (k+1) (l' ++ [⟨[(lo,j)],.slice (some ⟨y0.heap.size,0,none⟩) 1 1,u,.slice L nv M⟩])from⟨D.part.snoc (by show [(lo,j)]=_;rw[B5.out,E6.out]) (fun r c=>by rw[B5.out];exact(s.2.1 r c).trans (vV (G.2.1 r c) (F.2.1 r c))),D.bnd.snoc s.1 (by have h0:=s.2.2.1;have h1:=G.2.2.1;have h2:=R.out lo;have h3:=F.2.2.1;have h4:=T.out lo;show u.length≤_;omega) (fun p B=>s.2.2.2 p B),fun f E=>by
  rcases List.mem_append.1 E with E | E
  ·exact D.cmp f E
  obtain rfl:f=⟨[(lo,j)],.slice (some ⟨y0.heap.size,0,none⟩) 1 1,u,.slice L nv M⟩:=by simpa using E
  have h0:=s.2.2.1;have h1:=G.2.2.1;have h2:=R.out lo;have h3:=F.2.2.1;have h4:=T.out lo;have h5:=V.out;have h6:=A8.out;refine⟨by show u.length≤_;omega,fun p B=>by have:=s.2.2.2 p B;omega,?_⟩;refine E4 lo (pl.map (·.1)) (ql.map (·.1)) (u.map (·.1)) G.1 G.2.1 F.1 F.2.1 s.1 s.2.1 (by rw[PF];omega) (fun e he=>?_) (by rw[PF];omega) (fun e he=>?_) (by rw[PF,PF,PF];exact h0) (fun e he=>?_)
  ·obtain⟨p,B,rfl⟩:=List.mem_map.1 he;exact PV (G.2.2.2 p B) (A6 lo)
  ·obtain⟨p,B,rfl⟩:=List.mem_map.1 he;exact PV (F.2.2.2 p B) (A7 lo)
  obtain⟨p,B,rfl⟩:=List.mem_map.1 he;exact s.2.2.2 p B⟩)
 rotate_left
 ·go_simp;refine(KB _ X1).mono ?_;rintro e y1 ⟨qv,ql,rfl,J,hH,Y,C,Z,hh,l⟩;have z:=z.call l;obtain⟨qa,qc,rfl,_⟩:=J.vecAt;have F:=aI (PC Y (PC C (PC Z hh)));have B0:=aI J.vecAt;obtain⟨qn,A4⟩:=aG ql.length;have I3:=aI A4;rw[A4]at B0 ⊢;have C9:=aI (C8.below (show Below y0.heap.size y0 y1 from l));have X2:=aI (X1.call l);clear J hH Y C Z hh l A4;go_simp;refine A _ _ z (fun _=>?_);clear A K;refine Se 2 12 (fun K A=>?_) fun K A=>?_;have z:=z.alloc (.cells #[.int .u64 lo,.int .u64 j] 123);go_simp;refine A _ _ z (fun _=>?_);clear A K;have X3:=aI (X2.alloc (.cells #[.int .u64 lo,.int .u64 j] 123));have N3:=aI (show(y1.alloc (.cells #[.int .u64 lo,.int .u64 j] 123)).heap[y1.heap.size]?=some (.cells #[.int .u64 lo,.int .u64 j] 123 (0,0))from aK _ _ aD);refine cW 12 fun K A=>?_;go_simp;refine(HG.run (.slice pa pn pc) (.slice qa qn qc) pl ql A2 A3 _ (C9.below (aJ (PD _ _) _)) (B0.below (aJ (PD _ _) _)) (CanV.right (CanW.v G.1)) (CanV.right (CanW.v F.1)) (fun p B=>PV (G.2.2.2 p B) (A6 lo)) (fun p B=>PV (F.2.2.2 p B) (A7 lo)) (by have:=A8.out;omega) (by have h1:=G.2.2.1;have h2:=R.out lo;have h3:=V.out;omega) (by have h1:=F.2.2.1;have h2:=T.out lo;have h3:=V.out;omega)).mono ?_;rintro e H ⟨vv,u,rfl,J,hH,Y,C,Z,hh,l⟩;have z:=z.call l;obtain⟨L,M,rfl,_⟩:=J.vecAt;have s:=aI (PC Y (PC C (PC Z hh)));have A0:=aI (J.base (PZ _));obtain⟨nv,A5⟩:=aG u.length;rw[A5]at A0 ⊢;have X4:=aI (X3.call l);have N4:=aI ((l.block _ (aO N3)).trans N3);clear J hH Y C Z hh l A5;go_simp;refine A _ _ z (fun _=>?_);clear A K;have X8:=aI (show Only (fun _=>False) wq H from X4);have N8:=aI (show H.heap[y1.heap.size]?=some (.cells #[.int .u64 lo,.int .u64 j] 123 (0,0))from N4);have F8:=aI (show RowF H 0 (.slice L nv M) u from A0);refine aP (r:=fun _ _ _ h=>bK (fV _ _ _ aB aB) h) 13 49 (.agg #[.slice (some ⟨y1.heap.size,0,none⟩) 1 1,.slice L nv M]) ?_;refine cW 14 fun K A=>?_;have z:=z.alloc (.cells #[.slice (some ⟨y1.heap.size,0,none⟩) 1 1,.slice L nv M] 80);go_simp;refine A _ _ z (fun _=>?_);clear A K;refine cW 15 fun K A=>?_;have P:Only (fun _=>False) wq (H.alloc (.cells #[.slice (some ⟨y1.heap.size,0,none⟩) 1 1,.slice L nv M] 80)):=X8.alloc _;have g8:FragT H ⟨[(lo,j)],.slice (some ⟨y1.heap.size,0,none⟩) 1 1,u,.slice L nv M⟩:=⟨lI WD.1 WD.2 N8,F8⟩;obtain⟨v',w10,hr,N,O⟩:=KRow.app (vb:=(H.heap.size)) (g:=⟨[(lo,j)],.slice (some ⟨y1.heap.size,0,none⟩) 1 1,u,.slice L nv M⟩) (RQ.only P (fun _ h=>h.elim)) (g8.below (aJ (PD _ _) _)) (aK _ _ aD) (by have h1:=D.part.len;have h2:=PL.out;have h3:=B3.out;have h4:=A9.out;omega) (by have h1:=P.size;have h2:=BQ.size;omega) 23;have z:=z.trans O;have C0:=aI N;clear N P g8 O;rw[if_pos (by rfl)];refine cV _ _ _ _ rfl rfl rfl hr ?_;refine A _ _ z (fun _=>?_);clear A K hr;simp only[Act.put,PG,PI,PJ];refine aP (r:=fun _ _ _ h=>bK (fV _ _ _ aB aB) h) 16 9 (v') ?_;refine iM ?_;have D1:=aI (BQ.trans (z.below (n:=w9.heap.size) BQ.size (fun b Q=>(HR.row.lt b Q).1)));have D2:=aI (show GG tk U lb ps (C1+C2) (A2+A3+3) (k+1) (l' ++ [⟨[(lo,j)],.slice (some ⟨y1.heap.size,0,none⟩) 1 1,u,.slice L nv M⟩])from⟨D.part.snoc (by show [(lo,j)]=_;rw[B5.out,E6.out]) (fun r c=>by rw[B5.out];exact(s.2.1 r c).trans (vV (G.2.1 r c) (F.2.1 r c))),D.bnd.snoc s.1 (by have h0:=s.2.2.1;have h1:=G.2.2.1;have h2:=R.out lo;have h3:=F.2.2.1;have h4:=T.out lo;show u.length≤_;omega) (fun p B=>s.2.2.2 p B),fun f E=>by
   rcases List.mem_append.1 E with E | E
   ·exact D.cmp f E
   obtain rfl:f=⟨[(lo,j)],.slice (some ⟨y1.heap.size,0,none⟩) 1 1,u,.slice L nv M⟩:=by simpa using E
   have h0:=s.2.2.1;have h1:=G.2.2.1;have h2:=R.out lo;have h3:=F.2.2.1;have h4:=T.out lo;have h5:=V.out;have h6:=A8.out;refine⟨by show u.length≤_;omega,fun p B=>by have:=s.2.2.2 p B;omega,?_⟩;refine E4 lo (pl.map (·.1)) (ql.map (·.1)) (u.map (·.1)) G.1 G.2.1 F.1 F.2.1 s.1 s.2.1 (by rw[PF];omega) (fun e he=>?_) (by rw[PF];omega) (fun e he=>?_) (by rw[PF,PF,PF];exact h0) (fun e he=>?_)
   ·obtain⟨p,B,rfl⟩:=List.mem_map.1 he;exact PV (G.2.2.2 p B) (A6 lo)
   ·obtain⟨p,B,rfl⟩:=List.mem_map.1 he;exact PV (F.2.2.2 p B) (A7 lo)
   obtain⟨p,B,rfl⟩:=List.mem_map.1 he;exact s.2.2.2 p B⟩)
  rotate_left;go_simp;refine(HG.run (.slice pa pn pc) (.slice qa qn qc) pl ql A2 A3 _ C9 B0 (CanV.right (CanW.v G.1)) (CanV.right (CanW.v F.1)) (fun p B=>PV (G.2.2.2 p B) (A6 lo)) (fun p B=>PV (F.2.2.2 p B) (A7 lo)) (by have:=A8.out;omega) (by have h1:=G.2.2.1;have h2:=R.out lo;have h3:=V.out;omega) (by have h1:=F.2.2.1;have h2:=T.out lo;have h3:=V.out;omega)).mono ?_;rintro e H ⟨vv,u,rfl,J,hH,Y,C,Z,hh,l⟩;have z:=z.call l;obtain⟨L,M,rfl,_⟩:=J.vecAt;have s:=aI (PC Y (PC C (PC Z hh)));have A0:=aI (J.base (PZ _));obtain⟨nv,A5⟩:=aG u.length;rw[A5]at A0 ⊢;have X3:=aI (X2.call l);clear J hH Y C Z hh l A5;go_simp;refine A _ _ z (fun _=>?_);clear A K;refine cW 2 fun K A=>?_;have z:=z.alloc (.cells #[.int .u64 lo,.int .u64 j] 123);go_simp;refine A _ _ z (fun _=>?_);clear A K;have X4:=aI (X3.alloc (.cells #[.int .u64 lo,.int .u64 j] 123));have N4:=aI (show(H.alloc (.cells #[.int .u64 lo,.int .u64 j] 123)).heap[H.heap.size]?=some (.cells #[.int .u64 lo,.int .u64 j] 123 (0,0))from aK _ _ aD);have X8:=aI (show Only (fun _=>False) wq (H.alloc (.cells #[.int .u64 lo,.int .u64 j] 123))from X4);have N8:=aI (show(H.alloc (.cells #[.int .u64 lo,.int .u64 j] 123)).heap[H.heap.size]?=some (.cells #[.int .u64 lo,.int .u64 j] 123 (0,0))from N4);have F8:=aI (show RowF (H.alloc (.cells #[.int .u64 lo,.int .u64 j] 123)) 0 (.slice L nv M) u from A0.below (aJ (PD _ _) _));refine aP (r:=fun _ _ _ h=>bK (fV _ _ _ aB aB) h) 13 49 (.agg #[.slice (some ⟨H.heap.size,0,none⟩) 1 1,.slice L nv M]) ?_;refine cW 14 fun K A=>?_;have z:=z.alloc (.cells #[.slice (some ⟨H.heap.size,0,none⟩) 1 1,.slice L nv M] 80);go_simp;refine A _ _ z (fun _=>?_);clear A K;refine cW 15 fun K A=>?_;have P:Only (fun _=>False) wq ((H.alloc (.cells #[.int .u64 lo,.int .u64 j] 123)).alloc (.cells #[.slice (some ⟨H.heap.size,0,none⟩) 1 1,.slice L nv M] 80)):=X8.alloc _;have g8:FragT (H.alloc (.cells #[.int .u64 lo,.int .u64 j] 123)) ⟨[(lo,j)],.slice (some ⟨H.heap.size,0,none⟩) 1 1,u,.slice L nv M⟩:=⟨lI WD.1 WD.2 N8,F8⟩;obtain⟨v',w10,hr,N,O⟩:=KRow.app (vb:=(H.heap.size+1)) (g:=⟨[(lo,j)],.slice (some ⟨H.heap.size,0,none⟩) 1 1,u,.slice L nv M⟩) (RQ.only P (fun _ h=>h.elim)) (g8.below (aJ (PD _ _) _)) (aK _ _ aD) (by have h1:=D.part.len;have h2:=PL.out;have h3:=B3.out;have h4:=A9.out;omega) (by have h1:=P.size;have h2:=BQ.size;omega) 23;have z:=z.trans O;have C0:=aI N;clear N P g8 O;rw[if_pos (by rfl)];refine cV _ _ _ _ rfl rfl rfl hr ?_;refine A _ _ z (fun _=>?_);clear A K hr;simp only[Act.put,PG,PI,PJ];refine aP (r:=fun _ _ _ h=>bK (fV _ _ _ aB aB) h) 16 9 (v') ?_;refine iM ?_;have D1:=aI (BQ.trans (z.below (n:=w9.heap.size) BQ.size (fun b Q=>(HR.row.lt b Q).1)));have D2:=aI (show GG tk U lb ps (C1+C2) (A2+A3+3) (k+1) (l' ++ [⟨[(lo,j)],.slice (some ⟨H.heap.size,0,none⟩) 1 1,u,.slice L nv M⟩])from⟨D.part.snoc (by show [(lo,j)]=_;rw[B5.out,E6.out]) (fun r c=>by rw[B5.out];exact(s.2.1 r c).trans (vV (G.2.1 r c) (F.2.1 r c))),D.bnd.snoc s.1 (by have h0:=s.2.2.1;have h1:=G.2.2.1;have h2:=R.out lo;have h3:=F.2.2.1;have h4:=T.out lo;show u.length≤_;omega) (fun p B=>s.2.2.2 p B),fun f E=>by
   rcases List.mem_append.1 E with E | E
   ·exact D.cmp f E
   obtain rfl:f=⟨[(lo,j)],.slice (some ⟨H.heap.size,0,none⟩) 1 1,u,.slice L nv M⟩:=by simpa using E
   have h0:=s.2.2.1;have h1:=G.2.2.1;have h2:=R.out lo;have h3:=F.2.2.1;have h4:=T.out lo;have h5:=V.out;have h6:=A8.out;refine⟨by show u.length≤_;omega,fun p B=>by have:=s.2.2.2 p B;omega,?_⟩;refine E4 lo (pl.map (·.1)) (ql.map (·.1)) (u.map (·.1)) G.1 G.2.1 F.1 F.2.1 s.1 s.2.1 (by rw[PF];omega) (fun e he=>?_) (by rw[PF];omega) (fun e he=>?_) (by rw[PF,PF,PF];exact h0) (fun e he=>?_)
   ·obtain⟨p,B,rfl⟩:=List.mem_map.1 he;exact PV (G.2.2.2 p B) (A6 lo)
   ·obtain⟨p,B,rfl⟩:=List.mem_map.1 he;exact PV (F.2.2.2 p B) (A7 lo)
   obtain⟨p,B,rfl⟩:=List.mem_map.1 he;exact s.2.2.2 p B⟩)
  rotate_left
  all_goals
   clear z;go_wp2;go_roundw
   case rel=>
    have A1:∃(k':Nat) (l':List FV),k'≤n∧(.int .i64 ((k:Int)+1):Value)=.int .i64 k'∧KRow w10 w9.heap.size v' l'∧GG tk U lb ps (C1+C2) (A2+A3+3) k' l'∧Below w9.heap.size w9 w10:=⟨k+1,_,aA,aD,C0,D2,D1⟩;first | exact A1 | ((repeat apply Exists.intro);exact⟨A1,rfl⟩)
   simp[intOf];omega
 ·obtain rfl:n=k:=aA;have G5:=D.part.len;have G6:bD l'≤l'.length:=wL (fun f E=>by
   obtain⟨i,_,_,e⟩:=D.part.it E;rw[e];simp)
  have I4:=aI (show Jd wr l' from PartK.grp2 (show PartK ps (Eb tk U lb) ps.length l' from by rw[EN.out];exact D.part) PK HR D.bnd D.cmp (by have:=V.out;omega) (by have:=A8.out;omega));have KG:=aI (Az _ l' wr HR.know I4 (by have h2:=PL.out;have h3:=B3.out;have h4:=A9.out;omega) (by have h2:=PL.out;have h3:=B3.out;have h4:=A9.out;omega));have K5:=aI (PC G5 G6);have Q9:=aI (show wr.heap[w.heap.size]?=some (.cells #[.nilIface] 27 (0,0))from((B9.trans (I1.mono B9.size)).block _ (by have:=S1.out;omega)).trans Q1);obtain⟨ar,cr,rfl,_⟩:=aY HR.row;clear G5 G6 hR Q;go_wp2_with fail;refine KG.mono ?_;rintro e w11 ⟨v2,l2,rfl,H0,J7,D8⟩;have E7:=(D8.block _ (aO Q9)).trans Q9;have L8:w11.frozen? ⟨w.heap.size,0,none⟩=false:=frozen_of_row _ _ 0 _ _ E7;have L9:w11.cell? ⟨w.heap.size,0,none⟩=some .nilIface:=by simp[PE,E7]
  have K6:=aI H0;have D3:=aI J7;have K7:=aI D8;have I5:=aI E7;obtain⟨a2,c2,rfl,_⟩:=aY H0.row;clear H0 J7 D8 E7;go_wp2;refine leaves_cons (f:=76) (args:=#[.pointer (some ⟨w.heap.size,0,none⟩)]) aD (by simp[go_sem]) ?_;refine(Kw _ _).mono ?_;rintro e u' M0 ⟨rfl,rfl,rfl⟩;have K8:(w11.setCell ⟨w.heap.size,0,none⟩ .nilIface).cell? ⟨w.heap.size,0,none⟩=some .nilIface:=by simp[PE,heap_setCell_same _ _ 0 _ _ _ I5.out]
  have I6:Only (fun b=>b=w.heap.size) w11 (w11.setCell ⟨w.heap.size,0,none⟩ .nilIface):=(Only.refl (fun b=>b=w.heap.size) w11).setCell (p:=⟨w.heap.size,0,none⟩) (.inl rfl) _;have G7:Typed w11 27 w.heap.size:=⟨_,I5⟩;have bR:Below w.heap.size w wr:=B1.trans ((B9.trans (I1.mono B9.size)).mono B1.size);have I7:Below w.heap.size w w11:=bR.trans (K7.mono bR.size);obtain⟨G5,G6⟩:=K5.out;have e1:=D3.tot;have e2:=D3.len;rw[PS]at e1;have e3:=PL.out;have e4:=A9.out;refine⟨.tuple #[.slice a2 l2.length c2,.nilIface],?_,_,l2,rfl,(K6.only I6 (fun k hk=>by rw[hk];exact⟨Typed.not G7 aB,Typed.not G7 aB,Typed.not G7 aB⟩)).base bR.size,D3.can,fun x r c=>?_,aA,aA,(Hu I4 D3 D.bnd).mono aA aA,I7.trans (I6.below (n:=w.heap.size) I7.size (fun b Q=>aA))⟩
  ·simp[results,results33,go_sem,K8]
  rw[D3.kn,PS];exact PartK.know (show PartK ps (Eb tk U lb) ps.length l' from by rw[EN.out];exact D.part) PK (fun x y h=>Vw h) (fun x h=>by
   have h':=Vv HG.off h;refine⟨?_,Dh h'⟩;obtain⟨f,E,h1,_⟩:=h';obtain⟨g,hg,rfl⟩:=bE.1 E;exact WB g hg x h1) x
 all_goals
  clear z;go_wp2;go_roundw
  case rel=>
   have A1:∃(k':Nat) (l':List FV),k'≤n∧(.int .i64 ((k:Int)+1):Value)=.int .i64 k'∧KRow w10 w9.heap.size v' l'∧GG tk U lb ps (C1+C2) (A2+A3+3) k' l'∧Below w9.heap.size w9 w10:=⟨k+1,_,aA,aD,C0,D2,D1⟩;first | exact A1 | ((repeat apply Exists.intro);exact⟨A1,rfl⟩)
  simp[intOf];omega
theorem FO(g:FuncId)(tk:Bool→Bool→Bool)(M:Jc g tk)(va vb:Value)(b lb:List FV)(I m n j p r l:Nat)(w:World)(N:KnwAt w va b)(O:KnwAt w vb lb)(P:iH va)(Q:iH vb)
  (s:Sa b I m n) (u:Sa lb I p r) (W:I≤1000000) (D:bD b+bD lb≤4000000) (E:b.length+lb.length≤10000000)
  (y:∀x,(aX b x b.length).length≤j) (z:∀x,(aX lb x lb.length).length≤l) (F:(j+1) * m≤1000000) (G:(l+1) * p≤1000000) (H:(j+1) * (n+3)≤1000000) (J:(l+1) * (r+3)≤1000000)
  (R:j * m+l * p≤10000) (B:j * (n+3)+l * (r+3)+3≤40000) :
  Calls prog 33 #[va,vb,.func (.func g) #[] #[]] w fun e w'=>∃C L,e=.returned (.tuple #[C,.nilIface])∧BN w (Eb tk b lb) (1+2 * (bD b+bD lb)) (j * m+l * p) (j * (n+3)+l * (r+3)+3) C L w':=by
 refine Ld g tk M va vb b lb I m n j p r l w N O P Q s u aA aA aA y z aA aA aA aA aA aA (fun x U V es _ _ _ _ _ _ h1 _ h2 _ h3 h4=>?_);have S:=wC (es:=es) (A:=40000) (fun e K=>PV (h4 e K) B);have T:es.length * (3+2 * 40000)≤10000 * (3+2 * 40000):=PX _ aA;omega
structure KOk (w:World) (v:Value) (l:List FV) (P Q T:Nat):Prop where
 at':KnwAt w v l
 nil:iH v
 bnd:∃V A N,Sa l 1000000 V A∧(∀x,(aX l x l.length).length≤N)∧(N+1) * V≤1000000∧(N+1) * (A+3)≤1000000∧N * V≤P∧N * (A+3)≤Q
 tot:bD l≤T
 len:l.length≤T
theorem KOk.below{w w':World}{v:Value}{l:List FV}{P Q T:Nat}(h:KOk w v l P Q T)(b:Below w.heap.size w w'):KOk w' v l P Q T:=⟨h.at'.below b,h.nil,h.bnd,h.tot,h.len⟩
theorem KOk.mono{w:World}{v:Value}{l:List FV}{P Q T b j T':Nat}(h:KOk w v l P Q T)(r:P≤b)(s:Q≤j)(m:T≤T'):KOk w v l b j T':=by
 obtain⟨V,A,N,h1,h2,h3,h4,n,p⟩:=h.bnd;exact⟨h.at',h.nil,⟨V,A,N,h1,h2,h3,h4,PV n r,PV p s⟩,PV h.tot m,PV h.len m⟩
theorem KOk.slice{w:World}{v:Value}{l:List FV}{P Q T:Nat}(h:KOk w v l P Q T):∃a c,v=.slice a l.length c:=by
 obtain⟨a,c,e,_⟩:=h.at';exact⟨a,c,e⟩
theorem nI:∀{l:List FV} {f:FV},f∈l→f.items.length≤bD l
 | g :: l,f,h=>by
   rcases List.mem_cons.1 h with rfl | h
   ·simp only[bD];omega
   have:=nI h;simp only[bD];omega
theorem AU{w w':World}{K:Int→Int→Int→Prop}{T V A:Nat}{v:Value}{l:List FV}(h:BN w K T V A v l w')(j:V≤10000)(m:A≤40000)(n:T≤1000000):KOk w' v l V (A+3) T:=
 ⟨h.row.know,h.row.nilOk,⟨V,A,1,⟨fun f b=>(h.can.at f b).1,fun f b=>CanV.right (CanW.v (h.can.at f b).2.2.1),fun f b=>by have h1:=nI b;have h2:=h.tot;omega,fun f b=>h.bnd.vec f b,fun f b=>h.bnd.hs f b⟩,rQ h.can.apart',aA,aA,aA,aA⟩,h.tot,h.len⟩
def MI (w:World) (K:Int→Int→Int→Prop) (P Q T:Nat) (e:Ending) (w':World):Prop:=
 ∃v' l',e=.returned (.tuple #[v',.nilIface])∧KRow w' w.heap.size v' l'∧CanL l'∧(∀x r c,fH (l'.map FV.frag) x r c↔K x r c)∧KOk w' v' l' P Q T∧Below w.heap.size w w'
theorem FM{g:FuncId}{tk:Bool→Bool→Bool}(O:Jc g tk){va vb:Value}{l lb:List FV}{m n p r s u:Nat}{w:World}(P:KOk w va l m n p)(Q:KOk w vb lb r s u)(X:m+r≤10000)(Y:n+s≤39000)(Z:p+u≤400000) :
  Calls prog 33 #[va,vb,.func (.func g) #[] #[]] w fun e w'=>MI w (Eb tk l lb) (m+r) (n+s+6) (1+2 * (p+u)) e w':=by
 obtain⟨y,z,⟨A,B,C,b,D,E,h1,R,h2⟩,S,T⟩:=P;obtain⟨F,G,⟨H,I,J,j,K,L,h3,U,h4⟩,V,W⟩:=Q;refine(FO g tk O va vb l lb 1000000 A B C H I J w y F z G b j (QB _) aA aA D K E L h1 h3 aA aA).mono ?_;rintro e w' ⟨M,N,rfl,h⟩;exact⟨M,N,rfl,h.row,h.can,h.kn,(AU h aA aA aA).mono aA aA aA,h.bl⟩
theorem Ko{va vb:Value}{A lb:List FV}{l m n p r s:Nat}{w:World}(u:KOk w va A l m n)(y:KOk w vb lb p r s)(E:l+p≤10000)(F:m+r≤39000)(G:n+s≤400000) :
  Calls prog 9 #[va,vb] w fun e w'=>MI w (Eb vO A lb) (l+p) (m+r+6) (1+2 * (n+s)) e w':=by
 have K:=aI (FM DU u y E F G);obtain⟨H,B,rfl⟩:=u.slice;obtain⟨I,C,rfl⟩:=y.slice;clear u y;go_enter func9,ntmps9;go_wp2_with fail;refine K.mono ?_;rintro e J ⟨L,D,rfl,j,b⟩;have z:=aI (PC j b);obtain⟨a2,M,rfl,_⟩:=aY j.row;clear j b;go_wp2;go_ret2;exact⟨_,D,rfl,z.1,z.2⟩
theorem Kr{item rep x' c' x r c:Int}{f:FV}(hi:f.items=[(item,item)])(hv:∀r c,dN f.es r c↔r=rep∧c=c'):fH ([f].map FV.frag) x r c↔x=item∧r=rep∧c=c':=by
 constructor
 ·rintro⟨g,j,h1,h2⟩;obtain rfl:g=f.frag:=by simpa using j
  have b:aV f.items x:=h1;rw[hi,dU]at b;have h3:item≤x∧x≤item:=b;exact⟨aA,(hv r c).1 h2⟩
 rintro⟨rfl,h⟩;exact⟨f.frag,aD,by show aV f.items x;rw[hi,dU];exact⟨Int.le_refl _,Int.le_refl _⟩,(hv r c).2 h⟩
theorem Hh{v:Value}{l:List FV}(item rep j:Int){P Q T:Nat}{w:World}(V:KOk w v l P Q T)(h1:aL item)(h2:aL rep)(h3:aL j)(hP:P≤9000)(hQ:Q≤38000)(hT:T≤300000) :
  Calls prog 29 #[v,.int .u64 item,.int .u64 rep,.int .u64 j] w fun e w'=>MI w (fun x r c=>fH (l.map FV.frag) x r c∨(x=item∧r=rep∧c=j)) (P+1) (Q+19) (3+2 * T) e w':=by
 have H:=aI V;have X:=aI h1;have B:=aI (fun W=>Vs rep j W h2 h3);obtain⟨a,cap,rfl⟩:=V.slice;clear h1 h2 h3 V;go_enter func29,ntmps29;go_wp2_with fail;obtain⟨w1,s⟩:=aG (w.alloc (.cells #[.int .u64 item,.int .u64 item] 123));have Y:=aI (show Below w.heap.size w w1 from by rw[← s];exact aJ (PD _ _) _);have Z:=aI (show w1.heap[w.heap.size]?=some (.cells #[.int .u64 item,.int .u64 item] 123 (0,0))from by rw[← s];exact aK _ _ rfl);rw[s];clear s;refine(B w1).mono ?_;rintro e w2 ⟨v2,lo,rfl,S,hH,hC,G,hl,hh,A⟩;have B2:=aI (Y.trans (A.mono Y.size));have Q2:=aI ((A.block _ (aO Z)).trans Z);have HF:=aI S;have N:=aI (PC hC (PC G (PC hl hh)));obtain⟨a2,u,rfl,_⟩:=S.vecAt;clear S hH hC G hl hh A;go_wp2_with fail;obtain⟨w3,y⟩:=aG (w2.alloc (.cells #[.slice (some ⟨w.heap.size,0,none⟩) 1 1,.slice a2 lo.length u] 80));have m:Below w2.heap.size w2 w3:=by rw[← y];exact aJ (PD _ _) _
 have O:w3.heap[w2.heap.size]?=some (.cells #[.slice (some ⟨w.heap.size,0,none⟩) 1 1,.slice a2 lo.length u] 80 (0,0)):=by rw[← y];exact aK _ _ rfl
 have C:FragAt w3 ⟨[(item,item)],.slice (some ⟨w.heap.size,0,none⟩) 1 1,lo,.slice a2 lo.length u⟩:=⟨⟨_,_,rfl,mZ X X ((m.block _ (aO Q2)).trans Q2),QB _⟩,HF.vecAt.below m⟩;have b:∀f∈[(⟨[(item,item)],.slice (some ⟨w.heap.size,0,none⟩) 1 1,lo,.slice a2 lo.length u⟩:FV)],f=⟨[(item,item)],.slice (some ⟨w.heap.size,0,none⟩) 1 1,lo,.slice a2 lo.length u⟩:=fun f z=>by simpa using z
 have D:KnwAt w3 (.slice (some ⟨w2.heap.size,0,none⟩) 1 1) [⟨[(item,item)],.slice (some ⟨w.heap.size,0,none⟩) 1 1,lo,.slice a2 lo.length u⟩]:=⟨_,1,rfl,⟨rfl,fun f z=>(by
  obtain rfl:=b f z;exact C),fun i hi=>⟨w2.heap.size,0,rfl,aO O,by
  have:i=0:=by simpa using hi
  subst this;exact⟨by simp[PE,O,PH],by simp[PE,O,PH]⟩⟩⟩,QB _⟩
 have R:=aI (B2.trans (m.mono B2.size));have E:Sa [⟨[(item,item)],.slice (some ⟨w.heap.size,0,none⟩) 1 1,lo,.slice a2 lo.length u⟩] 1000000 1 10:=by
  refine⟨fun f z=>?_,fun f z=>?_,fun f z=>?_,fun f z=>?_,fun f z=>?_⟩;all_goals obtain rfl:=b f z
  ·exact rD (Int.le_refl _)
  ·exact CanV.right (CanW.v N.1)
  ·exact(by decide:1≤1000000)
  ·exact N.2.2.1
  exact fun p hp=>PV (N.2.2.2 p hp) aB
 have F:KOk w3 (.slice (some ⟨w2.heap.size,0,none⟩) 1 1) [⟨[(item,item)],.slice (some ⟨w.heap.size,0,none⟩) 1 1,lo,.slice a2 lo.length u⟩] 1 13 1:=⟨D,fun n c e=>(by cases e),⟨1,10,1,E,fun x=>oC _ x _,aB,aB,aB,aB⟩,by simp only[bD,PT,List.length_nil];omega,aD⟩;have K:=aI (Ko (H.below R) F aA aA aA);rw[y];clear y m O C D b E F hP hQ hT;refine K.mono ?_;rintro e w4 ⟨v',l',rfl,U,I,J,L,M⟩;have HR:=aI (PC (U.base R.size) (PC I (PC J (PC L (R.trans (M.mono R.size))))));obtain⟨a4,c4,rfl,_⟩:=aY U.row;clear U I J L M K;go_wp2;go_ret2;obtain⟨r1,r2,r3,r4,r5⟩:=HR.out;refine⟨_,l',rfl,r1,r2,fun x r c=>?_,r4.mono aA aA aA,r5⟩;rw[r3];unfold Eb vO;rw[Bool.or_eq_true,decide_eq_true_iff,decide_eq_true_iff,Kr (x':=0) (rep:=rep) (c':=j) (item:=item) (f:=⟨[(item,item)],.slice (some ⟨w.heap.size,0,none⟩) 1 1,lo,.slice a2 lo.length u⟩) rfl (fun r c=>N.2.1 r c)]
abbrev KV:=Value×List FV
def KV.z:KV:=(.slice none 0 0,[])
structure KnsAt (w:World) (a:Option Addr) (len:Nat) (L:List KV):Prop where
 length:L.length=len
 most:len≤9223372036854775807
 kn:∀p∈L,KnwAt w p.1 p.2∧iH p.1∧p.2.length≤9223372036854775807
 cells:∀i,i<len→∃b off,a=some ⟨b,off,none⟩∧b<w.heap.size∧w.cell? ⟨b,off+i,none⟩=some (L.getD i KV.z).1
theorem KnsAt.below{w w':World}{a:Option Addr}{len:Nat}{L:List KV}(h:KnsAt w a len L)(l:Below w.heap.size w w'):KnsAt w' a len L:=
 ⟨h.length,h.most,fun p m=>⟨(h.kn p m).1.below l,(h.kn p m).2⟩,fun i hi=>by
  obtain⟨b,off,e,j,h1⟩:=h.cells i hi;exact⟨b,off,e,Nat.lt_of_lt_of_le j l.size,aM l j h1⟩⟩
theorem KnsAt.mem{w:World}{a:Option Addr}{len:Nat}{L:List KV}(h:KnsAt w a len L){i:Nat}(hi:i<len):L.getD i KV.z∈L:=by
 have:=h.length;rw[PH,PN aA,Option.getD_some];exact List.getElem_mem aA
def GoodK (l:List FV):Prop:=BM l∧yV l
theorem Aq{w:World}{v:Value}{l:List FV}(h:KnwAt w v l):∃a c,v=.slice a l.length c:=by
 obtain⟨a,c,e,_⟩:=h;exact⟨a,c,e⟩
theorem Pj(a:Option Addr)(len cap:Nat)(L:List KV)(w:World)(h:KnsAt w a len L) :
  Calls prog 7 #[.slice a len cap] w fun e w'=>mU (∀p∈L,GoodK p.2) e∧Below w.heap.size w w':=by
 have H:=aI h;have U:=h.most;clear h;go_enter func7,ntmps7;go_wp2;go_loopw [7] (fun c wr=>∃k:Nat,k≤len∧c=.int .i64 k∧(∀i,i<k→GoodK (L.getD i KV.z).2)∧Below w.heap.size w wr)
  (fun c _=>len-(intOf c).toNat)
 case atStart=>exact⟨0,PZ _,rfl,fun i hi=>absurd hi aA,PD _ _⟩
 obtain⟨k,Z,rfl,y,E⟩:=hrel;have J:=aI y;have D:=aI E;clear y;have V:(0:Int)≤(k:Int):=aA;by_cases hlt:k<len
 ·have X:(k:Int)<(len:Int):=aA;have B:=H.below E;obtain⟨b,off,rfl,F,u⟩:=B.cells k hlt;obtain⟨m,_,r⟩:=B.kn _ (B.mem hlt);obtain⟨p,G⟩:=aG (L.getD k KV.z);have O:=aI G;rw[G]at u m r;obtain⟨v,l⟩:=p;simp only at u m r;have K:=aI (Rf v l wr m r);have M:=aI (fun W (T:Below wr.heap.size wr W)=>Fo v l W (m.below T) r);obtain⟨ak,ck,rfl⟩:=Aq m;obtain⟨n,en⟩:=aG l.length;rw[en]at u K M;clear G E F B m r en;go_wp2_with fail;refine K.mono ?_;rintro e w3 ⟨⟨I,rfl,j⟩,s⟩
  cases I with
  | false=>
    have C:=aI (aN D s);clear j s;go_wp2;go_ret;exact⟨oR _,C⟩
  | true=>
    have C:=aI s;have P:=aI (j rfl);clear j s;go_wp2_with fail;refine(M _ C).mono ?_;rintro e w4 ⟨⟨I,rfl,j⟩,A⟩;have N:=aI (aN D (aN C A));clear A
    cases I with
    | false=>
      clear j;go_wp2;go_ret;exact⟨oR _,N⟩
    | true=>
      have Q:=aI (show ∀i,i<k+1→GoodK (L.getD i KV.z).2 from fun i hi=>by
       by_cases e:i<k
       ·exact J i e
       obtain rfl:i=k:=aA;rw[O.out];exact⟨P,j rfl⟩)
      clear j;go_wp2;go_roundw
      case rel=>exact⟨k+1,aA,by go_num,Q,N⟩
      simp[intOf];omega
 obtain rfl:len=k:=aA;have R:=aI (show ∀p∈L,GoodK p.2 from fun p S=>by
  obtain⟨i,hi,e⟩:=List.mem_iff_getElem.1 S;have Y:=H.length;have:=J.out i aA;rwa [show L.getD i KV.z=p from by simp[PH,PN hi,e]]at this)
 go_wp2;go_ret;exact⟨Dy R,D⟩
end Go.Proofs.YtbkkolfpegplgaaGreatDoor
