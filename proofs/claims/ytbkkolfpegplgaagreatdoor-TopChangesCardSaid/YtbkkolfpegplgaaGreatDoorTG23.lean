import Derived.Test.YtbkkolfpegplgaaGreatDoorTG20
import Derived.Test.YtbkkolfpegplgaaGreatDoorTG21
import Derived.Test.YtbkkolfpegplgaaGreatDoorTG22
import Derived.Maps.OwnIn
import Derived.Shelf.Abstract
open Go.RowKit.Below renaming refl→PC
open Go.World renaming cell?→PD
open Int renaming le_refl→PE
open List renaming length_append→PF,getElem?_eq_getElem→PG
open Go.Proofs.Tryz
set_option maxHeartbeats 8000000
set_option maxRecDepth 100000
set_option linter.unusedVariables false
set_option linter.unusedSimpArgs false
namespace Go.Proofs.YtbkkolfpegplgaaGreatDoor
open Go Go.RowKit
attribute [local go_sem] Oper.semAt_some
structure Od (g:FuncId) (tk:Bool→Bool→Bool):Prop where
 ent:∀(args:Array Value) (w:World),(callFunc g args).run prog w=.ok (.enter g args) w
 res:∀(sa sb:Bool) (w:World),Calls prog g #[.agg #[.bool sa,.bool sb]] w fun e w'=>e=.returned (.bool (tk sa sb))∧Below w.heap.size w w'
theorem CO:Od 135 vO:=⟨fun _ _=>aC,fun b j w=>by
 cases b<;>cases j <;>
 ·go_enter func135,ntmps135;go_wp2;go_ret;exact⟨rfl,aJ (PC _ _) _⟩⟩
theorem CP:Od 224 uD:=⟨fun _ _=>aC,fun b j w=>by
 cases b<;>cases j <;>
 ·go_enter func224,ntmps224;go_wp2;go_ret;exact⟨rfl,aJ (PC _ _) _⟩⟩
structure OutM (w:World) (g:FuncId) (D:Nat) (zs:List Iv) (W:World):Prop where
 tk:W.heap[w.heap.size]?=some (.cells #[.func (.func g) #[] #[]] 216 (0,0))
 out:∃v,W.heap[w.heap.size+1]?=some (.cells #[v] 56 (0,0))∧OwnL W D 123 v zs
 bl:Below w.heap.size w W
theorem OutM.only{w:World}{g:FuncId}{D:Nat}{zs:List Iv}{A A':World}{may:Nat→Prop}(h:OutM w g D zs A)(ho:Only may A A')(h0:¬may w.heap.size)(h1:¬may (w.heap.size+1))(n:∀k,may k→w.heap.size≤k)(p:∀k,may k→k<D):OutM w g D zs A':=by
 obtain⟨j,⟨v,l,m⟩,b⟩:=h;exact⟨ho.obj h0 j,⟨v,ho.obj h1 l,m.only ho p⟩,b.trans (ho.below b.size n)⟩
theorem Zm{zs ys:List Iv}{m m':Int}{N:Nat}(u:Nor m zs)(y:Nor m' ys)(A:∀z∈zs,aL z.1∧aL z.2)(B:∀z∈ys,aL z.1∧aL z.2)(C:rG zs ys N)(tk:Bool→Bool→Bool){k:Nat}(D:k<N) :
  (∀x,aV (pQ zs ys N tk k) x→x<fr zs ys k)∧∀z∈pQ zs ys N tk k,aL z.1∧aL z.2:=by
 obtain⟨h1,h2⟩:=De u y A B C tk k aA;refine⟨fun x s=>?_,fun z j=>?_⟩
 ·obtain⟨_,_,h3,h4,_⟩:=(h2 x).1 s;have:=h3 h4;have e:=Dp (zs:=zs) (ys:=ys) (N:=N) (k:=k-1) aA;rw[show k-1+1=k by omega]at e;omega
 obtain⟨i,hi,n⟩:=List.mem_iff_getElem.1 j;have l:=(fW h1 i hi).1;have p:Lo (pQ zs ys N tk k) i=z.1:=by unfold Lo;simp[List.getD,PG hi,n]
 have r:Hi (pQ zs ys N tk k) i=z.2:=by unfold Hi;simp[List.getD,PG hi,n]
 rw[p,r]at l;have a:=(h2 z.1).1 ⟨z,j,PE _,l⟩;have b:=(h2 z.2).1 ⟨z,j,l,PE _⟩;exact⟨⟨a.1,a.2.1⟩,⟨b.1,b.2.1⟩⟩
theorem Mw(zs ys:List Iv)(N:Nat)(tk:Bool→Bool→Bool):∀k,(pQ zs ys N tk k).length≤k
 | 0=>Nat.le_refl _
 | k+1=>by
   have b:=Mw zs ys N tk k;unfold pQ;split
   ·have:=Up (pQ zs ys N tk k) (fr zs ys k,uL zs ys N k);omega
   omega
theorem Qp(g:FuncId)(tk:Bool→Bool→Bool)(hg:Od g tk)(a b:Option Addr)(cap s:Nat)(zs ys:List Iv)(N:Nat)(w:World)
  (ha:Prs w a zs.length zs) (hb:Prs w b ys.length ys) (I0:zs.length≤cap) (I1:ys.length≤s) (G1:cL zs) (G2:cL ys) (hN:rG zs ys N) (I7:N≤20000000000) :
  Calls prog 134 #[.slice a zs.length cap,.slice b ys.length s,.func (.func g) #[] #[]] w fun e w'=>∃v,e=.returned v∧OwnL w' w.heap.size 123 v (pQ zs ys N tk N)∧Below w.heap.size w w':=by
 have HC:=aI (Jv a b zs.length cap ys.length s);obtain⟨i0,hi,F6,F7,F8⟩:=info_parts sG;have A4:=dV G1 (m:=Lo zs 0) (.inr (PE _));have A5:=dV G2 (m:=Lo ys 0) (.inr (PE _));have A6:=ha.words;have A7:=hb.words;have G3:=aI (fun k (O:k<N)=>Zm A4 A5 A6 A7 hN tk O);have G4:=aI (fun k (O:k<N)=>(De A4 A5 A6 A7 hN tk k aA).1);have G5:=aI (fun k (O:k<N)=>lK A4 A5 A6 A7 hN k O);have G6:=aI (fun k (O:k<N)=>Uq A4 A5 A6 A7 hN O);have I3:=aI (Mx A4 A5 A6 A7 hN tk);refine(callsIn_wide (n:=6)).1 ?_;refine callsIn_of_wp_marks func134 rfl trivial ?_ rfl;simp only[ntmps134,List.size_toArray,List.length_cons,List.length_nil,Nat.reduceAdd,Nat.reduceSub,Array.replicate_succ,Array.replicate_zero,List.push_toArray,List.append_toArray,List.nil_append,List.cons_append];gi_wp2_with (refine⟨trivial,?_⟩;gi_at_call 193;refine(callsIn_wide.2 (HC _)).mono ?_;rintro e w' ⟨rfl,rfl⟩);obtain⟨V,hV⟩:=aG ((((w.alloc (.cells #[.func (.func g) #[] #[]] 216)).alloc (.cells #[.slice none 0 0] 56)).alloc (.cells #[.slice a zs.length cap] 56)).alloc (.cells #[.slice b ys.length s] 56));have hB:V.heap.size=w.heap.size+4:=by rw[← hV];simp
 have D1:Below w.heap.size w V:=by rw[← hV];exact aJ (aJ (aJ (aJ (PC _ _) _) _) _) _
 have q0:V.heap[w.heap.size]?=some (.cells #[.func (.func g) #[] #[]] 216 (0,0)):=by rw[← hV];exact aT _ _ (by simp<;>omega) (aT _ _ (by simp<;>omega) (aT _ _ aD (aK _ _ rfl)))
 have q1:V.heap[w.heap.size+1]?=some (.cells #[.slice none 0 0] 56 (0,0)):=by rw[← hV];exact aT _ _ (by simp<;>omega) (aT _ _ aD (aK _ _ aD))
 have q2:V.heap[w.heap.size+1+1]?=some (.cells #[.slice a zs.length cap] 56 (0,0)):=by rw[← hV];exact aT _ _ aD (aK _ _ aD)
 have q3:V.heap[w.heap.size+1+1+1]?=some (.cells #[.slice b ys.length s] 56 (0,0)):=by rw[← hV];exact aK _ _ aD
 rw[hV];clear hV;have C8:∀(p:Option Addr) (n:Nat) (l:List Iv),Prs w p n l→0<n→∀ad,p=some ad→ad.block<w.heap.size:=fun p n l hp h0 ad e=>by
  obtain⟨b',off,e',C3,_⟩:=hp.cells 0 h0;rw[e]at e';cases e';exact C3
 have G7:0<zs.length→∀ad,a=some ad→ad.block<V.heap.size∧¬(ad.block=w.heap.size+1∨V.heap.size+2≤ad.block)∧ad.block≠w.heap.size+1+1∧ad.block≠w.heap.size+1+1+1:=fun q ad e=>by have:=C8 _ _ _ ha q ad e;omega
 have G8:0<ys.length→∀ad,b=some ad→ad.block<V.heap.size∧¬(ad.block=w.heap.size+1∨V.heap.size+2≤ad.block)∧ad.block≠w.heap.size+1+1∧ad.block≠w.heap.size+1+1+1:=fun q ad e=>by have:=C8 _ _ _ hb q ad e;omega
 have G9:=aI (Ga 5 aA (w.heap.size+1+1) (w.heap.size+1+1+1) a b cap s zs ys N V (fun b=>b=w.heap.size+1∨V.heap.size+2≤b) q2 q3 aA aA aA (ha.below D1) (hb.below D1) I0 I1 G7 G8 G1 G2 hN);refine pO (gf:=233) (lb:=#[.pointer (some ⟨w.heap.size+1+1,0,none⟩),.pointer (some ⟨w.heap.size+1+1+1,0,none⟩)]) rfl aA rfl trivial (enters_of func233 aC rfl)
  G9 (PC _ _) (fun _=>rfl) (fun k O=>aA) (fun k O=>aA)
  (fun k W=>OutM w g (V.heap.size+2) (pQ zs ys N tk k) W)
  (fun _ _ _=>False) ?hI (fun _ _ _ _ h _=>h) ⟨q0,⟨_,q1,World.ownsRow_nil _ _ _ _,by simp[pQ]⟩,D1⟩
  (fun k a₁ W=>∃Bp Bq,V.heap.size+2≤Bp∧V.heap.size+2≤Bq∧W.heap[Bp]?=some (.cells #[.int .u64 (fr zs ys k),.int .u64 (uL zs ys N k)] 123 (0,0))∧W.heap[Bq]?=some (.cells #[.bool (decide (aV zs (fr zs ys k))),.bool (decide (aV ys (fr zs ys k)))] 215 (0,0))∧OutM w g (V.heap.size+2) (pQ zs ys N tk k) W ∧
    a₁={ tmps:=#[.slice a zs.length cap,.slice b ys.length s,.func (.func g) #[] #[],undef,undef,.pointer (some ⟨w.heap.size,0,none⟩),.slice none 0 0,.pointer (some ⟨w.heap.size+1,0,none⟩),.pointer (some ⟨Bp,0,none⟩),.pointer (some ⟨Bq,0,none⟩),undef,.slice a zs.length cap,.slice b ys.length s,.func (.func 233) #[] #[.pointer (some ⟨w.heap.size+1+1,0,none⟩),.pointer (some ⟨w.heap.size+1+1+1,0,none⟩)],.agg #[.int .u64 (fr zs ys k),.int .u64 (uL zs ys N k)],.agg #[.bool (decide (aV zs (fr zs ys k))),.bool (decide (aV ys (fr zs ys k)))],undef,undef,undef,undef,undef,undef,undef,undef,undef,undef,undef,undef,undef,undef,undef,undef,undef,undef,undef,undef,undef,undef,undef,undef,undef,undef,undef,undef,undef],defers:=[] })
  ?hAx ?assign ?body ?done (fun _ _ _ _ _ _ h _=>h.elim)
 case hI=>
  intro k A B h ho;exact h.only ho (fun q=>aA) (fun q=>aA) (fun q hq=>aA) (fun q hq=>aA)
 case hAx=>
  rintro k a₁ A B ⟨Bp,Bq,g1,g2,c1,c2,h,e⟩ ho;exact⟨Bp,Bq,g1,g2,ho.obj (fun h=>aA) c1,ho.obj (fun h=>aA) c2,h.only ho (fun q=>aA) (fun q=>aA) (fun q hq=>aA) (fun q hq=>aA),e⟩
 case assign=>
  rintro l k W C3 h O;simp only[yL];gi_wp2;exact⟨((Only.refl _ _).alloc _).alloc _,W.heap.size,W.heap.size+1,C3,aA,aT _ _ aD (aK _ _ rfl),aK _ _ aD,h.only (((Only.refl (fun _=>False) _).alloc _).alloc _) (fun h=>h) (fun h=>h) (fun k O=>O.elim) (fun k O=>O.elim),rfl⟩
 case body=>
  rintro l k a₁ W C3 ⟨Bp,Bq,g1,g2,c1,c2,⟨C4,⟨v,hv,hO⟩,B7⟩,rfl⟩ O;obtain⟨A0,E5⟩:=G3.out k O;have C9:=Mw zs ys N tk k;have A8:=fW (G4 k O);have hf:=G5.out k O;have ht:=G6.out k O;have G:=aI (show pQ zs ys N tk (k+1)=if tk (decide (aV zs (fr zs ys k))) (decide (aV ys (fr zs ys k)))then zB (pQ zs ys N tk k) (fr zs ys k,uL zs ys N k)else pQ zs ys N tk k from rfl);obtain⟨L',E6⟩:=aH (pQ zs ys N tk (k+1));obtain⟨lo,A3⟩:=aH (fr zs ys k);obtain⟨hiv,C5⟩:=aH (uL zs ys N k);obtain⟨sa,C6⟩:=aH (decide (aV zs lo));obtain⟨sb,C7⟩:=aH (decide (aV ys lo));obtain⟨L,eL⟩:=aH (pQ zs ys N tk k);rw[← E6,← A3,← C5,← C6,← C7,← eL]at G;rw[← A3,← C5]at c1 ht;rw[← A3,← C6,← C7]at c2;rw[← A3]at A0 hf;rw[← eL]at hO A0 E5 C9 A8;rw[← A3,← C5,← C6,← C7];have B9:=aI E6;clear E6 A3 C5 C6 C7 eL;have KT:=aI (fun X=>hg.res sa sb X);have EG:=hg.ent;have t0:W.cell? ⟨w.heap.size,0,none⟩=some (.func (.func g) #[] #[]):=by simp[PD,C4]
  have s0:W.cell? ⟨Bq,0,none⟩=some (.bool sa):=by simp[PD,c2]
  have s1:W.cell? ⟨Bq,1,none⟩=some (.bool sb):=by simp[PD,c2]
  have D2:=aI C4;have HV:=aI hv;have HO:=aI hO;have D3:=aI B7;have D4:=aI c1;have E7:=aI A0;have A9:=aI E5;have E8:=aI A8;have D5:aL lo:=hf;have C0:aL hiv:=by unfold aL;omega
  have H0:=ht.1;have E9:∀q,v.ownBlock=some q→V.heap.size+2≤q:=fun q hq=>(hO.row.lt q hq).1;have H1:=aO C4;have F0:=aO hv;have F1:=aO c1;clear C4 hv hO B7 c1 c2 A0 E5 A8 hf ht
  cases htks:tk sa sb with
  | false=>
    rw[htks]at KT;have E1:L'=L:=by rw[G.out,htks];rfl
    clear htks G;gi_wp2_with (refine⟨trivial,?_⟩;refine(CallsIn.inRound l (callsIn_wide.2 (KT _))).mono ?_;rintro e I ⟨rfl,E⟩);have ho:=Only.of_below (may:=fun b=>b=w.heap.size+1∨V.heap.size+2≤b) E;have H2:=Only.of_below (may:=fun _=>False) E;exact⟨ho,by show OutM w g (V.heap.size+2) (pQ zs ys N tk (k+1)) I;rw[← B9.out,E1];exact(OutM.mk D2 ⟨v,HV,HO⟩ D3:OutM w g (V.heap.size+2) L W).only H2 (fun h=>h) (fun h=>h) (fun _ h=>h.elim) (fun _ h=>h.elim)⟩
  | true=>
    rw[htks]at KT;have E1:L'=zB L (lo,hiv):=by rw[G.out,htks];rfl
    clear htks G;obtain⟨aq,cq,rfl,hP,F9,G0,hn⟩:=HO.prs2;gi_upto_region 6 with(refine⟨trivial,?_⟩;refine(CallsIn.inRound l (callsIn_wide.2 (KT _))).mono ?_;rintro e I ⟨rfl,E⟩);have v1:I.cell? ⟨w.heap.size+1,0,none⟩=some (.slice aq L.length cq):=aM E F0 (by simp[PD,HV.out]);have p0:I.cell? ⟨Bp,0,none⟩=some (.int .u64 lo):=aM E F1 (by simp[PD,D4.out]);have p1:I.cell? ⟨Bp,1,none⟩=some (.int .u64 hiv):=aM E F1 (by simp[PD,D4.out]);have C1:=aI (HO.only (may:=fun _=>False) (Only.of_below E) (fun _ h=>h.elim));have F2:=Only.of_below (may:=fun b=>b=w.heap.size+1∨V.heap.size+2≤b) E;have D6:=aI F2;have B0:=aI ((E.block _ F0).trans HV);have D7:=aI ((E.block _ H1).trans D2);have A2:=aI (aN D3 E);have I4:w.heap.size+1<I.heap.size:=aO B0;have I5:V.heap.size+2≤I.heap.size:=by have:=E.size;omega
    have P:∀q,(Value.slice aq L.length cq).ownBlock=some q→V.heap.size+2≤q:=E9;obtain⟨m,em⟩:=aG L.length;have EM:=aI em;rw[em]at v1 C9 B0 P;have mN:m≤20000000000:=aA;clear HO HV D2 D3 D4 hP F9 G0 hn E F2 E9 em t0 s0 s1 KT EG;by_cases hm0:m=0
    ·have F3:L=[]:=List.length_eq_zero_iff.1 (EM.trans hm0);have qz:IntKind.i64.wrap ((m:Int)-1) = -1:=by rw[IntKind.wrap_i64];omega
     have E2:=aI (show L'=L ++ [(lo,hiv)] from by rw[E1,F3];rfl);clear hm0 F3;gi_upto_region 7 with fail;refine gK aC (by rintro⟨_,_,h⟩;exact h) aC (Only (fun _=>False) I) (Only.refl _ I).drew (fun u=>?_);generalize I.drew=wr at u ⊢;refine aP 0 23 (.int .i64 (-1)) ?_;refine aP 1 24 (.bool false) ?_;refine aP 2 25 (.bool false) ?_;refine jB 3 26 ?_;refine jB 4 27 ?_;refine jB 5 28 ?_;refine jB 6 29 ?_;refine jB 7 30 ?_;refine jB 8 31 ?_;refine jB 9 32 ?_;refine aP 10 33 (.bool false) ?_;refine iM ?_;have v2:=u.cell (fun h=>h) v1;have p2:=u.cell (fun h=>h) p0;have p3:=u.cell (fun h=>h) p1;have D8:=aI (C1.only u (fun _ h=>h.elim));have B1:=aI (u.obj (fun h=>h) B0);have D9:=aI (u.obj (fun h=>h) D7);have B2:=aI (A2.trans (u.below (n:=w.heap.size) A2.size (fun _ h=>h.elim)));have E0:=aI (D6.trans (u.wide (fun _ h=>h.elim)));have H3:V.heap.size+2≤wr.heap.size:=by have:=u.size;omega
     have H4:w.heap.size+1<wr.heap.size:=by have:=u.size;omega
     have Y:wr.ownsRow (V.heap.size+2) 123 2 (.slice aq m cq) m (bB L):=by have:=D8.row;rw[EM.out]at this;exact this
     clear u;gi_wp2_with (gi_at_builtin;refine wpListIn_append_own_at _ rfl _ _ 56 rfl (V.heap.size+2) 123 i0 (.agg #[.int .u64 0,.int .u64 0]) 2 16 underlying56 hi F6 F7 F8 rfl aB _ _ _ rfl (eU Y ((Only.refl (fun _=>False) wr).alloc _) (fun k h=>h.elim)) ⟨wr.heap.size,0,none⟩ 1 1 [.int .u64 lo,.int .u64 hiv] rfl rfl (fE _ _ _ _) (kZ _ _) (by unfold maxLen;omega) aA (by simp;omega) ?_;intro v' w2 H C _ _;obtain⟨g',s,rfl⟩:=ownsRow_succ H;have Z:=kG C (by simp;omega) (fun e=>by have:=P _ e.symm;omega) (aT wr (.cells #[.int .u64 lo,.int .u64 hiv] 123) (aO B1) B1);have y0:w2.cell? ⟨w.heap.size+1,0,none⟩=some (.slice aq m cq):=(by simp[PD,Z]);have y1:w2.frozen? ⟨w.heap.size+1,0,none⟩=false:=frozen_of_row w2 _ 0 _ _ Z);have o1:Only (fun b=>b=w.heap.size+1∨V.heap.size+2≤b) wr w2:=((Only.refl _ wr).alloc (.cells #[.int .u64 lo,.int .u64 hiv] 123)).grown C (fun g hg=>.inr (P g hg));have E3:Only (fun b=>V.heap.size+2≤b) wr w2:=((Only.refl _ wr).alloc (.cells #[.int .u64 lo,.int .u64 hiv] 123)).grown C (fun g hg=>P g hg);have o2:=o1.setCell (p:=⟨w.heap.size+1,0,none⟩) (.inl (.inl rfl)) (.slice (some ⟨g',0,none⟩) (m+1) s);refine⟨E0.trans o2,?_⟩;show OutM w g (V.heap.size+2) (pQ zs ys N tk (k+1)) _;rw[← B9.out,E2.out];have o3:Only (fun b=>b=w.heap.size+1) w2 (w2.setCell ⟨w.heap.size+1,0,none⟩ (.slice (some ⟨g',0,none⟩) (m+1) s)):=(Only.refl (fun b=>b=w.heap.size+1) w2).setCell (p:=⟨w.heap.size+1,0,none⟩) (.inl rfl) _;refine⟨o3.obj (fun h=>aA) (E3.obj (fun h=>aA) D9),⟨_,heap_setCell_same _ _ 0 _ _ _ Z,eU ?_ o3 (fun q hq=>aA),fun z U=>?_⟩,B2.trans (o2.below (n:=w.heap.size) B2.size (fun q hq=>aA))⟩
     ·rw[← gS,PF,EM.out];exact H
     rcases List.mem_append.1 U with U | U
     ·exact A9 z U
     obtain rfl:z=(lo,hiv):=by simpa using U
     exact⟨D5,C0⟩
    obtain⟨j,hj⟩:∃j,m=j+1:=⟨m-1,aA⟩;obtain⟨gq,H9⟩:∃gq,aq=some ⟨gq,0,none⟩:=by
     rcases C1.row.2 with⟨_,hn⟩ | ⟨g',s,cur,hv',_⟩
     ·have:=EM.out;omega
     simp at hv';exact⟨g',hv'.1⟩
    subst H9;have HJ:=aI hj;have M:I.ownsRow (V.heap.size+2) 123 2 (.slice (some ⟨gq,0,none⟩) m cq) m (bB L):=by have:=C1.row;rw[EM.out]at this;exact this
    have Q:j<L.length:=by rw[EM.out];omega
    obtain⟨F,A1⟩:=aG (Lo L j);obtain⟨J,T⟩:=aG (Hi L j);have e0:I.cell? ⟨gq,j * 2,none⟩=some (.int .u64 F):=by rw[M.cellAt _ aA,mQ L j Q,A1]
    have e1:I.cell? ⟨gq,j * 2+1,none⟩=some (.int .u64 J):=by rw[M.cellAt _ aA,mR L j Q,T]
    have e2:=M.frozenAt (j * 2+1);have B3:=aI M;have R:=(E8 j Q).1;have S:=E7.out (Hi L j) (fU.2 ⟨j,Q,R,PE _⟩);have B4:=A9.out (Lo L j,Hi L j) (by rw[← cJ L j Q];exact List.getElem_mem _);rw[A1,T]at B4 R;rw[T]at S;have B5:=aI (And.intro A1 T);have H5:V.heap.size+2≤gq:=P gq rfl;have I6:gq<I.heap.size:=(M.lt gq rfl).2;obtain⟨r,er⟩:=aG ((m:Int)-1:Int);have qz:IntKind.i64.wrap ((m:Int)-1)=r:=by rw[IntKind.wrap_i64];omega
    have r0:0≤r:=aA;have r1:r<(m:Int):=aA;have rt:r.toNat=j:=aA;have C2:=aI (show zB L (lo,hiv)=if L≠[]∧Hi L j+1=lo then L.take j ++ [(Lo L j,hiv)] else L ++ [(lo,hiv)] from by unfold zB;rw[EM.out,show m-1=j by omega]);have D0:L≠[]:=fun e=>by rw[e]at Q;simp at Q
    have KR:=aI (fun X=>Jp F J lo hiv B4.1 B4.2 D5 C0 R H0 X);clear M er hj A1 T Q;by_cases hto:J+1=lo
    ·have B6:iU F J lo hiv=1:=by unfold iU;rw[if_pos S,if_pos aA]
     rw[B6]at KR;have E2:=aI (show L'=L.take j ++ [(F,hiv)] from by rw[E1,C2.out,if_pos ⟨D0,by rw[B5.2];exact hto⟩,B5.1]);clear B6 hto C2 E1 B4 R S;gi_upto_region 7 with fail;refine gK aC (by rintro⟨_,_,h⟩;exact h) aC (Only (fun _=>False) I) (Only.refl _ I).drew (fun u=>?_);generalize I.drew=wq at u ⊢;refine aP 0 23 (.int .i64 r) ?_;refine aP 1 24 (.bool true) ?_;refine aP 2 25 (.bool true) ?_;refine dL 3 26 (.slice (some ⟨gq,0,none⟩) m cq) ?_ ?_
     ·intro X y;have x1:=y.cell (fun e=>e) v1;have x2:=y.cell (fun e=>e) p0;have x3:=y.cell (fun e=>e) p1;have x4:=y.cell (fun e=>e) e0;have x5:=y.cell (fun e=>e) e1;go_simp
     refine aP 4 27 (.int .i64 r) ?_;refine aP 5 28 (.pointer (some ⟨gq,j * 2,none⟩)) ?_;refine dL 6 29 (.agg #[.int .u64 F,.int .u64 J]) ?_ ?_
     ·intro X y;have x1:=y.cell (fun e=>e) v1;have x2:=y.cell (fun e=>e) p0;have x3:=y.cell (fun e=>e) p1;have x4:=y.cell (fun e=>e) e0;have x5:=y.cell (fun e=>e) e1;go_simp
     refine dL 7 30 (.agg #[.int .u64 lo,.int .u64 hiv]) ?_ ?_
     ·intro X y;have x1:=y.cell (fun e=>e) v1;have x2:=y.cell (fun e=>e) p0;have x3:=y.cell (fun e=>e) p1;have x4:=y.cell (fun e=>e) e0;have x5:=y.cell (fun e=>e) e1;go_simp
     refine cW 8 fun K hK=>?_;go_simp;refine(KR _).mono ?_;rintro e wr ⟨rfl,B8⟩;have u:=u.call B8;clear B8;go_simp;refine hK _ _ u (fun _=>?_);clear hK K;refine aP 9 32 (.bool true) ?_;refine aP 10 33 (.bool true) ?_;refine iM ?_;have v2:=u.cell (fun h=>h) v1;have p2:=u.cell (fun h=>h) p0;have p3:=u.cell (fun h=>h) p1;have e3:=u.cell (fun h=>h) e1;have I2:gq<wr.heap.size:=by have:=u.size;omega
     have e4:wr.frozen? ⟨gq,j * 2+1,none⟩=false:=(eU B3 u (fun _ h=>h.elim)).frozenAt _;have HS:=aI u;clear u;gi_wp2;have H6:=(eU B3 HS (fun _ h=>h.elim)).stored (j * 2+1) (.int .u64 hiv);have ho:=D6.trans (HS.wide (fun _ h=>h.elim));have H7:=ho.setCell (p:=⟨gq,j * 2+1,none⟩) (.inl (.inr H5)) (.int .u64 hiv);have E4:Only (fun b=>b=gq) I (wr.setCell ⟨gq,j * 2+1,none⟩ (.int .u64 hiv)):=(HS.wide (may':=fun b=>b=gq) (fun _ h=>h.elim)).setCell (p:=⟨gq,j * 2+1,none⟩) (.inl rfl) _;refine⟨H7,?_⟩;show OutM w g (V.heap.size+2) (pQ zs ys N tk (k+1)) _;rw[← B9.out,E2.out];have F4:(L.take j).length=j:=by rw[List.length_take,EM.out,HJ.out];omega
     have F5:L=L.take j ++ [(F,J)]:=by
      have:=sU D0;rw[EM.out,show m-1=j from by rw[HJ.out];rfl,B5.1,B5.2]at this;exact this
     refine⟨E4.obj (fun h=>aA) D7,⟨_,E4.obj (fun h=>aA) B0,?_,fun z U=>?_⟩,A2.trans (E4.below (n:=w.heap.size) A2.size (fun q hq=>aA))⟩
     ·have:=H6.1;rw[F5]at this;have e9:=Ii (L.take j) F J hiv;rw[F4]at e9;rw[e9]at this;have H8:(L.take j ++ [(F,hiv)]).length=m:=by rw[PF,F4,HJ.out];rfl
      rw[H8];exact this
     rcases List.mem_append.1 U with U | U
     ·exact A9 z (List.mem_of_mem_take U)
     obtain rfl:z=(F,hiv):=by simpa using U
     exact⟨(A9 (F,J) (by rw[F5];simp)).1,C0⟩
    have B6:iU F J lo hiv=0:=by unfold iU;rw[if_pos S,if_neg aA]
    rw[B6]at KR;have E2:=aI (show L'=L ++ [(lo,hiv)] from by rw[E1,C2.out,if_neg (fun q=>hto (by rw[← B5.2];exact q.2))]);clear B6 hto C2 E1 B4 R S B3 e2 HJ;gi_upto_region 7 with fail;refine gK aC (by rintro⟨_,_,h⟩;exact h) aC (Only (fun _=>False) I) (Only.refl _ I).drew (fun u=>?_);generalize I.drew=wq at u ⊢;refine aP 0 23 (.int .i64 r) ?_;refine aP 1 24 (.bool true) ?_;refine aP 2 25 (.bool true) ?_;refine dL 3 26 (.slice (some ⟨gq,0,none⟩) m cq) ?_ ?_
    ·intro X y;have x1:=y.cell (fun e=>e) v1;have x2:=y.cell (fun e=>e) p0;have x3:=y.cell (fun e=>e) p1;have x4:=y.cell (fun e=>e) e0;have x5:=y.cell (fun e=>e) e1;go_simp
    refine aP 4 27 (.int .i64 r) ?_;refine aP 5 28 (.pointer (some ⟨gq,j * 2,none⟩)) ?_;refine dL 6 29 (.agg #[.int .u64 F,.int .u64 J]) ?_ ?_
    ·intro X y;have x1:=y.cell (fun e=>e) v1;have x2:=y.cell (fun e=>e) p0;have x3:=y.cell (fun e=>e) p1;have x4:=y.cell (fun e=>e) e0;have x5:=y.cell (fun e=>e) e1;go_simp
    refine dL 7 30 (.agg #[.int .u64 lo,.int .u64 hiv]) ?_ ?_
    ·intro X y;have x1:=y.cell (fun e=>e) v1;have x2:=y.cell (fun e=>e) p0;have x3:=y.cell (fun e=>e) p1;have x4:=y.cell (fun e=>e) e0;have x5:=y.cell (fun e=>e) e1;go_simp
    refine cW 8 fun K hK=>?_;go_simp;refine(KR _).mono ?_;rintro e wr ⟨rfl,B8⟩;have u:=u.call B8;clear B8;go_simp;refine hK _ _ u (fun _=>?_);clear hK K;refine aP 9 32 (.bool false) ?_;refine aP 10 33 (.bool false) ?_;refine iM ?_;have v2:=u.cell (fun h=>h) v1;have p2:=u.cell (fun h=>h) p0;have p3:=u.cell (fun h=>h) p1;have D8:=aI (C1.only u (fun _ h=>h.elim));have B1:=aI (u.obj (fun h=>h) B0);have D9:=aI (u.obj (fun h=>h) D7);have B2:=aI (A2.trans (u.below (n:=w.heap.size) A2.size (fun _ h=>h.elim)));have E0:=aI (D6.trans (u.wide (fun _ h=>h.elim)));have H3:V.heap.size+2≤wr.heap.size:=by have:=u.size;omega
    have H4:w.heap.size+1<wr.heap.size:=by have:=u.size;omega
    have Y:wr.ownsRow (V.heap.size+2) 123 2 (.slice (some ⟨gq,0,none⟩) m cq) m (bB L):=by have:=D8.row;rw[EM.out]at this;exact this
    clear u;gi_wp2_with (gi_at_builtin;refine wpListIn_append_own_at _ rfl _ _ 56 rfl (V.heap.size+2) 123 i0 (.agg #[.int .u64 0,.int .u64 0]) 2 16 underlying56 hi F6 F7 F8 rfl aB _ _ _ rfl (eU Y ((Only.refl (fun _=>False) wr).alloc _) (fun k h=>h.elim)) ⟨wr.heap.size,0,none⟩ 1 1 [.int .u64 lo,.int .u64 hiv] rfl rfl (fE _ _ _ _) (kZ _ _) (by unfold maxLen;omega) aA (by simp;omega) ?_;intro v' w2 H C _ _;obtain⟨g',s,rfl⟩:=ownsRow_succ H;have Z:=kG C (by simp;omega) (fun e=>by have:=P _ e.symm;omega) (aT wr (.cells #[.int .u64 lo,.int .u64 hiv] 123) (aO B1) B1);have y0:w2.cell? ⟨w.heap.size+1,0,none⟩=some (.slice (some ⟨gq,0,none⟩) m cq):=(by simp[PD,Z]);have y1:w2.frozen? ⟨w.heap.size+1,0,none⟩=false:=frozen_of_row w2 _ 0 _ _ Z);have o1:Only (fun b=>b=w.heap.size+1∨V.heap.size+2≤b) wr w2:=((Only.refl _ wr).alloc (.cells #[.int .u64 lo,.int .u64 hiv] 123)).grown C (fun g hg=>.inr (P g hg));have E3:Only (fun b=>V.heap.size+2≤b) wr w2:=((Only.refl _ wr).alloc (.cells #[.int .u64 lo,.int .u64 hiv] 123)).grown C (fun g hg=>P g hg);have o2:=o1.setCell (p:=⟨w.heap.size+1,0,none⟩) (.inl (.inl rfl)) (.slice (some ⟨g',0,none⟩) (m+1) s);refine⟨E0.trans o2,?_⟩;show OutM w g (V.heap.size+2) (pQ zs ys N tk (k+1)) _;rw[← B9.out,E2.out];have o3:Only (fun b=>b=w.heap.size+1) w2 (w2.setCell ⟨w.heap.size+1,0,none⟩ (.slice (some ⟨g',0,none⟩) (m+1) s)):=(Only.refl (fun b=>b=w.heap.size+1) w2).setCell (p:=⟨w.heap.size+1,0,none⟩) (.inl rfl) _;refine⟨o3.obj (fun h=>aA) (E3.obj (fun h=>aA) D9),⟨_,heap_setCell_same _ _ 0 _ _ _ Z,eU ?_ o3 (fun q hq=>aA),fun z U=>?_⟩,B2.trans (o2.below (n:=w.heap.size) B2.size (fun q hq=>aA))⟩
    ·rw[← gS,PF,EM.out];exact H
    rcases List.mem_append.1 U with U | U
    ·exact A9 z U
    obtain rfl:z=(lo,hiv):=by simpa using U
    exact⟨D5,C0⟩
 rintro D W hD ⟨h0,⟨v,hv,hO⟩,B7⟩ hK;have v0:W.cell? ⟨w.heap.size+1,0,none⟩=some v:=by simp[PD,hv]
 gi_wp2;refine⟨aD,.inl ⟨_,_,rfl,run_takeDeferred hK,?_⟩⟩;have oD:=Only.putObj (may:=fun x=>x=D) W D (.deferred none) rfl;have nD:∀q,v.ownBlock=some q→¬q=D:=fun q hq e=>by
  obtain⟨cs,hc⟩:=aR hO.row hq;rw[e,hK]at hc
  cases hc
 refine⟨_,results_tmp rfl _ _ _,v,rfl,⟨bC (bF hO.row oD nD) aA,hO.words⟩,B7.trans (oD.below (n:=w.heap.size) B7.size (fun k (O:k=D)=>aA))⟩
end Go.Proofs.YtbkkolfpegplgaaGreatDoor
namespace Go.Proofs.YtbkkolfpegplgaaGreatDoor
open Go Go.RowKit
def RgAt (w:World) (v:Value) (zs:List Iv):Prop:=∃a cap,v=.slice a zs.length cap∧Prs w a zs.length zs∧zs.length≤cap
theorem RgAt.below{w w':World}{v:Value}{zs:List Iv}(h:RgAt w v zs)(b:Below w.heap.size w w'):RgAt w' v zs:=by
 obtain⟨a,cap,h1,h2,h3⟩:=h;exact⟨a,cap,h1,h2.below b,h3⟩
theorem OwnL.rg{w:World}{base:Nat}{t:TypeId}{v:Value}{zs:List Iv}(h:OwnL w base t v zs):RgAt w v zs:=by
 obtain⟨a,cap,h1,h2,h3,_⟩:=h.prs;exact⟨a,cap,h1,h2,h3⟩
theorem RgAt.nil(w:World):RgAt w (.slice none 0 0) []:=⟨none,0,rfl,⟨rfl,aB,aD,fun i hi=>absurd hi aD⟩,Nat.le_refl _⟩
theorem RgAt.words{w:World}{v:Value}{zs:List Iv}(h:RgAt w v zs):∀z∈zs,aL z.1∧aL z.2:=by
 obtain⟨a,cap,h1,h2,h3⟩:=h;exact h2.words
theorem cC{zs:List Iv}(h:∀z∈zs,aL z.1∧aL z.2){x:Int}(j:aV zs x):0≤x∧x<18446744073709551616:=by
 obtain⟨z,b,h1,h2⟩:=j;have:=(h z b).1.1;have:=(h z b).2.2;omega
structure Ln (w:World) (tk:Bool→Bool→Bool) (zs ys:List Iv) (e:Ending) (w':World):Prop where
 res:∃v out,e=.returned v∧OwnL w' w.heap.size 123 v out∧cL out∧(∀x,aV out x↔0≤x∧x<18446744073709551616∧tk (decide (aV zs x)) (decide (aV ys x))=true)∧out.length≤zs.length+ys.length
 bl:Below w.heap.size w w'
theorem Al(g:FuncId)(tk:Bool→Bool→Bool)(F:tk=vO∨tk=GJ∨tk=uD)(G:Od g tk)(va vb:Value)(zs ys:List Iv)(w:World)(H:RgAt w va zs)(I:RgAt w vb ys)(s:cL zs)(u:cL ys)(J:zs.length+ys.length≤3900000000) :
  Calls prog 134 #[va,vb,.func (.func g) #[] #[]] w fun e w'=>Ln w tk zs ys e w':=by
 obtain⟨a,cap,rfl,j,y⟩:=H;obtain⟨b,r,rfl,l,z⟩:=I;have n:=dV s (m:=Lo zs 0) (.inr (PE _));have p:=dV u (m:=Lo ys 0) (.inr (PE _));obtain⟨N,A⟩:=Fz n p j.words l.words;obtain⟨h1,h2,h3⟩:=Mx n p j.words l.words A tk;have D:=Vd tk F h1 (fun x C=>(cC j.words C).1) (fun x C=>(cC l.words C).1) h3;refine(Qp g tk G a b cap r zs ys N w j l y z s u A (by have:=A.most;omega)).mono ?_;rintro e w' ⟨v,rfl,E,B⟩;exact⟨⟨v,_,rfl,E,h1,h3,D⟩,B⟩
theorem zP(va vb:Value)(zs ys:List Iv)(w:World)(m:RgAt w va zs)(l:RgAt w vb ys)(b:cL zs)(j:cL ys)(n:zs.length+ys.length≤3900000000) :
  Calls prog 81 #[va,vb] w fun e w'=>Ln w vO zs ys e w':=by
 have K:=aI (Al 135 vO (.inl rfl) CO va vb zs ys w m l b j n);clear m l b j n;go_enter func81,ntmps81;go_wp2_with fail;refine K.mono ?_;rintro e w' ⟨⟨v,out,rfl,h⟩,l⟩;have H:=aI h;go_wp2;go_ret;exact⟨⟨v,out,rfl,H⟩,l⟩
theorem Ak(va vb:Value)(zs ys:List Iv)(w:World)(m:RgAt w va zs)(l:RgAt w vb ys)(b:cL zs)(j:cL ys)(n:zs.length+ys.length≤3900000000) :
  Calls prog 169 #[va,vb] w fun e w'=>Ln w uD zs ys e w':=by
 have K:=aI (Al 224 uD (.inr (.inr rfl)) CP va vb zs ys w m l b j n);clear m l b j n;go_enter func169,ntmps169;go_wp2_with fail;refine K.mono ?_;rintro e w' ⟨⟨v,out,rfl,h⟩,l⟩;have H:=aI h;go_wp2;go_ret;exact⟨⟨v,out,rfl,H⟩,l⟩
theorem mZ{w:World}{b:Nat}{lo hi:Int}(h1:aL lo)(h2:aL hi)(h:w.heap[b]?=some (.cells #[.int .u64 lo,.int .u64 hi] 123 (0,0))):Prs w (some ⟨b,0,none⟩) 1 [(lo,hi)]:=
 ⟨rfl,by decide,fun z hz=>by obtain rfl:z=(lo,hi):=by simpa using hz
                             exact⟨h1,h2⟩,fun i hi'=>by
  obtain rfl:i=0:=by omega
  exact⟨b,0,rfl,aO h,by simp[PD,h,Lo],by simp[PD,h,Hi]⟩⟩
theorem Ny{lo hi:Int}(h:lo≤hi):cL [(lo,hi)]:=fW (m:=lo) ⟨PE _,h,trivial⟩
theorem Mq(va:Value)(zs:List Iv)(lo hi:Int)(w:World)(z:RgAt w va zs)(l:cL zs)(h1:aL lo)(h2:aL hi)(p:lo≤hi)(H:zs.length≤3500000000) :
  Calls prog 176 #[va,.agg #[.int .u64 lo,.int .u64 hi]] w fun e w'=>∃v out,e=.returned v∧OwnL w' w.heap.size 123 v out∧cL out∧(∀x,aV out x↔lo≤x∧x≤hi∧¬aV zs x)∧out.length≤zs.length+1∧Below w.heap.size w w':=by
 have K:=aI (fun(b:Nat) (W:World) (m:Below w.heap.size w W) (I:W.heap[b]?=some (.cells #[.int .u64 lo,.int .u64 hi] 123 (0,0)))=>Ak (.slice (some ⟨b,0,none⟩) 1 1) va [(lo,hi)] zs W ⟨_,_,rfl,mZ h1 h2 I,Nat.le_refl _⟩ (z.below m) (Ny p) l (by simp;omega));have A:=aI h1;have B:=aI h2;clear z l H h1 h2;go_enter func176,ntmps176;go_wp2_with fail;refine(K (w.heap.size+1) _ (aJ (aJ (PC _ _) _) _) (aK _ _ aD)).mono ?_;rintro e w' ⟨⟨v,out,rfl,s,u,j,y⟩,m⟩;have r:=aI s;have C:=aI u;have n:=aI j;have D:=aI y;have E:=aI (aN (aJ (aJ (PC w.heap.size w) (.cells #[.int .u64 lo,.int .u64 hi] 123)) (.cells #[.int .u64 lo,.int .u64 hi] 123)) m);clear s u j y m;go_wp2;go_ret;refine⟨v,out,rfl,⟨bC r.row (by simp<;>omega),r.words⟩,C,fun x=>?_,by have:=D.out;simp at this;omega,E⟩;have F:=A.1;have G:=B.2;rw[n.out];simp only[uD,Bool.and_eq_true,decide_eq_true_eq,Bool.not_eq_true',decide_eq_false_iff_not,dU];constructor
 ·rintro⟨_,_,⟨a,b⟩,c⟩;exact⟨a,b,c⟩
 rintro⟨a,b,c⟩;exact⟨aA,aA,⟨a,b⟩,c⟩
end Go.Proofs.YtbkkolfpegplgaaGreatDoor
