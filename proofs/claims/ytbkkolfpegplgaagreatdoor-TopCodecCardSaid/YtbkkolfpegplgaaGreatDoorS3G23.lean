/- setops.merge: what is taken of the pieces. setops.Union, Meet, Minus, Not: the list of an operation is correct and has these numbers. -/
import Derived.Test.YtbkkolfpegplgaaGreatDoorS3G20
import Derived.Test.YtbkkolfpegplgaaGreatDoorS3G21
import Derived.Test.YtbkkolfpegplgaaGreatDoorS3G22
import Derived.Test.YtbkkolfpegplgaaGreatDoorS3G3
import Derived.Maps.OwnIn
import Derived.Shelf.Abstract
set_option maxHeartbeats 8000000
set_option maxRecDepth 100000
set_option linter.unusedVariables false
set_option linter.unusedSimpArgs false
namespace Go.Proofs.YtbkkolfpegplgaaGreatDoor
open Go Go.RowKit
attribute [local go_sem] Oper.semAt_some
structure Takes (g:FuncId) (tk:Bool→Bool→Bool):Prop where
 ent:∀(args:Array Value) (w:World),(callFunc g args).run Tryz.prog w=.ok (.enter g args) w
 res:∀(sa sb:Bool) (w:World),Calls Tryz.prog g #[.agg #[.bool sa,.bool sb]] w fun e w'=>e=.returned (.bool (tk sa sb))∧Below w.heap.size w w'
theorem takesU:Takes 135 tkU:=⟨fun _ _=>by kernel_rfl,fun sa sb w=>by
 cases sa<;>cases sb <;>
 ·go_enter Tryz.func135,Tryz.ntmps135
  go_wp2
  go_ret
  exact⟨rfl,zc (Below.refl _ _) _⟩⟩
theorem takesD:Takes 224 tkD:=⟨fun _ _=>by kernel_rfl,fun sa sb w=>by
 cases sa<;>cases sb <;>
 ·go_enter Tryz.func224,Tryz.ntmps224
  go_wp2
  go_ret
  exact⟨rfl,zc (Below.refl _ _) _⟩⟩
structure OutM (w:World) (g:FuncId) (D:Nat) (zs:List Iv) (W:World):Prop where
 tk:W.heap[w.heap.size]?=some (.cells #[.func (.func g) #[] #[]] 216 (0,0))
 out:∃v,W.heap[w.heap.size+1]?=some (.cells #[v] 56 (0,0))∧OwnL W D 123 v zs
 bl:Below w.heap.size w W
theorem OutM.only{w:World}{g:FuncId}{D:Nat}{zs:List Iv}{A A':World}{may:Nat→Prop}(h:OutM w g D zs A)(ho:Only may A A')(h0:¬may w.heap.size)(h1:¬may (w.heap.size+1))(hw:∀k,may k→w.heap.size≤k)(hD:∀k,may k→k<D):OutM w g D zs A':=by
 obtain⟨k0,⟨v,k1,k2⟩,k3⟩:=h;exact⟨ho.obj h0 k0,⟨v,ho.obj h1 k1,k2.only ho hD⟩,k3.trans (ho.below k3.size hw)⟩
theorem mrg_low{zs ys:List Iv}{m m':Int}{N:Nat}(hz:Nor m zs)(hy:Nor m' ys)(wz:∀z∈zs,Word z.1∧Word z.2)(wy:∀z∈ys,Word z.1∧Word z.2)(hN:Pieces zs ys N)(tk:Bool→Bool→Bool){k:Nat}(hk:k<N) :
  (∀x,InL (mrg zs ys N tk k) x→x<fr zs ys k)∧∀z∈mrg zs ys N tk k,Word z.1∧Word z.2:=by
 obtain⟨h1,h2⟩:=mrg_is hz hy wz wy hN tk k (by omega);refine⟨fun x hx=>?_,fun z hz'=>?_⟩
 ·obtain⟨_,_,h3,h4,_⟩:=(h2 x).1 hx
  have:=h3 h4;have e:=fr_next (zs:=zs) (ys:=ys) (N:=N) (k:=k-1) (by omega);rw[show k-1+1=k by omega]at e;omega
 ·obtain⟨i,hi,ez⟩:=List.mem_iff_getElem.1 hz'
  have hc:=(z1v h1 i hi).1;have e1:Lo (mrg zs ys N tk k) i=z.1:=by unfold Lo;simp[List.getD,List.getElem?_eq_getElem hi,ez]
  have e2:Hi (mrg zs ys N tk k) i=z.2:=by unfold Hi;simp[List.getD,List.getElem?_eq_getElem hi,ez]
  rw[e1,e2]at hc;have a:=(h2 z.1).1 ⟨z,hz',Int.le_refl _,hc⟩;have b:=(h2 z.2).1 ⟨z,hz',hc,Int.le_refl _⟩;exact⟨⟨a.1,a.2.1⟩,⟨b.1,b.2.1⟩⟩
theorem mrg_len(zs ys:List Iv)(N:Nat)(tk:Bool→Bool→Bool):∀k,(mrg zs ys N tk k).length≤k
 | 0=>Nat.le_refl _
 | k+1=>by
   have ih:=mrg_len zs ys N tk k;unfold mrg;split
   ·have:=putP_len (mrg zs ys N tk k) (fr zs ys k,pto zs ys N k);omega
   ·omega
theorem merge_any(g:FuncId)(tk:Bool→Bool→Bool)(hg:Takes g tk)(a b:Option Addr)(cap cap':Nat)(zs ys:List Iv)(N:Nat)(w:World)
  (ha:Prs w a zs.length zs) (hb:Prs w b ys.length ys) (hca:zs.length≤cap) (hcb:ys.length≤cap') (hCa:Cor zs) (hCb:Cor ys) (hN:Pieces zs ys N) (hNm:N≤1000000000) :
  Calls Tryz.prog 134 #[.slice a zs.length cap,.slice b ys.length cap',.func (.func g) #[] #[]] w fun e w'=>∃v,e=.returned v∧OwnL w' w.heap.size 123 v (mrg zs ys N tk N)∧Below w.heap.size w w':=by
 have HC:=z7 (pieces_any a b zs.length cap ys.length cap');obtain⟨i0,hi,hz0,hz1,hz2⟩:=info_parts info_iv;have hnz:=z1d hCa (m:=Lo zs 0) (.inr (Int.le_refl _));have hny:=z1d hCb (m:=Lo ys 0) (.inr (Int.le_refl _));have hwz:=ha.words;have hwy:=hb.words;have LOW:=z7 (fun k (hk:k<N)=>mrg_low hnz hny hwz hwy hN tk hk);have NOR:=z7 (fun k (hk:k<N)=>(mrg_is hnz hny hwz hwy hN tk k (by omega)).1);have FRW:=z7 (fun k (hk:k<N)=>z3e hnz hny hwz hwy hN k hk);have PTO:=z7 (fun k (hk:k<N)=>pto_ge hnz hny hwz hwy hN hk);have ALL:=z7 (mrg_all hnz hny hwz hwy hN tk);refine(callsIn_wide (n:=6)).1 ?_;refine callsIn_of_wp_marks Tryz.func134 rfl trivial ?_ rfl;simp only[Tryz.ntmps134,List.size_toArray,List.length_cons,List.length_nil,Nat.reduceAdd,Nat.reduceSub,Array.replicate_succ,Array.replicate_zero,List.push_toArray,List.append_toArray,List.nil_append,List.cons_append];gi_wp2_with (refine⟨trivial,?_⟩;gi_at_call 193;refine(callsIn_wide.2 (HC.out _)).mono ?_;rintro e w' ⟨rfl,rfl⟩)
 obtain⟨V,hV⟩:∃V,(((w.alloc (.cells #[.func (.func g) #[] #[]] 216)).alloc (.cells #[.slice none 0 0] 56)).alloc (.cells #[.slice a zs.length cap] 56)).alloc (.cells #[.slice b ys.length cap'] 56)=V:=⟨_,rfl⟩;have hB:V.heap.size=w.heap.size+4:=by rw[← hV];simp
 have bel:Below w.heap.size w V:=by rw[← hV];exact zc (zc (zc (zc (Below.refl _ _) _) _) _) _
 have q0:V.heap[w.heap.size]?=some (.cells #[.func (.func g) #[] #[]] 216 (0,0)):=by rw[← hV];exact zk _ _ (by simp<;>omega) (zk _ _ (by simp<;>omega) (zk _ _ (by simp) (ze _ _ rfl)))
 have q1:V.heap[w.heap.size+1]?=some (.cells #[.slice none 0 0] 56 (0,0)):=by rw[← hV];exact zk _ _ (by simp<;>omega) (zk _ _ (by simp) (ze _ _ (by simp)))
 have q2:V.heap[w.heap.size+1+1]?=some (.cells #[.slice a zs.length cap] 56 (0,0)):=by rw[← hV];exact zk _ _ (by simp) (ze _ _ (by simp))
 have q3:V.heap[w.heap.size+1+1+1]?=some (.cells #[.slice b ys.length cap'] 56 (0,0)):=by rw[← hV];exact ze _ _ (by simp)
 rw[hV];clear hV;have hblk:∀(p:Option Addr) (n:Nat) (l:List Iv),Prs w p n l→0<n→∀ad,p=some ad→ad.block<w.heap.size:=fun p n l hp h0 ad e=>by
  obtain⟨b',off,e',hlt,_⟩:=hp.cells 0 h0;rw[e]at e';cases e';exact hlt
 have hcA:0<zs.length→∀ad,a=some ad→ad.block<V.heap.size∧¬(ad.block=w.heap.size+1∨V.heap.size+2≤ad.block)∧ad.block≠w.heap.size+1+1∧ad.block≠w.heap.size+1+1+1:=fun q ad e=>by have:=hblk _ _ _ ha q ad e;omega
 have hcB:0<ys.length→∀ad,b=some ad→ad.block<V.heap.size∧¬(ad.block=w.heap.size+1∨V.heap.size+2≤ad.block)∧ad.block≠w.heap.size+1+1∧ad.block≠w.heap.size+1+1+1:=fun q ad e=>by have:=hblk _ _ _ hb q ad e;omega
 have SEQ:=z7 (pieces1_own 5 (by omega) (w.heap.size+1+1) (w.heap.size+1+1+1) a b cap cap' zs ys N V (fun b=>b=w.heap.size+1∨V.heap.size+2≤b) q2 q3 (by omega) (by omega) (by omega) (ha.below bel) (hb.below bel) hca hcb hcA hcB hCa hCb hN);refine z58 (gf:=233) (lb:=#[.pointer (some ⟨w.heap.size+1+1,0,none⟩),.pointer (some ⟨w.heap.size+1+1+1,0,none⟩)]) rfl (by omega) rfl trivial (enters_of Tryz.func233 (by kernel_rfl) rfl)
  SEQ.out (Below.refl _ _) (fun _=>rfl) (fun k hk=>by omega) (fun k hk=>by omega)
  (fun k W=>OutM w g (V.heap.size+2) (mrg zs ys N tk k) W)
  (fun _ _ _=>False) ?hI (fun _ _ _ _ h _=>h) ⟨q0,⟨_,q1,World.ownsRow_nil _ _ _ _,by simp[mrg]⟩,bel⟩
  (fun k a₁ W=>∃Bp Bq,V.heap.size+2≤Bp∧V.heap.size+2≤Bq∧W.heap[Bp]?=some (.cells #[.int .u64 (fr zs ys k),.int .u64 (pto zs ys N k)] 123 (0,0))∧W.heap[Bq]?=some (.cells #[.bool (decide (InL zs (fr zs ys k))),.bool (decide (InL ys (fr zs ys k)))] 215 (0,0))∧OutM w g (V.heap.size+2) (mrg zs ys N tk k) W ∧
    a₁={ tmps:=#[.slice a zs.length cap,.slice b ys.length cap',.func (.func g) #[] #[],undef,undef,.pointer (some ⟨w.heap.size,0,none⟩),.slice none 0 0,.pointer (some ⟨w.heap.size+1,0,none⟩),.pointer (some ⟨Bp,0,none⟩),.pointer (some ⟨Bq,0,none⟩),undef,.slice a zs.length cap,.slice b ys.length cap',.func (.func 233) #[] #[.pointer (some ⟨w.heap.size+1+1,0,none⟩),.pointer (some ⟨w.heap.size+1+1+1,0,none⟩)],.agg #[.int .u64 (fr zs ys k),.int .u64 (pto zs ys N k)],.agg #[.bool (decide (InL zs (fr zs ys k))),.bool (decide (InL ys (fr zs ys k)))],undef,undef,undef,undef,undef,undef,undef,undef,undef,undef,undef,undef,undef,undef,undef,undef,undef,undef,undef,undef,undef,undef,undef,undef,undef,undef,undef,undef,undef],defers:=[] })
  ?hAx ?assign ?body ?done (fun _ _ _ _ _ _ h _=>h.elim)
 case hI=>
  intro k A B h ho;exact h.only ho (fun q=>by omega) (fun q=>by omega) (fun q hq=>by omega) (fun q hq=>by omega)
 case hAx=>
  rintro k a₁ A B ⟨Bp,Bq,g1,g2,c1,c2,h,e⟩ ho;exact⟨Bp,Bq,g1,g2,ho.obj (fun h=>by omega) c1,ho.obj (fun h=>by omega) c2,h.only ho (fun q=>by omega) (fun q=>by omega) (fun q hq=>by omega) (fun q hq=>by omega),e⟩
 case assign=>
  rintro l k W hlt h hk;simp only[encPc];gi_wp2
  exact⟨((Only.refl _ _).alloc _).alloc _,W.heap.size,W.heap.size+1,hlt,by omega,zk _ _ (by simp) (ze _ _ rfl),ze _ _ (by simp),h.only (((Only.refl (fun _=>False) _).alloc _).alloc _) (fun h=>h) (fun h=>h) (fun k hk=>hk.elim) (fun k hk=>hk.elim),rfl⟩
 case body=>
  rintro l k a₁ W hlt ⟨Bp,Bq,g1,g2,c1,c2,⟨htk,⟨v,hv,hO⟩,hbl⟩,rfl⟩ hk;obtain⟨hlow,hwd⟩:=LOW.out k hk;have hlen:=mrg_len zs ys N tk k;have hcor:=z1v (NOR.out k hk);have hf:=FRW.out k hk;have ht:=PTO.out k hk;have HSTEP:=z7 (show mrg zs ys N tk (k+1)=if tk (decide (InL zs (fr zs ys k))) (decide (InL ys (fr zs ys k)))then putP (mrg zs ys N tk k) (fr zs ys k,pto zs ys N k)else mrg zs ys N tk k from rfl);obtain⟨L',eL'⟩:∃L',L'=mrg zs ys N tk (k+1):=⟨_,rfl⟩;obtain⟨lo,elo⟩:∃x,x=fr zs ys k:=⟨_,rfl⟩;obtain⟨hiv,ehi⟩:∃x,x=pto zs ys N k:=⟨_,rfl⟩;obtain⟨sa,esa⟩:∃x,x=decide (InL zs lo):=⟨_,rfl⟩;obtain⟨sb,esb⟩:∃x,x=decide (InL ys lo):=⟨_,rfl⟩;obtain⟨L,eL⟩:∃L,L=mrg zs ys N tk k:=⟨_,rfl⟩;rw[← eL',← elo,← ehi,← esa,← esb,← eL]at HSTEP;rw[← elo,← ehi]at c1 ht;rw[← elo,← esa,← esb]at c2;rw[← elo]at hlow hf;rw[← eL]at hO hlow hwd hlen hcor;rw[← elo,← ehi,← esa,← esb];have EL':=z7 eL';clear eL' elo ehi esa esb eL;have KT:=z7 (fun X=>hg.res sa sb X);have EG:=hg.ent;have t0:W.cell? ⟨w.heap.size,0,none⟩=some (.func (.func g) #[] #[]):=by simp[World.cell?,htk]
  have s0:W.cell? ⟨Bq,0,none⟩=some (.bool sa):=by simp[World.cell?,c2]
  have s1:W.cell? ⟨Bq,1,none⟩=some (.bool sb):=by simp[World.cell?,c2]
  have HTK:=z7 htk;have HV:=z7 hv;have HO:=z7 hO;have HBL:=z7 hbl;have HC1:=z7 c1;have HLOW:=z7 hlow;have HWD:=z7 hwd;have HCOR:=z7 hcor;have wlo:Word lo:=hf;have whi:Word hiv:=by unfold Word;omega
  have hle:=ht.1;have hDv:∀q,v.ownBlock=some q→V.heap.size+2≤q:=fun q hq=>(hO.row.lt q hq).1;have sBt:=zh htk;have sBo:=zh hv;have sBp:=zh c1;clear htk hv hO hbl c1 c2 hlow hwd hcor hf ht
  cases htks:tk sa sb with
  | false=>
    rw[htks]at KT;have E1:L'=L:=by rw[HSTEP.out,htks];rfl
    clear htks HSTEP;gi_wp2_with (refine⟨trivial,?_⟩;refine(CallsIn.inRound l (callsIn_wide.2 (KT.out _))).mono ?_;rintro e w1 ⟨rfl,hb1⟩)
    have ho:=Only.of_below (may:=fun b=>b=w.heap.size+1∨V.heap.size+2≤b) hb1;have ho':=Only.of_below (may:=fun _=>False) hb1;exact⟨ho,by show OutM w g (V.heap.size+2) (mrg zs ys N tk (k+1)) w1;rw[← EL'.out,E1];exact(OutM.mk HTK.out ⟨v,HV.out,HO.out⟩ HBL.out:OutM w g (V.heap.size+2) L W).only ho' (fun h=>h) (fun h=>h) (fun _ h=>h.elim) (fun _ h=>h.elim)⟩
  | true=>
    rw[htks]at KT;have E1:L'=putP L (lo,hiv):=by rw[HSTEP.out,htks];rfl
    clear htks HSTEP;obtain⟨aq,cq,rfl,hP,hle1,hle2,hn⟩:=HO.out.prs2;gi_upto_region 6 with(refine⟨trivial,?_⟩;refine(CallsIn.inRound l (callsIn_wide.2 (KT.out _))).mono ?_;rintro e w1 ⟨rfl,hb1⟩)
    have v1:w1.cell? ⟨w.heap.size+1,0,none⟩=some (.slice aq L.length cq):=zg hb1 sBo (by simp[World.cell?,HV.out]);have p0:w1.cell? ⟨Bp,0,none⟩=some (.int .u64 lo):=zg hb1 sBp (by simp[World.cell?,HC1.out]);have p1:w1.cell? ⟨Bp,1,none⟩=some (.int .u64 hiv):=zg hb1 sBp (by simp[World.cell?,HC1.out]);have HO1:=z7 (HO.out.only (may:=fun _=>False) (Only.of_below hb1) (fun _ h=>h.elim));have ho1:=Only.of_below (may:=fun b=>b=w.heap.size+1∨V.heap.size+2≤b) hb1;have HB1:=z7 ho1;have HVo:=z7 ((hb1.block _ sBo).trans HV.out);have HTo:=z7 ((hb1.block _ sBt).trans HTK.out);have HBo:=z7 (zf HBL.out hb1);have sz1:w.heap.size+1<w1.heap.size:=zh HVo.out;have sz2:V.heap.size+2≤w1.heap.size:=by have:=hb1.size;omega
    have hDq:∀q,(Value.slice aq L.length cq).ownBlock=some q→V.heap.size+2≤q:=hDv;obtain⟨m,em⟩:∃m,L.length=m:=⟨_,rfl⟩;have EM:=z7 em;rw[em]at v1 hlen HVo hDq;have mN:m≤1000000000:=by omega
    clear HO HV HTK HBL HC1 hP hle1 hle2 hn hb1 ho1 hDv em t0 s0 s1 KT EG;by_cases hm0:m=0
    ·have hL0:L=[]:=List.length_eq_zero_iff.1 (EM.out.trans hm0)
     have qz:IntKind.i64.wrap ((m:Int)-1) = -1:=by rw[IntKind.wrap_i64];omega
     have E2:=z7 (show L'=L ++ [(lo,hiv)] from by rw[E1,hL0];rfl);clear hm0 hL0;gi_upto_region 7 with fail
     refine z2a (by kernel_rfl) (by rintro⟨_,_,h⟩;exact h) (by kernel_rfl) (Only (fun _=>False) w1) (Only.refl _ w1).drew (fun hS=>?_);generalize w1.drew=wr at hS ⊢
     refine tkd (i:=0) (d:=some 23) (v:=(.int .i64 (-1))) (hy:=.inl ⟨by rfl,?_⟩) (h:=?_)
     ·intro X hX;go_simp
     refine tkd (i:=1) (d:=some 24) (v:=(.bool false)) (hy:=.inl ⟨by rfl,?_⟩) (h:=?_)
     ·intro X hX;go_simp
     refine tkd (i:=2) (d:=some 25) (v:=(.bool false)) (hy:=.inl ⟨by rfl,?_⟩) (h:=?_)
     ·intro X hX;go_simp
     refine tkd (i:=3) (d:=some 26) (v:=undef) (hy:=.inr ⟨by rfl,rfl⟩) (h:=?_);refine tkd (i:=4) (d:=some 27) (v:=undef) (hy:=.inr ⟨by rfl,rfl⟩) (h:=?_);refine tkd (i:=5) (d:=some 28) (v:=undef) (hy:=.inr ⟨by rfl,rfl⟩) (h:=?_);refine tkd (i:=6) (d:=some 29) (v:=undef) (hy:=.inr ⟨by rfl,rfl⟩) (h:=?_);refine tkd (i:=7) (d:=some 30) (v:=undef) (hy:=.inr ⟨by rfl,rfl⟩) (h:=?_);refine tkd (i:=8) (d:=some 31) (v:=undef) (hy:=.inr ⟨by rfl,rfl⟩) (h:=?_);refine tkd (i:=9) (d:=some 32) (v:=undef) (hy:=.inr ⟨by rfl,rfl⟩) (h:=?_);refine tkd (i:=10) (d:=some 33) (v:=(.bool false)) (hy:=.inl ⟨by rfl,?_⟩) (h:=?_)
     ·intro X hX;go_simp
     refine wpAnyH_done (by kernel_rfl) ?_ _;have v2:=hS.cell (fun h=>h) v1;have p2:=hS.cell (fun h=>h) p0;have p3:=hS.cell (fun h=>h) p1;have HOr:=z7 (HO1.out.only hS (fun _ h=>h.elim));have HVr:=z7 (hS.obj (fun h=>h) HVo.out);have HTr:=z7 (hS.obj (fun h=>h) HTo.out);have HBr:=z7 (HBo.out.trans (hS.below (n:=w.heap.size) HBo.out.size (fun _ h=>h.elim)));have HWr:=z7 (HB1.out.trans (hS.wide (fun _ h=>h.elim)));have sz3:V.heap.size+2≤wr.heap.size:=by have:=hS.size;omega
     have sz4:w.heap.size+1<wr.heap.size:=by have:=hS.size;omega
     have hrow2:wr.ownsRow (V.heap.size+2) 123 2 (.slice aq m cq) m (cellsL L):=by have:=HOr.out.row;rw[EM.out]at this;exact this
     clear hS;gi_wp2_with (gi_at_builtin;refine wpListIn_append_own_at _ rfl _ _ 56 rfl (V.heap.size+2) 123 i0 (.agg #[.int .u64 0,.int .u64 0]) 2 16 Tryz.underlying56 hi hz0 hz1 hz2 rfl (by decide) _ _ _ rfl (z1g hrow2 ((Only.refl (fun _=>False) wr).alloc _) (fun k h=>h.elim)) ⟨wr.heap.size,0,none⟩ 1 1 [.int .u64 lo,.int .u64 hiv] rfl rfl (cell_two_new _ _ _ _) (two_one _ _) (by unfold maxLen;omega) (by omega) (by simp;omega) ?_;intro v' w2 hown' hgrow _ _;obtain⟨g',cap',rfl⟩:=ownsRow_succ hown';have hv1:=z3b hgrow (by simp;omega) (fun e=>by have:=hDq _ e.symm;omega) (zk wr (.cells #[.int .u64 lo,.int .u64 hiv] 123) (zh HVr.out) HVr.out);have y0:w2.cell? ⟨w.heap.size+1,0,none⟩=some (.slice aq m cq):=(by simp[World.cell?,hv1]);have y1:w2.frozen? ⟨w.heap.size+1,0,none⟩=false:=frozen_of_row w2 _ 0 _ _ hv1)
     have o1:Only (fun b=>b=w.heap.size+1∨V.heap.size+2≤b) wr w2:=((Only.refl _ wr).alloc (.cells #[.int .u64 lo,.int .u64 hiv] 123)).grown hgrow (fun g hg=>.inr (hDq g hg));have o1t:Only (fun b=>V.heap.size+2≤b) wr w2:=((Only.refl _ wr).alloc (.cells #[.int .u64 lo,.int .u64 hiv] 123)).grown hgrow (fun g hg=>hDq g hg);have o2:=o1.setCell (p:=⟨w.heap.size+1,0,none⟩) (.inl (.inl rfl)) (.slice (some ⟨g',0,none⟩) (m+1) cap');refine⟨HWr.out.trans o2,?_⟩;show OutM w g (V.heap.size+2) (mrg zs ys N tk (k+1)) _
     rw[← EL'.out,E2.out];have o3:Only (fun b=>b=w.heap.size+1) w2 (w2.setCell ⟨w.heap.size+1,0,none⟩ (.slice (some ⟨g',0,none⟩) (m+1) cap')):=(Only.refl (fun b=>b=w.heap.size+1) w2).setCell (p:=⟨w.heap.size+1,0,none⟩) (.inl rfl) _;refine⟨o3.obj (fun h=>by omega) (o1t.obj (fun h=>by omega) HTr.out),⟨_,heap_setCell_same _ _ 0 _ _ _ hv1,z1g ?_ o3 (fun q hq=>by omega),fun z hz=>?_⟩,HBr.out.trans (o2.below (n:=w.heap.size) HBr.out.size (fun q hq=>by omega))⟩
     ·rw[← z4l,List.length_append,EM.out]
      exact hown'
     ·rcases List.mem_append.1 hz with hz | hz
      ·exact HWD.out z hz
      ·obtain rfl:z=(lo,hiv):=by simpa using hz
       exact⟨wlo,whi⟩
    ·obtain⟨j,hj⟩:∃j,m=j+1:=⟨m-1,by omega⟩
     obtain⟨gq,hgq⟩:∃gq,aq=some ⟨gq,0,none⟩:=by
      rcases HO1.out.row.2 with⟨_,hn⟩ | ⟨g',cap',cur,hv',_⟩
      ·have:=EM.out;omega
      ·simp at hv';exact⟨g',hv'.1⟩
     subst hgq;have HJ:=z7 hj;have hrow:w1.ownsRow (V.heap.size+2) 123 2 (.slice (some ⟨gq,0,none⟩) m cq) m (cellsL L):=by have:=HO1.out.row;rw[EM.out]at this;exact this
     have hjl:j<L.length:=by rw[EM.out];omega
     obtain⟨plo,eplo⟩:∃x,Lo L j=x:=⟨_,rfl⟩;obtain⟨phi,ephi⟩:∃x,Hi L j=x:=⟨_,rfl⟩;have e0:w1.cell? ⟨gq,j * 2,none⟩=some (.int .u64 plo):=by rw[hrow.cellAt _ (by omega),z4v L j hjl,eplo]
     have e1:w1.cell? ⟨gq,j * 2+1,none⟩=some (.int .u64 phi):=by rw[hrow.cellAt _ (by omega),z4w L j hjl,ephi]
     have e2:=hrow.frozenAt (j * 2+1);have HROW:=z7 hrow;have hple:=(HCOR.out j hjl).1;have hplt:=HLOW.out (Hi L j) (z2l.2 ⟨j,hjl,hple,Int.le_refl _⟩);have hpw:=HWD.out (Lo L j,Hi L j) (by rw[← z1o L j hjl];exact List.getElem_mem _);rw[eplo,ephi]at hpw hple;rw[ephi]at hplt;have EPL:=z7 (And.intro eplo ephi);have gqD:V.heap.size+2≤gq:=hDq gq rfl;have gql:gq<w1.heap.size:=(hrow.lt gq rfl).2;obtain⟨r,er⟩:∃r:Int,(m:Int)-1=r:=⟨_,rfl⟩;have qz:IntKind.i64.wrap ((m:Int)-1)=r:=by rw[IntKind.wrap_i64];omega
     have r0:0≤r:=by omega
     have r1:r<(m:Int):=by omega
     have rt:r.toNat=j:=by omega
     have HP2:=z7 (show putP L (lo,hiv)=if L≠[]∧Hi L j+1=lo then L.take j ++ [(Lo L j,hiv)] else L ++ [(lo,hiv)] from by unfold putP;rw[EM.out,show m-1=j by omega]);have hLne:L≠[]:=fun e=>by rw[e]at hjl;simp at hjl
     have KR:=z7 (fun X=>relate_any plo phi lo hiv hpw.1 hpw.2 wlo whi hple hle X);clear hrow er hj eplo ephi hjl;by_cases hto:phi+1=lo
     ·have hrl:relI plo phi lo hiv=1:=by unfold relI;rw[if_pos hplt,if_pos (by omega)]
      rw[hrl]at KR;have E2:=z7 (show L'=L.take j ++ [(plo,hiv)] from by rw[E1,HP2.out,if_pos ⟨hLne,by rw[EPL.out.2];exact hto⟩,EPL.out.1]);clear hrl hto HP2 E1 hpw hple hplt;gi_upto_region 7 with fail
      refine z2a (by kernel_rfl) (by rintro⟨_,_,h⟩;exact h) (by kernel_rfl) (Only (fun _=>False) w1) (Only.refl _ w1).drew (fun hS=>?_);generalize w1.drew=wq at hS ⊢
      refine tkd (i:=0) (d:=some 23) (v:=(.int .i64 r)) (hy:=.inl ⟨by rfl,?_⟩) (h:=?_)
      ·intro X hX;go_simp
      refine tkd (i:=1) (d:=some 24) (v:=(.bool true)) (hy:=.inl ⟨by rfl,?_⟩) (h:=?_)
      ·intro X hX;go_simp
      refine tkd (i:=2) (d:=some 25) (v:=(.bool true)) (hy:=.inl ⟨by rfl,?_⟩) (h:=?_)
      ·intro X hX;go_simp
      refine tkd (i:=3) (d:=some 26) (v:=(.slice (some ⟨gq,0,none⟩) m cq)) (hy:=.inl ⟨by rfl,?_⟩) (h:=?_)
      ·intro X hX;have x1:=hX.cell (fun e=>e) v1;have x2:=hX.cell (fun e=>e) p0;have x3:=hX.cell (fun e=>e) p1;have x4:=hX.cell (fun e=>e) e0;have x5:=hX.cell (fun e=>e) e1;go_simp
      refine tkd (i:=4) (d:=some 27) (v:=(.int .i64 r)) (hy:=.inl ⟨by rfl,?_⟩) (h:=?_)
      ·intro X hX;go_simp
      refine tkd (i:=5) (d:=some 28) (v:=(.pointer (some ⟨gq,j * 2,none⟩))) (hy:=.inl ⟨by rfl,?_⟩) (h:=?_)
      ·intro X hX;go_simp
      refine tkd (i:=6) (d:=some 29) (v:=(.agg #[.int .u64 plo,.int .u64 phi])) (hy:=.inl ⟨by rfl,?_⟩) (h:=?_)
      ·intro X hX;have x1:=hX.cell (fun e=>e) v1;have x2:=hX.cell (fun e=>e) p0;have x3:=hX.cell (fun e=>e) p1;have x4:=hX.cell (fun e=>e) e0;have x5:=hX.cell (fun e=>e) e1;go_simp
      refine tkd (i:=7) (d:=some 30) (v:=(.agg #[.int .u64 lo,.int .u64 hiv])) (hy:=.inl ⟨by rfl,?_⟩) (h:=?_)
      ·intro X hX;have x1:=hX.cell (fun e=>e) v1;have x2:=hX.cell (fun e=>e) p0;have x3:=hX.cell (fun e=>e) p1;have x4:=hX.cell (fun e=>e) e0;have x5:=hX.cell (fun e=>e) e1;go_simp
      refine wpAnyH_ready (rs:=[8]) (by kernel_rfl) (by simp) ?_;refine AllReadyH.cons (o:=_) rfl (fun K hK=>?_) AllReadyH.nil;go_simp
      refine(KR.out _).mono ?_;rintro e wr ⟨rfl,hbr⟩;have hS:=hS.call hbr;clear hbr;go_simp
      refine hK.out _ _ hS (fun _=>?_);clear hK K;refine tkd (i:=9) (d:=some 32) (v:=(.bool true)) (hy:=.inl ⟨by rfl,?_⟩) (h:=?_)
      ·intro X hX;go_simp
      refine tkd (i:=10) (d:=some 33) (v:=(.bool true)) (hy:=.inl ⟨by rfl,?_⟩) (h:=?_)
      ·intro X hX;go_simp
      refine wpAnyH_done (by kernel_rfl) ?_ _;have v2:=hS.cell (fun h=>h) v1;have p2:=hS.cell (fun h=>h) p0;have p3:=hS.cell (fun h=>h) p1;have e3:=hS.cell (fun h=>h) e1;have gql2:gq<wr.heap.size:=by have:=hS.size;omega
      have e4:wr.frozen? ⟨gq,j * 2+1,none⟩=false:=(z1g HROW.out hS (fun _ h=>h.elim)).frozenAt _;have HS:=z7 hS;clear hS;gi_wp2
      have hst:=(z1g HROW.out HS.out (fun _ h=>h.elim)).stored (j * 2+1) (.int .u64 hiv);have ho:=HB1.out.trans (HS.out.wide (fun _ h=>h.elim));have ho2:=ho.setCell (p:=⟨gq,j * 2+1,none⟩) (.inl (.inr gqD)) (.int .u64 hiv);have hot:Only (fun b=>b=gq) w1 (wr.setCell ⟨gq,j * 2+1,none⟩ (.int .u64 hiv)):=(HS.out.wide (may':=fun b=>b=gq) (fun _ h=>h.elim)).setCell (p:=⟨gq,j * 2+1,none⟩) (.inl rfl) _;refine⟨ho2,?_⟩;show OutM w g (V.heap.size+2) (mrg zs ys N tk (k+1)) _
      rw[← EL'.out,E2.out];have hTl:(L.take j).length=j:=by rw[List.length_take,EM.out,HJ.out];omega
      have hLd:L=L.take j ++ [(plo,phi)]:=by
       have:=take_last hLne;rw[EM.out,show m-1=j from by rw[HJ.out];rfl,EPL.out.1,EPL.out.2]at this;exact this
      refine⟨hot.obj (fun h=>by omega) HTo.out,⟨_,hot.obj (fun h=>by omega) HVo.out,?_,fun z hz=>?_⟩,HBo.out.trans (hot.below (n:=w.heap.size) HBo.out.size (fun q hq=>by omega))⟩
      ·have:=hst.1
       rw[hLd]at this;have e9:=cellsL_last (L.take j) plo phi hiv;rw[hTl]at e9;rw[e9]at this;have e10:(L.take j ++ [(plo,hiv)]).length=m:=by rw[List.length_append,hTl,HJ.out];rfl
       rw[e10];exact this
      ·rcases List.mem_append.1 hz with hz | hz
       ·exact HWD.out z (List.mem_of_mem_take hz)
       ·obtain rfl:z=(plo,hiv):=by simpa using hz
        exact⟨(HWD.out (plo,phi) (by rw[hLd];simp)).1,whi⟩
     ·have hrl:relI plo phi lo hiv=0:=by unfold relI;rw[if_pos hplt,if_neg (by omega)]
      rw[hrl]at KR;have E2:=z7 (show L'=L ++ [(lo,hiv)] from by rw[E1,HP2.out,if_neg (fun q=>hto (by rw[← EPL.out.2];exact q.2))]);clear hrl hto HP2 E1 hpw hple hplt HROW e2 HJ;gi_upto_region 7 with fail
      refine z2a (by kernel_rfl) (by rintro⟨_,_,h⟩;exact h) (by kernel_rfl) (Only (fun _=>False) w1) (Only.refl _ w1).drew (fun hS=>?_);generalize w1.drew=wq at hS ⊢
      refine tkd (i:=0) (d:=some 23) (v:=(.int .i64 r)) (hy:=.inl ⟨by rfl,?_⟩) (h:=?_)
      ·intro X hX;go_simp
      refine tkd (i:=1) (d:=some 24) (v:=(.bool true)) (hy:=.inl ⟨by rfl,?_⟩) (h:=?_)
      ·intro X hX;go_simp
      refine tkd (i:=2) (d:=some 25) (v:=(.bool true)) (hy:=.inl ⟨by rfl,?_⟩) (h:=?_)
      ·intro X hX;go_simp
      refine tkd (i:=3) (d:=some 26) (v:=(.slice (some ⟨gq,0,none⟩) m cq)) (hy:=.inl ⟨by rfl,?_⟩) (h:=?_)
      ·intro X hX;have x1:=hX.cell (fun e=>e) v1;have x2:=hX.cell (fun e=>e) p0;have x3:=hX.cell (fun e=>e) p1;have x4:=hX.cell (fun e=>e) e0;have x5:=hX.cell (fun e=>e) e1;go_simp
      refine tkd (i:=4) (d:=some 27) (v:=(.int .i64 r)) (hy:=.inl ⟨by rfl,?_⟩) (h:=?_)
      ·intro X hX;go_simp
      refine tkd (i:=5) (d:=some 28) (v:=(.pointer (some ⟨gq,j * 2,none⟩))) (hy:=.inl ⟨by rfl,?_⟩) (h:=?_)
      ·intro X hX;go_simp
      refine tkd (i:=6) (d:=some 29) (v:=(.agg #[.int .u64 plo,.int .u64 phi])) (hy:=.inl ⟨by rfl,?_⟩) (h:=?_)
      ·intro X hX;have x1:=hX.cell (fun e=>e) v1;have x2:=hX.cell (fun e=>e) p0;have x3:=hX.cell (fun e=>e) p1;have x4:=hX.cell (fun e=>e) e0;have x5:=hX.cell (fun e=>e) e1;go_simp
      refine tkd (i:=7) (d:=some 30) (v:=(.agg #[.int .u64 lo,.int .u64 hiv])) (hy:=.inl ⟨by rfl,?_⟩) (h:=?_)
      ·intro X hX;have x1:=hX.cell (fun e=>e) v1;have x2:=hX.cell (fun e=>e) p0;have x3:=hX.cell (fun e=>e) p1;have x4:=hX.cell (fun e=>e) e0;have x5:=hX.cell (fun e=>e) e1;go_simp
      refine wpAnyH_ready (rs:=[8]) (by kernel_rfl) (by simp) ?_;refine AllReadyH.cons (o:=_) rfl (fun K hK=>?_) AllReadyH.nil;go_simp
      refine(KR.out _).mono ?_;rintro e wr ⟨rfl,hbr⟩;have hS:=hS.call hbr;clear hbr;go_simp
      refine hK.out _ _ hS (fun _=>?_);clear hK K;refine tkd (i:=9) (d:=some 32) (v:=(.bool false)) (hy:=.inl ⟨by rfl,?_⟩) (h:=?_)
      ·intro X hX;go_simp
      refine tkd (i:=10) (d:=some 33) (v:=(.bool false)) (hy:=.inl ⟨by rfl,?_⟩) (h:=?_)
      ·intro X hX;go_simp
      refine wpAnyH_done (by kernel_rfl) ?_ _;have v2:=hS.cell (fun h=>h) v1;have p2:=hS.cell (fun h=>h) p0;have p3:=hS.cell (fun h=>h) p1;have HOr:=z7 (HO1.out.only hS (fun _ h=>h.elim));have HVr:=z7 (hS.obj (fun h=>h) HVo.out);have HTr:=z7 (hS.obj (fun h=>h) HTo.out);have HBr:=z7 (HBo.out.trans (hS.below (n:=w.heap.size) HBo.out.size (fun _ h=>h.elim)));have HWr:=z7 (HB1.out.trans (hS.wide (fun _ h=>h.elim)));have sz3:V.heap.size+2≤wr.heap.size:=by have:=hS.size;omega
      have sz4:w.heap.size+1<wr.heap.size:=by have:=hS.size;omega
      have hrow2:wr.ownsRow (V.heap.size+2) 123 2 (.slice (some ⟨gq,0,none⟩) m cq) m (cellsL L):=by have:=HOr.out.row;rw[EM.out]at this;exact this
      clear hS;gi_wp2_with (gi_at_builtin;refine wpListIn_append_own_at _ rfl _ _ 56 rfl (V.heap.size+2) 123 i0 (.agg #[.int .u64 0,.int .u64 0]) 2 16 Tryz.underlying56 hi hz0 hz1 hz2 rfl (by decide) _ _ _ rfl (z1g hrow2 ((Only.refl (fun _=>False) wr).alloc _) (fun k h=>h.elim)) ⟨wr.heap.size,0,none⟩ 1 1 [.int .u64 lo,.int .u64 hiv] rfl rfl (cell_two_new _ _ _ _) (two_one _ _) (by unfold maxLen;omega) (by omega) (by simp;omega) ?_;intro v' w2 hown' hgrow _ _;obtain⟨g',cap',rfl⟩:=ownsRow_succ hown';have hv1:=z3b hgrow (by simp;omega) (fun e=>by have:=hDq _ e.symm;omega) (zk wr (.cells #[.int .u64 lo,.int .u64 hiv] 123) (zh HVr.out) HVr.out);have y0:w2.cell? ⟨w.heap.size+1,0,none⟩=some (.slice (some ⟨gq,0,none⟩) m cq):=(by simp[World.cell?,hv1]);have y1:w2.frozen? ⟨w.heap.size+1,0,none⟩=false:=frozen_of_row w2 _ 0 _ _ hv1)
      have o1:Only (fun b=>b=w.heap.size+1∨V.heap.size+2≤b) wr w2:=((Only.refl _ wr).alloc (.cells #[.int .u64 lo,.int .u64 hiv] 123)).grown hgrow (fun g hg=>.inr (hDq g hg));have o1t:Only (fun b=>V.heap.size+2≤b) wr w2:=((Only.refl _ wr).alloc (.cells #[.int .u64 lo,.int .u64 hiv] 123)).grown hgrow (fun g hg=>hDq g hg);have o2:=o1.setCell (p:=⟨w.heap.size+1,0,none⟩) (.inl (.inl rfl)) (.slice (some ⟨g',0,none⟩) (m+1) cap');refine⟨HWr.out.trans o2,?_⟩;show OutM w g (V.heap.size+2) (mrg zs ys N tk (k+1)) _
      rw[← EL'.out,E2.out];have o3:Only (fun b=>b=w.heap.size+1) w2 (w2.setCell ⟨w.heap.size+1,0,none⟩ (.slice (some ⟨g',0,none⟩) (m+1) cap')):=(Only.refl (fun b=>b=w.heap.size+1) w2).setCell (p:=⟨w.heap.size+1,0,none⟩) (.inl rfl) _;refine⟨o3.obj (fun h=>by omega) (o1t.obj (fun h=>by omega) HTr.out),⟨_,heap_setCell_same _ _ 0 _ _ _ hv1,z1g ?_ o3 (fun q hq=>by omega),fun z hz=>?_⟩,HBr.out.trans (o2.below (n:=w.heap.size) HBr.out.size (fun q hq=>by omega))⟩
      ·rw[← z4l,List.length_append,EM.out]
       exact hown'
      ·rcases List.mem_append.1 hz with hz | hz
       ·exact HWD.out z hz
       ·obtain rfl:z=(lo,hiv):=by simpa using hz
        exact⟨wlo,whi⟩
 case done=>
  rintro D W hD ⟨h0,⟨v,hv,hO⟩,hbl⟩ hK;have v0:W.cell? ⟨w.heap.size+1,0,none⟩=some v:=by simp[World.cell?,hv]
  gi_wp2
  refine⟨by simp,.inl ⟨_,_,rfl,run_takeDeferred hK,?_⟩⟩;have oD:=Only.putObj (may:=fun x=>x=D) W D (.deferred none) rfl;have nD:∀q,v.ownBlock=some q→¬q=D:=fun q hq e=>by
   obtain⟨cs,hc⟩:=zj hO.row hq;rw[e,hK]at hc
   cases hc
  refine⟨_,results_tmp rfl _ _ _,v,rfl,⟨z1b (zo hO.row oD nD) (by omega),hO.words⟩,hbl.trans (oD.below (n:=w.heap.size) hbl.size (fun k (hk:k=D)=>by omega))⟩
end Go.Proofs.YtbkkolfpegplgaaGreatDoor
namespace Go.Proofs.YtbkkolfpegplgaaGreatDoor
open Go Go.RowKit
def RgAt (w:World) (v:Value) (zs:List Iv):Prop:=∃a cap,v=.slice a zs.length cap∧Prs w a zs.length zs∧zs.length≤cap
theorem RgAt.below{w w':World}{v:Value}{zs:List Iv}(h:RgAt w v zs)(hb:Below w.heap.size w w'):RgAt w' v zs:=by
 obtain⟨a,cap,h1,h2,h3⟩:=h;exact⟨a,cap,h1,h2.below hb,h3⟩
theorem OwnL.rg{w:World}{base:Nat}{t:TypeId}{v:Value}{zs:List Iv}(h:OwnL w base t v zs):RgAt w v zs:=by
 obtain⟨a,cap,h1,h2,h3,_⟩:=h.prs;exact⟨a,cap,h1,h2,h3⟩
theorem RgAt.nil(w:World):RgAt w (.slice none 0 0) []:=⟨none,0,rfl,⟨rfl,by decide,by simp,fun i hi=>absurd hi (by simp)⟩,Nat.le_refl _⟩
theorem RgAt.words{w:World}{v:Value}{zs:List Iv}(h:RgAt w v zs):∀z∈zs,Word z.1∧Word z.2:=by
 obtain⟨a,cap,h1,h2,h3⟩:=h;exact h2.words
theorem z20{zs:List Iv}(h:∀z∈zs,Word z.1∧Word z.2){x:Int}(hx:InL zs x):0≤x∧x<18446744073709551616:=by
 obtain⟨z,hz,h1,h2⟩:=hx;have:=(h z hz).1.1;have:=(h z hz).2.2;omega
structure SetR (w:World) (tk:Bool→Bool→Bool) (zs ys:List Iv) (e:Ending) (w':World):Prop where
 res:∃v out,e=.returned v∧OwnL w' w.heap.size 123 v out∧Cor out∧(∀x,InL out x↔0≤x∧x<18446744073709551616∧tk (decide (InL zs x)) (decide (InL ys x))=true)∧out.length≤zs.length+ys.length
 bl:Below w.heap.size w w'
theorem merge_set(g:FuncId)(tk:Bool→Bool→Bool)(ht:tk=tkU∨tk=tkM∨tk=tkD)(hg:Takes g tk)(va vb:Value)(zs ys:List Iv)(w:World)(ha:RgAt w va zs)(hb:RgAt w vb ys)(hCa:Cor zs)(hCb:Cor ys)(hm:zs.length+ys.length≤100000000) :
  Calls Tryz.prog 134 #[va,vb,.func (.func g) #[] #[]] w fun e w'=>SetR w tk zs ys e w':=by
 obtain⟨a,cap,rfl,hPa,hca⟩:=ha;obtain⟨b,cap',rfl,hPb,hcb⟩:=hb;have hnz:=z1d hCa (m:=Lo zs 0) (.inr (Int.le_refl _));have hny:=z1d hCb (m:=Lo ys 0) (.inr (Int.le_refl _));obtain⟨N,hN⟩:=pieces_some hnz hny hPa.words hPb.words;obtain⟨h1,h2,h3⟩:=mrg_all hnz hny hPa.words hPb.words hN tk;have hl:=op_len tk ht h1 (fun x hx=>(z20 hPa.words hx).1) (fun x hx=>(z20 hPb.words hx).1) h3;refine(merge_any g tk hg a b cap cap' zs ys N w hPa hPb hca hcb hCa hCb hN (by have:=hN.most;omega)).mono ?_;rintro e w' ⟨v,rfl,hO,hbl⟩;exact⟨⟨v,_,rfl,hO,h1,h3,hl⟩,hbl⟩
theorem union_any(va vb:Value)(zs ys:List Iv)(w:World)(ha:RgAt w va zs)(hb:RgAt w vb ys)(hCa:Cor zs)(hCb:Cor ys)(hm:zs.length+ys.length≤100000000) :
  Calls Tryz.prog 81 #[va,vb] w fun e w'=>SetR w tkU zs ys e w':=by
 have K:=z7 (merge_set 135 tkU (.inl rfl) takesU va vb zs ys w ha hb hCa hCb hm);clear ha hb hCa hCb hm;go_enter Tryz.func81,Tryz.ntmps81
 go_wp2_with fail
 refine K.out.mono ?_;rintro e w' ⟨⟨v,out,rfl,h⟩,hb⟩;have H:=z7 h;go_wp2
 go_ret
 exact⟨⟨v,out,rfl,H.out⟩,hb⟩
theorem minus_any(va vb:Value)(zs ys:List Iv)(w:World)(ha:RgAt w va zs)(hb:RgAt w vb ys)(hCa:Cor zs)(hCb:Cor ys)(hm:zs.length+ys.length≤100000000) :
  Calls Tryz.prog 169 #[va,vb] w fun e w'=>SetR w tkD zs ys e w':=by
 have K:=z7 (merge_set 224 tkD (.inr (.inr rfl)) takesD va vb zs ys w ha hb hCa hCb hm);clear ha hb hCa hCb hm;go_enter Tryz.func169,Tryz.ntmps169
 go_wp2_with fail
 refine K.out.mono ?_;rintro e w' ⟨⟨v,out,rfl,h⟩,hb⟩;have H:=z7 h;go_wp2
 go_ret
 exact⟨⟨v,out,rfl,H.out⟩,hb⟩
theorem prs_one{w:World}{b:Nat}{lo hi:Int}(h1:Word lo)(h2:Word hi)(h:w.heap[b]?=some (.cells #[.int .u64 lo,.int .u64 hi] 123 (0,0))):Prs w (some ⟨b,0,none⟩) 1 [(lo,hi)]:=
 ⟨rfl,by decide,fun z hz=>by obtain rfl:z=(lo,hi):=by simpa using hz
                             exact⟨h1,h2⟩,fun i hi'=>by
  obtain rfl:i=0:=by omega
  exact⟨b,0,rfl,zh h,by simp[World.cell?,h,Lo],by simp[World.cell?,h,Hi]⟩⟩
theorem cor_one{lo hi:Int}(h:lo≤hi):Cor [(lo,hi)]:=z1v (m:=lo) ⟨Int.le_refl _,h,trivial⟩
theorem not_any(va:Value)(zs:List Iv)(lo hi:Int)(w:World)(ha:RgAt w va zs)(hCa:Cor zs)(h1:Word lo)(h2:Word hi)(hle:lo≤hi)(hm:zs.length≤10000000) :
  Calls Tryz.prog 176 #[va,.agg #[.int .u64 lo,.int .u64 hi]] w fun e w'=>∃v out,e=.returned v∧OwnL w' w.heap.size 123 v out∧Cor out∧(∀x,InL out x↔lo≤x∧x≤hi∧¬InL zs x)∧out.length≤zs.length+1∧Below w.heap.size w w':=by
 have K:=z7 (fun(b:Nat) (W:World) (hb:Below w.heap.size w W) (hW:W.heap[b]?=some (.cells #[.int .u64 lo,.int .u64 hi] 123 (0,0)))=>minus_any (.slice (some ⟨b,0,none⟩) 1 1) va [(lo,hi)] zs W ⟨_,_,rfl,prs_one h1 h2 hW,Nat.le_refl _⟩ (ha.below hb) (cor_one hle) hCa (by simp;omega));have H1:=z7 h1;have H2:=z7 h2;clear ha hCa hm h1 h2;go_enter Tryz.func176,Tryz.ntmps176
 go_wp2_with fail
 refine(K.out (w.heap.size+1) _ (zc (zc (Below.refl _ _) _) _) (ze _ _ (by simp))).mono ?_;rintro e w' ⟨⟨v,out,rfl,hO,hc,hin,hl⟩,hb⟩;have HO:=z7 hO;have HC:=z7 hc;have HIN:=z7 hin;have HL:=z7 hl;have HB:=z7 (zf (zc (zc (Below.refl w.heap.size w) (.cells #[.int .u64 lo,.int .u64 hi] 123)) (.cells #[.int .u64 lo,.int .u64 hi] 123)) hb);clear hO hc hin hl hb;go_wp2
 go_ret
 refine⟨v,out,rfl,⟨z1b HO.out.row (by simp<;>omega),HO.out.words⟩,HC.out,fun x=>?_,by have:=HL.out;simp at this;omega,HB.out⟩;have hz0:=H1.out.1;have hz1:=H2.out.2;rw[HIN.out];simp only[tkD,Bool.and_eq_true,decide_eq_true_eq,Bool.not_eq_true',decide_eq_false_iff_not,z1l];constructor
 ·rintro⟨_,_,⟨a,b⟩,c⟩;exact⟨a,b,c⟩
 ·rintro⟨a,b,c⟩;exact⟨by omega,by omega,⟨a,b⟩,c⟩
end Go.Proofs.YtbkkolfpegplgaaGreatDoor
