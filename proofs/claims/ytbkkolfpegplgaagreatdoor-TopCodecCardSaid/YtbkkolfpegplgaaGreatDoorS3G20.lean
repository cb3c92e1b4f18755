/- The iterator setops.pieces. -/
import Derived.Test.YtbkkolfpegplgaaGreatDoorS3G1
import Derived.Test.YtbkkolfpegplgaaGreatDoorS3G5
import Derived.Test.YtbkkolfpegplgaaGreatDoorS3G12
import Derived.Test.YtbkkolfpegplgaaGreatDoorS3G19
import Derived.RangeFuncBound
import Derived.OwnWalkIn
import Derived.TacticsInMore
import Derived.LoopNIn
import Derived.LoopIn
import Derived.Deep.RegionWith
import Derived.Sort.CutIn
import Derived.Deep.CutRange
import Derived.RegionIn
set_option maxHeartbeats 8000000
set_option maxRecDepth 100000
set_option linter.unusedVariables false
set_option linter.unusedSimpArgs false
namespace Go.Proofs.YtbkkolfpegplgaaGreatDoor
open Go Go.RowKit
attribute [local go_sem] Oper.semAt_some
theorem pieces_any(a b:Option Addr)(len cap len' cap':Nat)(w:World) :
  Calls Tryz.prog 193 #[.slice a len cap,.slice b len' cap'] w fun e w'=>e=.returned (.func (.func 233) #[] #[.pointer (some ⟨w.heap.size,0,none⟩),.pointer (some ⟨w.heap.size+1,0,none⟩)]) ∧
   w'=(w.alloc (.cells #[.slice a len cap] 56)).alloc (.cells #[.slice b len' cap'] 56):=by
 go_enter Tryz.func193,Tryz.ntmps193
 go_wp2
 go_ret
 exact⟨rfl,rfl⟩
def encPc (zs ys:List Iv) (N k:Nat):Array Value:=#[.agg #[.int .u64 (fr zs ys k),.int .u64 (pto zs ys N k)],.agg #[.bool (decide (InL zs (fr zs ys k))),.bool (decide (InL ys (fr zs ys k)))]]
def Lst (w:World) (B:Nat) (K:Nat→Prop) (zs:List Iv) (f:Int):Prop:=
 ∃(i:Nat) (a:Option Addr) (c:Nat),i≤zs.length∧w.heap[B]?=some (.cells #[.slice a (zs.length-i) c] 56 (0,0))∧Prs w a (zs.length-i) (zs.drop i)∧zs.length-i≤c∧(∀j,j<i→Hi zs j<f)∧(i<zs.length→∀ad,a=some ad→K ad.block)
theorem Lst.only{w w':World}{B:Nat}{K:Nat→Prop}{zs:List Iv}{f:Int}{may:Nat→Prop}(h:Lst w B K zs f)(ho:Only may w w')(hB:¬may B)(hK:∀k,K k→¬may k):Lst w' B K zs f:=by
 obtain⟨i,a,c,h1,h2,h3,h4,h5,h6⟩:=h;exact⟨i,a,c,h1,ho.obj hB h2,⟨h3.length,h3.most,h3.words,fun j hj=>by
  obtain⟨b,off,e,hb,c1,c2⟩:=h3.cells j hj;have:=hK b (h6 (by omega) _ e);exact⟨b,off,e,Nat.lt_of_lt_of_le hb ho.size,ho.cell this c1,ho.cell this c2⟩⟩,h4,h5,h6⟩
theorem Lst.rise{w:World}{B:Nat}{K:Nat→Prop}{zs:List Iv}{f f':Int}(h:Lst w B K zs f)(hf:f≤f'):Lst w B K zs f':=by
 obtain⟨i,a,c,h1,h2,h3,h4,h5,h6⟩:=h;exact⟨i,a,c,h1,h2,h3,h4,fun j hj=>by have:=h5 j hj;omega,h6⟩
def LstD (w:World) (B:Nat) (K:Nat→Prop) (zs:List Iv) (f:Int):Prop:=
 ∃(i:Nat) (a:Option Addr) (c:Nat),i≤zs.length∧w.heap[B]?=some (.cells #[.slice a (zs.length-i) c] 56 (0,0))∧Prs w a (zs.length-i) (zs.drop i)∧zs.length-i≤c∧(∀j,j<i→Hi zs j<f)∧(i<zs.length→∀ad,a=some ad→K ad.block)∧(i=zs.length∨f≤Hi zs i)
theorem LstD.lst{w:World}{B:Nat}{K:Nat→Prop}{zs:List Iv}{f:Int}(h:LstD w B K zs f):Lst w B K zs f:=by
 obtain⟨i,a,c,h1,h2,h3,h4,h5,h6,_⟩:=h;exact⟨i,a,c,h1,h2,h3,h4,h5,h6⟩
theorem LstD.only{w w':World}{B:Nat}{K:Nat→Prop}{zs:List Iv}{f:Int}{may:Nat→Prop}(h:LstD w B K zs f)(ho:Only may w w')(hB:¬may B)(hK:∀k,K k→¬may k):LstD w' B K zs f:=by
 obtain⟨i,a,c,h1,h2,h3,h4,h5,h6,h7⟩:=h;exact⟨i,a,c,h1,ho.obj hB h2,⟨h3.length,h3.most,h3.words,fun j hj=>by
  obtain⟨b,off,e,hb,c1,c2⟩:=h3.cells j hj;have:=hK b (h6 (by omega) _ e);exact⟨b,off,e,Nat.lt_of_lt_of_le hb ho.size,ho.cell this c1,ho.cell this c2⟩⟩,h4,h5,h6,h7⟩
theorem inL_none{zs:List Iv}{f:Int}(h:∀j,j<zs.length→Hi zs j<f):¬InL zs f:=fun hin=>by
 obtain⟨j,hj,a,b⟩:=z2l.1 hin;have:=h j hj;omega
theorem inL_first{zs:List Iv}{f:Int}{i:Nat}(hC:Cor zs)(hi:i<zs.length)(h:∀j,j<i→Hi zs j<f)(hf:f≤Hi zs i):InL zs f↔Lo zs i≤f:=by
 constructor
 ·intro hin
  obtain⟨j,hj,a,b⟩:=z2l.1 hin;rcases Nat.lt_trichotomy j i with g | g | g
  ·have:=h j g;omega
  ·subst g;exact a
  ·have:=z1f hC g hj;omega
 ·intro g
  exact z2l.2 ⟨i,hi,g,hf⟩
def lenC (o:Option Value):Nat:=match o with | some (.slice _ n _)=>n | _=>0
theorem prs_next{w:World}{a:Option Addr}{n cap:Nat}{zs:List Iv}(h:Prs w a n zs)(h0:0<n)(hc:n≤cap) :
  ∃a',(∀W:World,(Instr.sliceAt 56 (.slice a n cap) (some (.int .i64 1)) none none).run Tryz.prog W=.ok (.slice a' (n-1) (cap-1)) W)∧Prs w a' (n-1) (zs.drop 1)∧∀ad,a'=some ad→∃ad0,a=some ad0∧ad.block=ad0.block:=by
 have hl:=h.length;have hs:∀W:World,(sizeOf (Tryz.prog.elem 56)).run Tryz.prog W=.ok 2 W:=fun W=>by kernel_rfl
 have ht:Tryz.prog.underlying 56=some (.slice (Tryz.prog.elem 56)):=by kernel_rfl
 have key:∀W:World,(Instr.sliceAt 56 (.slice a n cap) (some (.int .i64 1)) none none).run Tryz.prog W=.ok (.slice (if cap=1 then a else a.map (·.add 2)) (n-1) (cap-1)) W:=fun W=>by
  rw[run_sliceAt_slice _ _ _ _ _ _ ht,run_slice_l W _ a n cap ht .i64 1 (by omega) (by omega),hs];rfl
 refine⟨_,key,?_,?_⟩
 ·by_cases g:cap=1
  ·rw[if_pos g]
   have:n-1=0:=by omega
   exact⟨by simp[hl],by have:=h.most;omega,fun z hz=>h.words z (List.mem_of_mem_drop hz),fun i hi=>absurd hi (by omega)⟩
  ·rw[if_neg g]
   refine⟨by simp[hl],by have:=h.most;omega,fun z hz=>h.words z (List.mem_of_mem_drop hz),fun i hi=>?_⟩;obtain⟨b,off,e,hb,c1,c2⟩:=h.cells (1+i) (by omega);have eg:(zs.drop 1).getD i (0,0)=zs.getD (1+i) (0,0):=by simp[List.getD,List.getElem?_drop,Nat.add_comm]
   subst e;refine⟨b,off+2,rfl,hb,?_,?_⟩
   ·unfold Lo;rw[eg,show off+2+i * 2=off+(1+i) * 2 by omega];exact c1
   ·unfold Hi;rw[eg,show off+2+i * 2+1=off+(1+i) * 2+1 by omega];exact c2
 ·intro ad e
  by_cases g:cap=1
  ·rw[if_pos g]at e;exact⟨ad,e,rfl⟩
  ·rw[if_neg g]at e
   cases a with
   | none=>cases e
   | some ad0=>simp at e;subst e;exact⟨ad0,rfl,rfl⟩
theorem pieces1_own(n:Nat)(hn:1≤n)(Ba Bb:Nat)(a b:Option Addr)(cap cap':Nat)(zs ys:List Iv)(N:Nat)(w0:World)(M:Nat→Prop)
  (hBa:w0.heap[Ba]?=some (.cells #[.slice a zs.length cap] 56 (0,0))) (hBb:w0.heap[Bb]?=some (.cells #[.slice b ys.length cap'] 56 (0,0))) (hab:Ba≠Bb) (hMa:¬M Ba) (hMb:¬M Bb)
  (ha:Prs w0 a zs.length zs) (hb:Prs w0 b ys.length ys) (hca:zs.length≤cap) (hcb:ys.length≤cap') (hA:0<zs.length→∀ad,a=some ad→ad.block<w0.heap.size∧¬M ad.block∧ad.block≠Ba∧ad.block≠Bb) (hB:0<ys.length→∀ad,b=some ad→ad.block<w0.heap.size∧¬M ad.block∧ad.block≠Ba∧ad.block≠Bb)
  (hCa:Cor zs) (hCb:Cor ys) (hN:Pieces zs ys N) :
  SeqOwn Fence.wide n Tryz.prog 233 #[.pointer (some ⟨Ba,0,none⟩),.pointer (some ⟨Bb,0,none⟩)] (encPc zs ys N) M (fun k=>k=Ba∨k=Bb) N w0:=by
 intro l J Jx W hW hl0 hl1 hJ hJx hY h0;have hmx:Tryz.prog.follows .mixedOrders=true:=by kernel_rfl
 have hz:=z1d hCa (m:=Lo zs 0) (.inr (Int.le_refl _));have hy:=z1d hCb (m:=Lo ys 0) (.inr (Int.le_refl _));obtain⟨K,eK⟩:∃K:Nat→Prop,K=(fun k=>¬M k∧k≠l∧k≠Ba∧k≠Bb):=⟨_,rfl⟩;have LA:=z7 (show Lst W Ba K zs 0 from⟨0,a,cap,Nat.zero_le _,(hW.block _ (zh hBa)).trans hBa,ha.below hW,hca,fun j hj=>absurd hj (by omega),fun q ad e=>by subst eK;obtain⟨h1,h2,h3,h4⟩:=hA q ad e;exact⟨h2,by omega,h3,h4⟩⟩);have LB:=z7 (show Lst W Bb K ys 0 from⟨0,b,cap',Nat.zero_le _,(hW.block _ (zh hBb)).trans hBb,hb.below hW,hcb,fun j hj=>absurd hj (by omega),fun q ad e=>by subst eK;obtain⟨h1,h2,h3,h4⟩:=hB q ad e;exact⟨h2,by omega,h3,h4⟩⟩);have HJ:=z7 hJ;have HJx:=z7 hJx;have HY:=z7 hY;have WZ:=z7 ha.words;have WY:=z7 hb.words;have HZ:=z7 hz;have HYN:=z7 hy;have HN:=z7 hN;have HCa:=z7 hCa;have HCb:=z7 hCb;have lBa:Ba<w0.heap.size:=zh hBa;have lBb:Bb<w0.heap.size:=zh hBb;have nla:Ba≠l:=by omega
 have nlb:Bb≠l:=by omega
 have KA:=z7 (show ∀k,K k→k≠Ba from fun k h=>by subst eK;exact h.2.2.1);have KB:=z7 (show ∀k,K k→k≠Bb from fun k h=>by subst eK;exact h.2.2.2);have KM:=z7 (show ∀k,K k→¬(M k∨k=l)from fun k h=>by subst eK;exact fun q=>q.elim h.1 h.2.1);clear hJ hJx hY hBa hBb ha hb hca hcb hA hB hz hy hCa hCb hN eK;refine callsIn_of_wp Tryz.func233 rfl trivial ?_ rfl;simp only[Tryz.ntmps233,List.size_toArray,List.length_cons,List.length_nil,Nat.reduceAdd,Nat.reduceSub,Array.replicate_succ,Array.replicate_zero,List.push_toArray,List.append_toArray,List.nil_append,List.cons_append];gi_wp2
 gi_loopw [4] (fun c wr=>∃k:Nat,k<N∧c=.int .u64 (fr zs ys k)∧J k wr∧Lst wr Ba K zs (fr zs ys k)∧Lst wr Bb K ys (fr zs ys k)∧W.heap.size≤wr.heap.size)
  (fun c _=>above (ends zs ++ ends ys) (intOf c))
 case atStart=>exact⟨0,HN.out.pos,rfl,h0,LA.out,LB.out,Nat.le_refl _⟩
 case round=>
  clear h0 LA LB;obtain⟨k,hk,rfl,hJk,hLa,hLb,hsz⟩:=hrel;have JK:=z7 hJk;have LA:=z7 hLa;have LB:=z7 hLb;clear hJk hLa hLb;obtain⟨f,ef⟩:∃f,f=fr zs ys k:=⟨_,rfl⟩;have EF:=z7 ef;rw[← ef]at LA LB ⊢;clear ef;gi_wp2
  gi_loopw [23] (fun _ wq=>J k wq∧Lst wq Ba K zs f∧Lst wq Bb K ys f∧W.heap.size≤wq.heap.size) (fun _ wq=>lenC (wq.cell? ⟨Ba,0,none⟩))
  case atStart=>exact⟨JK.out,LA.out,LB.out,by omega⟩
  case round=>
   clear JK LA LB;obtain⟨hJq,⟨i,a1,c1,hi,hbox,hP,hcp,hlow,hKa⟩,hLo,hsq⟩:=hrel;have JQ:=z7 hJq;have LO:=z7 hLo;have HP:=z7 hP;have HBX:=z7 hbox;have HKA:=z7 hKa;have HLOW:=z7 hlow;have bx0:wr.cell? ⟨Ba,0,none⟩=some (.slice a1 (zs.length-i) c1):=by simp[World.cell?,hbox]
   have bf0:wr.frozen? ⟨Ba,0,none⟩=false:=frozen_of_row _ _ 0 _ _ hbox;clear hJq hLo hP hbox hKa hlow;obtain⟨m,em⟩:∃m,zs.length-i=m:=⟨_,rfl⟩;rw[em]at hcp bx0 HP HBX;have EM:=z7 em;obtain⟨hv,ehv⟩:∃x,Hi zs i=x:=⟨_,rfl⟩;have EHV:=z7 ehv;clear em ehv;gi_upto_region 1 with fail
   refine wpIn_wide.2 ?_;go_cut [21] from 11 to 23 (fun s wx=>s=.bool (decide (0<m∧hv<f))∧wx=wr)
   case first=>
    by_cases g0:m=0
    ·have q0:¬(0:Int)<(m:Int):=by omega
     subst g0;go_wp2
     go_meet
     case rel=>exact⟨by simp,rfl⟩
    ·obtain⟨b',off,rfl,hbl,hc1,hc2⟩:=HP.out.cells 0 (by omega)
     have e1:Hi (zs.drop i) 0=hv:=by rw[← EHV.out];unfold Hi;simp[List.getD,List.getElem?_drop]
     rw[e1]at hc2;clear e1 hc1;have q0:(0:Int)<(m:Int):=by omega
     have q1:0<m:=by omega
     go_wp2
     go_meet
     case rel=>exact⟨by simp[q1],rfl⟩
   case rest=>
    obtain⟨rfl,rfl⟩:=hcut;by_cases g:0<m∧hv<f
    ·rw[decide_eq_true g]
     obtain⟨a2,hsl,hP2,hK2⟩:=prs_next HP.out g.1 hcp;have HP2:=z7 hP2;have HK2:=z7 hK2;clear hP2 hK2;gi_wp2
     go_roundw
     case rel=>
      have hO:Only (fun k=>k=Ba) wc (wc.setCell ⟨Ba,0,none⟩ (.slice a2 (m-1) (c1-1))):=(Only.refl (fun k=>k=Ba) wc).setCell (p:=⟨Ba,0,none⟩) (.inl rfl) _;have hLo:=LO.out.only hO (fun e=>hab e.symm) (fun k hk e=>KA.out k hk e);have hL:Lst (wc.setCell ⟨Ba,0,none⟩ (.slice a2 (m-1) (c1-1))) Ba K zs f:=by
       have hz2:zs.length-(i+1)=m-1:=by have:=EM.out;omega
       refine⟨i+1,a2,c1-1,by have:=EM.out;omega,by rw[hz2];exact heap_setCell_same _ _ 0 _ _ _ HBX.out,?_,by omega,fun j hj=>?_,fun _ ad e=>?_⟩
       ·rw[hz2,← List.drop_drop]
        refine z3o HP2.out hO fun ad e=>?_;obtain⟨ad0,e0,eb⟩:=HK2.out ad e;rw[eb];exact KA.out _ (HKA.out (by have:=EM.out;omega) ad0 e0)
       ·by_cases q:j=i
        ·subst q;rw[EHV.out];exact g.2
        ·exact HLOW.out j (by omega)
       ·obtain⟨ad0,e0,eb⟩:=HK2.out ad e
        rw[eb];exact HKA.out (by have:=EM.out;omega) ad0 e0
      (repeat apply Exists.intro)
      exact⟨HJ.out _ _ _ JQ.out (hO.wide fun k hk=>.inl hk),hL,hLo,by have:=hO.size;omega⟩
     case measure=>
      have hsc:(wc.setCell ⟨Ba,0,none⟩ (.slice a2 (m-1) (c1-1))).cell? ⟨Ba,0,none⟩=some (.slice a2 (m-1) (c1-1)):=by
       have:=heap_setCell_same _ _ 0 _ _ (.slice a2 (m-1) (c1-1)) HBX.out;simp[World.cell?,this]
      rw[hsc,bx0];show m-1<m
      omega
    ·rw[decide_eq_false g]
     have LX:=z7 (show LstD wc Ba K zs f from by
      refine⟨i,a1,c1,hi,by rw[EM.out];exact HBX.out,by rw[EM.out];exact HP.out,by rw[EM.out];exact hcp,HLOW.out,HKA.out,?_⟩;have:=EM.out;by_cases q:i=zs.length
      ·exact .inl q
      ·refine .inr ?_
       rw[EHV.out];by_cases q2:hv<f
       ·exact absurd ⟨by omega,q2⟩ g
       ·omega)
     clear HP HBX HKA HLOW bx0 bf0 EM EHV g hcp hi;have JK:=z7 JQ.out;have QX:=z7 LX.out;have QO:=z7 LO.out;clear LX LO JQ;have LA:=z7 QX.out;have LB:=z7 QO.out;clear QX QO;gi_wp2
     gi_loopw [36] (fun _ wq=>J k wq∧LstD wq Ba K zs f∧Lst wq Bb K ys f∧W.heap.size≤wq.heap.size) (fun _ wq=>lenC (wq.cell? ⟨Bb,0,none⟩))
     case atStart=>exact⟨JK.out,LA.out,LB.out,by omega⟩
     case round=>
      clear JK LA LB;obtain⟨hJq,hLo,⟨i,a1,c1,hi,hbox,hP,hcp,hlow,hKa⟩,hsq⟩:=hrel;have JQ:=z7 hJq;have LO:=z7 hLo;have HP:=z7 hP;have HBX:=z7 hbox;have HKA:=z7 hKa;have HLOW:=z7 hlow;have bx0:wr.cell? ⟨Bb,0,none⟩=some (.slice a1 (ys.length-i) c1):=by simp[World.cell?,hbox]
      have bf0:wr.frozen? ⟨Bb,0,none⟩=false:=frozen_of_row _ _ 0 _ _ hbox;clear hJq hLo hP hbox hKa hlow;obtain⟨m,em⟩:∃m,ys.length-i=m:=⟨_,rfl⟩;rw[em]at hcp bx0 HP HBX;have EM:=z7 em;obtain⟨hv,ehv⟩:∃x,Hi ys i=x:=⟨_,rfl⟩;have EHV:=z7 ehv;clear em ehv;gi_upto_region 3 with fail
      refine wpIn_wide.2 ?_;go_cut [34] from 24 to 36 (fun s wx=>s=.bool (decide (0<m∧hv<f))∧wx=wr)
      case first=>
       by_cases g0:m=0
       ·have q0:¬(0:Int)<(m:Int):=by omega
        subst g0;go_wp2
        go_meet
        case rel=>exact⟨by simp,rfl⟩
       ·obtain⟨b',off,rfl,hbl,hc1,hc2⟩:=HP.out.cells 0 (by omega)
        have e1:Hi (ys.drop i) 0=hv:=by rw[← EHV.out];unfold Hi;simp[List.getD,List.getElem?_drop]
        rw[e1]at hc2;clear e1 hc1;have q0:(0:Int)<(m:Int):=by omega
        have q1:0<m:=by omega
        go_wp2
        go_meet
        case rel=>exact⟨by simp[q1],rfl⟩
      case rest=>
       obtain⟨rfl,rfl⟩:=hcut;by_cases g:0<m∧hv<f
       ·rw[decide_eq_true g]
        obtain⟨a2,hsl,hP2,hK2⟩:=prs_next HP.out g.1 hcp;have HP2:=z7 hP2;have HK2:=z7 hK2;clear hP2 hK2;gi_wp2
        go_roundw
        case rel=>
         have hO:Only (fun k=>k=Bb) wc (wc.setCell ⟨Bb,0,none⟩ (.slice a2 (m-1) (c1-1))):=(Only.refl (fun k=>k=Bb) wc).setCell (p:=⟨Bb,0,none⟩) (.inl rfl) _;have hLo:=LO.out.only hO (fun e=>hab e) (fun k hk e=>KB.out k hk e);have hL:Lst (wc.setCell ⟨Bb,0,none⟩ (.slice a2 (m-1) (c1-1))) Bb K ys f:=by
          have hz2:ys.length-(i+1)=m-1:=by have:=EM.out;omega
          refine⟨i+1,a2,c1-1,by have:=EM.out;omega,by rw[hz2];exact heap_setCell_same _ _ 0 _ _ _ HBX.out,?_,by omega,fun j hj=>?_,fun _ ad e=>?_⟩
          ·rw[hz2,← List.drop_drop]
           refine z3o HP2.out hO fun ad e=>?_;obtain⟨ad0,e0,eb⟩:=HK2.out ad e;rw[eb];exact KB.out _ (HKA.out (by have:=EM.out;omega) ad0 e0)
          ·by_cases q:j=i
           ·subst q;rw[EHV.out];exact g.2
           ·exact HLOW.out j (by omega)
          ·obtain⟨ad0,e0,eb⟩:=HK2.out ad e
           rw[eb];exact HKA.out (by have:=EM.out;omega) ad0 e0
         (repeat apply Exists.intro)
         exact⟨HJ.out _ _ _ JQ.out (hO.wide fun k hk=>.inr hk),hLo,hL,by have:=hO.size;omega⟩
        case measure=>
         have hsc:(wc.setCell ⟨Bb,0,none⟩ (.slice a2 (m-1) (c1-1))).cell? ⟨Bb,0,none⟩=some (.slice a2 (m-1) (c1-1)):=by
          have:=heap_setCell_same _ _ 0 _ _ (.slice a2 (m-1) (c1-1)) HBX.out;simp[World.cell?,this]
         rw[hsc,bx0];show m-1<m
         omega
       ·rw[decide_eq_false g]
        have LX:=z7 (show LstD wc Bb K ys f from by
         refine⟨i,a1,c1,hi,by rw[EM.out];exact HBX.out,by rw[EM.out];exact HP.out,by rw[EM.out];exact hcp,HLOW.out,HKA.out,?_⟩;have:=EM.out;by_cases q:i=ys.length
         ·exact .inl q
         ·refine .inr ?_
          rw[EHV.out];by_cases q2:hv<f
          ·exact absurd ⟨by omega,q2⟩ g
          ·omega)
        clear HP HBX HKA HLOW bx0 bf0 EM EHV g hcp hi;have JK:=z7 JQ.out;have QX:=z7 LX.out;have QO:=z7 LO.out;clear LX LO JQ;have LB:=z7 QX.out;have LA:=z7 QO.out;clear QX QO;obtain⟨i,a1,c1,hi1,hb1,hP1,hc1,hl1,hK1,hd1⟩:=LA.out;obtain⟨j,a2,c2,hi2,hb2,hP2,hc2,hl2,hK2,hd2⟩:=LB.out;have bx1:wc.cell? ⟨Ba,0,none⟩=some (.slice a1 (zs.length-i) c1):=by simp[World.cell?,hb1]
        have bx2:wc.cell? ⟨Bb,0,none⟩=some (.slice a2 (ys.length-j) c2):=by simp[World.cell?,hb2]
        have NA:=z7 (show i=zs.length→¬InL zs f from fun e=>inL_none (by rw[← e];exact hl1));have NB:=z7 (show j=ys.length→¬InL ys f from fun e=>inL_none (by rw[← e];exact hl2));have FA:=z7 (show i<zs.length→(InL zs f↔Lo zs i≤f)from fun e=>inL_first HCa.out e hl1 (hd1.resolve_left (by omega)));have FB:=z7 (show j<ys.length→(InL ys f↔Lo ys j≤f)from fun e=>inL_first HCb.out e hl2 (hd2.resolve_left (by omega)));have SA:=z7 (show nextL (zs.drop i) f=nextL zs f from nextL_skip zs i f fun q hq=>⟨(HCa.out q (by omega)).1,hl1 q hq⟩);have SB:=z7 (show nextL (ys.drop j) f=nextL ys f from nextL_skip ys j f fun q hq=>⟨(HCb.out q (by omega)).1,hl2 q hq⟩);have HP1:=z7 hP1;have HP2:=z7 hP2;obtain⟨m1,em1⟩:∃m,zs.length-i=m:=⟨_,rfl⟩;obtain⟨m2,em2⟩:∃m,ys.length-j=m:=⟨_,rfl⟩;rw[em1]at bx1 HP1;rw[em2]at bx2 HP2;have KK1:=z7 hK1;have KK2:=z7 hK2;have MM:=z7 (And.intro em1 em2);have II:=z7 (And.intro hi1 hi2);clear hb1 hP1 hc1 hl1 hK1 hd1 hb2 hP2 hc2 hl2 hK2 hd2 em1 em2 hi1 hi2;gi_upto_region 5 with fail
        rename World=>wb
        refine wpIn_wide.2 ?_;go_cut [5] from 37 to 59 (fun s wx=>∃Bs,s=.pointer (some ⟨Bs,0,none⟩)∧wb.heap.size≤Bs∧wx.heap[Bs]?=some (.cells #[.bool (decide (InL zs f)),.bool (decide (InL ys f))] 215 (0,0))∧Only (fun _=>False) wb wx)
        case first=>
         by_cases ga:m1=0
         ·by_cases gb:m2=0
          ·have ea:decide (InL zs f)=false:=decide_eq_false (NA.out (by have:=MM.out.1;have:=II.out.1;omega))
           have qa:¬(0:Int)<(m1:Int):=by omega
           subst ga;have eb:decide (InL ys f)=false:=decide_eq_false (NB.out (by have:=MM.out.2;have:=II.out.2;omega));have qb:¬(0:Int)<(m2:Int):=by omega
           subst gb;have EA:=z7 ea;have EB:=z7 eb;clear ea eb NA NB FA FB SA SB MM II HP1 HP2 KK1 KK2;refine wp_region_held_drew (S:=Only (fun _=>False) wb) hmx (Only.refl _ _).drew (fun hS=>?_);generalize wb.drew=wq at hS ⊢
           refine tkd (i:=0) (d:=some 37) (v:=(.slice a1 0 c1)) (hy:=.inl ⟨by rfl,?_⟩) (h:=?_)
           ·intro X hX;have x1:=hX.cell (fun e=>e) bx1;have x2:=hX.cell (fun e=>e) bx2;go_simp
           refine tkd (i:=1) (d:=some 38) (v:=(.int .i64 0)) (hy:=.inl ⟨by rfl,?_⟩) (h:=?_)
           ·intro X hX;go_simp
           refine tkd (i:=2) (d:=some 39) (v:=(.bool false)) (hy:=.inl ⟨by rfl,?_⟩) (h:=?_)
           ·intro X hX;go_simp
           refine tkd (i:=3) (d:=some 40) (v:=(.bool false)) (hy:=.inl ⟨by rfl,?_⟩) (h:=?_)
           ·intro X hX;go_simp
           refine tkd (i:=4) (d:=some 41) (v:=undef) (hy:=.inr ⟨by rfl,rfl⟩) (h:=?_);refine tkd (i:=5) (d:=some 42) (v:=undef) (hy:=.inr ⟨by rfl,rfl⟩) (h:=?_);refine tkd (i:=6) (d:=some 43) (v:=undef) (hy:=.inr ⟨by rfl,rfl⟩) (h:=?_);refine tkd (i:=7) (d:=some 44) (v:=undef) (hy:=.inr ⟨by rfl,rfl⟩) (h:=?_);refine tkd (i:=8) (d:=some 45) (v:=undef) (hy:=.inr ⟨by rfl,rfl⟩) (h:=?_);refine tkd (i:=9) (d:=some 46) (v:=undef) (hy:=.inr ⟨by rfl,rfl⟩) (h:=?_);refine tkd (i:=10) (d:=some 47) (v:=(.bool false)) (hy:=.inl ⟨by rfl,?_⟩) (h:=?_)
           ·intro X hX;go_simp
           refine tkd (i:=11) (d:=some 48) (v:=(.slice a2 0 c2)) (hy:=.inl ⟨by rfl,?_⟩) (h:=?_)
           ·intro X hX;have x1:=hX.cell (fun e=>e) bx1;have x2:=hX.cell (fun e=>e) bx2;go_simp
           refine tkd (i:=12) (d:=some 49) (v:=(.int .i64 0)) (hy:=.inl ⟨by rfl,?_⟩) (h:=?_)
           ·intro X hX;go_simp
           refine tkd (i:=13) (d:=some 50) (v:=(.bool false)) (hy:=.inl ⟨by rfl,?_⟩) (h:=?_)
           ·intro X hX;go_simp
           refine tkd (i:=14) (d:=some 51) (v:=(.bool false)) (hy:=.inl ⟨by rfl,?_⟩) (h:=?_)
           ·intro X hX;go_simp
           refine tkd (i:=15) (d:=some 52) (v:=undef) (hy:=.inr ⟨by rfl,rfl⟩) (h:=?_);refine tkd (i:=16) (d:=some 53) (v:=undef) (hy:=.inr ⟨by rfl,rfl⟩) (h:=?_);refine tkd (i:=17) (d:=some 54) (v:=undef) (hy:=.inr ⟨by rfl,rfl⟩) (h:=?_);refine tkd (i:=18) (d:=some 55) (v:=undef) (hy:=.inr ⟨by rfl,rfl⟩) (h:=?_);refine tkd (i:=19) (d:=some 56) (v:=undef) (hy:=.inr ⟨by rfl,rfl⟩) (h:=?_);refine tkd (i:=20) (d:=some 57) (v:=undef) (hy:=.inr ⟨by rfl,rfl⟩) (h:=?_);refine tkd (i:=21) (d:=some 58) (v:=(.bool false)) (hy:=.inl ⟨by rfl,?_⟩) (h:=?_)
           ·intro X hX;go_simp
           refine tkd (i:=22) (d:=some 59) (v:=(.agg #[.bool false,.bool false])) (hy:=.inl ⟨by rfl,?_⟩) (h:=?_)
           ·intro X hX;go_simp
           refine wpAnyH_ready (rs:=[23]) (by kernel_rfl) (by simp) ?_;refine AllReadyH.cons (o:=_) rfl (fun K hK=>?_) AllReadyH.nil;go_simp
           refine hK.out _ _ (hS.alloc _) (fun hS2=>?_);clear hK K;refine wpAnyH_ready (rs:=[24]) (by kernel_rfl) (by simp) ?_;refine AllReadyH.cons (o:=_) rfl (fun K hK=>?_) AllReadyH.nil;go_simp
           refine hK.out _ _ (hS.alloc _) (fun hS3=>?_);clear hK K;refine wpAnyH_done (by kernel_rfl) ?_ _;go_wp2
           go_meet
           case rel=>exact⟨wq.heap.size,rfl,hS.size,by rw[EA.out,EB.out];exact ze _ _ rfl,hS.alloc _⟩
          ·have ea:decide (InL zs f)=false:=decide_eq_false (NA.out (by have:=MM.out.1;have:=II.out.1;omega))
           have qa:¬(0:Int)<(m1:Int):=by omega
           subst ga;obtain⟨bb,ob,hbb,hlb,hcb,_⟩:=HP2.out.cells 0 (by omega);subst hbb;have e1b:Lo (ys.drop j) 0=Lo ys j:=by unfold Lo;simp[List.getD,List.getElem?_drop]
           simp only[Nat.zero_mul,Nat.add_zero]at hcb;rw[e1b]at hcb;have eb:decide (InL ys f)=decide (Lo ys j≤f):=decide_eq_decide.2 (FB.out (by have:=MM.out.2;have:=II.out.2;omega));have qb:(0:Int)<(m2:Int):=by omega
           have rb:0<m2:=by omega
           obtain⟨lo2,elo2⟩:∃x,Lo ys j=x:=⟨_,rfl⟩;rw[elo2]at hcb eb;clear e1b elo2;have EA:=z7 ea;have EB:=z7 eb;clear ea eb NA NB FA FB SA SB MM II HP1 HP2 KK1 KK2;refine wp_region_held_drew (S:=Only (fun _=>False) wb) hmx (Only.refl _ _).drew (fun hS=>?_);generalize wb.drew=wq at hS ⊢
           refine tkd (i:=0) (d:=some 37) (v:=(.slice a1 0 c1)) (hy:=.inl ⟨by rfl,?_⟩) (h:=?_)
           ·intro X hX;have x1:=hX.cell (fun e=>e) bx1;have x2:=hX.cell (fun e=>e) bx2;have x4:=hX.cell (fun e=>e) hcb;go_simp
           refine tkd (i:=1) (d:=some 38) (v:=(.int .i64 0)) (hy:=.inl ⟨by rfl,?_⟩) (h:=?_)
           ·intro X hX;go_simp
           refine tkd (i:=2) (d:=some 39) (v:=(.bool false)) (hy:=.inl ⟨by rfl,?_⟩) (h:=?_)
           ·intro X hX;go_simp
           refine tkd (i:=3) (d:=some 40) (v:=(.bool false)) (hy:=.inl ⟨by rfl,?_⟩) (h:=?_)
           ·intro X hX;go_simp
           refine tkd (i:=4) (d:=some 41) (v:=undef) (hy:=.inr ⟨by rfl,rfl⟩) (h:=?_);refine tkd (i:=5) (d:=some 42) (v:=undef) (hy:=.inr ⟨by rfl,rfl⟩) (h:=?_);refine tkd (i:=6) (d:=some 43) (v:=undef) (hy:=.inr ⟨by rfl,rfl⟩) (h:=?_);refine tkd (i:=7) (d:=some 44) (v:=undef) (hy:=.inr ⟨by rfl,rfl⟩) (h:=?_);refine tkd (i:=8) (d:=some 45) (v:=undef) (hy:=.inr ⟨by rfl,rfl⟩) (h:=?_);refine tkd (i:=9) (d:=some 46) (v:=undef) (hy:=.inr ⟨by rfl,rfl⟩) (h:=?_);refine tkd (i:=10) (d:=some 47) (v:=(.bool false)) (hy:=.inl ⟨by rfl,?_⟩) (h:=?_)
           ·intro X hX;go_simp
           refine tkd (i:=11) (d:=some 48) (v:=(.slice (some ⟨bb,ob,none⟩) m2 c2)) (hy:=.inl ⟨by rfl,?_⟩) (h:=?_)
           ·intro X hX;have x1:=hX.cell (fun e=>e) bx1;have x2:=hX.cell (fun e=>e) bx2;have x4:=hX.cell (fun e=>e) hcb;go_simp
           refine tkd (i:=12) (d:=some 49) (v:=(.int .i64 (m2:Int))) (hy:=.inl ⟨by rfl,?_⟩) (h:=?_)
           ·intro X hX;go_simp
           refine tkd (i:=13) (d:=some 50) (v:=(.bool true)) (hy:=.inl ⟨by rfl,?_⟩) (h:=?_)
           ·intro X hX;go_simp
           refine tkd (i:=14) (d:=some 51) (v:=(.bool true)) (hy:=.inl ⟨by rfl,?_⟩) (h:=?_)
           ·intro X hX;go_simp
           refine tkd (i:=15) (d:=some 52) (v:=(.slice (some ⟨bb,ob,none⟩) m2 c2)) (hy:=.inl ⟨by rfl,?_⟩) (h:=?_)
           ·intro X hX;have x1:=hX.cell (fun e=>e) bx1;have x2:=hX.cell (fun e=>e) bx2;have x4:=hX.cell (fun e=>e) hcb;go_simp
           refine tkd (i:=16) (d:=some 53) (v:=(.pointer (some ⟨bb,ob,none⟩))) (hy:=.inl ⟨by rfl,?_⟩) (h:=?_)
           ·intro X hX;go_simp
           refine tkd (i:=17) (d:=some 54) (v:=(.pointer (some ⟨bb,ob,none⟩))) (hy:=.inl ⟨by rfl,?_⟩) (h:=?_)
           ·intro X hX;go_simp
           refine tkd (i:=18) (d:=some 55) (v:=(.int .u64 lo2)) (hy:=.inl ⟨by rfl,?_⟩) (h:=?_)
           ·intro X hX;have x1:=hX.cell (fun e=>e) bx1;have x2:=hX.cell (fun e=>e) bx2;have x4:=hX.cell (fun e=>e) hcb;go_simp
           refine tkd (i:=19) (d:=some 56) (v:=(.int .u64 f)) (hy:=.inl ⟨by rfl,?_⟩) (h:=?_)
           ·intro X hX;go_simp
           refine tkd (i:=20) (d:=some 57) (v:=(.bool (decide (lo2≤f)))) (hy:=.inl ⟨by rfl,?_⟩) (h:=?_)
           ·intro X hX;go_simp
           refine tkd (i:=21) (d:=some 58) (v:=(.bool (decide (lo2≤f)))) (hy:=.inl ⟨by rfl,?_⟩) (h:=?_)
           ·intro X hX;go_simp
           refine tkd (i:=22) (d:=some 59) (v:=(.agg #[.bool false,.bool (decide (lo2≤f))])) (hy:=.inl ⟨by rfl,?_⟩) (h:=?_)
           ·intro X hX;go_simp
           refine wpAnyH_ready (rs:=[23]) (by kernel_rfl) (by simp) ?_;refine AllReadyH.cons (o:=_) rfl (fun K hK=>?_) AllReadyH.nil;go_simp
           refine hK.out _ _ (hS.alloc _) (fun hS2=>?_);clear hK K;refine wpAnyH_ready (rs:=[24]) (by kernel_rfl) (by simp) ?_;refine AllReadyH.cons (o:=_) rfl (fun K hK=>?_) AllReadyH.nil;go_simp
           refine hK.out _ _ (hS.alloc _) (fun hS3=>?_);clear hK K;refine wpAnyH_done (by kernel_rfl) ?_ _;go_wp2
           go_meet
           case rel=>exact⟨wq.heap.size,rfl,hS.size,by rw[EA.out,EB.out];exact ze _ _ rfl,hS.alloc _⟩
         ·by_cases gb:m2=0
          ·obtain⟨ba,oa,hba,hla,hca,_⟩:=HP1.out.cells 0 (by omega)
           subst hba;have e1a:Lo (zs.drop i) 0=Lo zs i:=by unfold Lo;simp[List.getD,List.getElem?_drop]
           simp only[Nat.zero_mul,Nat.add_zero]at hca;rw[e1a]at hca;have ea:decide (InL zs f)=decide (Lo zs i≤f):=decide_eq_decide.2 (FA.out (by have:=MM.out.1;have:=II.out.1;omega));have qa:(0:Int)<(m1:Int):=by omega
           have ra:0<m1:=by omega
           obtain⟨lo1,elo1⟩:∃x,Lo zs i=x:=⟨_,rfl⟩;rw[elo1]at hca ea;clear e1a elo1;have eb:decide (InL ys f)=false:=decide_eq_false (NB.out (by have:=MM.out.2;have:=II.out.2;omega));have qb:¬(0:Int)<(m2:Int):=by omega
           subst gb;have EA:=z7 ea;have EB:=z7 eb;clear ea eb NA NB FA FB SA SB MM II HP1 HP2 KK1 KK2;refine wp_region_held_drew (S:=Only (fun _=>False) wb) hmx (Only.refl _ _).drew (fun hS=>?_);generalize wb.drew=wq at hS ⊢
           refine tkd (i:=0) (d:=some 37) (v:=(.slice (some ⟨ba,oa,none⟩) m1 c1)) (hy:=.inl ⟨by rfl,?_⟩) (h:=?_)
           ·intro X hX;have x1:=hX.cell (fun e=>e) bx1;have x2:=hX.cell (fun e=>e) bx2;have x3:=hX.cell (fun e=>e) hca;go_simp
           refine tkd (i:=1) (d:=some 38) (v:=(.int .i64 (m1:Int))) (hy:=.inl ⟨by rfl,?_⟩) (h:=?_)
           ·intro X hX;go_simp
           refine tkd (i:=2) (d:=some 39) (v:=(.bool true)) (hy:=.inl ⟨by rfl,?_⟩) (h:=?_)
           ·intro X hX;go_simp
           refine tkd (i:=3) (d:=some 40) (v:=(.bool true)) (hy:=.inl ⟨by rfl,?_⟩) (h:=?_)
           ·intro X hX;go_simp
           refine tkd (i:=4) (d:=some 41) (v:=(.slice (some ⟨ba,oa,none⟩) m1 c1)) (hy:=.inl ⟨by rfl,?_⟩) (h:=?_)
           ·intro X hX;have x1:=hX.cell (fun e=>e) bx1;have x2:=hX.cell (fun e=>e) bx2;have x3:=hX.cell (fun e=>e) hca;go_simp
           refine tkd (i:=5) (d:=some 42) (v:=(.pointer (some ⟨ba,oa,none⟩))) (hy:=.inl ⟨by rfl,?_⟩) (h:=?_)
           ·intro X hX;go_simp
           refine tkd (i:=6) (d:=some 43) (v:=(.pointer (some ⟨ba,oa,none⟩))) (hy:=.inl ⟨by rfl,?_⟩) (h:=?_)
           ·intro X hX;go_simp
           refine tkd (i:=7) (d:=some 44) (v:=(.int .u64 lo1)) (hy:=.inl ⟨by rfl,?_⟩) (h:=?_)
           ·intro X hX;have x1:=hX.cell (fun e=>e) bx1;have x2:=hX.cell (fun e=>e) bx2;have x3:=hX.cell (fun e=>e) hca;go_simp
           refine tkd (i:=8) (d:=some 45) (v:=(.int .u64 f)) (hy:=.inl ⟨by rfl,?_⟩) (h:=?_)
           ·intro X hX;go_simp
           refine tkd (i:=9) (d:=some 46) (v:=(.bool (decide (lo1≤f)))) (hy:=.inl ⟨by rfl,?_⟩) (h:=?_)
           ·intro X hX;go_simp
           refine tkd (i:=10) (d:=some 47) (v:=(.bool (decide (lo1≤f)))) (hy:=.inl ⟨by rfl,?_⟩) (h:=?_)
           ·intro X hX;go_simp
           refine tkd (i:=11) (d:=some 48) (v:=(.slice a2 0 c2)) (hy:=.inl ⟨by rfl,?_⟩) (h:=?_)
           ·intro X hX;have x1:=hX.cell (fun e=>e) bx1;have x2:=hX.cell (fun e=>e) bx2;have x3:=hX.cell (fun e=>e) hca;go_simp
           refine tkd (i:=12) (d:=some 49) (v:=(.int .i64 0)) (hy:=.inl ⟨by rfl,?_⟩) (h:=?_)
           ·intro X hX;go_simp
           refine tkd (i:=13) (d:=some 50) (v:=(.bool false)) (hy:=.inl ⟨by rfl,?_⟩) (h:=?_)
           ·intro X hX;go_simp
           refine tkd (i:=14) (d:=some 51) (v:=(.bool false)) (hy:=.inl ⟨by rfl,?_⟩) (h:=?_)
           ·intro X hX;go_simp
           refine tkd (i:=15) (d:=some 52) (v:=undef) (hy:=.inr ⟨by rfl,rfl⟩) (h:=?_);refine tkd (i:=16) (d:=some 53) (v:=undef) (hy:=.inr ⟨by rfl,rfl⟩) (h:=?_);refine tkd (i:=17) (d:=some 54) (v:=undef) (hy:=.inr ⟨by rfl,rfl⟩) (h:=?_);refine tkd (i:=18) (d:=some 55) (v:=undef) (hy:=.inr ⟨by rfl,rfl⟩) (h:=?_);refine tkd (i:=19) (d:=some 56) (v:=undef) (hy:=.inr ⟨by rfl,rfl⟩) (h:=?_);refine tkd (i:=20) (d:=some 57) (v:=undef) (hy:=.inr ⟨by rfl,rfl⟩) (h:=?_);refine tkd (i:=21) (d:=some 58) (v:=(.bool false)) (hy:=.inl ⟨by rfl,?_⟩) (h:=?_)
           ·intro X hX;go_simp
           refine tkd (i:=22) (d:=some 59) (v:=(.agg #[.bool (decide (lo1≤f)),.bool false])) (hy:=.inl ⟨by rfl,?_⟩) (h:=?_)
           ·intro X hX;go_simp
           refine wpAnyH_ready (rs:=[23]) (by kernel_rfl) (by simp) ?_;refine AllReadyH.cons (o:=_) rfl (fun K hK=>?_) AllReadyH.nil;go_simp
           refine hK.out _ _ (hS.alloc _) (fun hS2=>?_);clear hK K;refine wpAnyH_ready (rs:=[24]) (by kernel_rfl) (by simp) ?_;refine AllReadyH.cons (o:=_) rfl (fun K hK=>?_) AllReadyH.nil;go_simp
           refine hK.out _ _ (hS.alloc _) (fun hS3=>?_);clear hK K;refine wpAnyH_done (by kernel_rfl) ?_ _;go_wp2
           go_meet
           case rel=>exact⟨wq.heap.size,rfl,hS.size,by rw[EA.out,EB.out];exact ze _ _ rfl,hS.alloc _⟩
          ·obtain⟨ba,oa,hba,hla,hca,_⟩:=HP1.out.cells 0 (by omega)
           subst hba;have e1a:Lo (zs.drop i) 0=Lo zs i:=by unfold Lo;simp[List.getD,List.getElem?_drop]
           simp only[Nat.zero_mul,Nat.add_zero]at hca;rw[e1a]at hca;have ea:decide (InL zs f)=decide (Lo zs i≤f):=decide_eq_decide.2 (FA.out (by have:=MM.out.1;have:=II.out.1;omega));have qa:(0:Int)<(m1:Int):=by omega
           have ra:0<m1:=by omega
           obtain⟨lo1,elo1⟩:∃x,Lo zs i=x:=⟨_,rfl⟩;rw[elo1]at hca ea;clear e1a elo1;obtain⟨bb,ob,hbb,hlb,hcb,_⟩:=HP2.out.cells 0 (by omega);subst hbb;have e1b:Lo (ys.drop j) 0=Lo ys j:=by unfold Lo;simp[List.getD,List.getElem?_drop]
           simp only[Nat.zero_mul,Nat.add_zero]at hcb;rw[e1b]at hcb;have eb:decide (InL ys f)=decide (Lo ys j≤f):=decide_eq_decide.2 (FB.out (by have:=MM.out.2;have:=II.out.2;omega));have qb:(0:Int)<(m2:Int):=by omega
           have rb:0<m2:=by omega
           obtain⟨lo2,elo2⟩:∃x,Lo ys j=x:=⟨_,rfl⟩;rw[elo2]at hcb eb;clear e1b elo2;have EA:=z7 ea;have EB:=z7 eb;clear ea eb NA NB FA FB SA SB MM II HP1 HP2 KK1 KK2;refine wp_region_held_drew (S:=Only (fun _=>False) wb) hmx (Only.refl _ _).drew (fun hS=>?_);generalize wb.drew=wq at hS ⊢
           refine tkd (i:=0) (d:=some 37) (v:=(.slice (some ⟨ba,oa,none⟩) m1 c1)) (hy:=.inl ⟨by rfl,?_⟩) (h:=?_)
           ·intro X hX;have x1:=hX.cell (fun e=>e) bx1;have x2:=hX.cell (fun e=>e) bx2;have x3:=hX.cell (fun e=>e) hca;have x4:=hX.cell (fun e=>e) hcb;go_simp
           refine tkd (i:=1) (d:=some 38) (v:=(.int .i64 (m1:Int))) (hy:=.inl ⟨by rfl,?_⟩) (h:=?_)
           ·intro X hX;go_simp
           refine tkd (i:=2) (d:=some 39) (v:=(.bool true)) (hy:=.inl ⟨by rfl,?_⟩) (h:=?_)
           ·intro X hX;go_simp
           refine tkd (i:=3) (d:=some 40) (v:=(.bool true)) (hy:=.inl ⟨by rfl,?_⟩) (h:=?_)
           ·intro X hX;go_simp
           refine tkd (i:=4) (d:=some 41) (v:=(.slice (some ⟨ba,oa,none⟩) m1 c1)) (hy:=.inl ⟨by rfl,?_⟩) (h:=?_)
           ·intro X hX;have x1:=hX.cell (fun e=>e) bx1;have x2:=hX.cell (fun e=>e) bx2;have x3:=hX.cell (fun e=>e) hca;have x4:=hX.cell (fun e=>e) hcb;go_simp
           refine tkd (i:=5) (d:=some 42) (v:=(.pointer (some ⟨ba,oa,none⟩))) (hy:=.inl ⟨by rfl,?_⟩) (h:=?_)
           ·intro X hX;go_simp
           refine tkd (i:=6) (d:=some 43) (v:=(.pointer (some ⟨ba,oa,none⟩))) (hy:=.inl ⟨by rfl,?_⟩) (h:=?_)
           ·intro X hX;go_simp
           refine tkd (i:=7) (d:=some 44) (v:=(.int .u64 lo1)) (hy:=.inl ⟨by rfl,?_⟩) (h:=?_)
           ·intro X hX;have x1:=hX.cell (fun e=>e) bx1;have x2:=hX.cell (fun e=>e) bx2;have x3:=hX.cell (fun e=>e) hca;have x4:=hX.cell (fun e=>e) hcb;go_simp
           refine tkd (i:=8) (d:=some 45) (v:=(.int .u64 f)) (hy:=.inl ⟨by rfl,?_⟩) (h:=?_)
           ·intro X hX;go_simp
           refine tkd (i:=9) (d:=some 46) (v:=(.bool (decide (lo1≤f)))) (hy:=.inl ⟨by rfl,?_⟩) (h:=?_)
           ·intro X hX;go_simp
           refine tkd (i:=10) (d:=some 47) (v:=(.bool (decide (lo1≤f)))) (hy:=.inl ⟨by rfl,?_⟩) (h:=?_)
           ·intro X hX;go_simp
           refine tkd (i:=11) (d:=some 48) (v:=(.slice (some ⟨bb,ob,none⟩) m2 c2)) (hy:=.inl ⟨by rfl,?_⟩) (h:=?_)
           ·intro X hX;have x1:=hX.cell (fun e=>e) bx1;have x2:=hX.cell (fun e=>e) bx2;have x3:=hX.cell (fun e=>e) hca;have x4:=hX.cell (fun e=>e) hcb;go_simp
           refine tkd (i:=12) (d:=some 49) (v:=(.int .i64 (m2:Int))) (hy:=.inl ⟨by rfl,?_⟩) (h:=?_)
           ·intro X hX;go_simp
           refine tkd (i:=13) (d:=some 50) (v:=(.bool true)) (hy:=.inl ⟨by rfl,?_⟩) (h:=?_)
           ·intro X hX;go_simp
           refine tkd (i:=14) (d:=some 51) (v:=(.bool true)) (hy:=.inl ⟨by rfl,?_⟩) (h:=?_)
           ·intro X hX;go_simp
           refine tkd (i:=15) (d:=some 52) (v:=(.slice (some ⟨bb,ob,none⟩) m2 c2)) (hy:=.inl ⟨by rfl,?_⟩) (h:=?_)
           ·intro X hX;have x1:=hX.cell (fun e=>e) bx1;have x2:=hX.cell (fun e=>e) bx2;have x3:=hX.cell (fun e=>e) hca;have x4:=hX.cell (fun e=>e) hcb;go_simp
           refine tkd (i:=16) (d:=some 53) (v:=(.pointer (some ⟨bb,ob,none⟩))) (hy:=.inl ⟨by rfl,?_⟩) (h:=?_)
           ·intro X hX;go_simp
           refine tkd (i:=17) (d:=some 54) (v:=(.pointer (some ⟨bb,ob,none⟩))) (hy:=.inl ⟨by rfl,?_⟩) (h:=?_)
           ·intro X hX;go_simp
           refine tkd (i:=18) (d:=some 55) (v:=(.int .u64 lo2)) (hy:=.inl ⟨by rfl,?_⟩) (h:=?_)
           ·intro X hX;have x1:=hX.cell (fun e=>e) bx1;have x2:=hX.cell (fun e=>e) bx2;have x3:=hX.cell (fun e=>e) hca;have x4:=hX.cell (fun e=>e) hcb;go_simp
           refine tkd (i:=19) (d:=some 56) (v:=(.int .u64 f)) (hy:=.inl ⟨by rfl,?_⟩) (h:=?_)
           ·intro X hX;go_simp
           refine tkd (i:=20) (d:=some 57) (v:=(.bool (decide (lo2≤f)))) (hy:=.inl ⟨by rfl,?_⟩) (h:=?_)
           ·intro X hX;go_simp
           refine tkd (i:=21) (d:=some 58) (v:=(.bool (decide (lo2≤f)))) (hy:=.inl ⟨by rfl,?_⟩) (h:=?_)
           ·intro X hX;go_simp
           refine tkd (i:=22) (d:=some 59) (v:=(.agg #[.bool (decide (lo1≤f)),.bool (decide (lo2≤f))])) (hy:=.inl ⟨by rfl,?_⟩) (h:=?_)
           ·intro X hX;go_simp
           refine wpAnyH_ready (rs:=[23]) (by kernel_rfl) (by simp) ?_;refine AllReadyH.cons (o:=_) rfl (fun K hK=>?_) AllReadyH.nil;go_simp
           refine hK.out _ _ (hS.alloc _) (fun hS2=>?_);clear hK K;refine wpAnyH_ready (rs:=[24]) (by kernel_rfl) (by simp) ?_;refine AllReadyH.cons (o:=_) rfl (fun K hK=>?_) AllReadyH.nil;go_simp
           refine hK.out _ _ (hS.alloc _) (fun hS3=>?_);clear hK K;refine wpAnyH_done (by kernel_rfl) ?_ _;go_wp2
           go_meet
           case rel=>exact⟨wq.heap.size,rfl,hS.size,by rw[EA.out,EB.out];exact ze _ _ rfl,hS.alloc _⟩
        case rest=>
         obtain⟨Bs,rfl,hBs,hst,hOx⟩:=hcut;have s0:wc.cell? ⟨Bs,0,none⟩=some (.bool (decide (InL zs f))):=by simp[World.cell?,hst]
         have s1:wc.cell? ⟨Bs,1,none⟩=some (.bool (decide (InL ys f))):=by simp[World.cell?,hst]
         have JC:=z7 (HJ.out _ _ _ JK.out (hOx.wide fun _ h=>h.elim));have LA:=z7 (LA.out.only hOx (fun h=>h) (fun _ _ h=>h));have LB:=z7 (LB.out.only hOx (fun h=>h) (fun _ _ h=>h));have y1:wc.cell? ⟨Ba,0,none⟩=some (.slice a1 m1 c1):=hOx.cell (fun h=>h) bx1;have y2:wc.cell? ⟨Bb,0,none⟩=some (.slice a2 m2 c2):=hOx.cell (fun h=>h) bx2;have KN1:=z7 (fun W (hW:Only (fun _=>False) wb W)=>opnext_any a1 m1 c1 (zs.drop i) f W (z3o HP1.out hW (fun _ _ h=>h)));have KN2:=z7 (fun W (hW:Only (fun _=>False) wb W)=>opnext_any a2 m2 c2 (ys.drop j) f W (z3o HP2.out hW (fun _ _ h=>h)));rw[SA.out]at KN1;rw[SB.out]at KN2;have OX:=z7 hOx;have sB:Bs<wc.heap.size:=zh hst;have sBa:Ba<wc.heap.size:=block_lt_of_cell y1;have sBb:Bb<wc.heap.size:=block_lt_of_cell y2;have hszc:W.heap.size≤wc.heap.size:=by have:=hOx.size;omega
         have hnx:∀o,nx zs ys f=o→(∀x,o=some x→k+1<N∧fr zs ys (k+1)=x∧pto zs ys N k=x-1∧f<x∧x<18446744073709551616∧above (ends zs ++ ends ys) x<above (ends zs ++ ends ys) f)∧(o=none→k+1=N∧pto zs ys N k=18446744073709551615):=by
          intro o ho;constructor
          ·rintro x rfl
           have hk1:k+1<N:=by
            by_cases q:k+1<N
            ·exact q
            ·have e:N-1=k:=by omega
             have:=HN.out.last;rw[e,← EF.out,ho]at this
             cases this
           have e2:=HN.out.next k hk1;rw[← EF.out,ho]at e2;have e3:=Option.some.inj e2;obtain⟨p1,p2,p3,_⟩:=nx_some HZ.out HYN.out WZ.out WY.out ho;exact⟨hk1,e3.symm,by unfold pto;rw[if_pos hk1,← e3],p1,p2,above_lt p1 p3⟩
          ·intro q
           have hk1:¬k+1<N:=fun q2=>by
            have e2:=HN.out.next k q2;rw[← EF.out,ho,q]at e2
            cases e2
           exact⟨by omega,by unfold pto;rw[if_neg hk1]⟩
         have HNX:=z7 hnx;clear hnx JK hst hOx bx1 bx2 HP1 HP2 SA SB NA NB FA FB MM II KK1 KK2
         cases ha:nextL zs f with
         | none=>
           cases hb:nextL ys f with
           | none=>
             have HX:=z7 (show nx zs ys f=none from by unfold nx;rw[ha,hb]);rw[ha,show nextR none=.tuple #[.int .u64 0,.bool false] from rfl]at KN1;rw[hb,show nextR none=.tuple #[.int .u64 0,.bool false] from rfl]at KN2;clear ha hb;obtain⟨g1,g3⟩:=(HNX.out _ HX.out).2 rfl;clear HX HNX;gi_wp2_with fail
             refine⟨trivial,?_⟩;refine(callsIn_wide.2 (KN1.out _ OX.out)).mono ?_;rintro e w1 ⟨rfl,hb1⟩;have z2:=zg hb1 sBb y2;have OX1:=z7 (OX.out.call hb1);have HB1:=z7 hb1;clear KN1 hb1;gi_wp2_with fail
             refine⟨trivial,?_⟩;refine(callsIn_wide.2 (KN2.out _ OX1.out)).mono ?_;rintro e w2 ⟨rfl,hb2⟩;have B2:=z7 (HB1.out.trans (hb2.mono HB1.out.size));clear KN2 hb2 z2 HB1;have t0:=zg B2.out sB s0;have t1:=zg B2.out sB s1;have J2:=HJ.out _ _ _ JC.out (Only.of_below B2.out);obtain⟨fn,tmps,assign,body,hy,hR⟩:=HY.out k w2 J2 hk (by have:=B2.out.size;omega);have HR:=z7 hR;clear hR J2 s0 s1;dsimp only [encPc]at hy
             rw[g3,← EF.out]at hy;clear g3;have G:=z7 g1;clear g1;gi_wp2
             refine HR.out.mono ?_;rintro e W3 (⟨rfl,hJ3,ho3⟩ | ⟨rfl,hJx3⟩)
             ·have J3:=z7 hJ3
              clear hJ3 ho3 hy;gi_wp2
              refine bodyPost_ret (results_none rfl _ _ _) rfl ?_;exact⟨⟨_,rfl⟩,.inl (by rw[← G.out];exact J3.out)⟩
             ·gi_wp2
              refine bodyPost_ret (results_none rfl _ _ _) rfl ?_;exact⟨⟨_,rfl⟩,.inr ⟨k,hk,hJx3⟩⟩
           | some y=>
             have HX:=z7 (show nx zs ys f=some y from by unfold nx;rw[ha,hb]);rw[ha,show nextR none=.tuple #[.int .u64 0,.bool false] from rfl]at KN1;rw[hb,show nextR (some y)=.tuple #[.int .u64 y,.bool true] from rfl]at KN2;clear ha hb;obtain⟨g1,g2,g3,g4,g5,g6⟩:=(HNX.out _ HX.out).1 _ rfl;have G:=z7 (And.intro g1 (And.intro g2 (And.intro g4 g6)));have qw:IntKind.u64.wrap (y-1)=y-1:=by rw[IntKind.wrap_u64];have:=(z3e HZ.out HYN.out WZ.out WY.out HN.out k hk).1;rw[← EF.out]at this;omega
             clear g1 g2 g4 g5 g6 HX HNX;gi_wp2_with fail
             refine⟨trivial,?_⟩;refine(callsIn_wide.2 (KN1.out _ OX.out)).mono ?_;rintro e w1 ⟨rfl,hb1⟩;have z2:=zg hb1 sBb y2;have OX1:=z7 (OX.out.call hb1);have HB1:=z7 hb1;clear KN1 hb1;gi_wp2_with fail
             refine⟨trivial,?_⟩;refine(callsIn_wide.2 (KN2.out _ OX1.out)).mono ?_;rintro e w2 ⟨rfl,hb2⟩;have B2:=z7 (HB1.out.trans (hb2.mono HB1.out.size));clear KN2 hb2 z2 HB1;have t0:=zg B2.out sB s0;have t1:=zg B2.out sB s1;have J2:=HJ.out _ _ _ JC.out (Only.of_below B2.out);obtain⟨fn,tmps,assign,body,hy,hR⟩:=HY.out k w2 J2 hk (by have:=B2.out.size;omega);have HR:=z7 hR;clear hR J2 s0 s1;dsimp only [encPc]at hy
             rw[g3,← EF.out]at hy;clear g3;have LA:=z7 ((LA.out.only (may:=fun _=>False) (Only.of_below B2.out) (fun h=>h) (fun _ _ h=>h)));have LB:=z7 ((LB.out.only (may:=fun _=>False) (Only.of_below B2.out) (fun h=>h) (fun _ _ h=>h)));have hsz2:W.heap.size≤w2.heap.size:=by have:=B2.out.size;omega
             gi_wp2
             refine HR.out.mono ?_;rintro e W3 (⟨rfl,hJ3,ho3⟩ | ⟨rfl,hJx3⟩)
             ·have LA:=z7 ((LA.out.only ho3 (fun h=>h.elim hMa nla) (fun q hq=>KM.out q hq)).lst.rise (show f≤fr zs ys (k+1)from by rw[G.out.2.1];have:=G.out.2.2.1;omega))
              have LB:=z7 ((LB.out.only ho3 (fun h=>h.elim hMb nlb) (fun q hq=>KM.out q hq)).lst.rise (show f≤fr zs ys (k+1)from by rw[G.out.2.1];have:=G.out.2.2.1;omega));have J3:=z7 hJ3;have hsz3:W.heap.size≤W3.heap.size:=by have:=ho3.size;omega
              clear hJ3 ho3 hy;gi_wp2
              go_roundw
              case rel=>
               (repeat apply Exists.intro)
               exact⟨G.out.1,by rw[G.out.2.1],J3.out,LA.out,LB.out,hsz3⟩
              case measure=>exact G.out.2.2.2
             ·gi_wp2
              refine bodyPost_ret (results_none rfl _ _ _) rfl ?_;exact⟨⟨_,rfl⟩,.inr ⟨k,hk,hJx3⟩⟩
         | some x=>
           cases hb:nextL ys f with
           | none=>
             have HX:=z7 (show nx zs ys f=some x from by unfold nx;rw[ha,hb]);rw[ha,show nextR (some x)=.tuple #[.int .u64 x,.bool true] from rfl]at KN1;rw[hb,show nextR none=.tuple #[.int .u64 0,.bool false] from rfl]at KN2;clear ha hb;obtain⟨g1,g2,g3,g4,g5,g6⟩:=(HNX.out _ HX.out).1 _ rfl;have G:=z7 (And.intro g1 (And.intro g2 (And.intro g4 g6)));have qw:IntKind.u64.wrap (x-1)=x-1:=by rw[IntKind.wrap_u64];have:=(z3e HZ.out HYN.out WZ.out WY.out HN.out k hk).1;rw[← EF.out]at this;omega
             clear g1 g2 g4 g5 g6 HX HNX;gi_wp2_with fail
             refine⟨trivial,?_⟩;refine(callsIn_wide.2 (KN1.out _ OX.out)).mono ?_;rintro e w1 ⟨rfl,hb1⟩;have z2:=zg hb1 sBb y2;have OX1:=z7 (OX.out.call hb1);have HB1:=z7 hb1;clear KN1 hb1;gi_wp2_with fail
             refine⟨trivial,?_⟩;refine(callsIn_wide.2 (KN2.out _ OX1.out)).mono ?_;rintro e w2 ⟨rfl,hb2⟩;have B2:=z7 (HB1.out.trans (hb2.mono HB1.out.size));clear KN2 hb2 z2 HB1;have t0:=zg B2.out sB s0;have t1:=zg B2.out sB s1;have J2:=HJ.out _ _ _ JC.out (Only.of_below B2.out);obtain⟨fn,tmps,assign,body,hy,hR⟩:=HY.out k w2 J2 hk (by have:=B2.out.size;omega);have HR:=z7 hR;clear hR J2 s0 s1;dsimp only [encPc]at hy
             rw[g3,← EF.out]at hy;clear g3;have LA:=z7 ((LA.out.only (may:=fun _=>False) (Only.of_below B2.out) (fun h=>h) (fun _ _ h=>h)));have LB:=z7 ((LB.out.only (may:=fun _=>False) (Only.of_below B2.out) (fun h=>h) (fun _ _ h=>h)));have hsz2:W.heap.size≤w2.heap.size:=by have:=B2.out.size;omega
             gi_wp2
             refine HR.out.mono ?_;rintro e W3 (⟨rfl,hJ3,ho3⟩ | ⟨rfl,hJx3⟩)
             ·have LA:=z7 ((LA.out.only ho3 (fun h=>h.elim hMa nla) (fun q hq=>KM.out q hq)).lst.rise (show f≤fr zs ys (k+1)from by rw[G.out.2.1];have:=G.out.2.2.1;omega))
              have LB:=z7 ((LB.out.only ho3 (fun h=>h.elim hMb nlb) (fun q hq=>KM.out q hq)).lst.rise (show f≤fr zs ys (k+1)from by rw[G.out.2.1];have:=G.out.2.2.1;omega));have J3:=z7 hJ3;have hsz3:W.heap.size≤W3.heap.size:=by have:=ho3.size;omega
              clear hJ3 ho3 hy;gi_wp2
              go_roundw
              case rel=>
               (repeat apply Exists.intro)
               exact⟨G.out.1,by rw[G.out.2.1],J3.out,LA.out,LB.out,hsz3⟩
              case measure=>exact G.out.2.2.2
             ·gi_wp2
              refine bodyPost_ret (results_none rfl _ _ _) rfl ?_;exact⟨⟨_,rfl⟩,.inr ⟨k,hk,hJx3⟩⟩
           | some y=>
             by_cases hyx:y<x
             ·have HX:=z7 (show nx zs ys f=some y from by unfold nx;rw[ha,hb];simp only;rw[if_pos hyx])
              rw[ha,show nextR (some x)=.tuple #[.int .u64 x,.bool true] from rfl]at KN1;rw[hb,show nextR (some y)=.tuple #[.int .u64 y,.bool true] from rfl]at KN2;clear ha hb;obtain⟨g1,g2,g3,g4,g5,g6⟩:=(HNX.out _ HX.out).1 _ rfl;have G:=z7 (And.intro g1 (And.intro g2 (And.intro g4 g6)));have qw:IntKind.u64.wrap (y-1)=y-1:=by rw[IntKind.wrap_u64];have:=(z3e HZ.out HYN.out WZ.out WY.out HN.out k hk).1;rw[← EF.out]at this;omega
              clear g1 g2 g4 g5 g6 HX HNX;gi_wp2_with fail
              refine⟨trivial,?_⟩;refine(callsIn_wide.2 (KN1.out _ OX.out)).mono ?_;rintro e w1 ⟨rfl,hb1⟩;have z2:=zg hb1 sBb y2;have OX1:=z7 (OX.out.call hb1);have HB1:=z7 hb1;clear KN1 hb1;gi_wp2_with fail
              refine⟨trivial,?_⟩;refine(callsIn_wide.2 (KN2.out _ OX1.out)).mono ?_;rintro e w2 ⟨rfl,hb2⟩;have B2:=z7 (HB1.out.trans (hb2.mono HB1.out.size));clear KN2 hb2 z2 HB1;have t0:=zg B2.out sB s0;have t1:=zg B2.out sB s1;have J2:=HJ.out _ _ _ JC.out (Only.of_below B2.out);obtain⟨fn,tmps,assign,body,hy,hR⟩:=HY.out k w2 J2 hk (by have:=B2.out.size;omega);have HR:=z7 hR;clear hR J2 s0 s1;dsimp only [encPc]at hy
              rw[g3,← EF.out]at hy;clear g3;have LA:=z7 ((LA.out.only (may:=fun _=>False) (Only.of_below B2.out) (fun h=>h) (fun _ _ h=>h)));have LB:=z7 ((LB.out.only (may:=fun _=>False) (Only.of_below B2.out) (fun h=>h) (fun _ _ h=>h)));have hsz2:W.heap.size≤w2.heap.size:=by have:=B2.out.size;omega
              gi_wp2
              refine HR.out.mono ?_;rintro e W3 (⟨rfl,hJ3,ho3⟩ | ⟨rfl,hJx3⟩)
              ·have LA:=z7 ((LA.out.only ho3 (fun h=>h.elim hMa nla) (fun q hq=>KM.out q hq)).lst.rise (show f≤fr zs ys (k+1)from by rw[G.out.2.1];have:=G.out.2.2.1;omega))
               have LB:=z7 ((LB.out.only ho3 (fun h=>h.elim hMb nlb) (fun q hq=>KM.out q hq)).lst.rise (show f≤fr zs ys (k+1)from by rw[G.out.2.1];have:=G.out.2.2.1;omega));have J3:=z7 hJ3;have hsz3:W.heap.size≤W3.heap.size:=by have:=ho3.size;omega
               clear hJ3 ho3 hy;gi_wp2
               go_roundw
               case rel=>
                (repeat apply Exists.intro)
                exact⟨G.out.1,by rw[G.out.2.1],J3.out,LA.out,LB.out,hsz3⟩
               case measure=>exact G.out.2.2.2
              ·gi_wp2
               refine bodyPost_ret (results_none rfl _ _ _) rfl ?_;exact⟨⟨_,rfl⟩,.inr ⟨k,hk,hJx3⟩⟩
             ·have HX:=z7 (show nx zs ys f=some x from by unfold nx;rw[ha,hb];simp only;rw[if_neg hyx])
              rw[ha,show nextR (some x)=.tuple #[.int .u64 x,.bool true] from rfl]at KN1;rw[hb,show nextR (some y)=.tuple #[.int .u64 y,.bool true] from rfl]at KN2;clear ha hb;obtain⟨g1,g2,g3,g4,g5,g6⟩:=(HNX.out _ HX.out).1 _ rfl;have G:=z7 (And.intro g1 (And.intro g2 (And.intro g4 g6)));have qw:IntKind.u64.wrap (x-1)=x-1:=by rw[IntKind.wrap_u64];have:=(z3e HZ.out HYN.out WZ.out WY.out HN.out k hk).1;rw[← EF.out]at this;omega
              clear g1 g2 g4 g5 g6 HX HNX;gi_wp2_with fail
              refine⟨trivial,?_⟩;refine(callsIn_wide.2 (KN1.out _ OX.out)).mono ?_;rintro e w1 ⟨rfl,hb1⟩;have z2:=zg hb1 sBb y2;have OX1:=z7 (OX.out.call hb1);have HB1:=z7 hb1;clear KN1 hb1;gi_wp2_with fail
              refine⟨trivial,?_⟩;refine(callsIn_wide.2 (KN2.out _ OX1.out)).mono ?_;rintro e w2 ⟨rfl,hb2⟩;have B2:=z7 (HB1.out.trans (hb2.mono HB1.out.size));clear KN2 hb2 z2 HB1;have t0:=zg B2.out sB s0;have t1:=zg B2.out sB s1;have J2:=HJ.out _ _ _ JC.out (Only.of_below B2.out);obtain⟨fn,tmps,assign,body,hy,hR⟩:=HY.out k w2 J2 hk (by have:=B2.out.size;omega);have HR:=z7 hR;clear hR J2 s0 s1;dsimp only [encPc]at hy
              rw[g3,← EF.out]at hy;clear g3;have LA:=z7 ((LA.out.only (may:=fun _=>False) (Only.of_below B2.out) (fun h=>h) (fun _ _ h=>h)));have LB:=z7 ((LB.out.only (may:=fun _=>False) (Only.of_below B2.out) (fun h=>h) (fun _ _ h=>h)));have hsz2:W.heap.size≤w2.heap.size:=by have:=B2.out.size;omega
              gi_wp2
              refine HR.out.mono ?_;rintro e W3 (⟨rfl,hJ3,ho3⟩ | ⟨rfl,hJx3⟩)
              ·have LA:=z7 ((LA.out.only ho3 (fun h=>h.elim hMa nla) (fun q hq=>KM.out q hq)).lst.rise (show f≤fr zs ys (k+1)from by rw[G.out.2.1];have:=G.out.2.2.1;omega))
               have LB:=z7 ((LB.out.only ho3 (fun h=>h.elim hMb nlb) (fun q hq=>KM.out q hq)).lst.rise (show f≤fr zs ys (k+1)from by rw[G.out.2.1];have:=G.out.2.2.1;omega));have J3:=z7 hJ3;have hsz3:W.heap.size≤W3.heap.size:=by have:=ho3.size;omega
               clear hJ3 ho3 hy;gi_wp2
               go_roundw
               case rel=>
                (repeat apply Exists.intro)
                exact⟨G.out.1,by rw[G.out.2.1],J3.out,LA.out,LB.out,hsz3⟩
               case measure=>exact G.out.2.2.2
              ·gi_wp2
               refine bodyPost_ret (results_none rfl _ _ _) rfl ?_;exact⟨⟨_,rfl⟩,.inr ⟨k,hk,hJx3⟩⟩
end Go.Proofs.YtbkkolfpegplgaaGreatDoor
