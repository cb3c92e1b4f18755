import Derived.Test.YtbkkolfpegplgaaGreatDoorTG30
import Derived.Sort.Walk13
open Go.Exit renaming inBlock→PC
open Go.Sort renaming ahead→PE
open Nat renaming le_refl→PF,le_trans→PG,lt_of_le_of_lt→PH
open Go.Proofs.Tryz
set_option maxHeartbeats 6400000
set_option linter.unusedVariables false
set_option linter.unusedSimpArgs false
namespace Go.Proofs.YtbkkolfpegplgaaGreatDoor
open Go Go.RowKit Go.Sort
structure Bn:Prop where
 ins:∀(blk off cap a b:Nat) (d:Array Int) (w:World),Holds bO w blk off d→a≤b→b≤d.size→d.size<4611686018427387904 →
  Calls prog 248 #[.slice (some ⟨blk,off,none⟩) d.size cap,.int .i64 a,.int .i64 b] w fun e w'=>e=.returned (.tuple #[])∧∃n,w'=putRow bO (PE w n) blk off (insertionSort ltInt d a b)
 brk:∀(blk off cap a b:Nat) (d:Array Int) (w:World),Holds bO w blk off d→blk<w.heap.size→a≤b→b≤d.size→d.size<4611686018427387904 →
  Calls prog 250 #[.slice (some ⟨blk,off,none⟩) d.size cap,.int .i64 a,.int .i64 b] w fun e w'=>e=.returned (.tuple #[])∧∃n os,w'=grow (putRow bO (PE w n) blk off (breakPatterns d a b)) os
 piv:∀(blk off cap a b:Nat) (d:Array Int) (w:World),Holds bO w blk off d→blk<w.heap.size→a<b→b≤d.size→d.size<4611686018427387904 →
  Calls prog 251 #[.slice (some ⟨blk,off,none⟩) d.size cap,.int .i64 a,.int .i64 b] w fun e w'=>e=.returned (.tuple #[.int .i64 (choosePivot ltInt d a b).1,.int .i64 (hintCode (choosePivot ltInt d a b).2)])∧∃n os,w'=grow (PE w n) os
 par:∀(blk off cap a b:Nat) (d:Array Int) (w:World),Holds bO w blk off d→a<b→b≤d.size→d.size<4611686018427387904 →
  Calls prog 253 #[.slice (some ⟨blk,off,none⟩) d.size cap,.int .i64 a,.int .i64 b] w fun e w'=>e=.returned (.bool (partialInsertionSort ltInt d a b).2)∧∃n,w'=putRow bO (PE w n) blk off (partialInsertionSort ltInt d a b).1
 peq:∀(blk off cap a b pivot:Nat) (d:Array Int) (w:World),Holds bO w blk off d→a≤pivot→pivot<b→b≤d.size→d.size<4611686018427387904 →
  Calls prog 254 #[.slice (some ⟨blk,off,none⟩) d.size cap,.int .i64 a,.int .i64 b,.int .i64 pivot] w fun e w'=>e=.returned (.int .i64 (partitionEqual ltInt d a b pivot).1)∧∃n,w'=putRow bO (PE w n) blk off (partitionEqual ltInt d a b pivot).2
 prt:∀(blk off cap a b pivot:Nat) (d:Array Int) (w:World),Holds bO w blk off d→a≤pivot→pivot<b→b≤d.size→d.size<4611686018427387904 →
  Calls prog 255 #[.slice (some ⟨blk,off,none⟩) d.size cap,.int .i64 a,.int .i64 b,.int .i64 pivot] w fun e w'=>e=.returned (.tuple #[.int .i64 (partition ltInt d a b pivot).1,.bool (partition ltInt d a b pivot).2.1])∧∃n,w'=putRow bO (PE w n) blk off (partition ltInt d a b pivot).2.2
set_option maxRecDepth 1000000 in
theorem wO(C:Bn)(S:Plain13):∀(N blk off cap a b limit:Nat) (d:Array Int) (w:World),b-a<N→Holds bO w blk off d→blk<w.heap.size→a≤b→b≤d.size→d.size<4611686018427387904→limit<4611686018427387904→Below ltInt a b d →
  Calls prog 228 #[.slice (some ⟨blk,off,none⟩) d.size cap,.int .i64 a,.int .i64 b,.int .i64 limit] w fun e w'=>e=.returned (.tuple #[])∧At bO w blk off (pdq ltInt d a b limit true true) w':=by
 intro N;induction N with
 | zero=>intro _ _ _ _ _ _ _ _ h;exact absurd h (Nat.not_lt_zero _)
 | succ N ih=>
   intro blk off cap a b limit d w hN Y s D9 hb E6 I B5;go_enter func228,ntmps228;go_wp2;go_loopg [1,2,3,8,9] (b-a) (fun k s1 s2 E s8 s9 wr=>∃(l m j:Nat) (wb wp:Bool) (p:Array Int),s1=.int .i64 l∧s2=.int .i64 m∧E=.int .i64 j∧s8=.bool wb∧s9=.bool wp ∧
    l≤m∧m≤d.size∧m-l≤k∧k≤b-a∧j≤limit∧p.size=d.size∧Below ltInt l m p∧At bO w blk off p wr∧pdq ltInt p l m j wb wp=pdq ltInt d a b limit true true)
   case atStart=>exact⟨a,b,limit,true,true,d,rfl,rfl,rfl,rfl,rfl,D9,hb,PF _,PF _,PF _,rfl,B5,At.refl Y,rfl⟩
   obtain⟨l,m,j,wb,wp,p,rfl,rfl,rfl,rfl,rfl,y,C9,hk,E4,B,u,C0,P,C1⟩:=hrel;obtain⟨A5,A6⟩:=P.holds Y u s;have A:Aside (pdq ltInt p l m j wb wp=pdq ltInt d a b limit true true):=C1;clear C1;by_cases h12:m-l≤12
   ·
    have B7:(m:Int)-(l:Int)≤12:=aA;have hc:=C.ins blk off cap l m p wr A5 y aA aA;rw[u]at hc;go_wp2_with(go_at_call 248;refine hc.mono ?_;rintro e w1 ⟨rfl,Q⟩)
    (try simp only[PC,Exit.then]);refine bodyPost_ret (results_none rfl _ _ _) rfl ?_;refine⟨rfl,?_⟩;rw[← A.out,pdq_small h12];exact P.step s (S.ins S.swo p l m y aA).1.1 Q
   have B7:¬((m:Int)-(l:Int)≤12):=aA;by_cases hl0:j=0
   ·
    subst hl0;have hc:=vI blk off d.size cap p u l m wr A5 y aA aA;go_wp2_with(go_at_call 249;refine hc.mono ?_;rintro e w1 ⟨rfl,Q⟩)
    (try simp only[PC,Exit.then]);refine bodyPost_ret (results_none rfl _ _ _) rfl ?_;refine⟨rfl,?_⟩;rw[← A.out,pdq_heap h12 rfl];exact P.step s (heapSort_holds S.swo p l m y aA).1.1 Q
   have E3:¬((j:Int)=0):=aA;obtain⟨s1,B1,E5,s2,B2,D,E,B3⟩:=rd_facts (limit:=j) (wb:=wb) (wp:=wp) S.swo S.par reverseRange_holds (show l<m by omega) (show m≤p.size by omega) C0;go_upto_if 35 with fail;go_cut [3] from 19 (fun E wc=>E=.int .i64 (rd ltInt p l m j wb wp).lim∧At bO w blk off (rd ltInt p l m j wb wp).d1 wc)
   case first=>
    cases wb
    ·have hc:=C.brk blk off cap l m p wr A5 A6 y aA aA;rw[u]at hc;go_wp2_with(go_at_call 250;refine hc.mono ?_;rintro e w1 ⟨rfl,Q⟩);go_meet;refine⟨?_,P.stepG s s1 Q⟩;show Value.int .i64 ((j:Int)-1)=Value.int .i64 ((j-1:Nat):Int);congr 1
     omega
    go_wp2_with fail;go_meet;exact⟨rfl,P⟩
   obtain⟨rfl,A3⟩:=hcut;obtain⟨D0,A7⟩:=A3.holds Y (s1.trans u) s;have B8:Calls prog 251 #[.slice (some ⟨blk,off,none⟩) d.size cap,.int .i64 l,.int .i64 m] wc fun e w'=>e=.returned (.tuple #[.int .i64 (rd ltInt p l m j wb wp).c.1,.int .i64 (hintCode (rd ltInt p l m j wb wp).c.2)])∧∃n os,w'=grow (PE wc n) os:=by
    have:=C.piv blk off cap l m (rd ltInt p l m j wb wp).d1 wc D0 A7 aA aA aA;rw[s1,u]at this;exact this
   go_upto_if 50 with(go_at_call 251;refine B8.mono ?_;rintro e w2 ⟨rfl,D1⟩);have K:At bO w blk off (rd ltInt p l m j wb wp).d1 w2:=A3.same Y (s1.trans u) s D1;obtain⟨D2,D3⟩:=K.holds Y (s1.trans u) s;go_cut [11,12] from 19 (fun E0 B6 wc=>E0=.int .i64 (rd ltInt p l m j wb wp).pivot∧B6=.int .i64 (hintCode (rd ltInt p l m j wb wp).hint)∧At bO w blk off (rd ltInt p l m j wb wp).d2 wc)
   case first=>
    by_cases hh:(rd ltInt p l m j wb wp).c.2=.decreasing
    ·have A4:hintCode (rd ltInt p l m j wb wp).c.2=2:=by rw[hh];rfl
     obtain⟨e2,A8,A9⟩:=rd_dec hh;have Z:=pP blk off cap (rd ltInt p l m j wb wp).d1 l m w2 D2 y aA aA;rw[s1,u]at Z;go_wp2_with(go_at_call 252;refine Z.mono ?_;rintro e w3 ⟨rfl,D4⟩);go_meet;refine⟨?_,by rw[A9];rfl,by rw[e2];exact K.step s (by rw[← e2,s2,s1]) D4⟩;rw[A8];congr 1
     omega
    have A4:¬(hintCode (rd ltInt p l m j wb wp).c.2=2):=fun h=>hh (hintCode_two h);obtain⟨e2,A8,A9⟩:=rd_not hh;go_wp2_with fail;go_meet;exact⟨by rw[A8],by rw[A9],by rw[e2];exact K⟩
   obtain⟨rfl,rfl,H⟩:=hcut;obtain⟨D5,D6⟩:=H.holds Y (s2.trans u) s;go_upto_region 15 with fail;go_cut [12,68] from 19 (fun B6 E1 wx=>B6=.int .i64 (hintCode (rd ltInt p l m j wb wp).hint)∧E1=.bool (wb && wp && decide ((rd ltInt p l m j wb wp).hint=.increasing))∧wx=wc)
   case first=>
    cases wb<;>cases wp<;>cases hh3:(rd ltInt p l m j _ _).hint <;>
     (have V:=congrArg hintCode hh3
      simp only[hintCode]at V;go_wp2_with fail;go_meet;exact⟨by simp[hh3,hintCode],by simp[hh3,hintCode],rfl⟩)
   obtain⟨rfl,rfl,rfl⟩:=hcut;go_upto_if 68 with fail;go_cut [] from 19 (fun wx=>(rd ltInt p l m j wb wp).pi.2=false∧At bO w blk off (rd ltInt p l m j wb wp).pi.1 wx)
   case first=>
    cases h68:(wb && wp && decide ((rd ltInt p l m j wb wp).hint=.increasing))
    ·have J:=rd_pi_no h68;go_wp2_with fail;go_meet;exact⟨by rw[J],by rw[J];exact H⟩
    have J:=rd_pi_yes h68;have A0:=C.par blk off cap l m (rd ltInt p l m j wb wp).d2 wc D5 aA aA aA;rw[s2,u,← J]at A0;go_wp2_with(go_at_call 253;refine A0.mono ?_;rintro e w4 ⟨rfl,C2⟩)
    all_goals first
     | (have F:(rd ltInt p l m j wb wp).pi.2=false:=by rw[J];assumption
        go_meet;exact⟨F,H.step s (by rw[E,s2]) C2⟩)
     | (have F:(rd ltInt p l m j wb wp).pi.2=true:=by rw[J];assumption
        (try simp only[PC,Exit.then]);refine bodyPost_ret (results_none rfl _ _ _) rfl ?_;refine⟨rfl,?_⟩;rw[← A.out,pdq_done h12 hl0 F];exact H.step s (by rw[E,s2]) C2)
   obtain⟨F,R⟩:=hcut;obtain⟨C3,D7⟩:=R.holds Y (E.trans u) s;have C6:∀t,t<d.size→wc.cell? ⟨blk,off+t,none⟩=some (.int .u64 (rd ltInt p l m j wb wp).pi.1[t]!):=fun t ht=>(C3 t aA).1;have C7:∀t,t<d.size→wc.frozen? ⟨blk,off+t,none⟩=false:=fun t ht=>(C3 t aA).2;go_upto_region 17 with fail;go_cut [87] from 19 (fun E2 wx=>E2=.bool (decide (l > 0) && !ltInt (rd ltInt p l m j wb wp).pi.1[l-1]! (rd ltInt p l m j wb wp).pi.1[(rd ltInt p l m j wb wp).pivot]!)∧At bO w blk off (rd ltInt p l m j wb wp).pi.1 wx)
   case first=>
    rcases Nat.eq_zero_or_pos l with ha0 | ha0
    ·have B9:decide ((l:Int) > 0)=false:=decide_eq_false aA;go_big_quiet (first | (go_at_call 229;refine Calls.quiet_of_same (aQ _ _ _)))
     go_wp2_with fail;go_meet;exact⟨by simp[ha0],R.ahead nq⟩
    have B9:(l:Int) > 0:=aA;go_big_quiet (first | (go_at_call 229;refine Calls.quiet_of_same (aQ _ _ _)))
    go_wp2_with fail;go_meet;exact⟨by simp[ha0],R.ahead nq⟩
   obtain⟨rfl,T⟩:=hcut;obtain⟨C4,D8⟩:=T.holds Y (E.trans u) s;clear C6 C7
   cases h87:(decide (l > 0) && !ltInt (rd ltInt p l m j wb wp).pi.1[l-1]! (rd ltInt p l m j wb wp).pi.1[(rd ltInt p l m j wb wp).pivot]!)
   ·
    obtain⟨r,ap,G,z⟩:∃r ap G,partition ltInt (rd ltInt p l m j wb wp).pi.1 l m (rd ltInt p l m j wb wp).pivot=(r,ap,G):=⟨(partition ltInt (rd ltInt p l m j wb wp).pi.1 l m (rd ltInt p l m j wb wp).pivot).1,(partition ltInt (rd ltInt p l m j wb wp).pi.1 l m (rd ltInt p l m j wb wp).pivot).2.1,(partition ltInt (rd ltInt p l m j wb wp).pi.1 l m (rd ltInt p l m j wb wp).pivot).2.2,rfl⟩;obtain⟨r1,r2,W,r4,r5,r6,r7⟩:=round_part S.swo S.prt D.1 D.2 (show m≤(rd ltInt p l m j wb wp).pi.1.size by omega) B3 z;have A1:=C.prt blk off cap l m (rd ltInt p l m j wb wp).pivot (rd ltInt p l m j wb wp).pi.1 wc C4 D.1 D.2 aA aA;rw[E,u,z]at A1;have X:Aside (partition ltInt (rd ltInt p l m j wb wp).pi.1 l m (rd ltInt p l m j wb wp).pivot=(r,ap,G)):=z;clear z;go_upto_if 113 with(go_at_call 255;refine A1.mono ?_;rintro e w7 ⟨rfl,B0⟩);have z:=X.out;have L:At bO w blk off G w7:=T.step s W B0;obtain⟨C5,U⟩:=L.holds Y (W.trans (E.trans u)) s;by_cases h4:r-l<m-r
    ·have C8:(r:Int)-(l:Int)<(m:Int)-(r:Int):=aA;have M:=ih blk off cap l r (rd ltInt p l m j wb wp).lim G w7 aA C5 U aA aA aA (PH (PG rd_lim_le B) I) r4;rw[W,E,u]at M;obtain⟨pL,sL⟩:=S.pdq S.swo G l r (rd ltInt p l m j wb wp).lim true true aA aA r4;go_wp2_with(go_at_call 228;refine M.mono ?_;rintro e w8 ⟨rfl,B4⟩);go_roundg (m-(r+1))
     case measure=>omega
     refine⟨r+1,m,(rd ltInt p l m j wb wp).lim,decide (r-l ≥ (m-l) / 8),ap,pdq ltInt G l r (rd ltInt p l m j wb wp).lim true true,aD,rfl,rfl,?_,rfl,aA,aA,PF _,aA,PG rd_lim_le B,by rw[pL.1,W,E,u],(r6 _ pL sL).1,L.stepG s pL.1 B4,?_⟩
     ·exact congrArg Value.bool (eighth aA aA)
     rw[← A.out,pdq_left h12 hl0 F h87 (by rw[z];exact⟨r1,r2⟩) (by rw[z];exact h4),z]
    have C8:¬((r:Int)-(l:Int)<(m:Int)-(r:Int)):=aA;have M:=ih blk off cap (r+1) m (rd ltInt p l m j wb wp).lim G w7 aA C5 U aA aA aA (PH (PG rd_lim_le B) I) r5;rw[W,E,u]at M;obtain⟨pL,sL⟩:=S.pdq S.swo G (r+1) m (rd ltInt p l m j wb wp).lim true true aA aA r5;go_wp2_with(go_at_call 228;refine M.mono ?_;rintro e w8 ⟨rfl,B4⟩);go_roundg (r-l)
    case measure=>omega
    refine⟨l,r,(rd ltInt p l m j wb wp).lim,decide (m-r ≥ (m-l) / 8),ap,pdq ltInt G (r+1) m (rd ltInt p l m j wb wp).lim true true,rfl,rfl,rfl,?_,rfl,aA,aA,PF _,aA,PG rd_lim_le B,by rw[pL.1,W,E,u],(r7 _ pL sL).1,L.stepG s pL.1 B4,?_⟩
    ·exact congrArg Value.bool (eighth aA aA)
    rw[← A.out,pdq_right h12 hl0 F h87 (by rw[z];exact⟨r1,r2⟩) (by rw[z];exact h4),z]

   have O:=h87;simp only[Bool.and_eq_true,decide_eq_true_eq,Bool.not_eq_true']at O;obtain⟨r,G,z⟩:∃r G,partitionEqual ltInt (rd ltInt p l m j wb wp).pi.1 l m (rd ltInt p l m j wb wp).pivot=(r,G):=⟨(partitionEqual ltInt (rd ltInt p l m j wb wp).pi.1 l m (rd ltInt p l m j wb wp).pivot).1,(partitionEqual ltInt (rd ltInt p l m j wb wp).pi.1 l m (rd ltInt p l m j wb wp).pivot).2,rfl⟩;obtain⟨r1,r2,W,r4,_⟩:=round_eq S.swo S.peq O.1 D.1 D.2 (show m≤(rd ltInt p l m j wb wp).pi.1.size by omega) B3 O.2 z;have A2:=C.peq blk off cap l m (rd ltInt p l m j wb wp).pivot (rd ltInt p l m j wb wp).pi.1 wc C4 D.1 D.2 aA aA;rw[E,u,z]at A2;have X:Aside (partitionEqual ltInt (rd ltInt p l m j wb wp).pi.1 l m (rd ltInt p l m j wb wp).pivot=(r,G)):=z;clear z;go_wp2_with(go_at_call 254;refine A2.mono ?_;rintro e w7 ⟨rfl,B0⟩);go_roundg (m-r)
   case measure=>omega
   have z:=X.out;exact⟨r,m,(rd ltInt p l m j wb wp).lim,wb,wp,G,rfl,rfl,rfl,rfl,rfl,r2,C9,PF _,aA,PG rd_lim_le B,by rw[W,E,u],r4,T.step s W B0,by rw[← A.out,pdq_eq h12 hl0 F h87 (by rw[z];exact⟨r1,r2⟩),z]⟩
end Go.Proofs.YtbkkolfpegplgaaGreatDoor
