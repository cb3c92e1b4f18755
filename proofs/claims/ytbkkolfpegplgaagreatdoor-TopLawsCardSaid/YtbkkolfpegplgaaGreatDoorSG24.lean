/- entry.upTo, Known, Of; entry.Canon of a canonical entry. entry.Canon of a canonical entry: that entry, its holes in a row of the call's own. vector.Canon of a canonical vector: that vector, in rows of the call's own. lattice.pair: the map of the sets of counters of two vectors. (Printed by wip/mkpair.py.) The iterator vector.numbers. vector.Numbers: the numbers of a vector, as a list of the call's own. ranges.Find, ranges.Has of a correct list. vector.order and vector.Compare. vector.Compare. -/
import Derived.Test.YtbkkolfpegplgaaGreatDoorSG23
import Derived.Test.YtbkkolfpegplgaaGreatDoorSG13
import Derived.Test.YtbkkolfpegplgaaGreatDoorSG11
import Derived.Test.YtbkkolfpegplgaaGreatDoorSG18
import Derived.Test.YtbkkolfpegplgaaGreatDoorSG26
import Derived.Test.YtbkkolfpegplgaaGreatDoorSG28
import Derived.WalkMore
import Derived.RangeFuncBound
import Derived.OwnWalkIn
import Derived.TacticsInMore
import Derived.LoopNIn
import Derived.LoopIn
import Derived.Sort.CutIn
set_option maxHeartbeats 12800000
set_option maxRecDepth 100000
set_option linter.unusedVariables false
set_option linter.unusedSimpArgs false
namespace Go.Proofs.YtbkkolfpegplgaaGreatDoor
open Go Go.RowKit
theorem upto_any (t:Int) (w:World) :
  Calls Tryz.prog 177 #[.int .u64 t] w fun e w'=>e=.returned (.agg #[.int .u64 0,.int .u64 t])∧Below w.heap.size w w':=by
 go_enter Tryz.func177,Tryz.ntmps177
 go_wp2
 refine bodyPost_ret (v:=.agg #[.int .u64 0,.int .u64 t]) ?_ rfl ⟨rfl,bl_alloc (Below.refl _ _) _⟩
 simp [results,Tryz.results177,go_sem]
/-- The counters of a correct entry. -/
theorem known_any (p:EV) (w:World) (h:HolesAt w p) (hw:EntW p.1) (hR:RightE p.1) (hs:p.1.hs.length≤10000000) :
  Calls Tryz.prog 190 #[aggE p] w fun e w'=>∃v out,e=.returned v∧OwnL w' w.heap.size 123 v out∧Cor out∧(∀c,InL out c↔KnE p.1 c)∧out.length≤p.1.hs.length+1∧Below w.heap.size w w':=by
 have hmx:Tryz.prog.follows .mixedOrders=true:=by kernel_rfl
 obtain ⟨⟨x,y,z⟩,hv⟩:=p
 obtain ⟨a,cap,e1,h1,h2⟩:=h.at'
 simp only at e1 h1 h2 hs
 subst e1
 have hx:=hw.mx
 simp only at hx
 have hk:∀out:List Iv,(∀c,InL out c↔0≤c∧c≤y∧¬InL z c)→∀c,InL out c↔KnE ⟨x,y,z⟩ c:=fun out ho c=>ho c
 have KN:=hide (fun (W:World) (hW:Only (fun _=>False) (w.alloc (.cells #[.int .u64 x,.int .u64 y,.slice a z.length cap] 96)) W)=>not_any (.slice a z.length cap) z 0 y W ⟨a,cap,rfl,(prs_only (h1.below (bl_alloc (Below.refl _ _) _)) hW (fun _ _ h=>h)),h2⟩ hR.1 ⟨by decide,by decide⟩ hx hx.1 hs)
 have HK:=hide hk
 have c1:(w.alloc (.cells #[.int .u64 x,.int .u64 y,.slice a z.length cap] 96)).cell? ⟨w.heap.size,1,none⟩=some (.int .u64 y):=by simp
 have c2:(w.alloc (.cells #[.int .u64 x,.int .u64 y,.slice a z.length cap] 96)).cell? ⟨w.heap.size,2,none⟩=some (.slice a z.length cap):=by simp
 unfold aggE
 simp only
 clear h h1 h2 hw hR hk hx hs
 go_enter Tryz.func190,Tryz.ntmps190
 go_wp2_with fail
 obtain ⟨w1,ew1⟩:∃w1,w.alloc (.cells #[.int .u64 x,.int .u64 y,.slice a z.length cap] 96)=w1:=⟨_,rfl⟩
 have HA:=hide (show Below w.heap.size w w1 from by rw [← ew1];exact bl_alloc (Below.refl _ _) _)
 rw [ew1] at c1 c2 KN ⊢
 clear ew1
 refine wp_region_held_drew (S:=Only (fun _=>False) w1) hmx (Only.refl _ _).drew (fun hS=>?_)
 refine tkd (i:=0) (d:=some 3) (v:=(.pointer (some ⟨w.heap.size,2,none⟩))) (hy:=.inl ⟨by rfl,?_⟩) (h:=?_)
 ·intro X hX;go_simp
 refine tkd (i:=1) (d:=some 4) (v:=(.slice a z.length cap)) (hy:=.inl ⟨by rfl,?_⟩) (h:=?_)
 ·intro X hX;have x1:=hX.cell (fun h=>h) c1;have x2:=hX.cell (fun h=>h) c2;go_simp
 refine tkd (i:=2) (d:=some 5) (v:=(.pointer (some ⟨w.heap.size,1,none⟩))) (hy:=.inl ⟨by rfl,?_⟩) (h:=?_)
 ·intro X hX;go_simp
 refine tkd (i:=3) (d:=some 6) (v:=(.int .u64 y)) (hy:=.inl ⟨by rfl,?_⟩) (h:=?_)
 ·intro X hX;have x1:=hX.cell (fun h=>h) c1;have x2:=hX.cell (fun h=>h) c2;go_simp
 refine wpAnyH_ready (rs:=[4]) (by kernel_rfl) (by simp) ?_
 refine AllReadyH.cons (o:=_) rfl (fun K hK=>?_) AllReadyH.nil
 go_simp
 refine (upto_any y _).mono ?_
 rintro e wq ⟨rfl,hb⟩
 have hS:=hS.call hb
 have hs4:=hS.size
 clear hb
 go_simp
 refine hK.out _ _ hS (fun _=>?_)
 clear hK K
 refine wpAnyH_ready (rs:=[5]) (by kernel_rfl) (by simp) ?_
 refine AllReadyH.cons (o:=_) rfl (fun K hK=>?_) AllReadyH.nil
 go_simp
 refine (KN.out _ hS).mono ?_
 rintro e wq ⟨v,out,rfl,hO,hc,hin,hl,hb⟩
 have hS:=hS.call hb
 have HR:=hide (And.intro hO (And.intro hc (And.intro hin hl)))
 clear hO hc hin hl
 clear hb
 go_simp
 refine hK.out _ _ hS (fun _=>?_)
 clear hK K
 refine tkd (i:=6) (d:=some 2) (v:=(v)) (hy:=.inl ⟨by rfl,?_⟩) (h:=?_)
 ·intro X hX;go_simp
 refine wpAnyH_done (by kernel_rfl) ?_ _
 have HS:=hide hS
 clear hS
 go_wp2
 go_ret
 obtain ⟨hO,hc,hin,hl⟩:=HR.out
 have hbl:=HA.out.trans (HS.out.below (n:=w.heap.size) HA.out.size (fun _ h=>h.elim))
 exact ⟨v,out,rfl,⟨own_base hO.row (by have:=HA.out.size;omega),hO.words⟩,hc,HK.out out hin,hl,hbl⟩
/-- The entry of no counters. -/
theorem of_none (rep:Int) (a:Option Addr) (cap:Nat) (w:World) :
  Calls Tryz.prog 123 #[.int .u64 rep,.slice a 0 cap] w fun e w'=>e=.returned (.tuple #[.agg #[.int .u64 0,.int .u64 0,.slice none 0 0],.bool false])∧Below w.heap.size w w':=by
 go_enter Tryz.func123,Tryz.ntmps123
 go_wp2
 refine bodyPost_ret (v:=.tuple #[.agg #[.int .u64 0,.int .u64 0,.slice none 0 0],.bool false]) ?_ rfl ⟨rfl,?_⟩
 ·simp [results,Tryz.results123,go_sem]
 ·exact bl_alloc (Below.refl _ _) _
/-- The canonical entry of some counters. -/
theorem of_some (rep:Int) (v:Value) (zs:List Iv) (w:World) (h:RgAt w v zs) (hC:Cor zs) (hr:Word rep) (h0:zs≠[]) (hs:zs.length≤10000000) :
  Calls Tryz.prog 123 #[.int .u64 rep,v] w fun e w'=>∃(en:Ent) (hv:Value),e=.returned (.tuple #[.agg #[.int .u64 rep,.int .u64 en.mx,hv],.bool true])∧en.rep=rep∧OwnL w' w.heap.size 123 hv en.hs∧EntW en∧EntC en∧(∀c,KnE en c↔InL zs c)∧en.hs.length≤zs.length+1∧Below w.heap.size w w':=by
 obtain ⟨a,cap,rfl,hP,hcap⟩:=h
 have hl0:=List.length_pos_iff.2 h0
 obtain ⟨n,en⟩:∃n,zs.length=n:=⟨_,rfl⟩
 obtain ⟨j,ej⟩:∃j,n=j+1:=⟨n-1,by omega⟩
 obtain ⟨b,off,rfl,hbl,_,hc2⟩:=hP.cells j (by omega)
 have hw:=hP.word (i:=j) (by omega)
 have hwd:=hP.words
 obtain ⟨top,etop⟩:∃t,Hi zs j=t:=⟨_,rfl⟩
 rw [etop] at hc2 hw
 have htop:InL zs top:=inL_at.2 ⟨j,by omega,by rw [← etop];exact (hC j (by omega)).1,by rw [etop];exact Int.le_refl _⟩
 have hmax:∀x,InL zs x→x≤top:=fun x hx=>by
  obtain ⟨i,hi,h1,h2⟩:=inL_at.1 hx
  rcases Nat.lt_or_ge i j with g | g
  ·have:=cor_lo_lt hC g (by omega);have:=(hC j (by omega)).1;omega
  ·obtain rfl:i=j:=by omega
   omega
 have hnn:∀x,InL zs x→0≤x:=fun x hx=>(words_nonneg hwd hx).1
 have KN:=hide (fun (W:World) (hW:Below w.heap.size w W)=>not_any (.slice (some ⟨b,off,none⟩) zs.length cap) zs 0 top W ⟨_,cap,rfl,hP.below hW,hcap⟩ hC ⟨by decide,by decide⟩ hw.2 hw.2.1 hs)
 rw [en] at KN ⊢
 have HT:=hide htop
 have HM:=hide hmax
 have HNN:=hide hnn
 have HW2:=hide hw.2
 have HR:=hide hr
 obtain ⟨r,er⟩:∃r:Int,(n:Int)-1=r:=⟨_,rfl⟩
 have q0:IntKind.i64.wrap ((n:Int)-1)=r:=by rw [IntKind.wrap_i64];omega
 have q1:0≤r:=by omega
 have q2:r<(n:Int):=by omega
 have q3:r.toNat=j:=by omega
 have q4:((n:Int) == 0)=false:=by simp;omega
 have q5:¬n=0:=by omega
 clear hP hC hr h0 hs hl0 en ej etop htop hmax hnn hw hwd er hcap
 go_enter Tryz.func123,Tryz.ntmps123
 go_wp2_with fail
 refine (upto_any top _).mono ?_
 rintro e w1 ⟨rfl,hb1⟩
 have B1:=hide (bl_trans (bl_alloc (Below.refl w.heap.size w) (.cells #[.int .u64 0,.int .u64 0,.slice none 0 0] 96)) hb1)
 have hv1:w1.heap[w.heap.size]?=some (.cells #[.int .u64 0,.int .u64 0,.slice none 0 0] 96 (0,0)):=(hb1.block _ (by simp)).trans (heap_new_at _ _ rfl)
 have HV1:=hide hv1
 clear hb1 hv1
 go_wp2_with fail
 refine (KN.out _ B1.out).mono ?_
 rintro e w2 ⟨hv,out,rfl,hO,hc,hin,hl,hb2⟩
 have hv2:w2.heap[w.heap.size]?=some (.cells #[.int .u64 0,.int .u64 0,.slice none 0 0] 96 (0,0)):=(hb2.block _ (Blk_lt HV1.out)).trans HV1.out
 have B2:=hide (bl_trans B1.out hb2)
 have sz:=B1.out.size
 obtain ⟨ah,ch,rfl,hPh,hch,hnh⟩:=hO.prs
 have HO:=hide hO
 have HC:=hide hc
 have HIN:=hide hin
 have HL:=hide hl
 have y0:w2.cell? ⟨w.heap.size,0,none⟩=some (.int .u64 0):=by simp [World.cell?,hv2]
 have y1:w2.cell? ⟨w.heap.size,1,none⟩=some (.int .u64 0):=by simp [World.cell?,hv2]
 have y2:w2.cell? ⟨w.heap.size,2,none⟩=some (.slice none 0 0):=by simp [World.cell?,hv2]
 have f0:w2.frozen? ⟨w.heap.size,0,none⟩=false:=frozen_of_row _ _ 0 _ _ hv2
 have f1:w2.frozen? ⟨w.heap.size,1,none⟩=false:=frozen_of_row _ _ 1 _ _ hv2
 have f2:w2.frozen? ⟨w.heap.size,2,none⟩=false:=frozen_of_row _ _ 2 _ _ hv2
 have HV2:=hide hv2
 clear hO hc hin hl hb2 hPh hch hnh hv2
 go_wp2
 have hend:=heap_setCell_same _ _ 2 _ _ (.slice ah out.length ch) (heap_setCell_same _ _ 1 _ _ (.int .u64 top) (heap_setCell_same _ _ 0 _ _ (.int .u64 rep) HV2.out))
 have ho:Only (fun k=>k=w.heap.size) w2 (((w2.setCell ⟨w.heap.size,0,none⟩ (.int .u64 rep)).setCell ⟨w.heap.size,1,none⟩ (.int .u64 top)).setCell ⟨w.heap.size,2,none⟩ (.slice ah out.length ch)):=
  (((Only.refl (fun k=>k=w.heap.size) w2).setCell (p:=⟨w.heap.size,0,none⟩) (.inl rfl) _).setCell (p:=⟨w.heap.size,1,none⟩) (.inl rfl) _).setCell (p:=⟨w.heap.size,2,none⟩) (.inl rfl) _
 refine bodyPost_ret (v:=.tuple #[.agg #[.int .u64 rep,.int .u64 top,.slice ah out.length ch],.bool true]) ?_ rfl ?_
 ·simp [results,Tryz.results123,go_sem,World.cell?,hend]
 ·have hsz1:w.heap.size<w1.heap.size:=Blk_lt HV1.out
  refine ⟨⟨rep,top,out⟩,.slice ah out.length ch,rfl,rfl,⟨own_base (own_only HO.out.row ho fun k hk e=>by have:=(HO.out.row.lt k hk).1;omega) (by omega),HO.out.words⟩,⟨HR.out,HW2.out,HO.out.words⟩,⟨HC.out,fun i hi=>?_⟩,fun c=>?_,HL.out,B2.out.trans (ho.below (n:=w.heap.size) B2.out.size (fun k hk=>by omega))⟩
  ·have hin:InL out (Hi out i):=inL_at.2 ⟨i,hi,(HC.out i hi).1,Int.le_refl _⟩
   obtain ⟨_,h2,h3⟩:=(HIN.out _).1 hin
   show Hi out i<top
   by_cases q:Hi out i=top
   ·rw [q] at h3;exact absurd HT.out h3
   ·omega
  ·show (0≤c∧c≤top∧¬InL out c)↔_
   rw [HIN.out]
   constructor
   ·rintro ⟨a,b,d⟩
    by_cases q:InL zs c
    ·exact q
    ·exact absurd ⟨a,b,q⟩ d
   ·intro q
    exact ⟨HNN.out c q,HM.out c q,fun d=>d.2.2 q⟩
/-- The holes of an entry; a nil list has no capacity. -/
def HolesN (w:World) (p:EV):Prop:=∃a cap,p.2=.slice a p.1.hs.length cap∧Prs w a p.1.hs.length p.1.hs∧p.1.hs.length≤cap∧(a=none→cap=0)
theorem HolesN.below {w w':World} {p:EV} (h:HolesN w p) (hb:Below w.heap.size w w'):HolesN w' p:=by
 obtain ⟨a,cap,h1,h2,h3,h4⟩:=h
 exact ⟨a,cap,h1,h2.below hb,h3,h4⟩
theorem HoleF.n {w:World} {B:Nat} {p:EV} (h:HoleF w B p):HolesN w p:=by
 obtain ⟨a,cap,h1,h2,h3,h4,_⟩:=h
 exact ⟨a,cap,h1,h2,h3,h4⟩
theorem ecanon_any (p:EV) (w:World) (h:HolesN w p) (hC:EntC p.1) (hs:p.1.hs.length≤100000000) :
  Calls Tryz.prog 142 #[aggE p] w fun e w'=>∃hv,e=.returned (.tuple #[.agg #[.int .u64 p.1.rep,.int .u64 p.1.mx,hv],.bool true])∧OwnL w' w.heap.size 123 hv p.1.hs∧Below w.heap.size w w':=by
 obtain ⟨⟨x,y,z⟩,pv⟩:=p
 obtain ⟨a,cap,e1,h1,h2,h3⟩:=h
 simp only at e1 h1 h2 hs
 subst e1
 obtain ⟨hcor,htop⟩:=hC
 simp only at hcor htop
 unfold aggE
 simp only
 have H1:=hide h1
 have HN:=hide h3
 have HT:=hide htop
 obtain ⟨n,en⟩:∃n,z.length=n:=⟨_,rfl⟩
 have EN:=hide en
 rw [en] at H1 hs ⊢
 clear h1 h2 h3 hcor htop en
 go_enter Tryz.func142,Tryz.ntmps142
 go_wp2
 go_step3
 go_wp2_with (at_builtin;go_loud (refine wpList_append_ivs rfl _ _ rfl w.heap.size _ [] rfl ⟨World.ownsRow_nil _ _ _ _,by simp⟩ a n cap z rfl (H1.out.below (bl_alloc (bl_alloc (Below.refl _ _) _) _)) HN.out (by simp;omega) (by simp;omega) ?_;intro v' w1 hO hg;replace hg:World.grownBy _ w1 none:=hg;rw [List.nil_append] at hO;obtain ⟨av,cv,rfl,hPv,hcv,_⟩:=hO.prs;have hv1:=(hg.block w.heap.size (by simp<;>omega) (by simp)).trans (heap_old_at _ _ (by simp) (heap_new_at _ _ rfl));have hv2:=(hg.block (w.heap.size+1) (by simp) (by simp)).trans (heap_new_at _ _ (by simp));have HG:=hide ((bl_alloc (bl_alloc (Below.refl w.heap.size w) (.cells #[.int .u64 x,.int .u64 y,.slice a n cap] 96)) (.cells #[.int .u64 0,.int .u64 0,.slice none 0 0] 96)).grown hg (by simp<;>omega) (fun q hq=>by cases hq));have HO:=hide hO;have HPv:=hide hPv;have y0:w1.cell? ⟨w.heap.size,2,none⟩=some (.slice a n cap):=(by simp [World.cell?,hv1]);have y1:w1.frozen? ⟨w.heap.size,2,none⟩=false:=frozen_of_row w1 _ 2 _ _ hv1;clear hg hO hPv))
 have hw1:=heap_setCell_same _ _ 2 _ _ (.slice av z.length cv) hv1
 have ho:Only (fun k=>k=w.heap.size) w1 (w1.setCell ⟨w.heap.size,2,none⟩ (.slice av z.length cv)):=(Only.refl (fun k=>k=w.heap.size) w1).setCell (p:=⟨w.heap.size,2,none⟩) (.inl rfl) _
 have hw2:=ho.obj (fun h=>by omega) hv2
 have HO2:=hide (show OwnL (w1.setCell ⟨w.heap.size,2,none⟩ (.slice av z.length cv)) w.heap.size 123 (.slice av z.length cv) z from
  ⟨own_only HO.out.row ho (fun k hk e=>by
   obtain ⟨cs,hc⟩:=own_typed HO.out.row hk
   rw [e,hv1] at hc
   cases hc),HO.out.words⟩)
 have HB:=hide (HG.out.trans (ho.below (n:=w.heap.size) HG.out.size (fun k hk=>by omega)))
 obtain ⟨W2,eW2⟩:∃W,w1.setCell ⟨w.heap.size,2,none⟩ (.slice av z.length cv)=W:=⟨_,rfl⟩
 rw [eW2] at hw1 hw2 HO2 HB ⊢
 have HV1:=hide (show W2.heap[w.heap.size]?=some (.cells #[.int .u64 x,.int .u64 y,.slice av z.length cv] 96 (0,0)) from hw1)
 have HV2:=hide hw2
 clear eW2 hw1 hw2 hv1 hv2 ho HG HO HPv y0 y1 hcv H1 HN
 have c0:W2.cell? ⟨w.heap.size,0,none⟩=some (.int .u64 x):=by simp [World.cell?,HV1.out]
 have c1:W2.cell? ⟨w.heap.size,1,none⟩=some (.int .u64 y):=by simp [World.cell?,HV1.out]
 have c2:W2.cell? ⟨w.heap.size,2,none⟩=some (.slice av z.length cv):=by simp [World.cell?,HV1.out]
 have d0:W2.cell? ⟨w.heap.size+1,0,none⟩=some (.int .u64 0):=by simp [World.cell?,HV2.out]
 have d1:W2.cell? ⟨w.heap.size+1,1,none⟩=some (.int .u64 0):=by simp [World.cell?,HV2.out]
 have d2:W2.cell? ⟨w.heap.size+1,2,none⟩=some (.slice none 0 0):=by simp [World.cell?,HV2.out]
 have g0:W2.frozen? ⟨w.heap.size+1,0,none⟩=false:=frozen_of_row _ _ 0 _ _ HV2.out
 have g1:W2.frozen? ⟨w.heap.size+1,1,none⟩=false:=frozen_of_row _ _ 1 _ _ HV2.out
 have g2:W2.frozen? ⟨w.heap.size+1,2,none⟩=false:=frozen_of_row _ _ 2 _ _ HV2.out
 have hlt:w.heap.size+1<W2.heap.size:=Blk_lt HV2.out

 have FIN:∀W3:World,Below W2.heap.size W2 W3→∃W4,(((W3.setCell ⟨w.heap.size+1,0,none⟩ (.int .u64 x)).setCell ⟨w.heap.size+1,1,none⟩ (.int .u64 y)).setCell ⟨w.heap.size+1,2,none⟩ (.slice av z.length cv))=W4 ∧
   W4.heap[w.heap.size+1]?=some (.cells #[.int .u64 x,.int .u64 y,.slice av z.length cv] 96 (0,0))∧OwnL W4 w.heap.size 123 (.slice av z.length cv) z∧Below w.heap.size w W4:=by
  intro W3 hb
  have h2:=(hb.block _ (Blk_lt HV2.out)).trans HV2.out
  refine ⟨_,rfl,heap_setCell_same _ _ 2 _ _ _ (heap_setCell_same _ _ 1 _ _ _ (heap_setCell_same _ _ 0 _ _ _ h2)),?_,?_⟩
  ·have ho:Only (fun k=>k=w.heap.size+1) W2 (((W3.setCell ⟨w.heap.size+1,0,none⟩ (.int .u64 x)).setCell ⟨w.heap.size+1,1,none⟩ (.int .u64 y)).setCell ⟨w.heap.size+1,2,none⟩ (.slice av z.length cv)):=
    (((Only.of_below (may:=fun k=>k=w.heap.size+1) hb).setCell (p:=⟨w.heap.size+1,0,none⟩) (.inl rfl) _).setCell (p:=⟨w.heap.size+1,1,none⟩) (.inl rfl) _).setCell (p:=⟨w.heap.size+1,2,none⟩) (.inl rfl) _
   exact ⟨own_only HO2.out.row ho (fun k hk e=>by
    obtain ⟨cs,hc⟩:=own_typed HO2.out.row hk
    rw [e,HV2.out] at hc
    cases hc),HO2.out.words⟩
  ·exact (((bl_trans HB.out hb).setCell (p:=⟨w.heap.size+1,0,none⟩) (by show _≤w.heap.size+1;omega) _).setCell (p:=⟨w.heap.size+1,1,none⟩) (by show _≤w.heap.size+1;omega) _).setCell (p:=⟨w.heap.size+1,2,none⟩) (by show _≤w.heap.size+1;omega) _
 have HFIN:=hide FIN
 clear FIN
 go_step3
 obtain ⟨m,em⟩:∃m,z.length=m:=⟨_,rfl⟩
 rw [em] at c2 HFIN HO2 HV1 ⊢
 by_cases hm:m=0
 ·have q0:¬(0:Int)<(m:Int):=by omega
  obtain ⟨W4,e4,hend,hO4,hB4⟩:=HFIN.out W2 (Below.refl _ _)
  have END:=hide (And.intro e4 (And.intro hend (And.intro hO4 hB4)))
  clear e4 hend hO4 hB4 hm HFIN em EN
  go_wp2
  refine wp_loop_rounds 1 ?_
  rw [rounds_succ]
  go_wp2
  rw [Exit.noGoto_ret,END.out.1]
  have hend:=END.out.2.1
  refine bodyPost_ret (v:=.tuple #[.agg #[.int .u64 x,.int .u64 y,.slice av m cv],.bool true]) ?_ rfl ⟨_,rfl,END.out.2.2.1,END.out.2.2.2⟩
  simp [results,Tryz.results142,go_sem,World.cell?,hend]
 ·obtain ⟨j,ej⟩:∃j,m=j+1:=⟨m-1,by omega⟩
  obtain ⟨a2,c2',e2,hP2,_,_⟩:=HO2.out.prs
  rw [em] at e2 hP2
  obtain ⟨rfl,_,rfl⟩:av=a2∧m=m∧cv=c2':=by simpa using e2
  obtain ⟨gv,off,rfl,hbl,k1,k2⟩:=hP2.cells j (by omega)
  have hT:=HT.out j (by omega)
  obtain ⟨lo,elo⟩:∃t,Lo z j=t:=⟨_,rfl⟩
  obtain ⟨hiv,ehi⟩:∃t,Hi z j=t:=⟨_,rfl⟩
  rw [elo] at k1
  rw [ehi] at k2 hT
  have hmn:m≤100000000:=by have:=EN.out;omega
  have hlt0:w.heap.size<W2.heap.size:=by omega
  obtain ⟨r,er⟩:∃r:Int,(m:Int)-1=r:=⟨_,rfl⟩
  have q0:(0:Int)<(m:Int):=by omega
  have q1:IntKind.i64.wrap ((m:Int)-1)=r:=by rw [IntKind.wrap_i64];omega
  have q2:0≤r:=by omega
  have q3:r<(m:Int):=by omega
  have q4:r.toNat=j:=by omega
  obtain ⟨W4,e4,hend,hO4,hB4⟩:=HFIN.out W2 (Below.refl _ _)
  have END:=hide (And.intro e4 (And.intro hend (And.intro hO4 hB4)))
  clear e4 hend hO4 hB4 hm HFIN em EN HT elo ehi er ej e2 hP2
  go_wp2
  refine wp_loop_rounds 1 ?_
  rw [rounds_succ]
  go_wp2
  rw [Exit.noGoto_ret,END.out.1]
  have hend:=heap_old_at W4 (.cells #[.int .u64 lo,.int .u64 hiv] 123) (Blk_lt END.out.2.1) END.out.2.1
  refine bodyPost_ret (v:=.tuple #[.agg #[.int .u64 x,.int .u64 y,.slice (some ⟨gv,off,none⟩) m cv],.bool true]) ?_ rfl ⟨_,rfl,⟨own_only END.out.2.2.1.row ((Only.refl (fun _=>False) W4).alloc _) (fun _ _ h=>h),END.out.2.2.1.words⟩,bl_alloc END.out.2.2.2 _⟩
  simp [results,Tryz.results142,go_sem,World.cell?,hend]
/-- A row of entries that can be read; nil lists of holes have no capacity. -/
structure EntsN (w:World) (a:Option Addr) (len:Nat) (l:List EV):Prop where
 at':EntsAt w a len l
 holes:∀p∈l,HolesN w p
theorem EntsN.below {w w':World} {a:Option Addr} {len:Nat} {l:List EV} (h:EntsN w a len l) (hb:Below w.heap.size w w'):EntsN w' a len l:=⟨h.at'.below hb,fun p hp=>(h.holes p hp).below hb⟩
theorem RowF.entsN {w:World} {base:Nat} {v:Value} {l:List EV} (h:RowF w base v l):∃a cap,v=.slice a l.length cap∧EntsN w a l.length l∧l.length≤cap:=by
 obtain ⟨a,cap,h1,h2,h3⟩:=h.ents
 exact ⟨a,cap,h1,⟨h2,fun p hp=>(h.fins p hp).n⟩,h3⟩
theorem RowF.base {w:World} {base base':Nat} {v:Value} {l:List EV} (h:RowF w base v l) (hb:base'≤base):RowF w base' v l:=⟨own_base h.row hb,h.fins,h.words⟩
theorem RowF.nil (w:World) (base:Nat):RowF w base (.slice none 0 0) []:=⟨World.ownsRow_nil _ _ _ _,by simp,by simp⟩
/-- An entry is put behind the row. -/
theorem RowF.push {w w3:World} {base:Nat} {v v':Value} {l:List EV} {e:Ent} {hv:Value} {o:Obj} (hF:RowF w base v l) (hO:OwnL w base 123 hv e.hs) (hw:EntW e)
  (hown:w3.ownsRow base 96 3 v' (l.length+1) (cellsE l ++ [.int .u64 e.rep,.int .u64 e.mx,hv])) (hg:(w.alloc o).grownBy w3 v.ownBlock):RowF w3 base v' (l ++ [(e,hv)]):=by
 have o1:Only (fun b=>v.ownBlock=some b) w w3:=((Only.refl _ w).alloc o).trans (only_of_grown hg)
 have hm:∀k,v.ownBlock=some k→¬Typed w 123 k:=fun k hk=>Typed.not (own_typed hF.row hk) (by decide)
 refine ⟨?_,fun p hp=>?_,fun p hp=>?_⟩
 ·rw [cellsE_append,List.length_append];exact hown
 ·rcases List.mem_append.1 hp with hp | hp
  ·exact ((hF.fins p hp).only o1 fun k hk=>.inr (hm k hk)).wide o1.size
  ·obtain rfl:p=(e,hv):=by simpa using hp
   exact ((HoleF.of_own hO).only o1 fun k hk=>.inr (hm k hk)).wide o1.size
 ·rcases List.mem_append.1 hp with hp | hp
  ·exact hF.words p hp
  ·obtain rfl:p=(e,hv):=by simpa using hp
   exact hw
theorem vcan_any (a:Option Addr) (len cap:Nat) (l:List EV) (w:World) (h:EntsN w a len l) (hC:CanW (l.map (·.1))) (hs:∀e∈l.map (·.1),e.hs.length≤100000000) (hlen:len≤100000000) :
  Calls Tryz.prog 84 #[.slice a len cap] w fun e w'=>∃v l',e=.returned v∧l'.map (·.1)=l.map (·.1)∧RowF w' w.heap.size v l'∧Below w.heap.size w w':=by
 obtain ⟨i0,hi,hz0,hz1,hz2⟩:=info_parts info_entry
 have hl:=hide h.at'.length
 have H:=hide h
 have HC:=hide hC
 have HS:=hide hs
 clear h hC hs
 go_enter Tryz.func84,Tryz.ntmps84
 go_wp2
 go_loopw [3,10] (fun o c wr=>∃(k:Nat) (l':List EV),k≤len∧c=.int .i64 k∧l'.map (·.1)=(l.map (·.1)).take k∧RowF wr w.heap.size o l'∧Below w.heap.size w wr) (fun _ c _=>len-(intOf c).toNat)
 case atStart=>exact ⟨0,[],Nat.zero_le _,rfl,rfl,RowF.nil _ _,Below.refl _ _⟩
 case round=>
  obtain ⟨k,l',hk,rfl,hl',hF,hb⟩:=hrel
  have HF:=hide hF
  have HB:=hide hb
  have HL':=hide hl'
  have i0':(0:Int)≤(k:Int):=by omega
  have hkl:l'.length=k:=by
   have:=congrArg List.length hl'
   rw [List.length_map,List.length_take,List.length_map,hl.out] at this
   omega
  have HKL:=hide hkl
  clear hF hl' hkl
  by_cases hlt:k<len
  ·have i1:(k:Int)<(len:Int):=by omega
   have Hr:=H.out.below hb
   obtain ⟨b,off,rfl,hbl,hc1,hc2,hc3⟩:=Hr.at'.cells k hlt
   have hmem:=Hr.at'.mem hlt
   have hmm:(l.getD k EV.z).1∈l.map (·.1):=List.mem_map.2 ⟨_,hmem,rfl⟩
   have hN:=Hr.holes _ hmem
   have KC:=hide (fun W (hW:Below wr.heap.size wr W)=>ecanon_any (l.getD k EV.z) W (hN.below hW) (HC.out.can _ hmm) (HS.out _ hmm))
   have hwd:=hide (HC.out.words _ hmm)
   have TK:=hide (show (l.map (·.1)).take (k+1)=(l.map (·.1)).take k ++ [(l.getD k EV.z).1] from by
    have hkx:k<(l.map (·.1)).length:=by rw [List.length_map,hl.out];exact hlt
    rw [List.take_succ_eq_append_getElem hkx]
    simp [List.getD,List.getElem?_eq_getElem (show k<l.length by rw [hl.out];exact hlt)])
   obtain ⟨ha,hcap,ev,_,_,_⟩:=hN
   obtain ⟨p,ep⟩:∃p,l.getD k EV.z=p:=⟨_,rfl⟩
   rw [ep] at hc1 hc2 hc3 KC hwd TK ev
   clear ep hmem hmm Hr hb
   obtain ⟨⟨x,y,z⟩,pv⟩:=p
   simp only at hc1 hc2 hc3 ev
   subst ev
   unfold aggE at KC
   simp only at KC
   obtain ⟨n,en⟩:∃n,z.length=n:=⟨_,rfl⟩
   rw [en] at KC hc3
   clear en
   go_wp2_with fail
   refine (KC.out _ (bl_alloc (Below.refl _ _) _)).mono ?_
   rintro e w1 ⟨hv,rfl,hO,hb1⟩
   have hba:=(bl_alloc (Below.refl wr.heap.size wr) (.cells #[.int .u64 x,.int .u64 y,.slice ha n hcap] 96)).trans (hb1.mono (by simp))
   have F1:=hide (HF.out.only (may:=fun _=>False) (Only.of_below hba) (fun _ h=>h.elim))
   have sz:=HB.out.size
   have O1:=hide (show OwnL w1 w.heap.size 123 hv z from ⟨own_base hO.row (by simp<;>omega),hO.words⟩)
   have B1:=hide (bl_trans HB.out hba)
   obtain ⟨a1,c1,rfl,_,_,_⟩:=hO.prs
   clear hO hb1 hba hc1 hc2 hc3 KC
   obtain ⟨ao,co,rfl,_⟩:=own_len F1.out.row
   obtain ⟨m,em⟩:∃m,z.length=m:=⟨_,rfl⟩
   rw [em] at O1 ⊢
   go_wp2_with (at_builtin;go_loud (refine wpList_append_own_at _ rfl _ _ 76 rfl w.heap.size 96 i0 (.agg #[.int .u64 0,.int .u64 0,.slice none 0 0]) 3 40 Tryz.underlying76 hi hz0 hz1 hz2 rfl (by decide) _ _ _ rfl ((F1.out.row.alloc _).alloc _) ⟨w1.heap.size+1,0,none⟩ 1 1 [.int .u64 x,.int .u64 y,.slice a1 m c1] rfl rfl ?z1 ?z2 ?z3 ?z4 ?z5 ?_))
   case z1=>exact three_new (heap_new_at _ _ (by simp))
   case z2=>intro u hu;simp at hu;rcases hu with rfl | rfl | rfl<;>rfl
   case z3=>rw [HKL.out];unfold maxLen;omega
   case z4=>rw [HKL.out];omega
   case z5=>have:=B1.out.size;simp;omega
   intro v' w3 hown hgrow _ _
   have F3:=hide (RowF.push (e:=⟨x,y,z⟩) (o:=.cells #[.int .u64 x,.int .u64 y,.slice a1 m c1] 96) (F1.out.only (may:=fun _=>False) (Only.of_below (bl_alloc (Below.refl w1.heap.size w1) (.cells #[.int .u64 x,.int .u64 y,.slice a1 m c1] 96))) (fun _ h=>h.elim))
    (⟨own_only O1.out.row ((Only.refl (fun _=>False) w1).alloc _) (fun _ _ h=>h),O1.out.words⟩) hwd.out hown hgrow)
   have B3:=hide ((bl_trans B1.out (bl_alloc (bl_alloc (Below.refl w1.heap.size w1) (.cells #[.int .u64 x,.int .u64 y,.slice a1 m c1] 96)) (.cells #[.int .u64 x,.int .u64 y,.slice a1 m c1] 96))).grown hgrow (by have:=B1.out.size;simp<;>omega) (fun q hq=>(F1.out.row.lt q hq).1))
   clear hown hgrow
   go_wp2
   go_roundw
   case rel=>
    have e2:(l' ++ [((⟨x,y,z⟩:Ent),Value.slice a1 m c1)]).map (·.1)=(l.map (·.1)).take (k+1):=by rw [TK.out,List.map_append,HL'.out];rfl
    first | exact ⟨k+1,_,by omega,by go_num,e2,F3.out,B3.out⟩ | ((repeat apply Exists.intro);exact ⟨⟨k+1,_,by omega,by go_num,e2,F3.out,B3.out⟩,rfl⟩)
   case measure=>simp [intOf];omega
  ·obtain rfl:k=len:=by omega
   have hnl:¬(k:Int)<(k:Int):=by omega
   have FIN:=hide (show l'.map (·.1)=l.map (·.1) from by rw [HL'.out,List.take_of_length_le (by rw [List.length_map,hl.out];exact Nat.le_refl _)])
   clear hb
   go_wp2
   go_ret
   first | exact ⟨_,rfl,l',FIN.out,HF.out,HB.out⟩ | exact ⟨_,l',rfl,FIN.out,HF.out,HB.out⟩
def nilV:Value:=.slice none 0 0
/-- The set of the counters of a replica. -/
def SideR (w:World) (es:List Ent) (A:Nat) (r:Int) (v:Value):Prop:=∃zs,RgAt w v zs∧Cor zs∧(∀c,InL zs c↔KnV es r c)∧zs.length≤A+1
/-- What the map has. -/
def PairF (w:World) (es fs:List Ent) (A B:Nat) (f:Int→Option Value):Prop:=∀r,Word r→((f r).isSome=true↔(∃e∈es,e.rep=r)∨(∃e∈fs,e.rep=r))∧∃va vb,(f r).getD (.agg #[nilV,nilV])=.agg #[va,vb]∧SideR w es A r va∧SideR w fs B r vb
theorem SideR.none (w:World) (es:List Ent) (A:Nat) (r:Int) (h:∀c,¬KnV es r c):SideR w es A r nilV:=⟨[],RgAt.nil w,fun i hi=>absurd hi (by simp),fun c=>⟨fun g=>absurd g (inL_nil c),fun g=>absurd g (h c)⟩,Nat.zero_le _⟩
theorem PairF.none (w:World) (A B:Nat):PairF w [] [] A B (fun _=>.none):=fun r _=>⟨by simp,nilV,nilV,rfl,SideR.none w [] A r (fun c=>knV_nil r c),SideR.none w [] B r (fun c=>knV_nil r c)⟩
/-- A list stays where blocks change that hold none of its cells. -/
theorem RgAt.only_map {w w':World} {v:Value} {zs:List Iv} {M n:Nat} {f:Int→Option Value} {may:Nat→Prop} (h:RgAt w v zs) (hM:MapR w M n f) (ho:Only may w w') (hm:∀k,may k→k=M∨w.heap.size≤k):RgAt w' v zs:=by
 obtain ⟨a,cap,rfl,hP,hc⟩:=h
 refine ⟨a,cap,rfl,⟨hP.length,hP.most,hP.words,fun i hi=>?_⟩,hc⟩
 obtain ⟨b,off,e,hlt,h1,h2⟩:=hP.cells i hi
 have hb:¬may b:=fun hk=>by
  rcases hm b hk with rfl | hk
  ·obtain ⟨D,⟨es,clock,hb,_⟩,_⟩:=hM
   simp [World.cell?,hb] at h1
  ·omega
 exact ⟨b,off,e,Nat.lt_of_lt_of_le hlt ho.size,ho.cell hb h1,ho.cell hb h2⟩
theorem SideR.only_map {w w':World} {es:List Ent} {A:Nat} {r:Int} {v:Value} {M n:Nat} {f:Int→Option Value} {may:Nat→Prop} (h:SideR w es A r v) (hM:MapR w M n f) (ho:Only may w w') (hm:∀k,may k→k=M∨w.heap.size≤k):SideR w' es A r v:=by
 obtain ⟨zs,h1,h2⟩:=h
 exact ⟨zs,h1.only_map hM ho hm,h2⟩
theorem SideR.below {w w':World} {es:List Ent} {A:Nat} {r:Int} {v:Value} (h:SideR w es A r v) (hb:Below w.heap.size w w'):SideR w' es A r v:=by
 obtain ⟨zs,h1,h2⟩:=h
 exact ⟨zs,h1.below hb,h2⟩
theorem PairF.below {w w':World} {es fs:List Ent} {A B:Nat} {f:Int→Option Value} (h:PairF w es fs A B f) (hb:Below w.heap.size w w'):PairF w' es fs A B f:=fun r hr=>by
 obtain ⟨h1,va,vb,h2,h3,h4⟩:=h r hr
 exact ⟨h1,va,vb,h2,h3.below hb,h4.below hb⟩
theorem take_succ_ent {es:List Ent} {k:Nat} (h:k<es.length):es.take (k+1)=es.take k ++ [es.getD k Ent.z]:=by
 rw [List.take_succ_eq_append_getElem h]
 simp [List.getD,List.getElem?_eq_getElem h]
theorem rep_take {es:List Ent} (hR:RightV es) {k:Nat} (h:k<es.length):∀f∈es.take k,f.rep<(es.getD k Ent.z).rep:=by
 intro f hf
 obtain ⟨i,hi,e⟩:=List.mem_iff_getElem.1 hf
 rw [List.length_take] at hi
 have hp:=asc_pair hR.2
 have:=List.pairwise_iff_getElem.1 hp i k (by omega) h (by omega)
 rw [List.getElem_take] at e
 simpa [List.getD,List.getElem?_eq_getElem h,e] using this
/-- Of the next replica. -/
theorem knV_next {es:List Ent} (hR:RightV es) {k:Nat} (h:k<es.length) {r c:Int}:(r=(es.getD k Ent.z).rep→(KnV (es.take (k+1)) r c↔KnE (es.getD k Ent.z) c))∧(r≠(es.getD k Ent.z).rep→(KnV (es.take (k+1)) r c↔KnV (es.take k) r c)):=by
 rw [take_succ_ent h]
 refine ⟨fun e=>?_,fun e=>?_⟩
 ·rw [knV_snoc]
  constructor
  ·rintro (⟨f,hf,hr,_⟩ | ⟨_,hk⟩)
   ·have:=rep_take hR h f hf;omega
   ·exact hk
  ·intro hk;exact .inr ⟨e.symm,hk⟩
 ·rw [knV_snoc]
  constructor
  ·rintro (g | ⟨hr,_⟩)
   ·exact g
   ·exact absurd hr.symm e
  ·exact .inl
theorem rep_next {es:List Ent} {k:Nat} (h:k<es.length) {r:Int}:(∃e∈es.take (k+1),e.rep=r)↔(∃e∈es.take k,e.rep=r)∨r=(es.getD k Ent.z).rep:=by
 rw [take_succ_ent h]
 constructor
 ·rintro ⟨e,he,hr⟩
  rcases List.mem_append.1 he with he | he
  ·exact .inl ⟨e,he,hr⟩
  ·obtain rfl:e=es.getD k Ent.z:=by simpa using he
   exact .inr hr.symm
 ·rintro (⟨e,he,hr⟩ | hr)
  ·exact ⟨e,List.mem_append_left _ he,hr⟩
  ·exact ⟨es.getD k Ent.z,by simp,hr.symm⟩
/-- A replica's set is put, on the left. -/
theorem PairF.left {w w':World} {es:List Ent} {A B:Nat} {f:Int→Option Value} {k M n:Nat} {may:Nat→Prop} {va vb v:Value} (h:PairF w (es.take k) [] A B f) (hR:RightV es) (hk:k<es.length) (hM:MapR w M n f) (ho:Only may w w') (hm:∀k,may k→k=M∨w.heap.size≤k)
  (hw:Word (es.getD k Ent.z).rep) (hv:(f (es.getD k Ent.z).rep).getD (.agg #[nilV,nilV])=.agg #[va,vb]) {zs:List Iv} (hz:RgAt w' v zs) (hc:Cor zs) (hi:∀c,InL zs c↔KnE (es.getD k Ent.z) c) (hl:zs.length≤A+1) :
  PairF w' (es.take (k+1)) [] A B (setM f (es.getD k Ent.z).rep (some (.agg #[v,vb]))):=by
 intro r hr
 obtain ⟨h1,ua,ub,h2,h3,h4⟩:=h r hr
 unfold setM
 rw [rep_next hk]
 by_cases e:r=(es.getD k Ent.z).rep
 ·rw [if_pos e]
  rw [e,hv] at h2
  injection h2 with h2
  have e2:vb=ub:=by simpa using congrArg (fun a=>a.getD 1 undef) h2
  exact ⟨by simp [e],v,vb,rfl,⟨zs,hz,hc,fun c=>(hi c).trans ((knV_next hR hk).1 e).symm,hl⟩,by rw [e2];exact h4.only_map hM ho hm⟩
 ·rw [if_neg e]
  obtain ⟨ys,k1,k2,k3,k4⟩:=h3.only_map hM ho hm
  refine ⟨?_,ua,ub,h2,⟨ys,k1,k2,fun c=>(k3 c).trans ((knV_next hR hk).2 e).symm,k4⟩,h4.only_map hM ho hm⟩
  rw [h1]
  constructor
  ·rintro (g | ⟨_,g,_⟩)
   ·exact .inl (.inl g)
   ·cases g
  ·rintro ((g | g) | ⟨_,g,_⟩)
   ·exact .inl g
   ·exact absurd g e
   ·cases g
/-- .. on the right. -/
theorem PairF.right {w w':World} {ds es:List Ent} {A B:Nat} {f:Int→Option Value} {k M n:Nat} {may:Nat→Prop} {va vb v:Value} (h:PairF w ds (es.take k) A B f) (hR:RightV es) (hk:k<es.length) (hM:MapR w M n f) (ho:Only may w w') (hm:∀k,may k→k=M∨w.heap.size≤k)
  (hw:Word (es.getD k Ent.z).rep) (hv:(f (es.getD k Ent.z).rep).getD (.agg #[nilV,nilV])=.agg #[va,vb]) {zs:List Iv} (hz:RgAt w' v zs) (hc:Cor zs) (hi:∀c,InL zs c↔KnE (es.getD k Ent.z) c) (hl:zs.length≤B+1) :
  PairF w' ds (es.take (k+1)) A B (setM f (es.getD k Ent.z).rep (some (.agg #[va,v]))):=by
 intro r hr
 obtain ⟨h1,ua,ub,h2,h3,h4⟩:=h r hr
 unfold setM
 rw [rep_next hk]
 by_cases e:r=(es.getD k Ent.z).rep
 ·rw [if_pos e]
  rw [e,hv] at h2
  injection h2 with h2
  have e2:va=ua:=by simpa using congrArg (fun a=>a.getD 0 undef) h2
  exact ⟨by simp [e],va,v,rfl,by rw [e2];exact h3.only_map hM ho hm,⟨zs,hz,hc,fun c=>(hi c).trans ((knV_next hR hk).1 e).symm,hl⟩⟩
 ·rw [if_neg e]
  obtain ⟨ys,k1,k2,k3,k4⟩:=h4.only_map hM ho hm
  refine ⟨?_,ua,ub,h2,h3.only_map hM ho hm,⟨ys,k1,k2,fun c=>(k3 c).trans ((knV_next hR hk).2 e).symm,k4⟩⟩
  rw [h1]
  constructor
  ·rintro (g | g)
   ·exact .inl g
   ·exact .inr (.inl g)
  ·rintro (g | (g | g))
   ·exact .inl g
   ·exact .inr g
   ·exact absurd g e
theorem PairF.shape {w:World} {es fs:List Ent} {A B:Nat} {f:Int→Option Value} (h:PairF w es fs A B f) {r:Int} (hr:Word r):∃a n c a' n' c',(f r).getD (.agg #[nilV,nilV])=.agg #[.slice a n c,.slice a' n' c']:=by
 obtain ⟨_,va,vb,h2,⟨zs,⟨a,cap,rfl,_⟩,_⟩,⟨ys,⟨a',cap',rfl,_⟩,_⟩⟩:=h r hr
 exact ⟨_,_,_,_,_,_,h2⟩
theorem info_pairT:(Tryz.prog.info? 212).map (fun i=>(i.zero,i.size,i.bytes))=some (some (.agg #[.slice none 0 0,.slice none 0 0]),2,48):=by kernel_rfl
theorem zero_pairT (w:World):(zeroValue 212).run Tryz.prog w=.ok (.agg #[nilV,nilV]) w:=by
 obtain ⟨i0,hi,hz0,hz1,hz2⟩:=info_parts info_pairT
 simp [zeroValue,typeInfo,hi,hz0,nilV]
theorem pair_any (a:Option Addr) (len cap:Nat) (l:List EV) (a':Option Addr) (len' cap':Nat) (l':List EV) (A B:Nat) (w:World) (hE:EntsAt w a len l) (hE':EntsAt w a' len' l') (hR:RightV (l.map (·.1))) (hR':RightV (l'.map (·.1)))
  (hs:∀p∈l,p.1.hs.length≤A) (hs':∀p∈l',p.1.hs.length≤B) (hA:A≤10000000) (hB:B≤10000000) (hlen:len≤10000000) (hlen':len'≤10000000) :
  Calls Tryz.prog 132 #[.slice a len cap,.slice a' len' cap'] w fun e w'=>∃M f,e=.returned (.map (some M))∧w.heap.size≤M∧MapR w' M (len+len') f∧PairF w' (l.map (·.1)) (l'.map (·.1)) A B f∧Below w.heap.size w w':=by
 have hl:=hide hE.length
 have hl':=hide hE'.length
 have H:=hide hE
 have H':=hide hE'
 have HR:=hide hR
 have HR':=hide hR'
 have HS:=hide hs
 have HS':=hide hs'
 have HK:=hide hA
 have HK':=hide hB
 have T0:=hide (show (l.map (·.1)).take 0=[] from rfl)
 clear hE hE' hR hR' hs hs' hA hB
 have hmk:∀W,(Instr.makeMap 207 none).run Tryz.prog W=.ok (.map (some W.heap.size)) (W.alloc (.map #[] 0)):=fun W=>by simp [Instr.makeMap]
 go_enter Tryz.func132,Tryz.ntmps132
 go_wp2
 obtain ⟨M,eM⟩:∃M,w.heap.size=M:=⟨_,rfl⟩
 have W0:=hide (show MapR (w.alloc (.map #[] 0)) M 0 (fun _=>none) from by rw [← eM];exact MapR.made w)
 have B0:=hide (bl_alloc (Below.refl w.heap.size w) (.map #[] 0))
 have EM:=hide eM
 obtain ⟨w0,ew0⟩:∃w0,w.alloc (.map #[] 0)=w0:=⟨_,rfl⟩
 rw [ew0] at W0 B0
 rw [eM,ew0]
 clear eM ew0
 go_loopw [15] (fun c wr=>(c=.int .i64 0∧(∃f,MapR wr M 0 f∧PairF wr [] [] A B f∧Below w.heap.size w wr))∨(c=.int .i64 1∧(∃f,MapR wr M len f∧PairF wr (l.map (·.1)) [] A B f∧Below w.heap.size w wr))∨(c=.int .i64 2∧(∃f,MapR wr M (len+len') f∧PairF wr (l.map (·.1)) (l'.map (·.1)) A B f∧Below w.heap.size w wr)))
  (fun c _=>2-(intOf c).toNat)
 case atStart=>exact .inl ⟨rfl,_,W0.out,PairF.none _ _ _,B0.out⟩
 case round=>
  rcases hrel with ⟨rfl,f0,hM0,hP0,hb0⟩ | ⟨rfl,f0,hM0,hP0,hb0⟩ | ⟨rfl,f0,hM0,hP0,hb0⟩
  ·have hM1:=hide hM0
   have hP1:=hide hP0
   have hb1:=hide hb0
   clear hM0 hP0 hb0
   have ix:∀W:World,(Instr.index 288 (.agg #[.slice a len cap,.slice a' len' cap']) (.int .i64 0)).run Tryz.prog W=.ok (.slice a len cap) W:=fun W=>by rfl
   go_wp2
   go_loopw [21] (fun c wr=>∃(k:Nat) (f:Int→Option Value),k≤len∧c=.int .i64 k∧MapR wr M (k) f∧PairF wr ((l.map (·.1)).take k) [] A B f∧Below w.heap.size w wr) (fun c _=>len-(intOf c).toNat)
   case atStart=>exact ⟨0,f0,Nat.zero_le _,rfl,hM1.out,hP1.out,hb1.out⟩
   case round=>
    obtain ⟨k,f,hk,rfl,hM,hP,hb⟩:=hrel
    have i0':(0:Int)≤(k:Int):=by omega
    have HB:=hide hb
    by_cases hlt:k<len
    ·have i1:(k:Int)<(len:Int):=by omega
     have Hr:=H.out.below hb
     obtain ⟨b,off,rfl,hbl,hc1,hc2,hc3⟩:=Hr.cells k hlt
     have hmem:=Hr.mem hlt
     have hN:=Hr.holes _ hmem
     have hwd:=Hr.words _ hmem
     have hkl:k<(l.map (·.1)).length:=by rw [List.length_map,hl.out];exact hlt
     have hge:(l.getD k EV.z).1=(l.map (·.1)).getD k Ent.z:=(getD_map l k).symm
     have hre:RightE (l.getD k EV.z).1:=by rw [hge];exact HR.out.1 k hkl
     have KN:=hide (fun W (hW:Below wr.heap.size wr W)=>known_any (l.getD k EV.z) W (hN.below hW) hwd hre (Nat.le_trans (HS.out _ hmem) HK.out))
     have hsl:=HS.out _ hmem
     obtain ⟨ha,hcap,ev,_,_⟩:=hN.at'
     obtain ⟨u0,n0,c0,u1,n1,c1,esh⟩:=hP.shape hwd.rep
     have STEP:=hide (fun W' (v:Value) (zs:List Iv) (may:Nat→Prop) (ho:Only may wr W') (hm:∀k,may k→k=M∨wr.heap.size≤k) (hz:RgAt W' v zs) (hc:Cor zs) (hi:∀c,InL zs c↔KnE (l.getD k EV.z).1 c) (hl:zs.length≤(l.getD k EV.z).1.hs.length+1)=>
      PairF.left (f:=f) (va:=.slice u0 n0 c0) (vb:=.slice u1 n1 c1) (v:=v) hP HR.out hkl hM ho hm (by rw [← hge];exact hwd.rep) (by rw [← hge];exact esh) hz hc (by rw [← hge];exact hi) (by have:=hl;omega))
     obtain ⟨p,ep⟩:∃p,l.getD k EV.z=p:=⟨_,rfl⟩
     rw [hge] at STEP
     rw [← hge] at STEP
     rw [ep] at hc1 hc2 hc3 KN ev esh STEP hwd
     obtain ⟨⟨x,y,z⟩,pv⟩:=p
     simp only at hc1 hc2 hc3 ev esh hwd
     subst ev
     unfold aggE at KN
     simp only at KN
     have HM:=hide hM
     have wx:Word x:=hwd.rep
     have HX:=hide wx
     obtain ⟨n,en⟩:∃n,z.length=n:=⟨_,rfl⟩
     have hMlt:=hM.lt
     have hlk:(Instr.lookup 207 (.map (some M)) (.int .u64 x) false).run Tryz.prog (wr.alloc (.cells #[.int .u64 x,.int .u64 y,.slice ha z.length hcap] 96))=.ok (.agg #[.slice u0 n0 c0,.slice u1 n1 c1]) (wr.alloc (.cells #[.int .u64 x,.int .u64 y,.slice ha z.length hcap] 96)):=by
      rw [(hM.below (bl_alloc (Below.refl _ _) _)).look Tryz.underlying207 (zero_pairT _) wx,esh]
     rw [en] at hlk hc3 KN
     have EN:=hide en
     have EH:=hide (show w.heap.size=M from EM.out)
     clear en ep hmem hN hre hge Hr hb hwd wx hM hP esh hsl
     go_wp2_with fail
     refine (KN.out _ (bl_alloc (bl_alloc (Below.refl _ _) _) _)).mono ?_
     rintro e w1 ⟨v,out,rfl,hO,hc,hin,hlo,hb1⟩
     obtain ⟨av,cv,rfl,_,_,_⟩:=hO.prs
     have s1:=hb1.size
     have q0:w1.heap[wr.heap.size]?=some (.cells #[.int .u64 x,.int .u64 y,.slice ha n hcap] 96 (0,0)):=(hb1.block _ (by simp<;>omega)).trans (heap_old_at _ _ (by simp) (heap_new_at _ _ rfl))
     have q1:w1.heap[wr.heap.size+1]?=some (.cells #[.slice u0 n0 c0,.slice u1 n1 c1] 212 (0,0)):=(hb1.block _ (by simp)).trans (heap_new_at _ _ (by simp))
     have y0:w1.cell? ⟨wr.heap.size,0,none⟩=some (.int .u64 x):=by simp [World.cell?,q0]
     have p0:w1.cell? ⟨wr.heap.size+1,0,none⟩=some (.slice u0 n0 c0):=by simp [World.cell?,q1]
     have p1:w1.cell? ⟨wr.heap.size+1,1,none⟩=some (.slice u1 n1 c1):=by simp [World.cell?,q1]
     have g0:w1.frozen? ⟨wr.heap.size+1,0,none⟩=false:=frozen_of_row _ _ 0 _ _ q1
     have g1:w1.frozen? ⟨wr.heap.size+1,1,none⟩=false:=frozen_of_row _ _ 1 _ _ q1
     have ho1:Only (fun k=>wr.heap.size≤k) wr (w1.setCell ⟨wr.heap.size+1,0,none⟩ (.slice av out.length cv)):=
      (((Only.of_below (bl_alloc (bl_alloc (Below.refl wr.heap.size wr) (.cells #[.int .u64 x,.int .u64 y,.slice ha n hcap] 96)) (.cells #[.slice u0 n0 c0,.slice u1 n1 c1] 212))).trans ((Only.of_below hb1))).setCell (p:=⟨wr.heap.size+1,0,none⟩) (.inr (by show wr.heap.size≤wr.heap.size+1;omega)) _)
     have HO1:=hide ho1
     have HM2:=hide (HM.out.only ho1 (by omega))
     have OL:=hide (hO.only ((Only.refl (fun k=>k=wr.heap.size+1) w1).setCell (p:=⟨wr.heap.size+1,0,none⟩) (.inl rfl) (.slice av out.length cv)) (fun k hk=>by rw [hk];simp))
     have HC:=hide hc
     have HIN:=hide hin
     have HLO:=hide hlo
     have S1:=hide s1
     obtain ⟨m,em⟩:∃m,out.length=m:=⟨_,rfl⟩
     have EMM:=hide em
     rw [em] at HO1 HM2 OL ⊢
     clear hO hc hin hlo hb1 q0 q1 ho1 em s1
     go_wp2_with (at_mapUpdate;go_loud (refine wpList_put_r _ rfl _ _ _ 207 212 rfl Tryz.underlying207 M (k) f rfl HM2.out (by unfold maxLen;omega) x (.agg #[.slice av m cv,.slice u1 n1 c1]) rfl HX.out rfl ?_);intro w2 hM2 hg2;have HM3:=hide hM2;have HG2:=hide hg2;clear hM2 hg2)
     have ho2:Only (fun k=>k=M∨wr.heap.size≤k) wr w2:=(HO1.out.wide (fun k hk=>.inr hk)).trans ((Only.refl (fun k=>k=M∨wr.heap.size≤k) _).grown HG2.out (fun k hk=>.inl (by injection hk with hk;exact hk.symm)))
     have hrg:RgAt w2 (.slice av m cv) out:=by
      refine OwnL.rg (base:=wr.heap.size+2) (t:=123) ?_
      refine (OwnL.only (base:=wr.heap.size+2) (may:=fun k=>k=M) ⟨own_base OL.out.row (by simp),OL.out.words⟩ ((Only.refl (fun k=>k=M) _).grown HG2.out (fun k hk=>by injection hk with hk;exact hk.symm)) (fun k hk=>by omega))
     have hP2:=STEP.out w2 (.slice av m cv) out _ ho2 (fun k hk=>hk) hrg HC.out HIN.out (by have:=HLO.out;have:=EN.out;show out.length≤z.length+1;omega)
     have HP2:=hide hP2
     have HB2:=hide (HB.out.trans (ho2.below (n:=w.heap.size) HB.out.size (fun k hk=>by have:=EH.out;have:=HB.out.size;omega)))
     clear ho2 hrg hP2
     go_wp2
     go_roundw
     case rel=>
      have FINAL:∃(k':Nat) (f:Int→Option Value),k'≤len∧(.int .i64 ((k:Int)+1):Value)=.int .i64 k'∧MapR w2 M (k') f∧PairF w2 ((l.map (·.1)).take k') [] A B f∧Below w.heap.size w w2:=⟨k+1,_,by omega,by simp,HM3.out,HP2.out,HB2.out⟩
      first | exact FINAL | ((repeat apply Exists.intro);exact ⟨FINAL,rfl⟩)
     case measure=>simp [intOf];omega
    ·obtain rfl:len=k:=by omega
     have HM2:=hide hM
     have HP2:=hide (show PairF wr (l.map (·.1)) [] A B f from by
      have:=hP
      rw [List.take_of_length_le (by rw [List.length_map,hl.out];exact Nat.le_refl _)] at this
      exact this)
     clear hM hP hb
     go_wp2
     go_roundw
     case rel=>
      have FINAL:=(show (((.int .i64 1:Value)=.int .i64 0∧(∃f,MapR wr M 0 f∧PairF wr [] [] A B f∧Below w.heap.size w wr))∨((.int .i64 1:Value)=.int .i64 1∧(∃f,MapR wr M len f∧PairF wr (l.map (·.1)) [] A B f∧Below w.heap.size w wr))∨((.int .i64 1:Value)=.int .i64 2∧(∃f,MapR wr M (len+len') f∧PairF wr (l.map (·.1)) (l'.map (·.1)) A B f∧Below w.heap.size w wr))) from .inr (.inl ⟨rfl,f,HM2.out,HP2.out,HB.out⟩))
      first | exact FINAL | ((repeat apply Exists.intro);exact ⟨FINAL,rfl⟩)
     case measure=>simp [intOf]
  ·have hM1:=hide hM0
   have hP1:=hide hP0
   have hb1:=hide hb0
   clear hM0 hP0 hb0
   have ix:∀W:World,(Instr.index 288 (.agg #[.slice a len cap,.slice a' len' cap']) (.int .i64 1)).run Tryz.prog W=.ok (.slice a' len' cap') W:=fun W=>by rfl
   go_wp2
   go_loopw [21] (fun c wr=>∃(k:Nat) (f:Int→Option Value),k≤len'∧c=.int .i64 k∧MapR wr M (len+k) f∧PairF wr (l.map (·.1)) ((l'.map (·.1)).take k) A B f∧Below w.heap.size w wr) (fun c _=>len'-(intOf c).toNat)
   case atStart=>exact ⟨0,f0,Nat.zero_le _,rfl,hM1.out,hP1.out,hb1.out⟩
   case round=>
    obtain ⟨k,f,hk,rfl,hM,hP,hb⟩:=hrel
    have i0':(0:Int)≤(k:Int):=by omega
    have HB:=hide hb
    by_cases hlt:k<len'
    ·have i1:(k:Int)<(len':Int):=by omega
     have Hr:=H'.out.below hb
     obtain ⟨b,off,rfl,hbl,hc1,hc2,hc3⟩:=Hr.cells k hlt
     have hmem:=Hr.mem hlt
     have hN:=Hr.holes _ hmem
     have hwd:=Hr.words _ hmem
     have hkl:k<(l'.map (·.1)).length:=by rw [List.length_map,hl'.out];exact hlt
     have hge:(l'.getD k EV.z).1=(l'.map (·.1)).getD k Ent.z:=(getD_map l' k).symm
     have hre:RightE (l'.getD k EV.z).1:=by rw [hge];exact HR'.out.1 k hkl
     have KN:=hide (fun W (hW:Below wr.heap.size wr W)=>known_any (l'.getD k EV.z) W (hN.below hW) hwd hre (Nat.le_trans (HS'.out _ hmem) HK'.out))
     have hsl:=HS'.out _ hmem
     obtain ⟨ha,hcap,ev,_,_⟩:=hN.at'
     obtain ⟨u0,n0,c0,u1,n1,c1,esh⟩:=hP.shape hwd.rep
     have STEP:=hide (fun W' (v:Value) (zs:List Iv) (may:Nat→Prop) (ho:Only may wr W') (hm:∀k,may k→k=M∨wr.heap.size≤k) (hz:RgAt W' v zs) (hc:Cor zs) (hi:∀c,InL zs c↔KnE (l'.getD k EV.z).1 c) (hl:zs.length≤(l'.getD k EV.z).1.hs.length+1)=>
      PairF.right (f:=f) (va:=.slice u0 n0 c0) (vb:=.slice u1 n1 c1) (v:=v) hP HR'.out hkl hM ho hm (by rw [← hge];exact hwd.rep) (by rw [← hge];exact esh) hz hc (by rw [← hge];exact hi) (by have:=hl;omega))
     obtain ⟨p,ep⟩:∃p,l'.getD k EV.z=p:=⟨_,rfl⟩
     rw [hge] at STEP
     rw [← hge] at STEP
     rw [ep] at hc1 hc2 hc3 KN ev esh STEP hwd
     obtain ⟨⟨x,y,z⟩,pv⟩:=p
     simp only at hc1 hc2 hc3 ev esh hwd
     subst ev
     unfold aggE at KN
     simp only at KN
     have HM:=hide hM
     have wx:Word x:=hwd.rep
     have HX:=hide wx
     obtain ⟨n,en⟩:∃n,z.length=n:=⟨_,rfl⟩
     have hMlt:=hM.lt
     have hlk:(Instr.lookup 207 (.map (some M)) (.int .u64 x) false).run Tryz.prog (wr.alloc (.cells #[.int .u64 x,.int .u64 y,.slice ha z.length hcap] 96))=.ok (.agg #[.slice u0 n0 c0,.slice u1 n1 c1]) (wr.alloc (.cells #[.int .u64 x,.int .u64 y,.slice ha z.length hcap] 96)):=by
      rw [(hM.below (bl_alloc (Below.refl _ _) _)).look Tryz.underlying207 (zero_pairT _) wx,esh]
     rw [en] at hlk hc3 KN
     have EN:=hide en
     have EH:=hide (show w.heap.size=M from EM.out)
     clear en ep hmem hN hre hge Hr hb hwd wx hM hP esh hsl
     go_wp2_with fail
     refine (KN.out _ (bl_alloc (bl_alloc (Below.refl _ _) _) _)).mono ?_
     rintro e w1 ⟨v,out,rfl,hO,hc,hin,hlo,hb1⟩
     obtain ⟨av,cv,rfl,_,_,_⟩:=hO.prs
     have s1:=hb1.size
     have q0:w1.heap[wr.heap.size]?=some (.cells #[.int .u64 x,.int .u64 y,.slice ha n hcap] 96 (0,0)):=(hb1.block _ (by simp<;>omega)).trans (heap_old_at _ _ (by simp) (heap_new_at _ _ rfl))
     have q1:w1.heap[wr.heap.size+1]?=some (.cells #[.slice u0 n0 c0,.slice u1 n1 c1] 212 (0,0)):=(hb1.block _ (by simp)).trans (heap_new_at _ _ (by simp))
     have y0:w1.cell? ⟨wr.heap.size,0,none⟩=some (.int .u64 x):=by simp [World.cell?,q0]
     have p0:w1.cell? ⟨wr.heap.size+1,0,none⟩=some (.slice u0 n0 c0):=by simp [World.cell?,q1]
     have p1:w1.cell? ⟨wr.heap.size+1,1,none⟩=some (.slice u1 n1 c1):=by simp [World.cell?,q1]
     have g0:w1.frozen? ⟨wr.heap.size+1,0,none⟩=false:=frozen_of_row _ _ 0 _ _ q1
     have g1:w1.frozen? ⟨wr.heap.size+1,1,none⟩=false:=frozen_of_row _ _ 1 _ _ q1
     have ho1:Only (fun k=>wr.heap.size≤k) wr (w1.setCell ⟨wr.heap.size+1,1,none⟩ (.slice av out.length cv)):=
      (((Only.of_below (bl_alloc (bl_alloc (Below.refl wr.heap.size wr) (.cells #[.int .u64 x,.int .u64 y,.slice ha n hcap] 96)) (.cells #[.slice u0 n0 c0,.slice u1 n1 c1] 212))).trans ((Only.of_below hb1))).setCell (p:=⟨wr.heap.size+1,1,none⟩) (.inr (by show wr.heap.size≤wr.heap.size+1;omega)) _)
     have HO1:=hide ho1
     have HM2:=hide (HM.out.only ho1 (by omega))
     have OL:=hide (hO.only ((Only.refl (fun k=>k=wr.heap.size+1) w1).setCell (p:=⟨wr.heap.size+1,1,none⟩) (.inl rfl) (.slice av out.length cv)) (fun k hk=>by rw [hk];simp))
     have HC:=hide hc
     have HIN:=hide hin
     have HLO:=hide hlo
     have S1:=hide s1
     obtain ⟨m,em⟩:∃m,out.length=m:=⟨_,rfl⟩
     have EMM:=hide em
     rw [em] at HO1 HM2 OL ⊢
     clear hO hc hin hlo hb1 q0 q1 ho1 em s1
     go_wp2_with (at_mapUpdate;go_loud (refine wpList_put_r _ rfl _ _ _ 207 212 rfl Tryz.underlying207 M (len+k) f rfl HM2.out (by unfold maxLen;omega) x (.agg #[.slice u0 n0 c0,.slice av m cv]) rfl HX.out rfl ?_);intro w2 hM2 hg2;have HM3:=hide hM2;have HG2:=hide hg2;clear hM2 hg2)
     have ho2:Only (fun k=>k=M∨wr.heap.size≤k) wr w2:=(HO1.out.wide (fun k hk=>.inr hk)).trans ((Only.refl (fun k=>k=M∨wr.heap.size≤k) _).grown HG2.out (fun k hk=>.inl (by injection hk with hk;exact hk.symm)))
     have hrg:RgAt w2 (.slice av m cv) out:=by
      refine OwnL.rg (base:=wr.heap.size+2) (t:=123) ?_
      refine (OwnL.only (base:=wr.heap.size+2) (may:=fun k=>k=M) ⟨own_base OL.out.row (by simp),OL.out.words⟩ ((Only.refl (fun k=>k=M) _).grown HG2.out (fun k hk=>by injection hk with hk;exact hk.symm)) (fun k hk=>by omega))
     have hP2:=STEP.out w2 (.slice av m cv) out _ ho2 (fun k hk=>hk) hrg HC.out HIN.out (by have:=HLO.out;have:=EN.out;show out.length≤z.length+1;omega)
     have HP2:=hide hP2
     have HB2:=hide (HB.out.trans (ho2.below (n:=w.heap.size) HB.out.size (fun k hk=>by have:=EH.out;have:=HB.out.size;omega)))
     clear ho2 hrg hP2
     go_wp2
     go_roundw
     case rel=>
      have FINAL:∃(k':Nat) (f:Int→Option Value),k'≤len'∧(.int .i64 ((k:Int)+1):Value)=.int .i64 k'∧MapR w2 M (len+k') f∧PairF w2 (l.map (·.1)) ((l'.map (·.1)).take k') A B f∧Below w.heap.size w w2:=⟨k+1,_,by omega,by simp,HM3.out,HP2.out,HB2.out⟩
      first | exact FINAL | ((repeat apply Exists.intro);exact ⟨FINAL,rfl⟩)
     case measure=>simp [intOf];omega
    ·obtain rfl:len'=k:=by omega
     have HM2:=hide hM
     have HP2:=hide (show PairF wr (l.map (·.1)) (l'.map (·.1)) A B f from by
      have:=hP
      rw [List.take_of_length_le (by rw [List.length_map,hl'.out];exact Nat.le_refl _)] at this
      exact this)
     clear hM hP hb
     go_wp2
     go_roundw
     case rel=>
      have FINAL:=(show (((.int .i64 2:Value)=.int .i64 0∧(∃f,MapR wr M 0 f∧PairF wr [] [] A B f∧Below w.heap.size w wr))∨((.int .i64 2:Value)=.int .i64 1∧(∃f,MapR wr M len f∧PairF wr (l.map (·.1)) [] A B f∧Below w.heap.size w wr))∨((.int .i64 2:Value)=.int .i64 2∧(∃f,MapR wr M (len+len') f∧PairF wr (l.map (·.1)) (l'.map (·.1)) A B f∧Below w.heap.size w wr))) from .inr (.inr ⟨rfl,f,HM2.out,HP2.out,HB.out⟩))
      first | exact FINAL | ((repeat apply Exists.intro);exact ⟨FINAL,rfl⟩)
     case measure=>simp [intOf]
  ·have HM2:=hide hM0
   have HP2:=hide hP0
   have HB2:=hide hb0
   clear hM0 hP0 hb0
   go_wp2
   go_ret
   exact ⟨M,rfl,Nat.le_of_eq EM.out,f0,HM2.out,HP2.out,HB2.out⟩
attribute [local go_sem] Oper.semAt_some
theorem vnumbers_any (a:Option Addr) (len cap:Nat) (w:World) :
  Calls Tryz.prog 236 #[.slice a len cap] w fun e w'=>e=.returned (.func (.func 258) #[] #[.pointer (some ⟨w.heap.size,0,none⟩)])∧w'=w.alloc (.cells #[.slice a len cap] 76):=by
 go_enter Tryz.func236,Tryz.ntmps236
 go_wp2
 go_ret
 exact ⟨rfl,rfl⟩
/-- What the iterator yields in round k. -/
def encN (xs:List Int) (k:Nat):Array Value:=#[.int .u64 (xs.getD k 0)]
theorem numbers1_typ (n:Nat) (hn:1≤n) (Bv:Nat) (a:Option Addr) (len cap:Nat) (l:List EV) (wE w0:World) (hE:EntsAt wE a len l) (hb0:Below wE.heap.size wE w0) (hBv:w0.heap[Bv]?=some (.cells #[.slice a len cap] 76 (0,0)))
  (M:Nat→Prop) (hM:∀k,M k→wE.heap.size≤k∧k<w0.heap.size) (hMv:¬M Bv) (hvE:wE.heap.size≤Bv) (hs:∀p∈l,p.1.hs.length≤1000000000) (hlen:len≤1000000000) :
  SeqTyp Fence.wide n Tryz.prog 258 #[.pointer (some ⟨Bv,0,none⟩)] (encN (absV (l.map (·.1)))) M 57 wE.heap.size (absV (l.map (·.1))).length w0:=by
 intro ll J Jx W hW hl0 hl1 hJ hJx hY h0
 have hl:=hE.length
 obtain ⟨es,ees⟩:∃es,l.map (·.1)=es:=⟨_,rfl⟩
 rw [ees] at hY ⊢
 have hes:es.length=len:=by rw [← ees,List.length_map,hl]
 have HJ:=hide hJ;have HJx:=hide hJx;have HY:=hide hY
 have HE:=hide hE
 have HES:=hide ees
 have HLN:=hide hes
 have HM:=hide hM
 have hWE:=hide (show Below wE.heap.size wE W from hb0.trans (hW.mono hb0.size))
 have szE:=hb0.size
 have szW:=hW.size
 have hBv1:=(hW.block _ (Blk_lt hBv)).trans hBv
 have HBv:=hide hBv1
 have lBv:=Blk_lt hBv
 have c0:W.cell? ⟨Bv,0,none⟩=some (.slice a len cap):=by simp [World.cell?,hBv1]
 have nvl:Bv≠ll:=by omega
 have HS:=hide hs

 have KEEP:=hide (show ∀(W1 W2:World),Below wE.heap.size wE W1→Only (fun b=>M b∨b=ll∨wE.heap.size≤b∧Typed W1 57 b) W1 W2→Below wE.heap.size wE W2 from fun W1 W2 h1 h2=>h1.trans (h2.below h1.size fun k hk=>by
  rcases hk with hk | hk | hk
  ·exact (hM k hk).1
  ·omega
  ·exact hk.1))
 clear hJ hJx hY hE hM hb0 hW hBv hBv1 hs ees
 have w0':IntKind.u64.wrap (len:Int)=len:=by rw [IntKind.wrap_u64];omega
 obtain ⟨fn,tmps,assign,body,hy,hR⟩:=HY.out 0 W h0 (by unfold absV;simp) (Nat.le_refl _)
 have HR:=hide hR
 clear hR
 have e0:(absV es).getD 0 0=(len:Int):=by rw [← HLN.out];rfl
 simp only [encN,e0] at hy
 refine callsIn_of_wp Tryz.func258 rfl trivial ?_ rfl
 simp only [Tryz.ntmps258,List.size_toArray,List.length_cons,List.length_nil,Nat.reduceAdd,Nat.reduceSub,Array.replicate_succ,Array.replicate_zero,List.push_toArray,List.append_toArray,List.nil_append,List.cons_append]
 gi_wp2
 refine HR.out.mono ?_
 rintro e W3 (⟨rfl,hJ3,ho3⟩ | ⟨rfl,hJx3⟩)
 ·have nBv:¬(M Bv∨Bv=ll∨wE.heap.size≤Bv∧Typed W 57 Bv):=fun h=>h.elim hMv (fun h=>h.elim nvl (fun h=>Typed.ne h.2 (show Typed W 76 Bv from ⟨_,HBv.out⟩) (by decide) rfl))
  have c3:W3.cell? ⟨Bv,0,none⟩=some (.slice a len cap):=ho3.cell nBv c0
  have B3:=hide (KEEP.out W W3 hWE.out ho3)
  have J3:=hide hJ3
  have sz3:W.heap.size≤W3.heap.size:=ho3.size
  clear hJ3 ho3 nBv c0 hy
  gi_wp2
  gi_loopw [17] (fun c wr=>∃k:Nat,k≤len∧c=.int .i64 k∧J (offV es k) wr∧Below wE.heap.size wE wr∧W.heap.size≤wr.heap.size) (fun c _=>len-(intOf c).toNat)
  case atStart=>exact ⟨0,Nat.zero_le _,rfl,J3.out,B3.out,sz3⟩
  case round=>
   clear J3 B3 c3
   obtain ⟨k,hk,rfl,hJk,hbk,hsk⟩:=hrel
   have JK:=hide hJk
   have BK:=hide hbk
   clear hJk
   have i0:(0:Int)≤(k:Int):=by omega
   by_cases hlt:k<len
   ·have i1:(k:Int)<(len:Int):=by omega
    have hEk:=HE.out.below hbk
    obtain ⟨b,off,rfl,hbl,hc1,hc2,hc3⟩:=hEk.cells k hlt
    have hmem:=hEk.mem hlt
    have HMEM:=hide hmem
    obtain ⟨ha,hcap,ev,_,_⟩:=(hEk.holes _ hmem).at'
    have hng:=HS.out _ hmem
    have hkes:k<es.length:=by rw [HLN.out];exact hlt
    have eg:es.getD k Ent.z=(l.getD k EV.z).1:=by rw [← HES.out,getD_map]
    obtain ⟨p,ep⟩:∃p,l.getD k EV.z=p:=⟨_,rfl⟩
    rw [ep] at hc1 hc2 hc3 ev hng eg HMEM
    obtain ⟨⟨x,y,z⟩,pv⟩:=p
    simp only at hc1 hc2 hc3 ev hng
    subst ev
    have A0:(absV es).getD (offV es k+0) 0=x:=by rw [absV_at hkes (by omega),eg];rfl
    have A1:(absV es).getD (offV es k+1) 0=y:=by rw [absV_at hkes (by omega),eg];rfl
    have A2:(absV es).getD (offV es k+2) 0=(z.length:Int):=by rw [absV_at hkes (by omega),eg];rfl
    have AL:=hide (show ∀j,j<z.length→(absV es).getD (offV es k+3+2 * j) 0=Lo z j∧(absV es).getD (offV es k+3+2 * j+1) 0=Hi z j from fun j hj=>by
     have hj':j<(es.getD k Ent.z).hs.length:=by rw [eg];exact hj
     have h1:=absE_lo (es.getD k Ent.z) j hj'
     rw [← absV_at hkes (by omega),← absV_at hkes (by omega),eg] at h1
     rw [show offV es k+3+2 * j=offV es k+(3+2 * j) by omega,show offV es k+(3+2 * j)+1=offV es k+(4+2 * j) by omega]
     exact h1)
    have ON:=hide (show offV es (k+1)=offV es k+3+2 * z.length from by rw [offV,eg])
    have OL:=hide (show ∀i,i<3+2 * z.length→offV es k+i<(absV es).length from fun i hi=>offV_lt hkes (by rw [eg];exact hi))
    obtain ⟨m,em⟩:∃m,z.length=m:=⟨_,rfl⟩
    have EM:=hide em
    rw [em] at hc3 A2 hng
    have wm:IntKind.u64.wrap (m:Int)=m:=by rw [IntKind.wrap_u64];omega
    have HA:=hide (And.intro A0 (And.intro A1 A2))
    obtain ⟨Be,eBe⟩:∃B,wr.heap.size=B:=⟨_,rfl⟩
    have BA:=hide (show Below wE.heap.size wE (wr.alloc (.cells #[.int .u64 x,.int .u64 y,.slice ha m hcap] 96)) from hbk.alloc hbk.size _)
    have JA:=hide (HJ.out _ _ _ JK.out ((Only.refl (fun _=>False) wr).alloc (.cells #[.int .u64 x,.int .u64 y,.slice ha m hcap] 96)))
    have CA:=hide (show (wr.alloc (.cells #[.int .u64 x,.int .u64 y,.slice ha m hcap] 96)).heap[Be]?=some (.cells #[.int .u64 x,.int .u64 y,.slice ha m hcap] 96 (0,0)) from heap_new_at _ _ eBe.symm)
    have sBe:W.heap.size≤Be:=by omega
    clear A0 A1 A2 em ep hbk hEk hmem hkes eg JK
    gi_upto_region 4 with fail
    obtain ⟨Wk,eWk⟩:∃W,wr.alloc (.cells #[.int .u64 x,.int .u64 y,.slice ha m hcap] 96)=W:=⟨_,rfl⟩
    rw [eWk] at BA JA CA ⊢
    clear eWk eBe
    have k0:Wk.cell? ⟨Be,0,none⟩=some (.int .u64 x):=by simp [World.cell?,CA.out]
    have k1:Wk.cell? ⟨Be,1,none⟩=some (.int .u64 y):=by simp [World.cell?,CA.out]
    have k2:Wk.cell? ⟨Be,2,none⟩=some (.slice ha m hcap):=by simp [World.cell?,CA.out]
    gi_wp2
    gi_loopw [30] (fun c wr=>∃i:Nat,i≤3∧c=.int .i64 i∧J (offV es k+i) wr∧Below wE.heap.size wE wr∧wr.heap[Be]?=some (.cells #[.int .u64 x,.int .u64 y,.slice ha m hcap] 96 (0,0))∧W.heap.size≤wr.heap.size) (fun c _=>3-(intOf c).toNat)
    case atStart=>exact ⟨0,by omega,rfl,JA.out,BA.out,CA.out,by have:=Blk_lt CA.out;omega⟩
    case round=>
     clear JA BA CA k0 k1 k2
     obtain ⟨i,hi,rfl,hJi,hbi,hci,hsi⟩:=hrel
     have JI:=hide hJi
     have BI:=hide hbi
     have CI:=hide hci
     clear hbi hci
     by_cases hi3:i<3
     ·have hval:∃v:Int,(absV es).getD (offV es k+i) 0=v∧#[Value.int .u64 x,.int .u64 y,.int .u64 (m:Int)][i]?=some (.int .u64 v):=by
       have h3:i=0∨i=1∨i=2:=by omega
       rcases h3 with rfl | rfl | rfl
       ·exact ⟨x,HA.out.1,rfl⟩
       ·exact ⟨y,HA.out.2.1,rfl⟩
       ·exact ⟨(m:Int),HA.out.2.2,rfl⟩
      obtain ⟨v,ev,hix⟩:=hval
      obtain ⟨fn,tmps,assign,body,hy,hR⟩:=HY.out (offV es k+i) wr hJi (OL.out i (by omega)) hsi
      have HR:=hide hR
      clear hR hJi
      simp only [encN,ev] at hy
      have q0:(0:Int)≤(i:Int):=by omega
      have q1:(i:Int)<3:=by omega
      have h3:i=0∨i=1∨i=2:=by omega
      have nBe:¬(M Be∨Be=ll∨wE.heap.size≤Be∧Typed wr 57 Be):=fun h=>h.elim (fun h=>by have:=HM.out Be h;omega) (fun h=>h.elim (fun h=>by omega) (fun h=>Typed.ne h.2 (show Typed wr 96 Be from ⟨_,CI.out⟩) (by decide) rfl))
      have OK:=hide (show J (offV es k+i+1)=J (offV es k+(i+1)) from rfl)
      have ix0:∀W:World,(Instr.index 353 (.agg #[.int .u64 x,.int .u64 y,.int .u64 (m:Int)]) (.int .i64 0)).run Tryz.prog W=.ok (.int .u64 x) W:=fun W=>by rfl
      have ix1:∀W:World,(Instr.index 353 (.agg #[.int .u64 x,.int .u64 y,.int .u64 (m:Int)]) (.int .i64 1)).run Tryz.prog W=.ok (.int .u64 y) W:=fun W=>by rfl
      have ix2:∀W:World,(Instr.index 353 (.agg #[.int .u64 x,.int .u64 y,.int .u64 (m:Int)]) (.int .i64 2)).run Tryz.prog W=.ok (.int .u64 (m:Int)) W:=fun W=>by rfl
      rcases h3 with rfl | rfl | rfl
      all_goals
       simp at hix
       subst hix
       gi_wp2
       refine HR.out.mono ?_
       rintro e W5 (⟨rfl,hJ5,ho5⟩ | ⟨rfl,hJx5⟩)
       ·have B5:=hide (KEEP.out _ W5 BI.out ho5)
        have J5:=hide hJ5
        have C5:=hide (ho5.obj nBe CI.out)
        have s5:=ho5.size
        clear hJ5 ho5 hy
        gi_wp2
        go_roundw
        case rel=>first | exact ⟨1,by omega,rfl,J5.out,B5.out,C5.out,by omega⟩ | exact ⟨2,by omega,rfl,J5.out,B5.out,C5.out,by omega⟩ | exact ⟨3,by omega,rfl,J5.out,B5.out,C5.out,by omega⟩
        case measure=>decide
       ·gi_wp2
        refine bodyPost_ret (results_none rfl _ _ _) rfl ?_
        first | exact ⟨⟨_,rfl⟩,.inr ⟨_,OL.out 0 (by omega),hJx5⟩⟩ | exact ⟨⟨_,rfl⟩,.inr ⟨_,OL.out 1 (by omega),hJx5⟩⟩ | exact ⟨⟨_,rfl⟩,.inr ⟨_,OL.out 2 (by omega),hJx5⟩⟩
     ·obtain rfl:i=3:=by omega
      have d2:wr.cell? ⟨Be,2,none⟩=some (.slice ha m hcap):=by simp [World.cell?,CI.out]
      have J0:=hide hJi
      clear hJi CI
      gi_wp2
      gi_loopw [41] (fun c wr=>∃j:Nat,j≤m∧c=.int .i64 j∧J (offV es k+3+2 * j) wr∧Below wE.heap.size wE wr∧W.heap.size≤wr.heap.size) (fun c _=>m-(intOf c).toNat)
      case atStart=>exact ⟨0,by omega,rfl,J0.out,BI.out,hsi⟩
      case round=>
       clear J0 BI JI d2
       obtain ⟨j,hj,rfl,hJj,hbj,hsj⟩:=hrel
       have BJ:=hide hbj
       have j0:(0:Int)≤(j:Int):=by omega
       by_cases hjm:j<m
       ·have j1:(j:Int)<(m:Int):=by omega
        obtain ⟨a2,c2,ev2,hP2,_⟩:=((HE.out.below hbj).holes _ HMEM.out).at'
        simp only at ev2 hP2
        rw [EM.out] at ev2 hP2
        obtain ⟨rfl,_,rfl⟩:ha=a2∧m=m∧hcap=c2:=by simpa using ev2
        obtain ⟨g2,o2,rfl,hgl,hk1,hk2⟩:=hP2.cells j hjm
        have hal:=AL.out j (by rw [EM.out];exact hjm)
        obtain ⟨lo,elo⟩:∃t,Lo z j=t:=⟨_,rfl⟩
        obtain ⟨hv,ehv⟩:∃t,Hi z j=t:=⟨_,rfl⟩
        rw [elo] at hk1 hal
        rw [ehv] at hk2 hal
        have HAL:=hide hal
        have jA:=HJ.out _ _ _ hJj ((Only.refl (fun _=>False) wr).alloc (.cells #[.int .u64 lo,.int .u64 hv] 123))
        have L1:=OL.out (3+2 * j) (by rw [EM.out];omega)
        have L2:=OL.out (3+2 * j+1) (by rw [EM.out];omega)
        rw [← Nat.add_assoc] at L1
        rw [← Nat.add_assoc,← Nat.add_assoc] at L2
        obtain ⟨fn,tmps,assign,body,hy,hR⟩:=HY.out (offV es k+3+2 * j) _ jA L1 (by simp;omega)
        have HR:=hide hR
        have LL1:=hide L1
        have LL2:=hide L2
        have ci:=hide (show (wr.alloc (.cells #[.int .u64 lo,.int .u64 hv] 123)).heap[wr.heap.size]?=some (.cells #[.int .u64 lo,.int .u64 hv] 123 (0,0)) from heap_new_at _ _ rfl)
        have nBi:¬(M wr.heap.size∨wr.heap.size=ll∨wE.heap.size≤wr.heap.size∧Typed (wr.alloc (.cells #[.int .u64 lo,.int .u64 hv] 123)) 57 wr.heap.size):=fun h=>h.elim (fun h=>by have:=HM.out _ h;omega) (fun h=>h.elim (fun h=>by omega) (fun h=>Typed.ne h.2 (show Typed _ 123 wr.heap.size from ⟨_,ci.out⟩) (by decide) rfl))
        have NBI:=hide nBi
        have BJA:=hide (show Below wE.heap.size wE (wr.alloc (.cells #[.int .u64 lo,.int .u64 hv] 123)) from hbj.alloc hbj.size _)
        clear hR hJj hbj jA L1 L2 hal elo ehv ev2 hP2 nBi
        simp only [encN,HAL.out.1] at hy
        gi_wp2
        refine HR.out.mono ?_
        rintro e W5 (⟨rfl,hJ5,ho5⟩ | ⟨rfl,hJx5⟩)
        ·have c5:=ho5.obj NBI.out ci.out
         have d1:W5.cell? ⟨wr.heap.size,1,none⟩=some (.int .u64 hv):=by simp [World.cell?,c5]
         have B5:=hide (KEEP.out _ W5 BJA.out ho5)
         have s5:=ho5.size
         simp only [World.size_alloc] at s5
         obtain ⟨fn2,tmps2,assign2,body2,hy2,hR2⟩:=HY.out (offV es k+3+2 * j+1) W5 hJ5 LL2.out (by omega)
         have HR2:=hide hR2
         clear hJ5 ho5 hy hR2 c5
         simp only [encN,HAL.out.2] at hy2
         gi_wp2
         refine HR2.out.mono ?_
         rintro e W6 (⟨rfl,hJ6,ho6⟩ | ⟨rfl,hJx6⟩)
         ·have B6:=hide (KEEP.out _ W6 B5.out ho6)
          have J6:=hide hJ6
          have s6:=ho6.size
          clear hJ6 ho6 hy2
          gi_wp2
          go_roundw
          case rel=>first | exact ⟨j+1,by omega,by go_num,J6.out,B6.out,by omega⟩ | ((repeat apply Exists.intro);exact ⟨⟨j+1,by omega,by go_num,J6.out,B6.out,by omega⟩,rfl⟩)
          case measure=>simp [intOf];omega
         ·gi_wp2
          refine bodyPost_ret (results_none rfl _ _ _) rfl ?_
          exact ⟨⟨_,rfl⟩,.inr ⟨_,LL2.out,hJx6⟩⟩
        ·gi_wp2
         refine ⟨fun _ h=>(by cases h),?_⟩
         gi_wp2
         refine bodyPost_ret (results_none rfl _ _ _) rfl ?_
         exact ⟨⟨_,rfl⟩,.inr ⟨_,LL1.out,hJx5⟩⟩
       ·obtain rfl:j=m:=by omega
        have jn:¬(j:Int)<(j:Int):=by omega
        have J7:=hide (show J (offV es (k+1)) wr from by rw [ON.out,EM.out];exact hJj)
        clear hJj hbj
        gi_wp2
        go_roundw
        case rel=>exact ⟨k+1,by omega,by go_num,J7.out,BJ.out,hsj⟩
        case measure=>simp [intOf];omega
   ·obtain rfl:k=len:=by omega
    have hnl:¬(k:Int)<(k:Int):=by omega
    gi_wp2
    go_end0
    exact ⟨⟨_,rfl⟩,.inl (by rw [absV_length,HLN.out];exact JK.out)⟩
 ·gi_wp2
  refine bodyPost_ret (results_none rfl _ _ _) rfl ?_
  exact ⟨⟨_,rfl⟩,.inr ⟨0,by unfold absV;simp,hJx3⟩⟩
end Go.Proofs.YtbkkolfpegplgaaGreatDoor
namespace Go.Proofs.YtbkkolfpegplgaaGreatDoor
open Go Go.RowKit
attribute [local go_sem] Oper.semAt_some
theorem absV_words {es:List Ent} (hw:∀e∈es,EntW e) (hl:es.length≤1000000000) (hs:∀e∈es,e.hs.length≤1000000000):∀x∈absV es,Word x:=by
 intro x hx
 unfold absV at hx
 rcases List.mem_cons.1 hx with rfl | hx
 ·unfold Word;omega
 obtain ⟨e,he,hx⟩:=List.mem_flatMap.1 hx
 unfold absE at hx
 rcases List.mem_append.1 hx with hx | hx
 ·have:=hs e he
  simp at hx
  rcases hx with rfl | rfl | rfl
  ·exact (hw e he).rep
  ·exact (hw e he).mx
  ·unfold Word;omega
 ·obtain ⟨z,hz,hx⟩:=List.mem_flatMap.1 hx
  have:=(hw e he).hs z hz
  simp at hx
  rcases hx with rfl | rfl
  ·exact this.1
  ·exact this.2
theorem takeN_snoc {xs:List Int} {k:Nat} (h:k<xs.length):xs.take (k+1)=xs.take k ++ [xs.getD k 0]:=by
 rw [List.take_add_one,List.getElem?_eq_getElem h]
 simp [List.getD,List.getElem?_eq_getElem h]
theorem cell_one_new (w:World) (x:Value) (t:TypeId):∀j u,[x][j]?=some u→(w.alloc (.cells #[x] t)).cell? ((⟨w.heap.size,0,none⟩:Addr).add j)=some u:=by
 intro j u hj
 have ea:(⟨w.heap.size,0,none⟩:Addr).add j=⟨w.heap.size,0+j,none⟩:=by
  unfold Addr.add;split<;>simp_all
 rw [ea]
 match j,hj with
 | 0,hj=>
   simp at hj;subst hj
   have h:(w.alloc (.cells #[x] t)).heap[w.heap.size]?=some (.cells #[x] t (0,0)):=heap_new_at _ _ rfl
   generalize w.alloc (.cells #[x] t)=W at h ⊢
   simp [World.cell?,h]
theorem one_one (x:Int):∀u∈[Value.int .u64 x],u.oneCell'=true:=by
 intro u hu;simp at hu;subst hu;rfl
theorem OwnI.keep {w w':World} {base:Nat} {v:Value} {zs:List Int} {may:Nat→Prop} (h:OwnI w base v zs) (ho:Only may w w') (hm:∀k,may k→k<base):OwnI w' base v zs:=⟨row_only h.row ho hm,h.words⟩
/-- The variable that collects. -/
structure OutN (w:World) (D:Nat) (xs:List Int) (W:World):Prop where
 out:∃v,W.heap[w.heap.size]?=some (.cells #[v] 89 (0,0))∧OwnI W D v xs
 bl:Below w.heap.size w W
theorem OutN.only {w:World} {D:Nat} {xs:List Int} {A A':World} {may:Nat→Prop} (h:OutN w D xs A) (ho:Only may A A') (h0:¬may w.heap.size) (hw:∀k,may k→w.heap.size≤k) (hD:∀k,may k→k<D):OutN w D xs A':=by
 obtain ⟨⟨v,k1,k2⟩,k3⟩:=h
 exact ⟨⟨v,ho.obj h0 k1,k2.keep ho hD⟩,k3.trans (ho.below k3.size hw)⟩
theorem vnums_any (a:Option Addr) (len cap:Nat) (l:List EV) (w:World) (hE:EntsAt w a len l) (hs:∀p∈l,p.1.hs.length≤1000000000) (hlen:len≤1000000000) (hN:(absV (l.map (·.1))).length≤1000000000) :
  Calls Tryz.prog 195 #[.slice a len cap] w fun e w'=>∃v,e=.returned v∧OwnI w' w.heap.size v (absV (l.map (·.1)))∧Below w.heap.size w w':=by
 have HC:=hide (vnumbers_any a len cap)
 obtain ⟨i0,hi,hz0,hz1,hz2⟩:=info_parts info_u64
 have WDS:∀x∈absV (l.map (·.1)),Word x:=absV_words (fun e he=>by
  obtain ⟨p,hp,rfl⟩:=List.mem_map.1 he
  exact hE.words p hp) (by rw [List.length_map,hE.length];exact hlen) (fun e he=>by
  obtain ⟨p,hp,rfl⟩:=List.mem_map.1 he
  exact hs p hp)
 obtain ⟨xs,exs⟩:∃xs,absV (l.map (·.1))=xs:=⟨_,rfl⟩
 rw [exs] at WDS hN ⊢
 refine (callsIn_wide (n:=6)).1 ?_
 refine callsIn_of_wp_marks Tryz.func195 rfl trivial ?_ rfl
 simp only [Tryz.ntmps195,List.size_toArray,List.length_cons,List.length_nil,Nat.reduceAdd,Nat.reduceSub,Array.replicate_succ,Array.replicate_zero,List.push_toArray,List.append_toArray,List.nil_append,List.cons_append]
 gi_wp2_with (refine ⟨trivial,?_⟩;gi_at_call 236;refine (callsIn_wide.2 (HC.out _)).mono ?_;rintro e w' ⟨rfl,rfl⟩)
 obtain ⟨V,hV⟩:∃V,(w.alloc (.cells #[.slice none 0 0] 89)).alloc (.cells #[.slice a len cap] 76)=V:=⟨_,rfl⟩
 have hB:V.heap.size=w.heap.size+2:=by rw [← hV];simp
 have bel:Below w.heap.size w V:=by rw [← hV];exact bl_alloc (bl_alloc (Below.refl _ _) _) _
 have q1:V.heap[w.heap.size]?=some (.cells #[.slice none 0 0] 89 (0,0)):=by rw [← hV];exact heap_old_at _ _ (by simp) (heap_new_at _ _ rfl)
 have q2:V.heap[w.heap.size+1]?=some (.cells #[.slice a len cap] 76 (0,0)):=by rw [← hV];exact heap_new_at _ _ (by simp)
 rw [hV]
 clear hV
 have SEQ0:=(numbers1_typ 5 (by omega) (w.heap.size+1) a len cap l w V hE bel q2 (fun b=>b=w.heap.size) (fun k hk=>by omega) (by omega) (by omega) hs hlen)
 rw [exs] at SEQ0
 have SEQ:=hide SEQ0
 clear SEQ0 exs hE hs q2
 refine wpIn_rangeFunc_typ (gf:=258) (lb:=#[.pointer (some ⟨w.heap.size+1,0,none⟩)]) rfl (by omega) rfl trivial (enters_of Tryz.func258 (by kernel_rfl) rfl)
  SEQ.out (Below.refl _ _) (fun _=>rfl) (fun k hk=>by omega)
  (fun k W=>OutN w (V.heap.size+2) (xs.take k) W)
  (fun _ _ _=>False) ?hI (fun _ _ _ _ h _=>h) ⟨⟨_,q1,by rw [List.take_zero];exact OwnI.nil _ _⟩,bel⟩
  (fun k a₁ W=>OutN w (V.heap.size+2) (xs.take k) W ∧
    a₁={ tmps:=#[.slice a len cap,undef,.slice none 0 0,.pointer (some ⟨w.heap.size,0,none⟩),.int .u64 (xs.getD k 0),.slice a len cap,.func (.func 258) #[] #[.pointer (some ⟨w.heap.size+1,0,none⟩)],.int .u64 (xs.getD k 0),undef,undef,undef,undef,undef],defers:=[] })
  ?hAx ?assign ?body ?done (fun _ _ _ _ _ _ h _=>h.elim)
 case hI=>
  intro k A B h ho
  exact h.only ho (fun q=>by omega) (fun q hq=>by omega) (fun q hq=>by omega)
 case hAx=>
  rintro k a₁ A B ⟨h,e⟩ ho
  exact ⟨h.only ho (fun q=>by omega) (fun q hq=>by omega) (fun q hq=>by omega),e⟩
 case assign=>
  rintro l k W hlt h hk
  simp only [encN]
  gi_wp2
  exact ⟨Only.refl _ _,h,by simp [List.getD,List.getElem?_eq_getElem hk]⟩
 case body=>
  rintro ll k a₁ W hlt ⟨⟨⟨v,hv,hO⟩,hbl⟩,rfl⟩ hk
  have E1:=hide (takeN_snoc hk)
  have hlk:(xs.take k).length=k:=by rw [List.length_take];omega
  obtain ⟨x,ex⟩:∃x,xs.getD k 0=x:=⟨_,rfl⟩
  have wx:Word x:=by
   rw [← ex]
   exact WDS _ (by simp [List.getD,List.getElem?_eq_getElem hk])
  rw [ex] at E1 ⊢
  obtain ⟨L,eL⟩:∃L,xs.take k=L:=⟨_,rfl⟩
  rw [eL] at E1 hO hlk
  have v0:W.cell? ⟨w.heap.size,0,none⟩=some v:=by simp [World.cell?,hv]
  have HV:=hide hv;have HO:=hide hO;have HBL:=hide hbl
  have hDv:∀q,v.ownBlock=some q→V.heap.size+2≤q:=fun q hq=>(hO.row.lt q hq).1
  have hTv:∀q,v.ownBlock=some q→Typed W 57 q:=fun q hq=>own_typed hO.row hq
  have HTV:=hide hTv
  have hLb:L.length<1000000000:=by omega
  have HLK:=hide hlk
  clear hlk
  have sBo:=Blk_lt hv
  clear hv hO hbl ex eL hTv
  gi_wp2_with (gi_at_builtin;refine wpListIn_append_own_at _ rfl _ _ 89 rfl (V.heap.size+2) 57 i0 (.int .u64 0) 1 8 Tryz.underlying89 hi hz0 hz1 hz2 rfl (by decide) _ _ _ rfl (row_only HO.out.row ((Only.refl (fun _=>False) W).alloc _) (fun k h=>h.elim)) ⟨W.heap.size,0,none⟩ 1 1 [.int .u64 x] rfl rfl (cell_one_new _ _ _) (one_one _) (by unfold maxLen;omega) (by omega) (by simp;omega) ?_;intro v' w2 hown' hgrow _ _;obtain ⟨g',cap',rfl⟩:=ownsRow_succ hown';have hv1:=grown_kept hgrow (by simp;omega) (fun e=>by have:=hDv _ e.symm;omega) (heap_old_at W (.cells #[.int .u64 x] 57) (Blk_lt HV.out) HV.out);have y0:w2.cell? ⟨w.heap.size,0,none⟩=some v:=(by simp [World.cell?,hv1]);have y1:w2.frozen? ⟨w.heap.size,0,none⟩=false:=frozen_of_row w2 _ 0 _ _ hv1)
  have o1:Only (fun b=>b=w.heap.size∨w.heap.size≤b∧Typed W 57 b) W w2:=((Only.refl _ W).alloc (.cells #[.int .u64 x] 57)).grown hgrow (fun g hg=>.inr ⟨by have:=hDv g hg;omega,HTV.out g hg⟩)
  have o2:=o1.setCell (p:=⟨w.heap.size,0,none⟩) (.inl (.inl rfl)) (.slice (some ⟨g',0,none⟩) (L.length+1) cap')
  have o3:Only (fun b=>b=w.heap.size) w2 (w2.setCell ⟨w.heap.size,0,none⟩ (.slice (some ⟨g',0,none⟩) (L.length+1) cap')):=(Only.refl (fun b=>b=w.heap.size) w2).setCell (p:=⟨w.heap.size,0,none⟩) (.inl rfl) _
  refine ⟨show Only (fun b=>b=w.heap.size∨w.heap.size≤b∧Typed W 57 b) W _ from o2,?_⟩
  show OutN w (V.heap.size+2) (xs.take (k+1)) _
  rw [E1.out]
  refine ⟨⟨_,heap_setCell_same _ _ 0 _ _ _ hv1,row_only ?_ o3 (fun q hq=>by omega),fun z hz=>?_⟩,HBL.out.trans (o2.below (n:=w.heap.size) HBL.out.size (fun q hq=>by omega))⟩
  ·rw [List.map_append,List.length_append]
   exact hown'
  ·rcases List.mem_append.1 hz with hz | hz
   ·exact HO.out.words z hz
   ·obtain rfl:z=x:=by simpa using hz
    exact wx
 case done=>
  rintro D W hD ⟨⟨v,hv,hO⟩,hbl⟩ hK
  rw [List.take_length] at hO
  have v0:W.cell? ⟨w.heap.size,0,none⟩=some v:=by simp [World.cell?,hv]
  gi_wp2
  refine ⟨by simp,.inl ⟨_,_,rfl,run_takeDeferred hK,?_⟩⟩
  have oD:=Only.putObj (may:=fun x=>x=D) W D (.deferred none) rfl
  have nD:∀q,v.ownBlock=some q→¬q=D:=fun q hq e=>by
   obtain ⟨cs,hc⟩:=own_typed hO.row hq
   rw [e,hK] at hc
   cases hc
  refine ⟨_,results_tmp rfl _ _ _,v,rfl,⟨own_base (own_only hO.row oD nD) (by omega),hO.words⟩,hbl.trans (oD.below (n:=w.heap.size) hbl.size (fun k (hk:k=D)=>by omega))⟩
end Go.Proofs.YtbkkolfpegplgaaGreatDoor
namespace Go.Proofs.YtbkkolfpegplgaaGreatDoor
open Go Go.RowKit
theorem hi_lt {zs:List Iv} (h:Cor zs) {i j:Nat} (hij:i<j) (hj:j<zs.length):Hi zs i<Hi zs j:=by
 have h1:=cor_lo_lt h hij hj
 have h2:=(h j hj).1
 omega
def fI (lo hi x:Int):Int:=if hi<x then -1 else if lo > x then 1 else 0
theorem find1_any (lo hi x:Int) (w:World) :
  Calls Tryz.prog 226 #[.agg #[.int .u64 lo,.int .u64 hi],.int .u64 x] w fun e w'=>e=.returned (.int .i64 (fI lo hi x))∧Below w.heap.size w w':=by
 by_cases h:hi<x
 ·have e:fI lo hi x = -1:=by simp [fI,h]
  rw [e]
  clear e
  go_enter Tryz.func226,Tryz.ntmps226
  go_wp2
  go_ret
  exact ⟨rfl,bl_alloc (Below.refl _ _) _⟩
 ·by_cases h':lo > x
  ·have e:fI lo hi x=1:=by simp [fI,h,h']
   rw [e]
   clear e
   go_enter Tryz.func226,Tryz.ntmps226
   go_wp2
   go_ret
   exact ⟨rfl,bl_alloc (Below.refl _ _) _⟩
  ·have e:fI lo hi x=0:=by simp only [fI];rw [if_neg h,if_neg h']
   rw [e]
   clear e
   go_enter Tryz.func226,Tryz.ntmps226
   go_wp2
   go_ret
   exact ⟨rfl,bl_alloc (Below.refl _ _) _⟩
theorem bsearchI_any (a:Option Addr) (n cap:Nat) (zs:List Iv) (x:Int) (w:World) (h:Prs w a n zs) (hC:Cor zs) (hn:n≤100000000) :
  Calls Tryz.prog 225 #[.slice a n cap,.int .u64 x,.func (.func 226) #[] #[]] w fun e w'=>∃k:Nat,e=.returned (.tuple #[.int .i64 k,.bool (decide (InL zs x))])∧k≤n∧(InL zs x→k<n∧Lo zs k≤x∧x≤Hi zs k)∧Below w.heap.size w w':=by
 have H:=hide h
 have HC:=hide hC
 have HL:=hide h.length
 have hE:∀args W,(callFunc 226 args).run Tryz.prog W=.ok (.enter 226 args) W:=fun _ _=>by kernel_rfl
 clear h hC
 go_enter Tryz.func225,Tryz.ntmps225
 go_wp2
 go_loopw [9,10] (fun i j wr=>∃k m:Nat,k≤m∧m≤n∧i=.int .i64 k∧j=.int .i64 m∧(∀i,i<k→Hi zs i<x)∧(∀i,m≤i→i<n→x≤Hi zs i)∧Below w.heap.size w wr) (fun i j _=>(intOf j).toNat-(intOf i).toNat)
 case atStart=>exact ⟨0,n,Nat.zero_le _,Nat.le_refl _,rfl,rfl,fun i h=>absurd h (by omega),fun i h h'=>absurd h (by omega),Below.refl _ _⟩
 case round=>
  obtain ⟨k,m,hkm,hmn,rfl,rfl,hlo,hhi,hb⟩:=hrel
  have HB:=hide hb
  have HLO:=hide hlo
  have HHI:=hide hhi
  clear hlo hhi
  have i0:(0:Int)≤(k:Int):=by omega
  by_cases hlt:k<m
  ·obtain ⟨d,em⟩:∃d,(k+m) / 2=d:=⟨_,rfl⟩
   have hm:d<m:=by omega
   have hkd:k≤d:=by omega
   obtain ⟨b,off,rfl,hbl,hc1,hc2⟩:=(H.out.below hb).cells d (by omega)
   obtain ⟨hi,ehi⟩:∃hi,Hi zs d=hi:=⟨_,rfl⟩
   obtain ⟨lo,elo⟩:∃lo,Lo zs d=lo:=⟨_,rfl⟩
   rw [ehi] at hc2
   rw [elo] at hc1
   have EY:=hide ehi
   have i1:(k:Int)<(m:Int):=by omega
   have q0:IntKind.i64.wrap ((k:Int)+m)=(k:Int)+m:=IntWalk.i64_in _ (by omega)
   have q1:IntKind.u64.wrap ((k:Int)+m)=(k:Int)+m:=by rw [IntKind.wrap_u64];omega
   have q2:((k:Int)+m) / 2=d:=by omega
   have q3:IntKind.u64.wrap (d:Int)=d:=by rw [IntKind.wrap_u64];omega
   have q4:IntKind.i64.wrap (d:Int)=d:=IntWalk.i64_in _ (by omega)
   have q5:(0:Int)≤(d:Int):=by omega
   have q6:(d:Int)<(n:Int):=by omega
   have q7:IntKind.i64.wrap ((d:Int)+1)=(d:Int)+1:=IntWalk.i64_in _ (by omega)
   obtain ⟨f,ef⟩:∃f,fI lo hi x=f:=⟨_,rfl⟩
   have K:=hide (fun W=>by have:=find1_any lo hi x W;rw [ef] at this;exact this)
   have EF:=hide ef
   clear ehi elo hb em ef
   go_wp2_with fail
   refine (K.out _).mono ?_
   rintro e w1 ⟨rfl,hb1⟩
   have B1:=hide (bl_trans HB.out hb1)
   clear hb1
   by_cases hyx:hi<x
   ·have hf:f<0:=by have:=EF.out;unfold fI at this;rw [if_pos hyx] at this;omega
    have L2:=hide (show ∀i,i<d+1→Hi zs i<x from fun i hi'=>by
     rcases Nat.lt_or_ge i d with g | g
     ·have:=hi_lt HC.out g (by rw [HL.out];omega)
      have:=EY.out
      omega
     ·obtain rfl:i=d:=by omega
      have:=EY.out
      omega)
    go_wp2
    go_roundw
    case rel=>exact ⟨d+1,m,by omega,hmn,by go_num,rfl,L2.out,HHI.out,B1.out⟩
    case measure=>simp [intOf];omega
   ·have hf:¬f<0:=by have:=EF.out;unfold fI at this;rw [if_neg hyx] at this;split at this<;>omega
    have L2:=hide (show ∀i,d≤i→i<n→x≤Hi zs i from fun i hi' hin=>by
     rcases Nat.lt_or_ge d i with g | g
     ·have:=hi_lt HC.out g (by rw [HL.out];omega)
      have:=EY.out
      omega
     ·obtain rfl:i=d:=by omega
      have:=EY.out
      omega)
    go_wp2
    go_roundw
    case rel=>exact ⟨k,d,hkd,by omega,rfl,rfl,HLO.out,L2.out,B1.out⟩
    case measure=>simp [intOf];omega
  ·obtain rfl:k=m:=by omega
   have mem:InL zs x↔k<n∧Lo zs k≤x:=by
    constructor
    ·intro hm
     obtain ⟨i,hi,h1,h2⟩:=inL_at.1 hm
     have hl:=HL.out
     rcases Nat.lt_or_ge i k with g | g
     ·have:=HLO.out i g;omega
     ·rcases Nat.lt_or_ge k i with g' | g'
      ·have h3:=cor_lo_lt HC.out g' hi
       have h4:=HHI.out k (Nat.le_refl _) (by omega)
       omega
      ·obtain rfl:i=k:=by omega
       exact ⟨by omega,h1⟩
    ·rintro ⟨h1,h2⟩
     have hl:=HL.out
     exact inL_at.2 ⟨k,by omega,h2,HHI.out k (Nat.le_refl _) h1⟩
   have fin:=hide (show InL zs x→k<n∧Lo zs k≤x∧x≤Hi zs k from fun h=>by
    obtain ⟨h1,h2⟩:=mem.1 h
    exact ⟨h1,h2,HHI.out k (Nat.le_refl _) h1⟩)
   have MEM:=hide mem
   clear mem
   by_cases hkn:k<n
   ·obtain ⟨b,off,rfl,hbl,hc1,hc2⟩:=(H.out.below hb).cells k hkn
    have hle:=HHI.out k (Nat.le_refl _) hkn
    obtain ⟨hi,ehi⟩:∃hi,Hi zs k=hi:=⟨_,rfl⟩
    obtain ⟨lo,elo⟩:∃lo,Lo zs k=lo:=⟨_,rfl⟩
    rw [ehi] at hc2 hle
    have M:=MEM.out
    rw [elo] at hc1 M
    have i1:(k:Int)<(n:Int):=by omega
    obtain ⟨f,ef⟩:∃f,fI lo hi x=f:=⟨_,rfl⟩
    have K:=hide (fun W=>by have:=find1_any lo hi x W;rw [ef] at this;exact this)
    have dm:=hide (show decide (InL zs x)=(f == 0) from by
     rw [← ef]
     unfold fI
     rw [if_neg (by omega)]
     by_cases q:lo > x
     ·rw [if_pos q]
      have:¬InL zs x:=fun h=>by have:=(M.1 h).2;omega
      simp [this]
     ·rw [if_neg q]
      have:InL zs x:=M.2 ⟨hkn,by omega⟩
      simp [this])
    clear ehi elo hb M ef hle
    go_wp2_with fail
    refine (K.out _).mono ?_
    rintro e w1 ⟨rfl,hb1⟩
    have B1:=hide (bl_trans HB.out hb1)
    clear hb1
    go_wp2
    go_ret2
    exact ⟨k,(by rw [dm.out];rfl),hmn,fin.out,B1.out⟩
   ·obtain rfl:k=n:=by omega
    have dm:=hide (show decide (InL zs x)=false from by have M:=MEM.out;simp [M])
    clear hb
    go_wp2
    go_ret2
    exact ⟨k,(by rw [dm.out];rfl),hmn,fin.out,HB.out⟩
theorem rfind_any (a:Option Addr) (n cap:Nat) (zs:List Iv) (x:Int) (w:World) (h:Prs w a n zs) (hC:Cor zs) (hn:n≤100000000) :
  Calls Tryz.prog 172 #[.slice a n cap,.int .u64 x] w fun e w'=>∃k:Int,e=.returned (.int .i64 k)∧(InL zs x→0≤k)∧(¬InL zs x→k = -1)∧Below w.heap.size w w':=by
 have K:=hide (bsearchI_any a n cap zs x w h hC hn)
 clear h hC
 go_enter Tryz.func172,Tryz.ntmps172
 go_wp2_with fail
 refine K.out.mono ?_
 rintro e w1 ⟨k,rfl,hk,hf,hb⟩
 by_cases hm:InL zs x
 ·have d:decide (InL zs x)=true:=by simp [hm]
  rw [d]
  go_wp2
  go_ret
  exact ⟨k,rfl,fun _=>by omega,fun h=>absurd hm h,hb⟩
 ·have d:decide (InL zs x)=false:=by simp [hm]
  rw [d]
  go_wp2
  go_ret
  exact ⟨-1,rfl,fun h=>absurd h hm,fun _=>rfl,hb⟩
theorem rgh_any (v:Value) (zs:List Iv) (x:Int) (w:World) (h:RgAt w v zs) (hC:Cor zs) (hn:zs.length≤100000000) :
  Calls Tryz.prog 119 #[v,.int .u64 x] w fun e w'=>e=.returned (.bool (decide (InL zs x)))∧Below w.heap.size w w':=by
 obtain ⟨a,cap,rfl,hP,_⟩:=h
 have K:=hide (rfind_any a zs.length cap zs x w hP hC hn)
 clear hP hC
 go_enter Tryz.func119,Tryz.ntmps119
 go_wp2_with fail
 refine K.out.mono ?_
 rintro e w1 ⟨k,rfl,h1,h2,hb⟩
 by_cases hm:InL zs x
 ·have hk:=h1 hm
  have d:=hide (show decide (InL zs x)=true from by simp [hm])
  clear h1 h2 hm
  go_wp2
  go_ret
  exact ⟨by rw [d.out];simp [hk],hb⟩
 ·have hk:=h2 hm
  subst hk
  have d:=hide (show decide (InL zs x)=false from by simp [hm])
  clear h1 h2 hm
  go_wp2
  go_ret
  exact ⟨by rw [d.out];rfl,hb⟩
end Go.Proofs.YtbkkolfpegplgaaGreatDoor
namespace Go.Proofs.YtbkkolfpegplgaaGreatDoor
open Go Go.RowKit
attribute [local go_sem] Oper.semAt_some
theorem cmp_lt (x y:Int) (h:x<y) (w:World):Calls Tryz.prog 92 #[.int .u64 x,.int .u64 y] w fun e w'=>e=.returned (.int .i64 (-1))∧w=w':=by
 go_enter Tryz.func92,Tryz.ntmps92
 go_wp2_with fail
 refine (isnan_ok x _).mono ?_
 rintro e w1 ⟨rfl,rfl⟩
 go_wp2_with fail
 refine (isnan_ok y _).mono ?_
 rintro e w1 ⟨rfl,rfl⟩
 go_wp2
 go_ret
 exact ⟨rfl,rfl⟩
theorem isnan_int (x:Int) (w:World):Calls Tryz.prog 257 #[.int .i64 x] w fun e w'=>e=.returned (.bool false)∧w=w':=by
 have q:(x != x)=false:=by simp
 go_enter Tryz.func257,Tryz.ntmps257
 go_wp2
 go_ret
 exact ⟨rfl,rfl⟩
/-- The order of two numbers. -/
def cmpZ (x y:Int):Int:=if x<y then -1 else if y<x then 1 else 0
theorem cmp_int (x y:Int) (w:World):Calls Tryz.prog 235 #[.int .i64 x,.int .i64 y] w fun e w'=>e=.returned (.int .i64 (cmpZ x y))∧w=w':=by
 by_cases h:x<y
 ·have e:cmpZ x y = -1:=by unfold cmpZ;rw [if_pos h]
  rw [e]
  go_enter Tryz.func235,Tryz.ntmps235
  go_wp2_with fail
  refine (isnan_int x _).mono ?_
  rintro e w1 ⟨rfl,rfl⟩
  go_wp2_with fail
  refine (isnan_int y _).mono ?_
  rintro e w1 ⟨rfl,rfl⟩
  go_wp2
  go_ret
  exact ⟨rfl,rfl⟩
 ·by_cases h2:y<x
  ·have e:cmpZ x y=1:=by unfold cmpZ;rw [if_neg h,if_pos h2]
   rw [e]
   go_enter Tryz.func235,Tryz.ntmps235
   go_wp2_with fail
   refine (isnan_int x _).mono ?_
   rintro e w1 ⟨rfl,rfl⟩
   go_wp2_with fail
   refine (isnan_int y _).mono ?_
   rintro e w1 ⟨rfl,rfl⟩
   go_wp2
   go_ret
   exact ⟨rfl,rfl⟩
  ·have e:cmpZ x y=0:=by unfold cmpZ;rw [if_neg h,if_neg h2]
   rw [e]
   go_enter Tryz.func235,Tryz.ntmps235
   go_wp2_with fail
   refine (isnan_int x _).mono ?_
   rintro e w1 ⟨rfl,rfl⟩
   go_wp2_with fail
   refine (isnan_int y _).mono ?_
   rintro e w1 ⟨rfl,rfl⟩
   go_wp2
   go_ret
   exact ⟨rfl,rfl⟩
theorem drop_at {xs:List Int} {k:Nat} (h:k<xs.length):xs.drop k=xs.getD k 0 :: xs.drop (k+1):=by
 rw [List.drop_eq_getElem_cons h]
 simp [List.getD,List.getElem?_eq_getElem h]
theorem cmpL_step {xs ys:List Int} {k:Nat} (h:k<xs.length) (h':k<ys.length) (e:xs.getD k 0=ys.getD k 0):cmpL (xs.drop k) (ys.drop k)=cmpL (xs.drop (k+1)) (ys.drop (k+1)):=by
 rw [drop_at h,drop_at h',e,cmpL,if_neg (by omega),if_neg (by omega)]
theorem cmpL_ne {xs ys:List Int} {k:Nat} (h:k<xs.length) (h':k<ys.length) (e:xs.getD k 0≠ys.getD k 0):cmpL (xs.drop k) (ys.drop k)=if xs.getD k 0<ys.getD k 0 then -1 else 1:=by
 rw [drop_at h,drop_at h',cmpL]
 split
 ·rfl
 ·rw [if_pos (by omega)]
theorem cmpL_end {xs ys:List Int} {k:Nat} (h:k=min xs.length ys.length):cmpL (xs.drop k) (ys.drop k)=cmpZ xs.length ys.length:=by
 rcases Nat.lt_trichotomy xs.length ys.length with h1 | h1 | h1
 ·obtain rfl:k=xs.length:=by omega
  have e:cmpZ xs.length ys.length = -1:=if_pos (by omega)
  rw [List.drop_length,drop_at h1,e];rfl
 ·obtain rfl:k=xs.length:=by omega
  have e:cmpZ xs.length ys.length=0:=by unfold cmpZ;rw [if_neg (by omega),if_neg (by omega)]
  rw [List.drop_length,List.drop_of_length_le (by omega),e];rfl
 ·obtain rfl:k=ys.length:=by omega
  have e:cmpZ xs.length ys.length=1:=by unfold cmpZ;rw [if_neg (by omega),if_pos (by omega)]
  rw [List.drop_length,drop_at h1,e];rfl
theorem order_any (a a':Option Addr) (len cap len' cap':Nat) (xs ys:List Int) (w:World) (h:Ints .u64 w a len xs) (h':Ints .u64 w a' len' ys) :
  Calls Tryz.prog 194 #[.slice a len cap,.slice a' len' cap'] w fun e w'=>e=.returned (.int .i64 (cmpL xs ys))∧Below w.heap.size w w':=by
 have H:=hide h
 have H':=hide h'
 have hl:=hide h.length
 have hl':=hide h'.length
 have hm:=h.most
 have hm':=h'.most
 clear h h'
 obtain ⟨m,em⟩:∃m,m=min len len':=⟨_,rfl⟩
 have emz:min (len:Int) (len':Int)=(m:Int):=by omega
 have m1:m≤len:=by omega
 have m2:m≤len':=by omega
 have EM:=hide em
 clear em
 go_enter Tryz.func194,Tryz.ntmps194
 go_wp2
 clear emz
 go_loopw [11] (fun c wr=>∃k:Nat,k≤m∧c=.int .i64 k∧cmpL (xs.drop k) (ys.drop k)=cmpL xs ys∧Below w.heap.size w wr) (fun c _=>m-(intOf c).toNat)
 case atStart=>exact ⟨0,Nat.zero_le _,rfl,by simp,Below.refl _ _⟩
 case round=>
  obtain ⟨k,hk,rfl,hs,hb⟩:=hrel
  have HS:=hide hs
  clear hs
  by_cases hlt:k<m
  ·obtain ⟨b,off,rfl,hbl,hcell⟩:=(H.out.below hb).cells k (by omega)
   obtain ⟨b',off',rfl,hbl',hcell'⟩:=(H'.out.below hb).cells k (by omega)
   have i0:(0:Int)≤(k:Int):=by omega
   have i1:(k:Int)<(m:Int):=by omega
   have i2:(k:Int)<(len:Int):=by omega
   have i3:(k:Int)<(len':Int):=by omega
   have E1:=hide (fun e=>cmpL_step (xs:=xs) (ys:=ys) (k:=k) (by rw [hl.out];omega) (by rw [hl'.out];omega) e)
   have E2:=hide (fun e=>cmpL_ne (xs:=xs) (ys:=ys) (k:=k) (by rw [hl.out];omega) (by rw [hl'.out];omega) e)
   obtain ⟨x,ex⟩:∃x,xs.getD k 0=x:=⟨_,rfl⟩
   obtain ⟨y,ey⟩:∃y,ys.getD k 0=y:=⟨_,rfl⟩
   rw [ex] at hcell E1 E2
   rw [ey] at hcell' E1 E2
   clear ex ey
   by_cases hxy:x=y
   ·subst hxy
    have d1:((x:Int) != x)=false:=by simp
    have HS2:=hide ((E1.out rfl).symm.trans HS.out)
    clear E1 E2
    go_wp2
    go_quiet (fail)
    go_wp2
    go_roundw
    case rel=>exact ⟨k+1,by omega,by go_num,HS2.out,bl_drewN hb _⟩
    case measure=>simp [intOf];omega
   ·have d1:((x:Int) != y)=true:=by simp [hxy]
    have E3:=hide (HS.out.symm.trans (E2.out hxy))
    clear E1 E2
    rcases Int.lt_or_gt_of_ne hxy with hl1 | hl1
    ·have K:=hide (fun W=>cmp_lt x y hl1 W)
     have E4:=hide (E3.out.trans (if_pos hl1))
     clear hxy hl1 E3
     go_wp2
     go_quiet (fail)
     go_wp2
     go_quiet ((refine Calls.mono (K.out _) ?_;rintro e w1 ⟨rfl,rfl⟩;first | exact ⟨rfl,_,rfl⟩ | exact ⟨rfl,_,by simp;rfl⟩ | (refine ⟨rfl,?_⟩;simp)))
     go_wp2
     go_ret
     exact ⟨by rw [E4.out];rfl,by first | exact bl_drewN hb _ | exact bl_drewN (bl_drewN hb _) _⟩
    ·have K:=hide (fun W=>cmp_gt x y hl1 W)
     have E4:=hide (E3.out.trans (if_neg (by omega)))
     clear hxy hl1 E3
     go_wp2
     go_quiet (fail)
     go_wp2
     go_quiet ((refine Calls.mono (K.out _) ?_;rintro e w1 ⟨rfl,rfl⟩;first | exact ⟨rfl,_,rfl⟩ | exact ⟨rfl,_,by simp;rfl⟩ | (refine ⟨rfl,?_⟩;simp)))
     go_wp2
     go_ret
     exact ⟨by rw [E4.out];rfl,by first | exact bl_drewN hb _ | exact bl_drewN (bl_drewN hb _) _⟩
  ·obtain rfl:k=m:=by omega
   have E5:=hide (HS.out.symm.trans (cmpL_end (by rw [hl.out,hl'.out];exact EM.out)))
   have nlt:¬(k:Int)<(k:Int):=by omega
   go_wp2_with fail
   refine (cmp_int _ _ _).mono ?_
   rintro e w1 ⟨rfl,rfl⟩
   go_wp2
   go_ret
   exact ⟨by rw [E5.out,hl.out,hl'.out];rfl,hb⟩
end Go.Proofs.YtbkkolfpegplgaaGreatDoor
namespace Go.Proofs.YtbkkolfpegplgaaGreatDoor
open Go Go.RowKit
theorem vcompare_any (a a':Option Addr) (len cap len' cap':Nat) (l l':List EV) (w:World) (h:EntsAt w a len l) (h':EntsAt w a' len' l')
  (hs:∀p∈l,p.1.hs.length≤1000000000) (hs':∀p∈l',p.1.hs.length≤1000000000) (hlen:len≤1000000000) (hlen':len'≤1000000000)
  (hN:(absV (l.map (·.1))).length≤1000000000) (hN':(absV (l'.map (·.1))).length≤1000000000) :
  Calls Tryz.prog 139 #[.slice a len cap,.slice a' len' cap'] w fun e w'=>e=.returned (.int .i64 (cmpL (absV (l.map (·.1))) (absV (l'.map (·.1)))))∧Below w.heap.size w w':=by
 have K:=hide (vnums_any a len cap l w h hs hlen hN)
 have K':=hide (fun W (hb:Below w.heap.size w W)=>vnums_any a' len' cap' l' W (h'.below hb) hs' hlen' hN')
 generalize absV (l.map (·.1))=xs at K hN ⊢
 generalize absV (l'.map (·.1))=ys at K' hN' ⊢
 clear h h' hs hs'
 go_enter Tryz.func139,Tryz.ntmps139
 go_wp2_with fail
 refine K.out.mono ?_
 rintro e w1 ⟨v,rfl,hO,hb1⟩
 have O1:=hide hO
 have B1:=hide hb1
 clear hO hb1
 go_wp2_with fail
 refine (K'.out _ B1.out).mono ?_
 rintro e w2 ⟨v',rfl,hO2,hb2⟩
 obtain ⟨a1,c1,rfl,hI1,_⟩:=(O1.out.below hb2).ints (by omega)
 obtain ⟨a2,c2,rfl,hI2,_⟩:=hO2.ints (by omega)
 have B2:=hide (bl_trans B1.out hb2)
 have I1:=hide hI1;have I2:=hide hI2
 clear hI1 hI2 hO2 hb2 O1
 go_wp2_with fail
 refine (order_any _ _ _ _ _ _ _ _ _ I1.out I2.out).mono ?_
 rintro e w3 ⟨rfl,hb3⟩
 have B3:=hide (bl_trans B2.out hb3)
 clear hb3
 go_wp2
 go_ret
 exact ⟨rfl,B3.out⟩
end Go.Proofs.YtbkkolfpegplgaaGreatDoor
