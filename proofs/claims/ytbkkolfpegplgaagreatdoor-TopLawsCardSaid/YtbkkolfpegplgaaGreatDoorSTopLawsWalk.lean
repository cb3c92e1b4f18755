/- kenningtop.TopLaws: the walk. (Printed by wip/mktlaws.py.) -/
import Derived.Test.YtbkkolfpegplgaaGreatDoorSG37
import Derived.Test.YtbkkolfpegplgaaGreatDoorSG41
set_option maxHeartbeats 12800000
set_option maxRecDepth 100000
set_option linter.unusedVariables false
set_option linter.unusedSimpArgs false
namespace Go.Proofs.YtbkkolfpegplgaaGreatDoor
open Go Go.RowKit
theorem knO_U {la lb:List FV} {x r c:Int}:KnO tkU la lb x r c↔KnK (la.map FV.frag) x r c∨KnK (lb.map FV.frag) x r c:=by
 unfold KnO tkU
 rw [Bool.or_eq_true,decide_eq_true_iff,decide_eq_true_iff]
theorem knO_M {la lb:List FV} {x r c:Int}:KnO tkM la lb x r c↔KnK (la.map FV.frag) x r c∧KnK (lb.map FV.frag) x r c:=by
 unfold KnO tkM
 rw [Bool.and_eq_true,decide_eq_true_iff,decide_eq_true_iff]
theorem canon_kok {v:Value} {l:List FV} {P Q T:Nat} {w:World} (h:KOk w v l P Q T) (hP:P≤10000) (hQ:Q≤39000) (hT:T≤400000) :
  Calls Tryz.prog 11 #[v] w fun e w'=>∃v' l',e=.returned v'∧CanL l'∧(∀x r c,KnK (l'.map FV.frag) x r c↔KnK (l.map FV.frag) x r c)∧KOk w' v' l' P (Q+3) (1+2 * T)∧Below w.heap.size w w':=by
 obtain ⟨hE,hn,⟨V,A,N,hO,hN,v1,v2,v3,v4⟩,ht,hl⟩:=h
 have hV:V≤1000000:=Nat.le_trans (Nat.le_mul_of_pos_left _ (Nat.succ_pos N)) v1
 have hA:A+3≤1000000:=Nat.le_trans (Nat.le_mul_of_pos_left _ (Nat.succ_pos N)) v2
 refine (canon_any v l 1000000 V A N w hE hO (Nat.le_refl _) (by omega) (by omega) hV (by omega) hN (by omega) (by omega)).mono ?_
 rintro e w' ⟨v',l',rfl,h⟩
 exact ⟨v',l',rfl,h.can,h.kn,(can_kok h (by omega) (by omega) (by omega)).mono (by omega) (by omega) (by omega),h.bl⟩
theorem topLaws_walk (va:Value) (la:List FV) (vb:Value) (lb:List FV) (vc:Value) (lc:List FV) (w:World) (ha:KnwAt w va la∧NilOk va∧la.length≤9223372036854775807) (hb:KnwAt w vb lb∧NilOk vb∧lb.length≤9223372036854775807) (hc:KnwAt w vc lc∧NilOk vc∧lc.length≤9223372036854775807) (hg:Laid w) :
  Calls Tryz.prog 3 #[va,vb,vc] w fun e w'=>e=.returned (.bool true)∧Below w.heap.size w w':=by
 have LAID:=hide hg
 obtain ⟨hka,hna,hma⟩:=ha
 obtain ⟨aa,ca,rfl⟩:=knw_slice hka
 obtain ⟨na,ena⟩:∃n,la.length=n:=⟨_,rfl⟩
 rw [ena] at hka hna hma ⊢
 have HKa:=hide hka
 have HNa:=hide hna
 have HMa:=hide hma
 have ENa:=hide ena
 obtain ⟨hkb,hnb,hmb⟩:=hb
 obtain ⟨ab,cb,rfl⟩:=knw_slice hkb
 obtain ⟨nb,enb⟩:∃n,lb.length=n:=⟨_,rfl⟩
 rw [enb] at hkb hnb hmb ⊢
 have HKb:=hide hkb
 have HNb:=hide hnb
 have HMb:=hide hmb
 have ENb:=hide enb
 obtain ⟨hkc,hnc,hmc⟩:=hc
 obtain ⟨ac,cc,rfl⟩:=knw_slice hkc
 obtain ⟨nc,enc⟩:∃n,lc.length=n:=⟨_,rfl⟩
 rw [enc] at hkc hnc hmc ⊢
 have HKc:=hide hkc
 have HNc:=hide hnc
 have HMc:=hide hmc
 have ENc:=hide enc
 clear hka hkb hkc hna hnb hnc hma hmb hmc ena enb enc hg
 go_enter Tryz.func3,Tryz.ntmps3
 go_wp2_with fail
 obtain ⟨w1,ew1⟩:∃w1,w.alloc (.cells #[.slice aa na ca,.slice ab nb cb,.slice ac nc cc] 23)=w1:=⟨_,rfl⟩
 have B1:=hide (show Below w.heap.size w w1 from by rw [← ew1];exact bl_alloc (Below.refl _ _) _)
 have q1:w1.heap[w.heap.size]?=some (.cells #[.slice aa na ca,.slice ab nb cb,.slice ac nc cc] 23 (0,0)):=by rw [← ew1];exact heap_new_at _ _ rfl
 have hKs:KnsAt w1 (some ⟨w.heap.size,0,none⟩) 3 [(.slice aa na ca,la),(.slice ab nb cb,lb),(.slice ac nc cc,lc)]:=by
  refine ⟨rfl,by decide,fun p hp=>?_,fun i hi=>⟨w.heap.size,0,rfl,Blk_lt q1,?_⟩⟩
  ·simp at hp
   rcases hp with rfl | rfl | rfl
   ·exact ⟨HKa.out.below B1.out,HNa.out,by rw [ENa.out];exact HMa.out⟩
   ·exact ⟨HKb.out.below B1.out,HNb.out,by rw [ENb.out];exact HMb.out⟩
   ·exact ⟨HKc.out.below B1.out,HNc.out,by rw [ENc.out];exact HMc.out⟩
  ·match i,hi with
   | 0,_=>simp [World.cell?,q1,List.getD]
   | 1,_=>simp [World.cell?,q1,List.getD]
   | 2,_=>simp [World.cell?,q1,List.getD]
 rw [ew1]
 refine (right_any _ 3 3 _ w1 hKs).mono ?_
 clear hKs q1 ew1
 rintro e w2 ⟨⟨bb,rfl,hbb⟩,hb2⟩
 have B2:=hide (B1.out.trans (hb2.mono B1.out.size))
 clear hb2
 have RUN:=hide (fun W (hW:Below w.heap.size w W)=>runs_any W (LAID.out.below hW))
 cases bb with
 | false=>
   clear hbb
   go_wp2_with fail
   refine (RUN.out _ B2.out).mono ?_
   rintro e w3 ⟨rfl,hb3⟩
   have B3:=hide (B2.out.trans (hb3.mono B2.out.size))
   clear hb3
   go_wp2
   go_ret
   exact ⟨rfl,B3.out⟩
 | true=>
   have GD:=hide (hbb rfl)
   clear hbb
   by_cases ha5:5<(na:Int)
   ·have d5:decide (5<(na:Int))=true:=decide_eq_true ha5
    go_wp2_with fail
    refine (RUN.out _ B2.out).mono ?_
    rintro e w3 ⟨rfl,hb3⟩
    have B3:=hide (B2.out.trans (hb3.mono B2.out.size))
    clear hb3
    go_wp2
    go_ret
    exact ⟨rfl,B3.out⟩
   have da5:decide (5<(na:Int))=false:=decide_eq_false ha5
   by_cases hb5:5<(nb:Int)
   ·have d5:decide (5<(nb:Int))=true:=decide_eq_true hb5
    go_wp2_with fail
    refine (RUN.out _ B2.out).mono ?_
    rintro e w3 ⟨rfl,hb3⟩
    have B3:=hide (B2.out.trans (hb3.mono B2.out.size))
    clear hb3
    go_wp2
    go_ret
    exact ⟨rfl,B3.out⟩
   have db5:decide (5<(nb:Int))=false:=decide_eq_false hb5
   by_cases hc5:5<(nc:Int)
   ·have d5:decide (5<(nc:Int))=true:=decide_eq_true hc5
    go_wp2_with fail
    refine (RUN.out _ B2.out).mono ?_
    rintro e w3 ⟨rfl,hb3⟩
    have B3:=hide (B2.out.trans (hb3.mono B2.out.size))
    clear hb3
    go_wp2
    go_ret
    exact ⟨rfl,B3.out⟩
   have dc5:decide (5<(nc:Int))=false:=decide_eq_false hc5
   have Ha:=hide (show KOk w2 (.slice aa na ca) la (5 * 20) (5 * 33) (5 * 20) from GoodK.kok (GD.out (.slice aa na ca,la) (by simp)) (HKa.out.below B2.out) HNa.out (by rw [ENa.out];omega) (by decide))
   have Hb:=hide (show KOk w2 (.slice ab nb cb) lb (5 * 20) (5 * 33) (5 * 20) from GoodK.kok (GD.out (.slice ab nb cb,lb) (by simp)) (HKb.out.below B2.out) HNb.out (by rw [ENb.out];omega) (by decide))
   have Hc:=hide (show KOk w2 (.slice ac nc cc) lc (5 * 20) (5 * 33) (5 * 20) from GoodK.kok (GD.out (.slice ac nc cc,lc) (by simp)) (HKc.out.below B2.out) HNc.out (by rw [ENc.out];omega) (by decide))
   clear HKa HKb HKc HNa HNb HNc HMa HMb HMc ENa ENb ENc
   go_wp2_with fail
   refine (kunion_any Ha.out Hb.out (by decide) (by decide) (by decide)).mono ?_
   rintro e w3 ⟨vd,ld,rfl,hR,hC,hK,hO,hb⟩
   have Cd:=hide hC
   have Nd:=hide hK
   have Ha:=hide (Ha.out.below hb)
   have Hb:=hide (Hb.out.below hb)
   have Hc:=hide (Hc.out.below hb)
   obtain ⟨ad,cd,rfl⟩:=hO.slice
   obtain ⟨nd,en⟩:∃n,ld.length=n:=⟨_,rfl⟩
   rw [en] at hO ⊢
   have Hd:=hide hO
   have B2:=hide (B2.out.trans (hb.mono B2.out.size))
   clear hR hC hK hO hb en
   go_wp2_with fail
   refine (kunion_any Hd.out Hc.out (by decide) (by decide) (by decide)).mono ?_
   rintro e w4 ⟨vx,lx,rfl,hR,hC,hK,hO,hb⟩
   have Cx:=hide hC
   have Nx:=hide hK
   have Ha:=hide (Ha.out.below hb)
   have Hb:=hide (Hb.out.below hb)
   have Hc:=hide (Hc.out.below hb)
   have Hd:=hide (Hd.out.below hb)
   obtain ⟨ax,cx,rfl⟩:=hO.slice
   obtain ⟨nx,en⟩:∃n,lx.length=n:=⟨_,rfl⟩
   rw [en] at hO ⊢
   have Hx:=hide hO
   have B2:=hide (B2.out.trans (hb.mono B2.out.size))
   clear hR hC hK hO hb en
   go_wp2_with fail
   refine (kunion_any Hc.out Hb.out (by decide) (by decide) (by decide)).mono ?_
   rintro e w5 ⟨vf,lf,rfl,hR,hC,hK,hO,hb⟩
   have Cf:=hide hC
   have Nf:=hide hK
   have Ha:=hide (Ha.out.below hb)
   have Hb:=hide (Hb.out.below hb)
   have Hc:=hide (Hc.out.below hb)
   have Hd:=hide (Hd.out.below hb)
   have Hx:=hide (Hx.out.below hb)
   obtain ⟨af,cf,rfl⟩:=hO.slice
   obtain ⟨nf,en⟩:∃n,lf.length=n:=⟨_,rfl⟩
   rw [en] at hO ⊢
   have Hf:=hide hO
   have B2:=hide (B2.out.trans (hb.mono B2.out.size))
   clear hR hC hK hO hb en
   go_wp2_with fail
   refine (kunion_any Hf.out Ha.out (by decide) (by decide) (by decide)).mono ?_
   rintro e w6 ⟨vy,ly,rfl,hR,hC,hK,hO,hb⟩
   have Cy:=hide hC
   have Ny:=hide hK
   have Ha:=hide (Ha.out.below hb)
   have Hb:=hide (Hb.out.below hb)
   have Hc:=hide (Hc.out.below hb)
   have Hd:=hide (Hd.out.below hb)
   have Hx:=hide (Hx.out.below hb)
   have Hf:=hide (Hf.out.below hb)
   obtain ⟨ay,cy,rfl⟩:=hO.slice
   obtain ⟨ny,en⟩:∃n,ly.length=n:=⟨_,rfl⟩
   rw [en] at hO ⊢
   have Hy:=hide hO
   have B2:=hide (B2.out.trans (hb.mono B2.out.size))
   clear hR hC hK hO hb en
   go_wp2_with fail
   refine (kmeet_any Ha.out Hb.out (by decide) (by decide) (by decide)).mono ?_
   rintro e w7 ⟨vm,lm,rfl,hR,hC,hK,hO,hb⟩
   have Cm:=hide hC
   have Nm:=hide hK
   have Ha:=hide (Ha.out.below hb)
   have Hb:=hide (Hb.out.below hb)
   have Hc:=hide (Hc.out.below hb)
   have Hd:=hide (Hd.out.below hb)
   have Hx:=hide (Hx.out.below hb)
   have Hf:=hide (Hf.out.below hb)
   have Hy:=hide (Hy.out.below hb)
   obtain ⟨am,cm,rfl⟩:=hO.slice
   obtain ⟨nm,en⟩:∃n,lm.length=n:=⟨_,rfl⟩
   rw [en] at hO ⊢
   have Hm:=hide hO
   have B2:=hide (B2.out.trans (hb.mono B2.out.size))
   clear hR hC hK hO hb en
   go_wp2_with fail
   refine (kmeet_any Hm.out Hc.out (by decide) (by decide) (by decide)).mono ?_
   rintro e w8 ⟨vp,lp,rfl,hR,hC,hK,hO,hb⟩
   have Cp:=hide hC
   have Np:=hide hK
   have Ha:=hide (Ha.out.below hb)
   have Hb:=hide (Hb.out.below hb)
   have Hc:=hide (Hc.out.below hb)
   have Hd:=hide (Hd.out.below hb)
   have Hx:=hide (Hx.out.below hb)
   have Hf:=hide (Hf.out.below hb)
   have Hy:=hide (Hy.out.below hb)
   have Hm:=hide (Hm.out.below hb)
   obtain ⟨ap,cp,rfl⟩:=hO.slice
   obtain ⟨np,en⟩:∃n,lp.length=n:=⟨_,rfl⟩
   rw [en] at hO ⊢
   have Hp:=hide hO
   have B2:=hide (B2.out.trans (hb.mono B2.out.size))
   clear hR hC hK hO hb en
   go_wp2_with fail
   refine (kmeet_any Hc.out Hb.out (by decide) (by decide) (by decide)).mono ?_
   rintro e w9 ⟨vg,lg,rfl,hR,hC,hK,hO,hb⟩
   have Cg:=hide hC
   have Ng:=hide hK
   have Ha:=hide (Ha.out.below hb)
   have Hb:=hide (Hb.out.below hb)
   have Hc:=hide (Hc.out.below hb)
   have Hd:=hide (Hd.out.below hb)
   have Hx:=hide (Hx.out.below hb)
   have Hf:=hide (Hf.out.below hb)
   have Hy:=hide (Hy.out.below hb)
   have Hm:=hide (Hm.out.below hb)
   have Hp:=hide (Hp.out.below hb)
   obtain ⟨ag,cg,rfl⟩:=hO.slice
   obtain ⟨ng,en⟩:∃n,lg.length=n:=⟨_,rfl⟩
   rw [en] at hO ⊢
   have Hg:=hide hO
   have B2:=hide (B2.out.trans (hb.mono B2.out.size))
   clear hR hC hK hO hb en
   go_wp2_with fail
   refine (kmeet_any Hg.out Ha.out (by decide) (by decide) (by decide)).mono ?_
   rintro e w10 ⟨vq,lq,rfl,hR,hC,hK,hO,hb⟩
   have Cq:=hide hC
   have Nq:=hide hK
   have Ha:=hide (Ha.out.below hb)
   have Hb:=hide (Hb.out.below hb)
   have Hc:=hide (Hc.out.below hb)
   have Hd:=hide (Hd.out.below hb)
   have Hx:=hide (Hx.out.below hb)
   have Hf:=hide (Hf.out.below hb)
   have Hy:=hide (Hy.out.below hb)
   have Hm:=hide (Hm.out.below hb)
   have Hp:=hide (Hp.out.below hb)
   have Hg:=hide (Hg.out.below hb)
   obtain ⟨aq,cq,rfl⟩:=hO.slice
   obtain ⟨nq,en⟩:∃n,lq.length=n:=⟨_,rfl⟩
   rw [en] at hO ⊢
   have Hq:=hide hO
   have B2:=hide (B2.out.trans (hb.mono B2.out.size))
   clear hR hC hK hO hb en
   go_wp2_with fail
   refine (kunion_any Ha.out Hm.out (by decide) (by decide) (by decide)).mono ?_
   rintro e w11 ⟨vsa,lsa,rfl,hR,hC,hK,hO,hb⟩
   have Csa:=hide hC
   have Nsa:=hide hK
   have Ha:=hide (Ha.out.below hb)
   have Hb:=hide (Hb.out.below hb)
   have Hc:=hide (Hc.out.below hb)
   have Hd:=hide (Hd.out.below hb)
   have Hx:=hide (Hx.out.below hb)
   have Hf:=hide (Hf.out.below hb)
   have Hy:=hide (Hy.out.below hb)
   have Hm:=hide (Hm.out.below hb)
   have Hp:=hide (Hp.out.below hb)
   have Hg:=hide (Hg.out.below hb)
   have Hq:=hide (Hq.out.below hb)
   obtain ⟨asa,csa,rfl⟩:=hO.slice
   obtain ⟨nsa,en⟩:∃n,lsa.length=n:=⟨_,rfl⟩
   rw [en] at hO ⊢
   have Hsa:=hide hO
   have B2:=hide (B2.out.trans (hb.mono B2.out.size))
   clear hR hC hK hO hb en
   go_wp2_with fail
   refine (kmeet_any Ha.out Hd.out (by decide) (by decide) (by decide)).mono ?_
   rintro e w12 ⟨vta,lta,rfl,hR,hC,hK,hO,hb⟩
   have Cta:=hide hC
   have Nta:=hide hK
   have Ha:=hide (Ha.out.below hb)
   have Hb:=hide (Hb.out.below hb)
   have Hc:=hide (Hc.out.below hb)
   have Hd:=hide (Hd.out.below hb)
   have Hx:=hide (Hx.out.below hb)
   have Hf:=hide (Hf.out.below hb)
   have Hy:=hide (Hy.out.below hb)
   have Hm:=hide (Hm.out.below hb)
   have Hp:=hide (Hp.out.below hb)
   have Hg:=hide (Hg.out.below hb)
   have Hq:=hide (Hq.out.below hb)
   have Hsa:=hide (Hsa.out.below hb)
   obtain ⟨ata,cta,rfl⟩:=hO.slice
   obtain ⟨nta,en⟩:∃n,lta.length=n:=⟨_,rfl⟩
   rw [en] at hO ⊢
   have Hta:=hide hO
   have B2:=hide (B2.out.trans (hb.mono B2.out.size))
   clear hR hC hK hO hb en
   go_wp2_with fail
   refine (canon_kok Ha.out (by decide) (by decide) (by decide)).mono ?_
   rintro e w13 ⟨vk,lk,rfl,hC,hK,hO,hb⟩
   have Ck:=hide hC
   have Nk:=hide hK
   have Ha:=hide (Ha.out.below hb)
   have Hb:=hide (Hb.out.below hb)
   have Hc:=hide (Hc.out.below hb)
   have Hd:=hide (Hd.out.below hb)
   have Hx:=hide (Hx.out.below hb)
   have Hf:=hide (Hf.out.below hb)
   have Hy:=hide (Hy.out.below hb)
   have Hm:=hide (Hm.out.below hb)
   have Hp:=hide (Hp.out.below hb)
   have Hg:=hide (Hg.out.below hb)
   have Hq:=hide (Hq.out.below hb)
   have Hsa:=hide (Hsa.out.below hb)
   have Hta:=hide (Hta.out.below hb)
   obtain ⟨ak,ck,rfl⟩:=hO.slice
   obtain ⟨nk,en⟩:∃n,lk.length=n:=⟨_,rfl⟩
   rw [en] at hO ⊢
   have Hk:=hide hO
   have B2:=hide (B2.out.trans (hb.mono B2.out.size))
   clear hC hK hO hb en
   go_wp2_with fail
   refine (RUN.out _ B2.out).mono ?_
   rintro e v0 ⟨rfl,hb⟩
   have Hx:=hide (Hx.out.below hb)
   have Hy:=hide (Hy.out.below hb)
   have Hp:=hide (Hp.out.below hb)
   have Hq:=hide (Hq.out.below hb)
   have Hsa:=hide (Hsa.out.below hb)
   have Hta:=hide (Hta.out.below hb)
   have Hk:=hide (Hk.out.below hb)
   have B2:=hide (B2.out.trans (hb.mono B2.out.size))
   clear hb
   have exy:=hide (know_unique Cx.out Cy.out (fun x r c=>by
    have h1:=(Nx.out x r c).trans knO_U
    have h2:=(Nd.out x r c).trans knO_U
    have h3:=(Ny.out x r c).trans knO_U
    have h4:=(Nf.out x r c).trans knO_U
    rw [h1,h2,h3,h4]
    constructor
    ·rintro ((h | h) | h)<;>simp [h]
    ·rintro ((h | h) | h)<;>simp [h]))
   have epq:=hide (know_unique Cp.out Cq.out (fun x r c=>by
    have h1:=(Np.out x r c).trans knO_M
    have h2:=(Nm.out x r c).trans knO_M
    have h3:=(Nq.out x r c).trans knO_M
    have h4:=(Ng.out x r c).trans knO_M
    rw [h1,h2,h3,h4]
    exact ⟨fun ⟨⟨h1,h2⟩,h3⟩=>⟨⟨h3,h2⟩,h1⟩,fun ⟨⟨h1,h2⟩,h3⟩=>⟨⟨h3,h2⟩,h1⟩⟩))
   have esk:=hide (know_unique Csa.out Ck.out (fun x r c=>by
    have h1:=(Nsa.out x r c).trans knO_U
    have h2:=(Nm.out x r c).trans knO_M
    rw [h1,h2,Nk.out x r c]
    exact ⟨fun h=>h.elim id And.left,.inl⟩))
   have etk:=hide (know_unique Cta.out Ck.out (fun x r c=>by
    have h1:=(Nta.out x r c).trans knO_M
    have h2:=(Nd.out x r c).trans knO_U
    rw [h1,h2,Nk.out x r c]
    exact ⟨And.left,fun h=>⟨h,.inl h⟩⟩))
   go_wp2_with fail
   refine (same11_yes _ _ lx ly _ Hx.out.at' Hy.out.at' exy.out (by have:=Hx.out.len;omega)).mono ?_
   rintro e u0 ⟨rfl,hb⟩
   have Hp:=hide (Hp.out.below hb)
   have Hq:=hide (Hq.out.below hb)
   have Hsa:=hide (Hsa.out.below hb)
   have Hta:=hide (Hta.out.below hb)
   have Hk:=hide (Hk.out.below hb)
   have B2:=hide (B2.out.trans (hb.mono B2.out.size))
   clear hb
   go_wp2_with fail
   refine (same11_yes _ _ lp lq _ Hp.out.at' Hq.out.at' epq.out (by have:=Hp.out.len;omega)).mono ?_
   rintro e u1 ⟨rfl,hb⟩
   have Hsa:=hide (Hsa.out.below hb)
   have Hta:=hide (Hta.out.below hb)
   have Hk:=hide (Hk.out.below hb)
   have B2:=hide (B2.out.trans (hb.mono B2.out.size))
   clear hb
   go_wp2_with fail
   refine (same11_yes _ _ lsa lk _ Hsa.out.at' Hk.out.at' esk.out (by have:=Hsa.out.len;omega)).mono ?_
   rintro e u2 ⟨rfl,hb⟩
   have Hta:=hide (Hta.out.below hb)
   have Hk:=hide (Hk.out.below hb)
   have B2:=hide (B2.out.trans (hb.mono B2.out.size))
   clear hb
   go_wp2_with fail
   refine (same11_yes _ _ lta lk _ Hta.out.at' Hk.out.at' etk.out (by have:=Hta.out.len;omega)).mono ?_
   rintro e u3 ⟨rfl,hb⟩
   have B2:=hide (B2.out.trans (hb.mono B2.out.size))
   clear hb
   go_wp2
   go_ret
   exact ⟨rfl,B2.out⟩
end Go.Proofs.YtbkkolfpegplgaaGreatDoor
