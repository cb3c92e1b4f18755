/- The walk of TopCodec. -/
import Derived.Test.YtbkkolfpegplgaaGreatDoorS3G52
import Derived.Test.YtbkkolfpegplgaaGreatDoorS3G37
import Derived.Test.YtbkkolfpegplgaaGreatDoorS3G6
import Derived.Test.YtbkkolfpegplgaaGreatDoorS3G27
set_option maxHeartbeats 12800000
set_option maxRecDepth 100000
set_option linter.unusedVariables false
set_option linter.unusedSimpArgs false
namespace Go.Proofs.YtbkkolfpegplgaaGreatDoor
open Go Go.RowKit
theorem joinB_row{w:World}{b n:Nat}{v:Value}{zs:List Int}(h:OwnB w b v zs)(hn:zs.length=n)(hm:n≤4000000000):∃a c,v=.slice a n c∧Ints .u8 w a n zs∧n≤c∧(a=none→c=0):=by
 subst hn;obtain⟨a,c,rfl,hI,hc⟩:=h.ints (by omega);refine⟨a,c,rfl,hI,hc,fun e=>?_⟩;rcases h.row.2 with⟨hv,_⟩ | ⟨g,cap,cur,hv,_⟩
 ·simp at hv
  exact hv.2.2
 ·rw[e]at hv;cases hv
theorem topCodec_walk(v:Value)(l:List FV)(w:World)(hk:KnwAt w v l∧NilOk v∧l.length≤9223372036854775807)(hg:Laid w) :
  Calls Tryz.prog 4 #[v] w fun e w'=>e=.returned (.bool true)∧Below w.heap.size w w':=by
 have LAID:=z7 hg;obtain⟨hka,hna,hma⟩:=hk;obtain⟨a,cap,rfl⟩:=z3w hka;obtain⟨n,en⟩:∃n,l.length=n:=⟨_,rfl⟩;rw[en]at hka hna hma ⊢;have HK:=z7 hka;have HN:=z7 hna;have HM:=z7 hma;have EN:=z7 en;clear hka hna hma en hg;go_enter Tryz.func4,Tryz.ntmps4
 go_wp2_with fail
 obtain⟨w1,ew1⟩:∃w1,w.alloc (.cells #[.slice a n cap] 23)=w1:=⟨_,rfl⟩;have B1:=z7 (show Below w.heap.size w w1 from by rw[← ew1];exact zc (Below.refl _ _) _);have q1:w1.heap[w.heap.size]?=some (.cells #[.slice a n cap] 23 (0,0)):=by rw[← ew1];exact ze _ _ rfl
 have hKs:KnsAt w1 (some ⟨w.heap.size,0,none⟩) 1 [(.slice a n cap,l)]:=by
  refine⟨rfl,by decide,fun p hp=>?_,fun i hi=>⟨w.heap.size,0,rfl,zh q1,?_⟩⟩
  ·simp at hp
   subst hp;exact⟨HK.out.below B1.out,HN.out,by rw[EN.out];exact HM.out⟩
  ·match i,hi with
   | 0,_=>simp[World.cell?,q1,List.getD]
 rw[ew1];refine(right_any _ 1 1 _ w1 hKs).mono ?_;clear hKs q1 ew1;rintro e w2 ⟨⟨bb,rfl,hbb⟩,hb2⟩;have B2:=z7 (B1.out.trans (hb2.mono B1.out.size));clear hb2;have RUN:=z7 (fun W (hW:Below w.heap.size w W)=>runs_any W (LAID.out.below hW))
 cases bb with
 | false=>
   clear hbb;go_wp2_with fail
   refine(RUN.out _ B2.out).mono ?_;rintro e w3 ⟨rfl,hb3⟩;have B3:=z7 (B2.out.trans (hb3.mono B2.out.size));clear hb3;go_wp2
   go_ret
   exact⟨rfl,B3.out⟩
 | true=>
   have GD:=z7 (hbb rfl);clear hbb;have KO:=z7 (fun W (hW:Below w.heap.size w W)=>show KOk W (.slice a n cap) l 240 396 240 from GoodK.kok (n:=12) (GD.out (.slice a n cap,l) (by simp)) (HK.out.below hW) HN.out (GD.out (.slice a n cap,l) (by simp)).1.len (by decide));clear HK HN HM;go_wp2_with fail
   refine(any_encode (KO.out _ B2.out)).mono ?_;rintro e w3 ⟨vb,c,rfl,hS,hkn,hO,hb⟩;have S1:=z7 hS;have K1:=z7 hkn;have B3:=z7 (B2.out.trans (hb.mono B2.out.size));obtain⟨zs,ezs⟩:∃zs,joinB (weN c)=zs:=⟨_,rfl⟩;have EZ:=z7 ezs;have hsz:zs.length+100≤1000000000:=by rw[← ezs];have:=z12 (weN c);have:=hS.nums.1;omega
   rw[ezs]at hO;obtain⟨m,em⟩:∃m,zs.length=m:=⟨_,rfl⟩;obtain⟨ab,cb,rfl,hI,hcm,hn0⟩:=joinB_row hO em (by omega);rw[em]at hsz;have EM:=z7 em;have SZ:=z7 hsz;have I3:=z7 hI;have CM:=z7 (And.intro hcm hn0);have BYT:=z7 hO.bytes;clear hS hkn hb hO hI hcm hn0 hsz em ezs;go_wp2_with fail
   refine(can_small (KO.out _ B3.out)).mono ?_;rintro e w4 ⟨v2,c2,rfl,hR2,hS2,hk2,hb⟩;have F2:=z7 (S1.out.same hS2.can (fun x r k=>(hk2 x r k).trans (K1.out x r k).symm));have R2:=z7 hR2.know;have B4:=z7 (B3.out.trans (hb.mono B3.out.size));have I4:=z7 (I3.out.below hb);have L2:=z7 hS2.len;obtain⟨a2,cp2,rfl⟩:=z3w hR2.know;clear hR2 hS2 hk2 hb;have D1:=z7 (decode_any ab m cb zs (.ok (c.map FV.frag)) w4 (LAID.out.below B4.out) I4.out CM.out.1 (by have:=SZ.out;omega) (by
    have:=run_small S1.out (small_fit S1.out) [] (by simp);rw[EZ.out,List.append_nil,if_pos rfl]at this;exact this))
   go_wp2_with fail
   refine D1.out.mono ?_;clear D1;rintro e w5 ⟨hb,hR⟩;obtain⟨v3,c3,rfl,hr3,hf3⟩:=withinR_ok hR;have F3:=z7 hf3;have R3:=z7 hr3.know;have R2:=z7 (R2.out.below hb);have B5:=z7 (B4.out.trans (hb.mono B4.out.size));have I5:=z7 (I4.out.below hb);obtain⟨a3,cp3,rfl⟩:=z3w hr3.know;clear hR hr3 hf3 hb;go_wp2_with fail
   refine(least_any (.slice a n cap) l w5 (KO.out _ B5.out)).mono ?_;rintro e w6 ⟨c4,hS4,hk4,rfl,hb⟩;have F4:=z7 (S1.out.same hS4.can (fun x r k=>(hk4 x r k).trans (K1.out x r k).symm));have FT:=z7 (least_fit hS4);have S4:=z7 hS4;have hlf:(leastLm c4).f=(m:Int):=by
    show(((joinB (weN c4)).length:Nat):Int)=m
    rw[F4.out.2.2,EZ.out,EM.out]
   have R2:=z7 (R2.out.below hb);have R3:=z7 (R3.out.below hb);have B6:=z7 (B5.out.trans (hb.mono B5.out.size));have I6:=z7 (I5.out.below hb);obtain⟨lm,elm⟩:∃lm,leastLm c4=lm:=⟨_,rfl⟩;rw[elm]at FT hlf;rw[elm];unfold limV;have LF:=z7 hlf;clear hS4 hk4 hb elm hlf;go_wp2_with fail
   obtain⟨w7,ew7⟩:∃w7,w6.alloc (.cells #[.int .i64 lm.f,.int .i64 lm.ve,.int .i64 lm.en,.int .i64 lm.ho,.int .i64 lm.se] 38)=w7:=⟨_,rfl⟩;have b7:Below w6.heap.size w6 w7:=by rw[← ew7];exact zc (Below.refl _ _) _
   have q7:w7.heap[w6.heap.size]?=some (.cells #[.int .i64 lm.f,.int .i64 lm.ve,.int .i64 lm.en,.int .i64 lm.ho,.int .i64 lm.se] 38 (0,0)):=by rw[← ew7];exact ze _ _ rfl
   have l0:w7.cell? ⟨w6.heap.size,0,none⟩=some (.int .i64 lm.f):=by simp[World.cell?,q7]
   have l1:w7.cell? ⟨w6.heap.size,1,none⟩=some (.int .i64 lm.ve):=by simp[World.cell?,q7]
   have l2:w7.cell? ⟨w6.heap.size,2,none⟩=some (.int .i64 lm.en):=by simp[World.cell?,q7]
   have l3:w7.cell? ⟨w6.heap.size,3,none⟩=some (.int .i64 lm.ho):=by simp[World.cell?,q7]
   have l4:w7.cell? ⟨w6.heap.size,4,none⟩=some (.int .i64 lm.se):=by simp[World.cell?,q7]
   have R2:=z7 (R2.out.below b7);have R3:=z7 (R3.out.below b7);have B7:=z7 (B6.out.trans (b7.mono B6.out.size));have I7:=z7 (I6.out.below b7);have D2:=z7 (wwithin_any ab m cb zs lm FT.out.2.1 FT.out.2.2 (.ok (c4.map FV.frag)) w7 (LAID.out.below B7.out) I7.out CM.out.1 (by have:=SZ.out;omega) (by
    have:=run_small S4.out FT.out.1 [] (by simp);rw[F4.out.2.2,EZ.out,List.append_nil,if_pos rfl]at this;exact this))
   have Q7:=z7 (And.intro (zh q7) l0);rw[ew7];clear ew7 b7 q7;go_wp2_with fail
   refine D2.out.mono ?_;clear D2 l0 l1 l2 l3 l4;rintro e w8 ⟨hb,hR⟩;obtain⟨v5,c5,rfl,hr5,hf5⟩:=withinR_ok hR;have F5:=z7 hf5;have R5:=z7 hr5.know;have R2:=z7 (R2.out.below hb);have R3:=z7 (R3.out.below hb);have B8:=z7 (B7.out.trans (hb.mono B7.out.size));have I8:=z7 (I7.out.below hb);have Q8:=z7 (And.intro (Nat.lt_of_lt_of_le Q7.out.1 hb.size) (zg hb Q7.out.1 Q7.out.2));obtain⟨a5,cp5,rfl⟩:=z3w hr5.know;clear hR hr5 hf5 hb;have O8:=z7 (show OwnB (w8.alloc (.cells #[] 5)) w8.heap.size (.slice (some ⟨w8.heap.size,0,none⟩) 0 0) [] from⟨by have:=World.ownsRow_lit (base:=w8.heap.size) (e:=5) (size:=1) w8 #[] 0 (Nat.le_refl _) (by unfold maxLen;omega) rfl;simpa using this,by simp⟩);have A8:=z7 (zc (Below.refl w8.heap.size w8) (.cells #[] 5));go_wp2_with(first
    | (at_builtin;(refine z18 rfl _ _ rfl w8.heap.size _ [] rfl O8.out ab m cb zs rfl (I8.out.below A8.out) CM.out.2 (by have:=SZ.out;have:=EM.out;simp;omega) (by simp) ?_;intro v9 w9 hO9 hg9;have O9:=z7 hO9;have B89:=z7 (A8.out.grown hg9 (by simp) (fun q hq=>(O8.out.row.lt q hq).1));clear hO9 hg9))
    | (at_builtin;go_loud(refine z18 rfl _ _ rfl w8.heap.size _ ([] ++ zs) rfl (O9.out.below (zc (Below.refl _ _) _)) (some ⟨w9.heap.size,0,none⟩) 1 1 [0] rfl (ints1b (by omega) (ze _ _ rfl)) (fun e=>(by cases e)) (by have:=SZ.out;have:=EM.out;simp;omega) (by have:=B89.out.size;simp;omega) ?_;intro v10 w10 hO10 hg10;have O10:=z7 hO10;have B810:=z7 ((zc B89.out _).grown hg10 (by have:=B89.out.size;simp;omega) (fun q hq=>(O9.out.row.lt q hq).1));clear hO10 hg10))
    | fail)
   have e10:([] ++ zs ++ [0]).length=m+1:=by simp[EM.out]
   obtain⟨a10,c10,rfl,hI10,hc10,_⟩:=joinB_row O10.out e10 (by have:=SZ.out;omega);have D3:=z7 (decode_any a10 (m+1) c10 ([] ++ zs ++ [0]) (.error (11,(m:Int))) w10 (LAID.out.below (B8.out.trans (B810.out.mono B8.out.size))) hI10 hc10 (by have:=SZ.out;omega) (by
    have:=run_small S1.out (small_fit S1.out) [0] (by simp);rw[EZ.out,if_neg (by simp),EM.out]at this;rw[List.nil_append];exact this))
   have R2:=z7 (R2.out.below B810.out);have R3:=z7 (R3.out.below B810.out);have R5:=z7 (R5.out.below B810.out);have B10:=z7 (B8.out.trans (B810.out.mono B8.out.size));have Q10:=z7 (And.intro (Nat.lt_of_lt_of_le Q8.out.1 B810.out.size) (zg B810.out Q8.out.1 Q8.out.2));clear e10 hI10 hc10;go_wp2_with fail
   refine D3.out.mono ?_;clear D3;rintro e w11 ⟨hb,hR⟩;obtain rfl:e=.returned (.tuple #[.slice none 0 0,.iface 107 (.agg #[.int .i64 11,.int .i64 (m:Int)])]):=hR;have R2:=z7 (R2.out.below hb);have R3:=z7 (R3.out.below hb);have R5:=z7 (R5.out.below hb);have B11:=z7 (B10.out.trans (hb.mono B10.out.size));have Q11:=z7 (And.intro (Nat.lt_of_lt_of_le Q10.out.1 hb.size) (zg hb Q10.out.1 Q10.out.2));clear hb;go_wp2_with fail
   refine(RUN.out _ B11.out).mono ?_;rintro e w12 ⟨rfl,hb⟩;have R2:=z7 (R2.out.below hb);have R3:=z7 (R3.out.below hb);have R5:=z7 (R5.out.below hb);have B12:=z7 (B11.out.trans (hb.mono B11.out.size));have Q12:=z7 (And.intro (Nat.lt_of_lt_of_le Q11.out.1 hb.size) (zg hb Q11.out.1 Q11.out.2));have KS:=z7 (same11_yes (.slice a3 c3.length cp3) (.slice a2 c2.length cp2) c3 c2 w12 R3.out R2.out (by rw[F3.out,F2.out.2.1]) (by have:=L2.out;have h2:=congrArg List.length F3.out;have h3:=congrArg List.length F2.out.2.1;rw[List.length_map,List.length_map]at h2 h3;omega));clear hb;go_wp2_with fail
   refine KS.out.mono ?_;clear KS;rintro e w13 ⟨rfl,hb⟩;have R2:=z7 (R2.out.below hb);have R5:=z7 (R5.out.below hb);have B13:=z7 (B12.out.trans (hb.mono B12.out.size));have Q13:=z7 (And.intro (Nat.lt_of_lt_of_le Q12.out.1 hb.size) (zg hb Q12.out.1 Q12.out.2));have KS:=z7 (same11_yes (.slice a5 c5.length cp5) (.slice a2 c2.length cp2) c5 c2 w13 R5.out R2.out (by rw[F5.out,F4.out.2.1,F2.out.2.1]) (by have:=L2.out;have h2:=congrArg List.length F5.out;have h3:=congrArg List.length F4.out.2.1;have h4:=congrArg List.length F2.out.2.1;rw[List.length_map,List.length_map]at h2 h3 h4;omega));clear hb;go_wp2_with fail
   refine KS.out.mono ?_;clear KS;rintro e w14 ⟨rfl,hb⟩;have B14:=z7 (B13.out.trans (hb.mono B13.out.size));have q14:=zg hb Q13.out.1 Q13.out.2;rw[LF.out]at q14;clear hb;go_wp2_with fail
   refine(code_F 11 (m:Int) w14 (LAID.out.below B14.out)).mono ?_;rintro e w15 ⟨rfl,hb⟩;have B15:=z7 (B14.out.trans (hb.mono B14.out.size));clear hb;go_wp2_with fail
   refine(at_F 11 (m:Int) w15 (LAID.out.below B15.out)).mono ?_;rintro e w16 ⟨rfl,hb⟩;have B16:=z7 (B15.out.trans (hb.mono B15.out.size));clear hb;go_wp2
   go_ret
   exact⟨rfl,B16.out⟩
end Go.Proofs.YtbkkolfpegplgaaGreatDoor
