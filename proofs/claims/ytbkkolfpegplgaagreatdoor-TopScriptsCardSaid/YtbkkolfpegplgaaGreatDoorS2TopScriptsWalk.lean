/- kenningtop.TopScripts: the walk. (Printed by wip/mkscr.py.) -/
import Derived.Test.YtbkkolfpegplgaaGreatDoorS2G50
import Derived.Test.YtbkkolfpegplgaaGreatDoorS2G41
set_option maxHeartbeats 25600000
set_option maxRecDepth 100000
set_option linter.unusedVariables false
set_option linter.unusedSimpArgs false
namespace Go.Proofs.YtbkkolfpegplgaaGreatDoor
open Go Go.RowKit
theorem topScripts_walk(av:Option Addr)(n cv:Nat)(L:List KV)(ao:Option Addr)(m co:Nat)(O:List OpV)(ax:Option Addr)(len cx:Nat)(X:List (Int×Int×Int))(w:World)(hK:KnsAt w av n L)(hO:OpsAt w ao m O)(hX:VersAt w ax len X)(hg:Laid w) :
  Calls Tryz.prog 6 #[.slice av n cv,.slice ao m co,.slice ax len cx] w fun e w'=>e=.returned (.bool true)∧Below w.heap.size w w':=by
 have hmx:Tryz.prog.follows .mixedOrders=true:=by kernel_rfl
 obtain⟨i0,hi,hz0,hz1,hz2⟩:=info_parts info_know;obtain⟨j0,hj,hy0,hy1,hy2⟩:=info_parts info_bool;have LAID:=z7 hg;have RUN:=z7 (fun W (hW:Below w.heap.size w W)=>runs_any W (LAID.out.below hW));have KF:=z7 (fits_any av n cv L ao m co O w hK hO);have HK:=z7 hK;have HO:=z7 hO;have HX:=z7 hX;have hm1:=hK.most;have hm2:=hO.most;have hm3:=hX.most;clear hg hK hO hX;go_enter Tryz.func6,Tryz.ntmps6
 go_wp2_with fail
 refine KF.out.mono ?_;rintro e w1 ⟨⟨bb,rfl,hbb⟩,hb1⟩;have B1:=z7 hb1;clear hb1
 cases bb with
 | false=>
   clear hbb;go_wp2_with fail
   refine(RUN.out _ B1.out).mono ?_;rintro e wz ⟨rfl,hbz⟩;have BZ:=z7 ((B1.out).trans (hbz.mono (B1.out).size));clear hbz;go_wp2
   go_ret
   exact⟨rfl,BZ.out⟩
 | true=>
   have FT:=z7 (hbb rfl);clear hbb;by_cases h20:20<(len:Int)
   ·have d20:decide (20<(len:Int))=true:=decide_eq_true h20
    go_wp2_with fail
    refine(RUN.out _ B1.out).mono ?_;rintro e wz ⟨rfl,hbz⟩;have BZ:=z7 ((B1.out).trans (hbz.mono (B1.out).size));clear hbz;go_wp2
    go_ret
    exact⟨rfl,BZ.out⟩
   have d20:decide (20<(len:Int))=false:=decide_eq_false h20;have NPOS:=z7 (show 0<n from by have:=FT.out.n0;have:=HK.out.length;omega);have NB:=z7 (show n≤4∧m≤6∧len≤20 from by have h1:=FT.out.n4;have h2:=FT.out.o6;have h3:=HK.out.length;have h4:=HO.out.length;omega);have hav:∃b off,av=some ⟨b,off,none⟩:=by
    obtain⟨b,off,e,_⟩:=HK.out.cells 0 NPOS.out;exact⟨b,off,e⟩
   obtain⟨ab,aoff,rfl⟩:=hav;have NEWS:=z7 (show ∀W,Below w.heap.size w W→∀(j:Nat) (u:Value),(L.map (·.1))[j]?=some u→W.cell? ((⟨ab,aoff,none⟩:Addr).add j)=some u from fun W hW j u hj=>by
    have hjl:j<L.length:=by have:=(List.getElem?_eq_some_iff.1 hj).1;simpa using this
    obtain⟨b,off,e,_,hc⟩:=(HK.out.below hW).cells j (by have:=HK.out.length;omega);injection e with e
    injection e with e1 e2 _
    subst e1;subst e2;have ea:(⟨ab,aoff,none⟩:Addr).add j=⟨ab,aoff+j,none⟩:=by unfold Addr.add;split<;>simp_all
    rw[ea,hc];have:(L.map (·.1))[j]?=some (L.getD j KV.z).1:=by simp[List.getD,List.getElem?_eq_getElem hjl]
    rw[← this];exact hj)
   have ONE:=z7 (show ∀u∈L.map (·.1),u.oneCell'=true from fun u hu=>by
    obtain⟨p,hp,rfl⟩:=List.mem_map.1 hu;obtain⟨a',c',e⟩:=z4d (HK.out.kn p hp).1;rw[e];rfl)
   have HL:=z7 HK.out.length;go_wp2_with(first
    | (at_builtin;go_loud(refine wpList_append_own_at _ rfl _ _ 51 rfl w.heap.size 23 i0 (.slice none 0 0) 1 24 Tryz.underlying51 hi hz0 hz1 hz2 rfl (by decide) (.slice (some ⟨w1.heap.size,0,none⟩) 0 0) 0 [] rfl (by have:=World.ownsRow_lit (base:=w.heap.size) (e:=23) (size:=1) w1 #[] 0 B1.out.size (by unfold maxLen;omega) rfl;simpa using this) ⟨ab,aoff,none⟩ n cv (L.map (·.1)) rfl (by simp[HL.out]) (NEWS.out _ (zc B1.out _)) ONE.out (by have:=NB.out;unfold maxLen;omega) (by have:=NB.out;omega) (by have:=B1.out.size;simp;omega) ?_;intro v2 w2 hO2 hg2 _ _;have R2:=z7 hO2;have G2:=z7 hg2;clear hO2 hg2))
    | (fail))
   rw[Nat.zero_add,List.nil_append]at R2;obtain⟨g,cp,rfl,_,_⟩:=R2.out.form NPOS.out;have O2:Only (fun b=>b=w1.heap.size) (w1.alloc (.cells #[] 23)) w2:=(Only.refl _ _).grown G2.out (fun k hk=>by simpa[Value.ownBlock]using hk.symm);have B2:=z7 (show Below w.heap.size w w2 from(zc B1.out _).trans (O2.below (n:=w.heap.size) (by have:=B1.out.size;simp;omega) (fun b hb=>by have:=B1.out.size;omega)));have KB0:=z7 (show ∀p∈L,KBnd p.2 100 165 100 from fun p hp=>(GoodK.kok (FT.out.good p hp) (HK.out.kn p hp).1 (HK.out.kn p hp).2.1 (FT.out.few p hp) (by decide)).b);have N2:=z7 (show NowR w w2 g n cp L (Pn 0) (Qn 0) (Tn 0)from⟨R2.out,HL.out,fun p hp=>⟨.inl (HK.out.kn p hp).1,(HK.out.kn p hp).2.1,(KB0.out p hp).mono (Nat.le_refl _) (Nat.le_refl _) (by decide)⟩,B2.out⟩);have I2:=z7 (ScrI.start O (fun p hp=>(KB0.out p hp).tot));have HOL:=z7 HO.out.length;have HFIT:=z7 (show ∀k,k<m→FitO (O.getD k OpV.z) L.length from fun k hk=>FT.out.ops _ (HO.out.mem hk));clear O2 hi hz0 hz1 hz2;go_loopw [32] (fun ci wr=>∃(k:Nat) (Lk:List KV),k≤m∧ci=.int .i64 k∧NowR w wr g n cp Lk (Pn k) (Qn k) (Tn k)∧ScrI L O k Lk) (fun ci _=>m-(intOf ci).toNat)
   case atStart=>exact⟨0,L,Nat.zero_le _,rfl,N2.out,I2.out⟩
   case round=>
    obtain⟨k,Lk,hk,rfl,hNk,hIk⟩:=hrel;have HN:=z7 hNk;have HI:=z7 hIk;have hb:=hNk.bl;have HB:=z7 hb;have i0':(0:Int)≤(k:Int):=by omega
    clear hNk hIk;by_cases hlt:k<m
    ·have i1:(k:Int)<(m:Int):=by omega
     have Hr:=HO.out.below hb;obtain⟨b,off,rfl,hbl,hcs⟩:=Hr.cells k hlt;have hit:=Hr.items _ (Hr.mem hlt);have hwd:=Hr.ints _ (Hr.mem hlt);have hfit:=HFIT.out k hlt;have STEP:=z7 (fun(v':Value) (l':List FV) hk'=>ScrI.step (v':=v') (l':=l') HI.out (HN.out.length.trans HL.out.symm) hfit hk');have han:(O.getD k OpV.z).a.toNat<n:=by have:=hfit.a;have:=HL.out;omega
     have HAN:=z7 han;obtain⟨op,eo⟩:∃o,O.getD k OpV.z=o:=⟨_,rfl⟩;rw[eo]at hcs hit hwd hfit STEP HAN;obtain⟨kind,oa,ob,items,iv,ox,orr,oc⟩:=op;simp only at hit hwd;have c0:=hcs 0 _ rfl;have c1:=hcs 1 _ rfl;have c2:=hcs 2 _ rfl;have c3:=hcs 3 _ rfl;have c4:=hcs 4 _ rfl;have c5:=hcs 5 _ rfl;have c6:=hcs 6 _ rfl;have HIT:=z7 hit;obtain⟨ai,ci,rfl,_,_⟩:=hit;obtain⟨wq,ewq⟩:∃wq,wr.alloc (.cells #[.int .i64 kind,.int .i64 oa,.int .i64 ob,.slice ai items.length ci,.int .u64 ox,.int .u64 orr,.int .u64 oc] 61)=wq:=⟨_,rfl⟩;have bq:Below wr.heap.size wr wq:=by rw[← ewq];exact zc (Below.refl _ _) _
     have q1:wq.heap[wr.heap.size]?=some (.cells #[.int .i64 kind,.int .i64 oa,.int .i64 ob,.slice ai items.length ci,.int .u64 ox,.int .u64 orr,.int .u64 oc] 61 (0,0)):=by rw[← ewq];exact ze _ _ rfl
     have hbn:=n_le (k:=k) (by have:=NB.out;omega);have KD:=z7 (scrdo_any w g n cp Lk (Pn k) (Qn k) (Tn k) _ wq (HN.out.below bq) (by rw[← HL.out];exact hfit) hwd.2 (HIT.out.below bq) (by have:=NB.out;omega) hbn.1 hbn.2.1 hbn.2.2);unfold OpV.cells at KD;simp only at KD c0 c1 c2 c3 c4 c5 c6;obtain⟨ni,eni⟩:∃ni,items.length=ni:=⟨_,rfl⟩;rw[eni]at c3 q1 ewq KD STEP HAN;have e0:wq.cell? ⟨wr.heap.size,0,none⟩=some (.int .i64 kind):=by simp[World.cell?,q1]
     have e1:wq.cell? ⟨wr.heap.size,1,none⟩=some (.int .i64 oa):=by simp[World.cell?,q1]
     have e2:wq.cell? ⟨wr.heap.size,2,none⟩=some (.int .i64 ob):=by simp[World.cell?,q1]
     have e3:wq.cell? ⟨wr.heap.size,3,none⟩=some (.slice ai ni ci):=by simp[World.cell?,q1]
     have e4:wq.cell? ⟨wr.heap.size,4,none⟩=some (.int .u64 ox):=by simp[World.cell?,q1]
     have e5:wq.cell? ⟨wr.heap.size,5,none⟩=some (.int .u64 orr):=by simp[World.cell?,q1]
     have e6:wq.cell? ⟨wr.heap.size,6,none⟩=some (.int .u64 oc):=by simp[World.cell?,q1]
     simp only[Nat.add_zero]at c0;clear hcs hbl eo hb Hr q1 bq hwd hfit han hbn eni;go_wp2_with fail
     refine KD.out.mono ?_;rintro e w5 ⟨v',l',rfl,hN',hC',hk'⟩;obtain⟨hI',S,hS1,hS2⟩:=STEP.out v' l' hk';have NT:=z7 (NowR.tight hN' (fun p hp=>(HN.out.ents p hp).2.2) hC' hS1 hS2 (show Tn k≤2 * Tn k+22 by omega) (by rw[HN.out.length];exact HAN.out));have IS:=z7 hI';clear hN' hC' hk' hI' hS1 hS2;go_wp2
     go_roundw
     case rel=>exact⟨k+1,_,by omega,by go_num,NT.out,IS.out⟩
     case measure=>simp[intOf];omega
    ·obtain rfl:m=k:=by omega
     clear hb;obtain⟨wk,ewk⟩:∃wk,wk=wr:=⟨_,rfl⟩;subst ewk;go_wp2
     go_loopw [43] (fun ci W=>∃k2:Nat,k2≤len∧ci=.int .i64 k2∧Below wk.heap.size wk W) (fun ci _=>len-(intOf ci).toNat)
     case atStart=>exact⟨0,Nat.zero_le _,rfl,Below.refl _ _⟩
     case round=>
      obtain⟨k2,hk2,rfl,hb2⟩:=hrel;obtain⟨W,eW⟩:∃W,W=wr:=⟨_,rfl⟩;subst eW;have HB2:=z7 hb2;have i02:(0:Int)≤(k2:Int):=by omega
      by_cases hlt2:k2<len
      ·have i12:(k2:Int)<(len:Int):=by omega
       have bw:=HB.out.trans (hb2.mono HB.out.size);have Hx:=HX.out.below bw;obtain⟨b,off,rfl,hbl,hc1,hc2,hc3⟩:=Hx.cells k2 hlt2;have hwd:=Hx.words (X.getD k2 (0,0,0)) (by rw[List.getD,List.getElem?_eq_getElem (by rw[Hx.length];exact hlt2),Option.getD_some];exact List.getElem_mem _);obtain⟨q,eq⟩:∃q,X.getD k2 (0,0,0)=q:=⟨_,rfl⟩;rw[eq]at hc1 hc2 hc3 hwd;obtain⟨x,r,c⟩:=q;simp only at hc1 hc2 hc3 hwd;obtain⟨wx,ewx⟩:∃wx,W.alloc (.cells #[.int .u64 x,.int .u64 r,.int .u64 c] 59)=wx:=⟨_,rfl⟩;have bx:Below W.heap.size W wx:=by rw[← ewx];exact zc (Below.refl _ _) _
       have qx:wx.heap[W.heap.size]?=some (.cells #[.int .u64 x,.int .u64 r,.int .u64 c] 59 (0,0)):=by rw[← ewx];exact ze _ _ rfl
       have CX:=z7 (show ∀W',Below wx.heap.size wx W'→W'.cell? ⟨W.heap.size,0,none⟩=some (.int .u64 x)∧W'.cell? ⟨W.heap.size,1,none⟩=some (.int .u64 r)∧W'.cell? ⟨W.heap.size,2,none⟩=some (.int .u64 c)from fun W' h'=>by
        have:=(h'.block _ (zh qx)).trans qx;exact⟨by simp[World.cell?,this],by simp[World.cell?,this],by simp[World.cell?,this]⟩)
       have BX:=z7 (HB2.out.trans (bx.mono HB2.out.size));have BWX:=z7 (show Below w.heap.size w wx from bw.trans (bx.mono bw.size));have WD:=z7 hwd;clear hbl eq hwd Hx bw bx qx hb2;go_wp2_with fail
       try rw[ewx]
       clear ewx;go_loopw [12,49] (fun kv ci W'=>∃(k3:Nat) (bs:List Bool),k3≤n∧ci=.int .i64 k3∧OwnB1 W' wx.heap.size kv bs∧bs.length=k3∧(∀i,i<k3→(bs.getD i false=true↔KnK ((L.getD i KV.z).2.map FV.frag) x r c))∧Below wx.heap.size wx W') (fun _ ci _=>n-(intOf ci).toNat)
       case atStart=>exact⟨0,[],Nat.zero_le _,rfl,World.ownsRow_nil _ _ _ _,rfl,fun i hi=>absurd hi (by omega),Below.refl _ _⟩
       case round=>
        obtain⟨k3,bs,hk3,rfl,hOb,hbl3,hbs,hb3⟩:=hrel;have HOB:=z7 hOb;have HBS:=z7 hbs;have HB3:=z7 hb3;have i03:(0:Int)≤(k3:Int):=by omega
        by_cases hlt3:k3<n
        ·have i13:(k3:Int)<(n:Int):=by omega
         have bw3:=BWX.out.trans (hb3.mono BWX.out.size);have Hk:=HK.out.below bw3;obtain⟨b3,off3,e3,_,hc4⟩:=Hk.cells k3 hlt3;injection e3 with e3
         injection e3 with e31 e32 e33
         subst e31;subst e32;clear e33;have hmem:=Hk.mem hlt3;obtain⟨hkn,_,hml⟩:=Hk.kn _ hmem;have hgd:=FT.out.good _ hmem;obtain⟨p,ep⟩:∃p,L.getD k3 KV.z=p:=⟨_,rfl⟩;have EP:=z7 ep;rw[ep]at hc4 hkn hml hgd;obtain⟨v,l⟩:=p;simp only at hc4 hkn hml hgd;obtain⟨x0,x1,x2⟩:=CX.out _ hb3;have KH:=z7 (r11has_any v l x r c _ hkn hgd.2.vec hml WD.out.1 WD.out.2.2);obtain⟨ak,ck,rfl⟩:=z4d hkn;obtain⟨nl,enl⟩:∃n,l.length=n:=⟨_,rfl⟩;rw[enl]at hc4 KH;obtain⟨b1,eb1⟩:∃b1,decide (KnK (l.map FV.frag) x r c)=b1:=⟨_,rfl⟩;have EB1:=z7 eb1;rw[eb1]at KH;unfold OwnB1 at hOb;rw[hbl3]at hOb;have HOB:=z7 hOb;obtain⟨akv,ckv,rfl,_⟩:=zl hOb;have HBL3:=z7 hbl3;clear ep hkn hml hgd hmem Hk bw3 enl eb1 hOb hbs hb3 hbl3;go_wp2_with fail
         refine KH.out.mono ?_;rintro e w4 ⟨rfl,hb4⟩;have B4:=z7 (HB3.out.trans (hb4.mono HB3.out.size));have O4:=z7 (z2f HOB.out hb4);clear hb4 x0 x1 x2 hc4;go_wp2_with(first
          | (at_builtin;go_loud(refine wpList_append_own_at _ rfl _ _ 63 rfl wx.heap.size 4 j0 (.bool false) 1 1 Tryz.underlying63 hj hy0 hy1 hy2 rfl (by decide) (.slice akv k3 ckv) k3 (bs.map Value.bool) rfl (z2f O4.out (zc (Below.refl _ _) _)) ⟨w4.heap.size,0,none⟩ 1 1 [.bool b1] rfl rfl (zx (ze _ _ rfl)) (by intro u hu;simp at hu;subst hu;rfl) (by have:=NB.out;unfold maxLen;omega) (by have:=NB.out;omega) (by have:=B4.out.size;simp;omega) ?_;intro v6 w6 hO6 hg6 _ _;have R6:=z7 hO6;have G6:=z7 hg6;clear hO6 hg6))
          | (fail))
         have B6:=z7 (show Below wx.heap.size wx w6 from(zc B4.out _).grown G6.out (by have:=B4.out.size;simp;omega) (fun q hq=>(O4.out.lt q hq).1));have R7:=z7 (show OwnB1 w6 wx.heap.size v6 (bs ++ [b1])from by
          unfold OwnB1;rw[List.length_append,HBL3.out,List.map_append];exact R6.out)
         have HS3:=z7 (show ∀i,i<k3+1→((bs ++ [b1]).getD i false=true↔KnK ((L.getD i KV.z).2.map FV.frag) x r c)from fun i hi=>by
          have hbl:=HBL3.out;by_cases e:i<k3
          ·rw[List.getD,List.getElem?_append_left (by omega),← List.getD]
           exact HBS.out i e
          ·obtain rfl:i=k3:=by omega
           rw[← hbl,show(bs ++ [b1]).getD bs.length false=b1 from by simp[List.getD],hbl,EP.out,← EB1.out,decide_eq_true_iff])
         have HBL6:=z7 (show(bs ++ [b1]).length=k3+1 from by rw[List.length_append,HBL3.out];rfl);obtain⟨a6,c6,rfl,_⟩:=zl R7.out;rw[HBL6.out];go_wp2
         go_roundw
         case rel=>exact⟨k3+1,_,by omega,by go_num,by have:=R7.out;rw[HBL6.out]at this;exact this,HBL6.out,HS3.out,B6.out⟩
         case measure=>simp[intOf];omega
        ·obtain rfl:n=k3:=by omega
         obtain⟨W3,eW3⟩:∃W3,W3=wr:=⟨_,rfl⟩;subst eW3;have bW3:=BWX.out.trans (hb3.mono BWX.out.size);obtain⟨x0,x1,x2⟩:=CX.out _ hb3;have KHAS:=z7 (has_any u12 bs wx.heap.size ao m co O x r c _ hOb (by have:=NB.out;omega) (by have:=NPOS.out;omega) (HO.out.below bW3) (fun o ho=>by rw[hbl3,← HL.out];exact FT.out.ops o ho) WD.out.1);have FM:=z7 (foldB_mem (L:=L) (O:=O) (x:=x) (r:=r) (c:=c) (hbl3.trans HL.out.symm) (fun i hi=>hbs i (by rw[← HL.out];exact hi)) FT.out.ops m (by rw[HOL.out];exact Nat.le_refl _));have FL:=z7 (show(foldB bs O x r c m).length=n from by rw[z26,hbl3]);obtain⟨akv,ckv,rfl,_⟩:=zl hOb;have HBL3:=z7 hbl3;rw[hbl3]at KHAS ⊢;clear hOb hbs hb3 bW3 hbl3 hlt3;go_wp2_with fail
         refine KHAS.out.mono ?_;rintro e w6 ⟨v6,rfl,hO6,hb6⟩;unfold OwnB1 at hO6;rw[FL.out]at hO6;have R6:=z7 hO6;have B6:=z7 (HB3.out.trans (hb6.mono HB3.out.size));obtain⟨g6,c6,rfl,_,_⟩:=hO6.form NPOS.out;clear hO6 hb6 x0 x1 x2;go_wp2
         go_loopw [70] (fun ci W'=>∃k4:Nat,k4≤n∧ci=.int .i64 k4∧Below w6.heap.size w6 W') (fun ci _=>n-(intOf ci).toNat)
         case atStart=>exact⟨0,Nat.zero_le _,rfl,Below.refl _ _⟩
         case round=>
          obtain⟨k4,hk4,rfl,hb4⟩:=hrel;have HB4:=z7 hb4;have i04:(0:Int)≤(k4:Int):=by omega
          by_cases hlt4:k4<n
          ·have i14:(k4:Int)<(n:Int):=by omega
           have bX4:=B6.out.trans (hb4.mono B6.out.size);have bK4:=BX.out.trans (bX4.mono BX.out.size);have y4:=own_bool (z2f R6.out hb4) hlt4 FL.out;have hN4:=HN.out.below bK4;have yv:=hN4.cell hlt4;have kv4:=hN4.kok hlt4;obtain⟨x0,x1,x2⟩:=CX.out _ bX4;have hmem:=FM.out k4 (by rw[HL.out];exact hlt4);have hkn4:=HI.out.kn k4 (by rw[HL.out];exact hlt4) x r c;obtain⟨b4,eb4⟩:∃b,(foldB bs O x r c m).getD k4 false=b:=⟨_,rfl⟩;rw[eb4]at y4 hmem;obtain⟨p4,ep4⟩:∃p,Lk.getD k4 KV.z=p:=⟨_,rfl⟩;rw[ep4]at yv kv4 hkn4;obtain⟨v4,l4⟩:=p4;simp only at yv kv4 hkn4;have KSH:=z7 (show ∀Y,Below wr.heap.size wr Y→Calls Tryz.prog 26 #[v4,.int .u64 x,.int .u64 r,.int .u64 c] Y fun e w'=>e=.returned (.bool (decide (KnK (l4.map FV.frag) x r c)))∧Below Y.heap.size Y w' from fun Y hY=>by
            obtain⟨hE,_,⟨V,A,N,hOk,_,v1,v2,_,_⟩,ht,hl⟩:=kv4;have hV:V≤1000000:=Nat.le_trans (Nat.le_mul_of_pos_left _ (Nat.succ_pos N)) v1;have hA:A+3≤1000000:=Nat.le_trans (Nat.le_mul_of_pos_left _ (Nat.succ_pos N)) v2;have hTn:=n_le6 (k:=m) NB.out.2.1;exact shas_any v4 l4 x r c Y (hE.below hY) hOk.cor hOk.right (fun f hf=>Nat.le_trans (hOk.items f hf) (by decide)) (fun f hf=>Nat.le_trans (hOk.vec f hf) (by omega)) (fun f hf p hp=>Nat.le_trans (hOk.hs f hf p hp) (by omega)) (by omega) WD.out.2.2.1)
           have hdec:decide (KnK (l4.map FV.frag) x r c)=b4:=by
            cases b4 with
            | true=>exact decide_eq_true (hkn4.2 (hmem.1 rfl))
            | false=>exact decide_eq_false (fun h=>by have:=hmem.2 (hkn4.1 h);cases this)
           rw[hdec]at KSH;obtain⟨a4,c4,rfl⟩:=kv4.slice;obtain⟨n4,en4⟩:∃n,l4.length=n:=⟨_,rfl⟩;rw[en4]at yv KSH;have F4:=z7 (hN4.row.frozenAt k4);clear hb4 bX4 bK4 hN4 kv4 hmem hkn4 eb4 ep4 hdec en4
           cases b4 with
           | false=>
             go_wp2_with fail
             refine wp_region_held_drew (S:=Only (fun _=>False) wr) hmx (Only.refl _ _).drew (fun hS=>?_);refine tkd (i:=0) (d:=some 75) (v:=(.slice (some ⟨g,0,none⟩) n cp)) (hy:=.inl ⟨by rfl,?_⟩) (h:=?_)
             ·intro X hX;go_simp
             refine tkd (i:=1) (d:=some 76) (v:=(.int .i64 k4)) (hy:=.inl ⟨by rfl,?_⟩) (h:=?_)
             ·intro X hX;go_simp
             refine tkd (i:=2) (d:=some 77) (v:=(.pointer (some ⟨g,k4,none⟩))) (hy:=.inl ⟨by rfl,?_⟩) (h:=?_)
             ·intro X hX;go_simp
             refine tkd (i:=3) (d:=some 78) (v:=(.slice a4 n4 c4)) (hy:=.inl ⟨by rfl,?_⟩) (h:=?_)
             ·intro X hX;have z0:=hX.cell (fun h=>h) yv;go_simp
             refine tkd (i:=4) (d:=some 79) (v:=(.pointer (some ⟨W.heap.size,0,none⟩))) (hy:=.inl ⟨by rfl,?_⟩) (h:=?_)
             ·intro X hX;go_simp
             refine tkd (i:=5) (d:=some 80) (v:=(.int .u64 x)) (hy:=.inl ⟨by rfl,?_⟩) (h:=?_)
             ·intro X hX;have z0:=hX.cell (fun h=>h) x0;go_simp
             refine tkd (i:=6) (d:=some 81) (v:=(.pointer (some ⟨W.heap.size,1,none⟩))) (hy:=.inl ⟨by rfl,?_⟩) (h:=?_)
             ·intro X hX;go_simp
             refine tkd (i:=7) (d:=some 82) (v:=(.int .u64 r)) (hy:=.inl ⟨by rfl,?_⟩) (h:=?_)
             ·intro X hX;have z0:=hX.cell (fun h=>h) x1;go_simp
             refine tkd (i:=8) (d:=some 83) (v:=(.pointer (some ⟨W.heap.size,2,none⟩))) (hy:=.inl ⟨by rfl,?_⟩) (h:=?_)
             ·intro X hX;go_simp
             refine tkd (i:=9) (d:=some 84) (v:=(.int .u64 c)) (hy:=.inl ⟨by rfl,?_⟩) (h:=?_)
             ·intro X hX;have z0:=hX.cell (fun h=>h) x2;go_simp
             refine tkd (i:=11) (d:=some 86) (v:=(.bool false)) (hy:=.inl ⟨by rfl,?_⟩) (h:=?_)
             ·intro X hX;go_simp
             have X0:=z7 ((Only.refl (fun _=>False) wr).drew);clear x0 x1 x2 y4 yv;refine wpAnyH_ready (rs:=[10]) (by kernel_rfl) (by simp) ?_;refine AllReadyH.cons (o:=_) rfl (fun K hK=>?_) AllReadyH.nil;go_simp
             refine(KSH.out _ (X0.out.below (n:=wr.heap.size) (Nat.le_refl _) (fun _ h=>h.elim))).mono ?_;rintro e y3 ⟨rfl,hb7⟩;have hS:=hS.call hb7;have B7:=z7 (HB4.out.trans (((X0.out.below (n:=wr.heap.size) (Nat.le_refl _) (fun _ h=>h.elim)).trans (hb7.mono (X0.out.size))).mono HB4.out.size));clear hb7;go_simp
             refine hK.out _ _ hS (fun _=>?_);clear hK K;refine tkd (i:=12) (d:=some 87) (v:=(.bool false)) (hy:=.inl ⟨by rfl,?_⟩) (h:=?_)
             ·intro X hX;go_simp
             refine wpAnyH_done (by kernel_rfl) ?_ _;clear hS;go_wp2
             go_roundw
             case rel=>exact⟨k4+1,by omega,by go_num,B7.out⟩
             case measure=>simp[intOf];omega
           | true=>
             go_wp2_with fail
             refine wp_region_held_drew (S:=Only (fun _=>False) wr) hmx (Only.refl _ _).drew (fun hS=>?_);refine tkd (i:=0) (d:=some 75) (v:=(.slice (some ⟨g,0,none⟩) n cp)) (hy:=.inl ⟨by rfl,?_⟩) (h:=?_)
             ·intro X hX;go_simp
             refine tkd (i:=1) (d:=some 76) (v:=(.int .i64 k4)) (hy:=.inl ⟨by rfl,?_⟩) (h:=?_)
             ·intro X hX;go_simp
             refine tkd (i:=2) (d:=some 77) (v:=(.pointer (some ⟨g,k4,none⟩))) (hy:=.inl ⟨by rfl,?_⟩) (h:=?_)
             ·intro X hX;go_simp
             refine tkd (i:=3) (d:=some 78) (v:=(.slice a4 n4 c4)) (hy:=.inl ⟨by rfl,?_⟩) (h:=?_)
             ·intro X hX;have z0:=hX.cell (fun h=>h) yv;go_simp
             refine tkd (i:=4) (d:=some 79) (v:=(.pointer (some ⟨W.heap.size,0,none⟩))) (hy:=.inl ⟨by rfl,?_⟩) (h:=?_)
             ·intro X hX;go_simp
             refine tkd (i:=5) (d:=some 80) (v:=(.int .u64 x)) (hy:=.inl ⟨by rfl,?_⟩) (h:=?_)
             ·intro X hX;have z0:=hX.cell (fun h=>h) x0;go_simp
             refine tkd (i:=6) (d:=some 81) (v:=(.pointer (some ⟨W.heap.size,1,none⟩))) (hy:=.inl ⟨by rfl,?_⟩) (h:=?_)
             ·intro X hX;go_simp
             refine tkd (i:=7) (d:=some 82) (v:=(.int .u64 r)) (hy:=.inl ⟨by rfl,?_⟩) (h:=?_)
             ·intro X hX;have z0:=hX.cell (fun h=>h) x1;go_simp
             refine tkd (i:=8) (d:=some 83) (v:=(.pointer (some ⟨W.heap.size,2,none⟩))) (hy:=.inl ⟨by rfl,?_⟩) (h:=?_)
             ·intro X hX;go_simp
             refine tkd (i:=9) (d:=some 84) (v:=(.int .u64 c)) (hy:=.inl ⟨by rfl,?_⟩) (h:=?_)
             ·intro X hX;have z0:=hX.cell (fun h=>h) x2;go_simp
             refine tkd (i:=11) (d:=some 86) (v:=(.bool true)) (hy:=.inl ⟨by rfl,?_⟩) (h:=?_)
             ·intro X hX;go_simp
             have X0:=z7 ((Only.refl (fun _=>False) wr).drew);clear x0 x1 x2 y4 yv;refine wpAnyH_ready (rs:=[10]) (by kernel_rfl) (by simp) ?_;refine AllReadyH.cons (o:=_) rfl (fun K hK=>?_) AllReadyH.nil;go_simp
             refine(KSH.out _ (X0.out.below (n:=wr.heap.size) (Nat.le_refl _) (fun _ h=>h.elim))).mono ?_;rintro e y3 ⟨rfl,hb7⟩;have hS:=hS.call hb7;have B7:=z7 (HB4.out.trans (((X0.out.below (n:=wr.heap.size) (Nat.le_refl _) (fun _ h=>h.elim)).trans (hb7.mono (X0.out.size))).mono HB4.out.size));clear hb7;go_simp
             refine hK.out _ _ hS (fun _=>?_);clear hK K;refine tkd (i:=12) (d:=some 87) (v:=(.bool false)) (hy:=.inl ⟨by rfl,?_⟩) (h:=?_)
             ·intro X hX;go_simp
             refine wpAnyH_done (by kernel_rfl) ?_ _;clear hS;go_wp2
             go_roundw
             case rel=>exact⟨k4+1,by omega,by go_num,B7.out⟩
             case measure=>simp[intOf];omega
          ·obtain rfl:n=k4:=by omega
           have B9:=z7 (BX.out.trans ((B6.out.trans (HB4.out.mono B6.out.size)).mono BX.out.size));clear hb4;go_wp2
           go_roundw
           case rel=>exact⟨k2+1,by omega,by go_num,B9.out⟩
           case measure=>simp[intOf];omega
      ·obtain rfl:len=k2:=by omega
       have BW:=z7 (HB.out.trans (HB2.out.mono HB.out.size));go_wp2_with fail
       refine(RUN.out _ BW.out).mono ?_;rintro e wz ⟨rfl,hbz⟩;have BZ:=z7 ((BW.out).trans (hbz.mono (BW.out).size));clear hbz;go_wp2
       go_ret
       exact⟨rfl,BZ.out⟩
end Go.Proofs.YtbkkolfpegplgaaGreatDoor
