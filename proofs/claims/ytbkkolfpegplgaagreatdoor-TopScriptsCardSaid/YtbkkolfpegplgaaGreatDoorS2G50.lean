/- know.Project. know.Project: the walk. Scripts in memory: operations, probes, bools. kenningtop.do: an operation of a script. (Printed by wip/mkscrdo.py.) Two versions are compared. kenningtop.has: the memberships behind a script. (Printed by wip/mkscrhas.py.) kenningtop.fits: a script is short, and its values and lists are right. (Printed by wip/mkscrfit.py.) Scripts: what is known behind the operations, by the memberships before. (Plain.) Arguments opened: a row of knowledge, of operations, of probes. -/
import Derived.Test.YtbkkolfpegplgaaGreatDoorS2G49
import Derived.Test.YtbkkolfpegplgaaGreatDoorS2G48
import Derived.Test.YtbkkolfpegplgaaGreatDoorS2G37
import Derived.Laws.OwnMore
import Derived.Laws.StructEq
set_option maxHeartbeats 12800000
set_option maxRecDepth 100000
set_option linter.unusedVariables false
set_option linter.unusedSimpArgs false
namespace Go.Proofs.YtbkkolfpegplgaaGreatDoor
open Go Go.RowKit
structure CutTo (W:World) (l:List FV) (zs:List Iv) (arr:Array Value) (i:Nat) (v:Value) (out:List Iv):Prop where
 c0:arr[i * 2]?=some v
 c1:arr[i * 2+1]?=some (l.getD i FV.z).vv
 it:ItT W v out
 cor:Cor out
 mem:∀x,InL out x↔InL (l.getD i FV.z).items x∧InL zs x
 len:out.length≤(l.getD i FV.z).items.length+zs.length
def PartR (W:World) (g n k:Nat) (l:List FV) (zs:List Iv):Prop:=∃arr,W.heap[g]?=some (.cells arr 80 (0,0))∧arr.size=n * 2∧∀i,i<k→∃v out,CutTo W l zs arr i v out
theorem PartR.only{W W':World}{g n k:Nat}{l:List FV}{zs:List Iv}{may:Nat→Prop}(h:PartR W g n k l zs)(ho:Only may W W')(hg:¬may g)(hm:∀q,may q→¬Typed W 123 q):PartR W' g n k l zs:=by
 obtain⟨arr,h1,h2,h3⟩:=h;refine⟨arr,ho.obj hg h1,h2,fun i hi=>?_⟩;obtain⟨v,out,c⟩:=h3 i hi;exact⟨v,out,c.c0,c.c1,c.it.only ho hm,c.cor,c.mem,c.len⟩
theorem PartR.below{W W':World}{g n k:Nat}{l:List FV}{zs:List Iv}(h:PartR W g n k l zs)(hb:Below W.heap.size W W'):PartR W' g n k l zs:=h.only (may:=fun _=>False) (Only.of_below hb) (fun h=>h) (fun _ h=>h.elim)
theorem PartR.put{W:World}{g n k:Nat}{l:List FV}{zs:List Iv}(h:PartR W g n k l zs)(hk:k<n){v:Value}{out:List Iv}(h1:ItT W v out)(h2:Cor out)(h3:∀x,InL out x↔InL (l.getD k FV.z).items x∧InL zs x)(h4:out.length≤(l.getD k FV.z).items.length+zs.length) :
  PartR ((W.setCell ⟨g,k * 2,none⟩ v).setCell ⟨g,k * 2+1,none⟩ (l.getD k FV.z).vv) g n (k+1) l zs:=by
 obtain⟨arr,e1,e2,e3⟩:=h;have ho:Only (fun b=>b=g) W ((W.setCell ⟨g,k * 2,none⟩ v).setCell ⟨g,k * 2+1,none⟩ (l.getD k FV.z).vv):=((Only.refl (fun b=>b=g) W).setCell (p:=⟨g,k * 2,none⟩) (.inl rfl) _).setCell (p:=⟨g,k * 2+1,none⟩) (.inl rfl) _;have hty:∀q,q=g→¬Typed W 123 q:=fun q hq=>by rw[hq];exact Typed.not ⟨_,e1⟩ (by decide)
 refine⟨_,heap_setCell_same _ _ (k * 2+1) _ _ _ (heap_setCell_same _ _ (k * 2) _ _ _ e1),by simpa using e2,fun i hi=>?_⟩;by_cases e:i=k
 ·subst e
  exact⟨v,out,by rw[Array.getElem?_setIfInBounds_ne (by omega),Array.getElem?_setIfInBounds_self];rw[if_pos (by omega)],by rw[Array.getElem?_setIfInBounds_self];rw[if_pos (by simp;omega)],h1.only ho hty,h2,h3,h4⟩
 ·obtain⟨v',out',c⟩:=e3 i (by omega)
  exact⟨v',out',by rw[Array.getElem?_setIfInBounds_ne (by omega),Array.getElem?_setIfInBounds_ne (by omega)];exact c.c0,by rw[Array.getElem?_setIfInBounds_ne (by omega),Array.getElem?_setIfInBounds_ne (by omega)];exact c.c1,c.it.only ho hty,c.cor,c.mem,c.len⟩
theorem PartR.know{W:World}{g n:Nat}{l:List FV}{zs:List Iv}(h:PartR W g n n l zs)(hl:l.length=n)(hv:∀f∈l,VecAt W f.vv f.vec):∃L:List FV,KnwAt W (.slice (some ⟨g,0,none⟩) n n) L∧L.length=n ∧
  (∀i,i<n→Cor (L.getD i FV.z).items∧(∀x,InL (L.getD i FV.z).items x↔InL (l.getD i FV.z).items x∧InL zs x)∧(L.getD i FV.z).items.length≤(l.getD i FV.z).items.length+zs.length∧(L.getD i FV.z).vec=(l.getD i FV.z).vec):=by
 obtain⟨arr,e1,e2,e3⟩:=h;obtain⟨L,hL,hq⟩:=z1w FV.z (len:=n) (Q:=fun i (f:FV)=>CutTo W l zs arr i f.iv f.items∧f.vec=(l.getD i FV.z).vec∧f.vv=(l.getD i FV.z).vv) (fun i hi=>by
  obtain⟨v,out,c⟩:=e3 i hi;exact⟨⟨out,v,(l.getD i FV.z).vec,(l.getD i FV.z).vv⟩,c,rfl,rfl⟩)
 subst hL;refine⟨L,⟨_,L.length,rfl,⟨rfl,fun f hf=>?_,fun i hi=>⟨g,0,rfl,zh e1,?_⟩⟩,Nat.le_refl _⟩,rfl,fun i hi=>⟨(hq i hi).1.cor,(hq i hi).1.mem,(hq i hi).1.len,(hq i hi).2.1⟩⟩
 ·obtain⟨i,hi,rfl⟩:=z2c FV.z hf
  obtain⟨c,h1,h2⟩:=hq i hi;refine⟨c.it.rg,?_⟩;rw[h1,h2];exact hv _ (by rw[List.getD,List.getElem?_eq_getElem (by omega),Option.getD_some];exact List.getElem_mem _)
 ·obtain⟨c,h1,h2⟩:=hq i hi
  have a0:=c.c0;have a1:=c.c1;rw[← h2]at a1;simp only[World.cell?,e1,Nat.zero_add];exact⟨by simpa using a0,by simpa using a1⟩
theorem tot_cut:∀{l L:List FV} {m:Nat},L.length=l.length→(∀i,i<l.length→(L.getD i FV.z).items.length≤(l.getD i FV.z).items.length+m)→totI L≤totI l+l.length * m
 | [],[],m,_,_=>by simp[totI]
 | f :: l,g :: L,m,h,hi=>by
   have h0:=hi 0 (by simp);have ih:=tot_cut (l:=l) (L:=L) (m:=m) (by simpa using h) (fun i hl=>by
    have:=hi (i+1) (by simpa using hl);simpa using this)
   simp only[List.getD_cons_zero]at h0;simp only[totI,List.length_cons,Nat.succ_mul];omega
 | [],g :: L,m,h,_=>by simp at h
 | f :: l,[],m,h,_=>by simp at h
theorem cut_kok{W:World}{v vp:Value}{l L:List FV}{P Q T:Nat}{zs:List Iv}(h:KOk W v l P Q T)(hk:KnwAt W vp L)(hn:NilOk vp)(hl:L.length=l.length)
  (hp:∀i,i<l.length→Cor (L.getD i FV.z).items∧(∀x,InL (L.getD i FV.z).items x↔InL (l.getD i FV.z).items x∧InL zs x)∧(L.getD i FV.z).items.length≤(l.getD i FV.z).items.length+zs.length∧(L.getD i FV.z).vec=(l.getD i FV.z).vec)
  (hz:zs.length≤10) (hT:T≤30000):KOk W vp L P Q (T+10 * T)∧∀x r c,KnK (L.map FV.frag) x r c↔KnK (l.map FV.frag) x r c∧InL zs x:=by
 obtain⟨hE,_,⟨V,A,N,hO,hN,v1,v2,v3,v4⟩,ht,hlen⟩:=h;have memL:∀f∈L,∃i,i<l.length∧L.getD i FV.z=f∧l.getD i FV.z∈l:=fun f hf=>by
  obtain⟨i,hi,e⟩:=z2c FV.z hf;exact⟨i,by omega,e,by rw[List.getD,List.getElem?_eq_getElem (by omega),Option.getD_some];exact List.getElem_mem _⟩
 have htot:totI L≤T+10 * T:=by
  have h1:=tot_cut (m:=10) hl (fun i hi=>by have:=(hp i hi).2.2.1;omega);omega
 refine⟨⟨hk,hn,⟨V,A,N,⟨fun f hf=>?_,fun f hf=>?_,fun f hf=>?_,fun f hf=>?_,fun f hf=>?_⟩,fun x=>?_,v1,v2,v3,v4⟩,htot,by omega⟩,fun x r c=>?_⟩
 ·obtain⟨i,hi,rfl,hm⟩:=memL f hf;exact(hp i hi).1
 ·obtain⟨i,hi,rfl,hm⟩:=memL f hf;rw[(hp i hi).2.2.2];exact hO.right _ hm
 ·have:=z3g hf;omega
 ·obtain⟨i,hi,rfl,hm⟩:=memL f hf;rw[(hp i hi).2.2.2];exact hO.vec _ hm
 ·obtain⟨i,hi,rfl,hm⟩:=memL f hf;rw[(hp i hi).2.2.2];exact hO.hs _ hm
 ·refine Nat.le_trans ?_ (hN x)
  unfold selI;rw[hl,← List.countP_eq_length_filter,← List.countP_eq_length_filter];refine List.countP_mono_left fun i hi h=>?_;have hi':i<l.length:=by simpa using hi
  exact decide_eq_true (((hp i hi').2.1 x).1 (of_decide_eq_true h)).1
 ·constructor
  ·rintro⟨g,hg,h1,h2⟩
   obtain⟨f,hf,rfl⟩:=List.mem_map.1 hg;obtain⟨i,hi,rfl,hm⟩:=memL f hf;have h3:=((hp i hi).2.1 x).1 h1;exact⟨⟨_,List.mem_map.2 ⟨_,hm,rfl⟩,h3.1,by show KnV ((l.getD i FV.z).vec.map (·.1)) r c;rw[← (hp i hi).2.2.2];exact h2⟩,h3.2⟩
  ·rintro⟨⟨g,hg,h1,h2⟩,h3⟩
   obtain⟨f,hf,rfl⟩:=List.mem_map.1 hg;obtain⟨i,hi,rfl⟩:=z2c FV.z hf;refine⟨(L.getD i FV.z).frag,List.mem_map.2 ⟨_,?_,rfl⟩,((hp i hi).2.1 x).2 ⟨h1,h3⟩,by show KnV ((L.getD i FV.z).vec.map (·.1)) r c;rw[(hp i hi).2.2.2];exact h2⟩;rw[List.getD,List.getElem?_eq_getElem (by omega),Option.getD_some];exact List.getElem_mem _
theorem z24(a:Act)(d:Tmp)(v:Value)(h4:d≠4)(h5:d≠5):results Tryz.f65 (a.put (some d) v).tmps=results Tryz.f65 a.tmps:=by
 simp only[results,Tryz.results65,Act.put,List.mapM_toArray,List.mapM_cons,List.mapM_nil,getD_put _ _ h4,getD_put _ _ h5]
theorem canon_kokp{v:Value}{l:List FV}{P Q T:Nat}{w:World}(h:KOk w v l P Q T)(hP:P≤10000)(hQ:Q≤39000)(hT:T≤400000) :
  Calls Tryz.prog 11 #[v] w fun e w'=>∃v' l',e=.returned v'∧KRow w' w.heap.size v' l'∧CanL l'∧(∀x r c,KnK (l'.map FV.frag) x r c↔KnK (l.map FV.frag) x r c)∧KOk w' v' l' P (Q+3) (1+2 * T)∧Below w.heap.size w w':=by
 obtain⟨hE,hn,⟨V,A,N,hO,hN,v1,v2,v3,v4⟩,ht,hl⟩:=h;have hV:V≤1000000:=Nat.le_trans (Nat.le_mul_of_pos_left _ (Nat.succ_pos N)) v1;have hA:A+3≤1000000:=Nat.le_trans (Nat.le_mul_of_pos_left _ (Nat.succ_pos N)) v2;refine(canon_any v l 1000000 V A N w hE hO (Nat.le_refl _) (by omega) (by omega) hV (by omega) hN (by omega) (by omega)).mono ?_;rintro e w' ⟨v',l',rfl,h⟩;exact⟨v',l',rfl,h.row,h.can,h.kn,(can_kok h (by omega) (by omega) (by omega)).mono (by omega) (by omega) (by omega),h.bl⟩
theorem kproj_any{v vi:Value}{l:List FV}{zs:List Iv}{P Q T:Nat}{w:World}(h:KOk w v l P Q T)(hz:RgAt w vi zs)(hC:Cor zs)(hl:zs.length≤10)(hP:P≤10000)(hQ:Q≤39000)(hT:T≤30000) :
  Calls Tryz.prog 65 #[v,vi] w fun e w'=>OpR w (fun x r c=>KnK (l.map FV.frag) x r c∧InL zs x) P (Q+3) (1+2 * (T+10 * T)) e w':=by
 have hmx:Tryz.prog.follows .mixedOrders=true:=by kernel_rfl
 have H:=z7 h;have HZ:=z7 hz;have HC:=z7 hC;have HL:=z7 (And.intro hl (And.intro hP (And.intro hQ hT)));have hn1:l.length≤30000:=Nat.le_trans h.len hT;have hcr:(∀f∈l,Cor f.items)∧(∀f∈l,RightV (f.vec.map (·.1)))∧∀f∈l,f.items.length≤1000000:=by
  obtain⟨V,A,N,hO,_⟩:=h.bnd;exact⟨hO.cor,hO.right,hO.items⟩
 have KC:=z7 (fun W (hb:Below w.heap.size w W)=>z3n v l W (h.at'.below hb) hcr.1 hcr.2.1 (by omega));have CR:=z7 hcr;obtain⟨a,cap,rfl⟩:=h.slice;obtain⟨ai,ci,rfl,hPz,_⟩:=hz;obtain⟨nz,enz⟩:∃n,zs.length=n:=⟨_,rfl⟩;have ENZ:=z7 enz;rw[enz]at hPz HZ ⊢;have KZ:=z7 (fun W (hb:Below w.heap.size w W)=>rgcheck_ok ai nz ci zs W (hPz.below hb) hC);obtain⟨n,en⟩:∃n,l.length=n:=⟨_,rfl⟩;have EN:=z7 en;rw[en]at H KC hn1 ⊢;clear h hC hl hP hQ hT hcr hPz enz en;go_enter_defers Tryz.func65,Tryz.ntmps65
 go_wp2_with fail
 obtain⟨w1,ew1⟩:∃w1,w.alloc (.cells #[.nilIface] 27)=w1:=⟨_,rfl⟩;have B1:=z7 (show Below w.heap.size w w1 from by rw[← ew1];exact zc (Below.refl _ _) _);have Q1:=z7 (show w1.heap[w.heap.size]?=some (.cells #[.nilIface] 27 (0,0))from by rw[← ew1];exact ze _ _ rfl);have S1:=z7 (show w1.heap.size=w.heap.size+1 from by rw[← ew1];simp);rw[ew1];clear ew1;refine(KC.out _ B1.out).mono ?_;rintro e w2 ⟨rfl,hb2⟩;have B2:=z7 hb2;clear hb2;go_wp2_with fail
 refine(need_nil _ _).mono ?_;rintro e w3 ⟨rfl,rfl⟩;go_wp2_with fail
 refine(KZ.out _ (zf B1.out B2.out)).mono ?_;rintro e w4 ⟨rfl,hb4⟩;have B4:=z7 (zf B2.out hb4);clear hb4;go_wp2_with fail
 refine(need_nil _ _).mono ?_;rintro e w5 ⟨rfl,rfl⟩;obtain⟨i0,hi,hz0,hz1,hz2⟩:=info_parts z19;go_wp2_with(first
  | (at_make;go_loud(refine wpList_make_full _ rfl _ _ 23 rfl w1.heap.size 80 i0 (.agg #[.slice none 0 0,.slice none 0 0]) 2 Tryz.underlying23 hi hz0 hz1 .i64 .i64 _ _ n rfl rfl rfl rfl (by rw[hz2];omega) (by unfold maxLen;omega) B4.out.size ?_;intro w6 hown6 hgrow6;have R6:=z7 hown6;have G6:=z7 hgrow6;clear hown6 hgrow6))
  | (fail))
 have o6:Only (fun _=>False) w5 w6:=(Only.refl (fun _=>False) w5).grown G6.out (fun k hk=>by cases hk);have B6:=z7 (show Below w1.heap.size w1 w6 from B4.out.trans (o6.below (n:=w1.heap.size) B4.out.size (fun _ h=>h.elim)));have P6:=z7 (show PartR w6 w5.heap.size n 0 l zs from by
  rcases R6.out.2 with⟨hv,_⟩ | ⟨g,cap',cur,hv,hb,hc,h1,h2,h3,h4⟩
  ·cases hv
  ·injection hv with e1 e2 e3
   injection e1 with e1
   injection e1 with e1 _ _
   subst e1;subst e3;exact⟨_,hc,by omega,fun i hi=>absurd hi (by omega)⟩)
 have S5:=z7 (show w1.heap.size≤w5.heap.size from B4.out.size);clear o6;go_loopw [20] (fun c wr=>∃k:Nat,k≤n∧c=.int .i64 k∧PartR wr w5.heap.size n k l zs∧Below w1.heap.size w1 wr) (fun c _=>n-(intOf c).toNat)
 case atStart=>exact⟨0,Nat.zero_le _,rfl,P6.out,B6.out⟩
 case round=>
  obtain⟨k,hk,rfl,hp,hb⟩:=hrel;have HP:=z7 hp;have HB:=z7 hb;have i0':(0:Int)≤(k:Int):=by omega
  by_cases hlt:k<n
  ·have i1:(k:Int)<(n:Int):=by omega
   have bw:=B1.out.trans (hb.mono B1.out.size);obtain⟨a',cap',ea,hKr,_⟩:=H.out.at'.below bw;injection ea with ea en' ea2
   subst ea;subst ea2;clear en';have hKr2:KnowAt wr a n l:=by rw[← EN.out];exact hKr
   obtain⟨b,off,rfl,hbl,hc1,hc2⟩:=hKr2.cells k hlt;have hmem:=hKr2.mem hlt;have hfr:=hKr2.frags _ hmem;have hcor:=CR.out.1 _ hmem;have hlen:=CR.out.2.2 _ hmem;obtain⟨p,ep⟩:∃p,l.getD k FV.z=p:=⟨_,rfl⟩;have EP:=z7 ep;rw[ep]at hc1 hc2 hfr hcor hlen;obtain⟨aI,cI,eI,_⟩:=hfr.items;obtain⟨aV,cV,eV,_⟩:=hfr.vec;have HI:=z7 hfr.items;obtain⟨items,iv,vec,vv⟩:=p;simp only at hc1 hc2 eI eV hcor hlen HI;subst eI;subst eV;obtain⟨nI,enI⟩:∃nI,items.length=nI:=⟨_,rfl⟩;obtain⟨nV,enV⟩:∃nV,vec.length=nV:=⟨_,rfl⟩;have ENI:=z7 enI;have ENV:=z7 enV;rw[enI]at hc1 HI;rw[enV]at hc2;have HCOR:=z7 (And.intro hcor hlen);clear ep hfr hmem hKr hKr2 bw enI enV hcor hlen hp hb;go_wp2_with fail
   obtain⟨wq,ewq⟩:∃wq,wr.alloc (.cells #[.slice aI nI cI,.slice aV nV cV] 80)=wq:=⟨_,rfl⟩;have bq:Below wr.heap.size wr wq:=by rw[← ewq];exact zc (Below.refl _ _) _
   have p1:wq.heap[wr.heap.size]?=some (.cells #[.slice aI nI cI,.slice aV nV cV] 80 (0,0)):=by rw[← ewq];exact ze _ _ rfl
   have c0:wq.cell? ⟨wr.heap.size,0,none⟩=some (.slice aI nI cI):=by simp[World.cell?,p1]
   have c1:wq.cell? ⟨wr.heap.size,1,none⟩=some (.slice aV nV cV):=by simp[World.cell?,p1]
   have PQ:=z7 (HP.out.below bq);have BQ:=z7 (HB.out.trans (bq.mono HB.out.size));have WG:=z7 (show w5.heap.size<wr.heap.size from by obtain⟨_,e,_⟩:=HP.out;exact zh e);have nq:¬wr.heap.size=w5.heap.size:=by have:=WG.out;omega
   have KM:=z7 (fun W (hX:Only (fun _=>False) wq W)=>smeet_any (.slice aI nI cI) (.slice ai nz ci) items zs W (HI.out.below (bq.trans (hX.below (n:=wr.heap.size) bq.size (fun _ h=>h.elim)))) (HZ.out.below (B1.out.trans ((BQ.out.trans (hX.below (n:=w1.heap.size) BQ.out.size (fun _ h=>h.elim))).mono B1.out.size))) HCOR.out.1 HC.out (by have:=HCOR.out.2;have:=HL.out.1;omega));rw[ewq];clear ewq p1 bq hc1 hc2 hbl;refine wp_region_held_drew (S:=Only (fun b=>b=w5.heap.size) wq) hmx (Only.refl _ _).drew (fun hS=>?_);refine tkd (i:=0) (d:=some 25) (v:=(.slice (some ⟨w5.heap.size,0,none⟩) n n)) (hQ:=fun _ _ _ h=>zm (z24 _ _ _ (by decide) (by decide)) h) (hy:=.inl ⟨by rfl,?_⟩) (h:=?_)
   ·intro X hX;go_simp
   refine tkd (i:=1) (d:=some 26) (v:=(.int .i64 (k:Nat))) (hQ:=fun _ _ _ h=>zm (z24 _ _ _ (by decide) (by decide)) h) (hy:=.inl ⟨by rfl,?_⟩) (h:=?_)
   ·intro X hX;go_simp
   refine tkd (i:=2) (d:=some 27) (v:=(.pointer (some ⟨wr.heap.size,0,none⟩))) (hQ:=fun _ _ _ h=>zm (z24 _ _ _ (by decide) (by decide)) h) (hy:=.inl ⟨by rfl,?_⟩) (h:=?_)
   ·intro X hX;go_simp
   refine tkd (i:=3) (d:=some 28) (v:=(.slice aI nI cI)) (hQ:=fun _ _ _ h=>zm (z24 _ _ _ (by decide) (by decide)) h) (hy:=.inl ⟨by rfl,?_⟩) (h:=?_)
   ·intro X hX;have x0:=hX.cell nq c0;go_simp
   refine tkd (i:=4) (d:=some 29) (v:=(.slice ai nz ci)) (hQ:=fun _ _ _ h=>zm (z24 _ _ _ (by decide) (by decide)) h) (hy:=.inl ⟨by rfl,?_⟩) (h:=?_)
   ·intro X hX;go_simp
   refine tkd (i:=6) (d:=some 31) (v:=(.pointer (some ⟨wr.heap.size,1,none⟩))) (hQ:=fun _ _ _ h=>zm (z24 _ _ _ (by decide) (by decide)) h) (hy:=.inl ⟨by rfl,?_⟩) (h:=?_)
   ·intro X hX;go_simp
   refine tkd (i:=7) (d:=some 32) (v:=(.slice aV nV cV)) (hQ:=fun _ _ _ h=>zm (z24 _ _ _ (by decide) (by decide)) h) (hy:=.inl ⟨by rfl,?_⟩) (h:=?_)
   ·intro X hX;have x0:=hX.cell nq c1;go_simp
   have X0:=z7 ((Only.refl (fun _=>False) wq).drew);clear c0 c1;refine wpAnyH_ready (rs:=[5]) (by kernel_rfl) (by simp) ?_;refine AllReadyH.cons (o:=_) rfl (fun K hK=>?_) AllReadyH.nil;go_simp
   refine(KM.out _ X0.out).mono ?_;rintro e y0 ⟨⟨v3,out,rfl,hO,hCo,hmo,hlo⟩,hb7⟩;have hS:=hS.call hb7;have X1:=z7 (X0.out.call hb7);have OT:=z7 hO.itT;have HO:=z7 (And.intro hCo (And.intro hmo hlo));obtain⟨a3,c3,rfl,_⟩:=hO.itT;obtain⟨n3,en3⟩:∃n3,out.length=n3:=⟨_,rfl⟩;rw[en3]at OT ⊢;have PY:=z7 (PQ.out.only X1.out (fun h=>h) (fun _ h=>h.elim));obtain⟨arr,g1,g2,_⟩:=PY.out;have gz:w5.heap.size<y0.heap.size:=zh g1;obtain⟨u1,y1⟩:∃u,y0.cell? ⟨w5.heap.size,k * 2,none⟩=some u:=⟨arr[k * 2]'(by omega),by simp[World.cell?,g1]⟩;obtain⟨u2,y2⟩:∃u,y0.cell? ⟨w5.heap.size,k * 2+1,none⟩=some u:=⟨arr[k * 2+1]'(by omega),by simp[World.cell?,g1]⟩;have f1:y0.frozen? ⟨w5.heap.size,k * 2,none⟩=false:=frozen_of_row _ _ (k * 2) _ _ g1;have f2:y0.frozen? ⟨w5.heap.size,k * 2+1,none⟩=false:=frozen_of_row _ _ (k * 2+1) _ _ g1;clear hO hCo hmo hlo hb7 en3 g1 g2 gz;go_simp
   refine hK.out _ _ hS (fun _=>?_);clear hK K;refine tkd (i:=8) (d:=some 33) (v:=(.agg #[.slice a3 n3 c3,.slice aV nV cV])) (hQ:=fun _ _ _ h=>zm (z24 _ _ _ (by decide) (by decide)) h) (hy:=.inl ⟨by rfl,?_⟩) (h:=?_)
   ·intro X hX;go_simp
   refine tkd (i:=9) (d:=some 34) (v:=(.pointer (some ⟨w5.heap.size,k * 2,none⟩))) (hQ:=fun _ _ _ h=>zm (z24 _ _ _ (by decide) (by decide)) h) (hy:=.inl ⟨by rfl,?_⟩) (h:=?_)
   ·intro X hX;go_simp
   refine wpAnyH_ready (rs:=[10]) (by kernel_rfl) (by simp) ?_;refine AllReadyH.cons (o:=_) rfl (fun K hK=>?_) AllReadyH.nil;have hS6:=(hS.setCell (p:=⟨w5.heap.size,k * 2,none⟩) (.inl rfl) (.slice a3 n3 c3)).setCell (p:=⟨w5.heap.size,k * 2+1,none⟩) (.inl rfl) (.slice aV nV cV);have PUT:=z7 (PY.out.put hlt OT.out HO.out.1 (fun x=>by
    have h1:=HO.out.2.1 x;have e1:tkM (decide (InL items x)) (decide (InL zs x))=true↔InL items x∧InL zs x:=by
     show(decide _ && decide _)=true↔_
     simp
    rw[h1,e1,EP.out];constructor
    ·exact fun h=>h.2.2
    ·intro h
     have hw:=z1j HI.out.words h.1;exact⟨hw.1,hw.2,h⟩) (by rw[EP.out];exact HO.out.2.2))
   rw[EP.out]at PUT;simp only at PUT;rw[ENV.out]at PUT;have HS6:=z7 hS6;go_simp
   refine hK.out _ _ hS6 (fun _=>?_);clear hK K hS hS6;refine wpAnyH_done (by kernel_rfl) ?_ _;have B10:=z7 (BQ.out.trans (HS6.out.below (n:=w1.heap.size) BQ.out.size (fun b hb=>by have:=S5.out;omega)));clear HS6 y1 y2 f1 f2;go_wp2
   go_roundw
   case rel=>
    have FINAL:∃k':Nat,k'≤n∧(.int .i64 ((k:Int)+1):Value)=.int .i64 k'∧PartR ((y0.setCell ⟨w5.heap.size,k * 2,none⟩ (.slice a3 n3 c3)).setCell ⟨w5.heap.size,k * 2+1,none⟩ (.slice aV nV cV)) w5.heap.size n k' l zs∧Below w1.heap.size w1 ((y0.setCell ⟨w5.heap.size,k * 2,none⟩ (.slice a3 n3 c3)).setCell ⟨w5.heap.size,k * 2+1,none⟩ (.slice aV nV cV)):=⟨k+1,by omega,by simp,PUT.out,B10.out⟩;first | exact FINAL | ((repeat apply Exists.intro);exact⟨FINAL,rfl⟩)
   case measure=>simp[intOf];omega
  ·obtain rfl:n=k:=by omega
   have bw:=B1.out.trans (hb.mono B1.out.size);obtain⟨_,_,_,hKr,_⟩:=H.out.at'.below bw;obtain⟨L,hkL,hLn,hLq⟩:=HP.out.know EN.out (fun f hf=>(hKr.frags f hf).vec);obtain⟨kok,kn⟩:=cut_kok (H.out.below bw) hkL (fun n c e=>(by cases e)) (by rw[hLn,EN.out]) (fun i hi=>hLq i (by rw[← EN.out];exact hi)) (by rw[ENZ.out];exact(show nz≤10 from by have:=HL.out.1;rw[ENZ.out]at this;exact this)) HL.out.2.2.2;have KN:=z7 kn;have KG:=z7 (canon_kokp kok HL.out.2.1 HL.out.2.2.1 (by have:=HL.out.2.2.2;omega));have Q9:=z7 (show wr.heap[w.heap.size]?=some (.cells #[.nilIface] 27 (0,0))from(hb.block _ (by have:=S1.out;omega)).trans Q1.out);have BW:=z7 bw;clear bw hKr hkL hLn hLq kok kn hp hb;go_wp2_with fail
   refine KG.out.mono ?_;rintro e w11 ⟨v2,l2,rfl,hR2,hC2,hN2,hO2,hb11⟩;have q11:=(hb11.block _ (zh Q9.out)).trans Q9.out;have f11:w11.frozen? ⟨w.heap.size,0,none⟩=false:=frozen_of_row _ _ 0 _ _ q11;have c11:w11.cell? ⟨w.heap.size,0,none⟩=some .nilIface:=by simp[World.cell?,q11]
   have HK2:=z7 (And.intro hR2 (And.intro hC2 (And.intro hN2 hO2)));have B11:=z7 hb11;have Q11:=z7 q11;obtain⟨a2,c2,rfl,_⟩:=zl hR2.row;clear hR2 hC2 hN2 hO2 hb11 q11;go_wp2
   refine leaves_cons (f:=76) (args:=#[.pointer (some ⟨w.heap.size,0,none⟩)]) (by simp) (by simp[go_sem]) ?_;refine(guard_idle _ _).mono ?_;rintro e u' w'' ⟨rfl,rfl,rfl⟩;have q12:(w11.setCell ⟨w.heap.size,0,none⟩ .nilIface).cell? ⟨w.heap.size,0,none⟩=some .nilIface:=by simp[World.cell?,heap_setCell_same _ _ 0 _ _ _ Q11.out]
   have o12:Only (fun b=>b=w.heap.size) w11 (w11.setCell ⟨w.heap.size,0,none⟩ .nilIface):=(Only.refl (fun b=>b=w.heap.size) w11).setCell (p:=⟨w.heap.size,0,none⟩) (.inl rfl) _;have htq:Typed w11 27 w.heap.size:=⟨_,Q11.out⟩;obtain⟨hR2,hC2,hN2,hO2⟩:=HK2.out;have hR3:=hR2.only o12 (fun k hk=>by rw[hk];exact⟨Typed.not htq (by decide),Typed.not htq (by decide),Typed.not htq (by decide)⟩);have b11:Below w.heap.size w w11:=BW.out.trans (B11.out.mono BW.out.size);refine⟨.tuple #[.slice a2 l2.length c2,.nilIface],?_,_,l2,rfl,hR3.base BW.out.size,hC2,fun x r c=>(hN2 x r c).trans (KN.out x r c),⟨hR3.know,hR3.nilOk,hO2.bnd,hO2.tot,hO2.len⟩,b11.trans (o12.below (n:=w.heap.size) b11.size (fun b hb=>by omega))⟩;simp[results,Tryz.results65,go_sem,q12]
structure OpV where
 kind:Int
 a:Int
 b:Int
 items:List Iv
 iv:Value
 x:Int
 r:Int
 c:Int
def OpV.z:OpV:=⟨0,0,0,[],.slice none 0 0,0,0,0⟩
def OpV.cells (o:OpV):List Value:=[.int .i64 o.kind,.int .i64 o.a,.int .i64 o.b,o.iv,.int .u64 o.x,.int .u64 o.r,.int .u64 o.c]
def I64 (n:Int):Prop:=-9223372036854775808≤n∧n≤9223372036854775807
structure OpsAt (w:World) (a:Option Addr) (len:Nat) (L:List OpV):Prop where
 length:L.length=len
 most:len≤9223372036854775807
 ints:∀o∈L,(I64 o.kind∧I64 o.a∧I64 o.b)∧Word o.x∧Word o.r∧Word o.c
 items:∀o∈L,RgAt w o.iv o.items
 cells:∀i,i<len→∃b off,a=some ⟨b,off,none⟩∧b<w.heap.size∧∀j u,(L.getD i OpV.z).cells[j]?=some u→w.cell? ⟨b,off+i * 7+j,none⟩=some u
theorem OpsAt.below{w w':World}{a:Option Addr}{len:Nat}{L:List OpV}(h:OpsAt w a len L)(hb:Below w.heap.size w w'):OpsAt w' a len L:=
 ⟨h.length,h.most,h.ints,fun o ho=>(h.items o ho).below hb,fun i hi=>by
  obtain⟨b,off,e,hlt,h1⟩:=h.cells i hi;exact⟨b,off,e,Nat.lt_of_lt_of_le hlt hb.size,fun j u hj=>zg hb hlt (h1 j u hj)⟩⟩
theorem OpsAt.mem{w:World}{a:Option Addr}{len:Nat}{L:List OpV}(h:OpsAt w a len L){i:Nat}(hi:i<len):L.getD i OpV.z∈L:=by
 have:=h.length;rw[List.getD,List.getElem?_eq_getElem (by omega),Option.getD_some];exact List.getElem_mem (by omega)
def opB (o:OpV) (p q:Bool) (x r c:Int):Bool:=
 if o.kind=0 then p || q else if o.kind=1 then p && q else if o.kind=2 then p && !q else if o.kind=3 then p && decide (InL o.items x)else p || decide (x=o.x∧r=o.r∧c=o.c)
def stepB (bs:List Bool) (o:OpV) (x r c:Int):List Bool:=bs.set o.a.toNat (opB o (bs.getD o.a.toNat false) (bs.getD o.b.toNat false) x r c)
theorem stepB_length(bs:List Bool)(o:OpV)(x r c:Int):(stepB bs o x r c).length=bs.length:=by unfold stepB;simp
structure FitO (o:OpV) (n:Nat):Prop where
 kind:0≤o.kind∧o.kind≤4
 a:0≤o.a∧o.a<n
 b:0≤o.b∧o.b<n
 few:o.items.length≤10
 cor:Cor o.items
def OwnB1 (w:World) (base:Nat) (v:Value) (bs:List Bool):Prop:=w.ownsRow base 4 1 v bs.length (bs.map Value.bool)
theorem info_bool:(Tryz.prog.info? 4).map (fun i=>(i.zero,i.size,i.bytes))=some (some (.bool false),1,1):=by kernel_rfl
structure KBnd (l:List FV) (P Q T:Nat):Prop where
 bnd:∃V A N,OkK l 1000000 V A∧(∀x,(selI l x l.length).length≤N)∧(N+1) * V≤1000000∧(N+1) * (A+3)≤1000000∧N * V≤P∧N * (A+3)≤Q
 tot:totI l≤T
 len:l.length≤T
theorem KOk.b{w:World}{v:Value}{l:List FV}{P Q T:Nat}(h:KOk w v l P Q T):KBnd l P Q T:=⟨h.bnd,h.tot,h.len⟩
theorem KBnd.mono{l:List FV}{P Q T P' Q' T':Nat}(h:KBnd l P Q T)(hP:P≤P')(hQ:Q≤Q')(hT:T≤T'):KBnd l P' Q' T':=by
 obtain⟨V,A,N,h1,h2,h3,h4,h5,h6⟩:=h.bnd;exact⟨⟨V,A,N,h1,h2,h3,h4,Nat.le_trans h5 hP,Nat.le_trans h6 hQ⟩,Nat.le_trans h.tot hT,Nat.le_trans h.len hT⟩
structure NowR (w0 W:World) (g n cp:Nat) (L:List KV) (P Q T:Nat):Prop where
 row:W.ownsRow w0.heap.size 23 1 (.slice (some ⟨g,0,none⟩) n cp) n (L.map (·.1))
 length:L.length=n
 ents:∀p∈L,(KnwAt w0 p.1 p.2∨KRow W w0.heap.size p.1 p.2)∧NilOk p.1∧KBnd p.2 P Q T
 bl:Below w0.heap.size w0 W
section
variable {w0 W W':World} {g n cp:Nat} {L:List KV} {P Q T:Nat}
theorem NowR.only{may:Nat→Prop}(h:NowR w0 W g n cp L P Q T)(ho:Only may W W')(hg:¬may g)(hm:∀q,may q→w0.heap.size≤q∧¬Typed W 80 q∧¬Typed W 96 q∧¬Typed W 123 q):NowR w0 W' g n cp L P Q T:=
 ⟨zn h.row ho (fun k hk=>by
  have:k=g:=by simpa[Value.ownBlock]using hk.symm
  rw[this];exact hg),h.length,fun p hp=>⟨(h.ents p hp).1.imp id (fun h=>h.only ho (fun q hq=>(hm q hq).2)),(h.ents p hp).2⟩,h.bl.trans (ho.below (n:=w0.heap.size) h.bl.size (fun q hq=>(hm q hq).1))⟩
theorem NowR.below(h:NowR w0 W g n cp L P Q T)(hb:Below W.heap.size W W'):NowR w0 W' g n cp L P Q T:=h.only (may:=fun _=>False) (Only.of_below hb) (fun h=>h) (fun _ h=>h.elim)
theorem NowR.kok(h:NowR w0 W g n cp L P Q T){i:Nat}(hi:i<n):KOk W (L.getD i KV.z).1 (L.getD i KV.z).2 P Q T:=by
 have hl:=h.length;have hm:L.getD i KV.z∈L:=by rw[List.getD,List.getElem?_eq_getElem (by omega),Option.getD_some];exact List.getElem_mem _
 obtain⟨h1,h2,h3⟩:=h.ents _ hm;exact⟨h1.elim (fun h'=>h'.below h.bl) (fun h'=>h'.know),h2,h3.bnd,h3.tot,h3.len⟩
theorem NowR.cell(h:NowR w0 W g n cp L P Q T){i:Nat}(hi:i<n):W.cell? ⟨g,i,none⟩=some (L.getD i KV.z).1:=by
 have hl:=h.length;rw[h.row.cellAt i (by omega)];simp[List.getD,List.getElem?_eq_getElem (show i<L.length by omega)]
theorem NowR.put(h:NowR w0 W g n cp L P Q T){i:Nat}{v:Value}{l:List FV}{P' Q' T':Nat}(hr:KRow W w0.heap.size v l)(hb:KBnd l P' Q' T')(hP:P≤P')(hQ:Q≤Q')(hT:T≤T'):NowR w0 (W.setCell ⟨g,i,none⟩ v) g n cp (L.set i (v,l)) P' Q' T':=by
 have hty:=zj h.row (k:=g) rfl;have ho:Only (fun b=>b=g) W (W.setCell ⟨g,i,none⟩ v):=(Only.refl (fun b=>b=g) W).setCell (p:=⟨g,i,none⟩) (.inl rfl) _;have hm:∀q,q=g→¬Typed W 80 q∧¬Typed W 96 q∧¬Typed W 123 q:=fun q hq=>by rw[hq];exact⟨Typed.not hty (by decide),Typed.not hty (by decide),Typed.not hty (by decide)⟩
 refine⟨?_,by simpa using h.length,fun p hp=>?_,h.bl.trans (ho.below (n:=w0.heap.size) h.bl.size (fun q hq=>by rw[hq];exact(h.row.lt g rfl).1))⟩
 ·have:=(h.row.stored i v).1
  rw[List.map_set];exact this
 ·rcases List.mem_or_eq_of_mem_set hp with hp | rfl
  ·obtain⟨h1,h2,h3⟩:=h.ents p hp
   exact⟨h1.imp id (fun h'=>h'.only ho hm),h2,h3.mono hP hQ hT⟩
  ·exact⟨.inr (hr.only ho hm),hr.nilOk,hb⟩
end
def opP (o:OpV) (p q:Prop) (x r c:Int):Prop:=(o.kind=0∧(p∨q))∨(o.kind=1∧p∧q)∨(o.kind=2∧p∧¬q)∨(o.kind=3∧p∧InL o.items x)∨(o.kind=4∧(p∨(x=o.x∧r=o.r∧c=o.c)))
def DoneO (w0:World) (g n cp:Nat) (L:List KV) (P Q T:Nat) (o:OpV) (e:Ending) (w':World):Prop:=
 ∃v' l',e=.returned .nilIface∧NowR w0 w' g n cp (L.set o.a.toNat (v',l')) (2 * P+1) (2 * Q+19) (3+22 * T)∧CanL l'∧∀x r c,KnK (l'.map FV.frag) x r c↔opP o (KnK ((L.getD o.a.toNat KV.z).2.map FV.frag) x r c) (KnK ((L.getD o.b.toNat KV.z).2.map FV.frag) x r c) x r c
theorem scrdo_any(w0:World)(g n cp:Nat)(L:List KV)(P Q T:Nat)(o:OpV)(w:World)(h:NowR w0 w g n cp L P Q T)(hf:FitO o n)(hw:Word o.x∧Word o.r∧Word o.c)(hi:RgAt w o.iv o.items)(hn:n≤1000)(hP:P≤5000)(hQ:Q≤19000)(hT:T≤13000) :
  Calls Tryz.prog 23 #[.slice (some ⟨g,0,none⟩) n cp,.agg o.cells.toArray] w fun e w'=>DoneO w0 g n cp L P Q T o e w':=by
 have hmx:Tryz.prog.follows .mixedOrders=true:=by kernel_rfl
 obtain⟨⟨hk0,hk4⟩,⟨ha0,ha1⟩,⟨hb0,hb1⟩,hfew,hcor⟩:=hf;obtain⟨kind,oa,ob,items,iv,ox,orr,oc⟩:=o;simp only at hk0 hk4 ha0 ha1 hb0 hb1 hfew hcor hi hw;obtain⟨an,rfl⟩:∃an:Nat,oa=an:=⟨oa.toNat,by omega⟩;obtain⟨bn,rfl⟩:∃bn:Nat,ob=bn:=⟨ob.toNat,by omega⟩;have ha2:an<n:=by omega
 have hb2:bn<n:=by omega
 unfold DoneO;simp only[Int.toNat_natCast,OpV.cells];have HI:=z7 hi;have HC:=z7 (And.intro hcor (And.intro hfew hw));have BN:=z7 (And.intro hP (And.intro hQ hT));obtain⟨ai,ci,rfl,_,_⟩:=hi;obtain⟨ni,eni⟩:∃ni,items.length=ni:=⟨_,rfl⟩;obtain⟨pa,epa⟩:∃p,L.getD an KV.z=p:=⟨_,rfl⟩;obtain⟨pb,epb⟩:∃p,L.getD bn KV.z=p:=⟨_,rfl⟩;obtain⟨w1,ew1⟩:∃w1,w.alloc (.cells #[.int .i64 kind,.int .i64 an,.int .i64 bn,.slice ai items.length ci,.int .u64 ox,.int .u64 orr,.int .u64 oc] 61)=w1:=⟨_,rfl⟩;have b1:Below w.heap.size w w1:=by rw[← ew1];exact zc (Below.refl _ _) _
 have q1:w1.heap[w.heap.size]?=some (.cells #[.int .i64 kind,.int .i64 an,.int .i64 bn,.slice ai items.length ci,.int .u64 ox,.int .u64 orr,.int .u64 oc] 61 (0,0)):=by rw[← ew1];exact ze _ _ rfl
 have h1:=h.below b1;have ka:=h1.kok ha2;have kb:=h1.kok hb2;have y1:=h1.cell ha2;have y2:=h1.cell hb2;rw[epa]at ka y1;rw[epb]at kb y2;have N1:=z7 h1;have KA:=z7 ka;have KB:=z7 kb;obtain⟨va,la⟩:=pa;obtain⟨vb,lb⟩:=pb;simp only at ka kb y1 y2;obtain⟨aa,ca,rfl⟩:=ka.slice;obtain⟨ab,cb,rfl⟩:=kb.slice;obtain⟨na,ena⟩:∃n,la.length=n:=⟨_,rfl⟩;obtain⟨nb,enb⟩:∃n,lb.length=n:=⟨_,rfl⟩;have HI1:=z7 (HI.out.below b1);have S1:=z7 (show w1.heap.size=w.heap.size+1 from by rw[← ew1];simp);rw[epa,epb];simp only at KA KB ⊢;rw[ena]at KA y1;rw[enb]at KB y2;rw[eni]at q1 ew1 HI1 ⊢;have Q1:=z7 q1;have c0:w1.cell? ⟨w.heap.size,0,none⟩=some (.int .i64 kind):=by simp[World.cell?,q1]
 have c1:w1.cell? ⟨w.heap.size,1,none⟩=some (.int .i64 an):=by simp[World.cell?,q1]
 have c2:w1.cell? ⟨w.heap.size,2,none⟩=some (.int .i64 bn):=by simp[World.cell?,q1]
 have c3:w1.cell? ⟨w.heap.size,3,none⟩=some (.slice ai ni ci):=by simp[World.cell?,q1]
 have c4:w1.cell? ⟨w.heap.size,4,none⟩=some (.int .u64 ox):=by simp[World.cell?,q1]
 have c5:w1.cell? ⟨w.heap.size,5,none⟩=some (.int .u64 orr):=by simp[World.cell?,q1]
 have c6:w1.cell? ⟨w.heap.size,6,none⟩=some (.int .u64 oc):=by simp[World.cell?,q1]
 have y0:=N1.out.row.frozenAt an;have G1:=z7 (show g<w1.heap.size∧g≠w.heap.size from⟨(N1.out.row.lt g rfl).2,fun e=>by
  obtain⟨cs,hc⟩:=zj N1.out.row (k:=g) rfl;rw[e,q1]at hc
  cases hc⟩)
 have FIN:=z7 (show ∀(W:World) (v':Value) (l':List FV) (P' Q' T':Nat),Below w1.heap.size w1 W→KRow W w1.heap.size v' l'→KBnd l' P' Q' T'→P'≤2 * P+1→Q'≤2 * Q+19→T'≤3+22 * T→NowR w0 (W.setCell ⟨g,an,none⟩ v') g n cp (L.set an (v',l')) (2 * P+1) (2 * Q+19) (3+22 * T)from fun W v' l' P' Q' T' hb hr hB e1 e2 e3=>
  (N1.out.below hb).put (hr.base N1.out.bl.size) (hB.mono e1 e2 e3) (by omega) (by omega) (by omega))
 have AFT:=z7 (show ∀W,Below w1.heap.size w1 W→W.cell? ⟨w.heap.size,1,none⟩=some (.int .i64 an)∧W.cell? ⟨g,an,none⟩=some (.slice aa na ca)∧W.frozen? ⟨g,an,none⟩=false from fun W hb=>⟨zg hb (block_lt_of_cell c1) c1,zg hb (block_lt_of_cell y1) y1,(N1.out.below hb).row.frozenAt an⟩);have j0:(0:Int)≤(an:Int):=by omega
 have j1:(an:Int)<(n:Int):=by omega
 have j2:(0:Int)≤(bn:Int):=by omega
 have j3:(bn:Int)<(n:Int):=by omega
 have hkk:kind=0∨kind=1∨kind=2∨kind=3∨kind=4:=by omega
 clear h h1 ka kb q1 b1 hcor hfew hw hP hQ hT epa epb ena enb eni hk0 hk4 ha0 ha1 hb0 hb1;rcases hkk with rfl | rfl | rfl | rfl | rfl
 ·go_enter Tryz.func23,Tryz.ntmps23
  go_wp2_with fail
  try rw[ew1]
  refine wp_region_held_drew (S:=Only (fun _=>False) w1) hmx (Only.refl _ _).drew (fun hS=>?_);refine tkd (i:=0) (d:=some 30) (v:=(.slice (some ⟨g,0,none⟩) n cp)) (hy:=.inl ⟨by rfl,?_⟩) (h:=?_)
  ·intro X hX;go_simp
  refine tkd (i:=1) (d:=some 31) (v:=(.pointer (some ⟨w.heap.size,1,none⟩))) (hy:=.inl ⟨by rfl,?_⟩) (h:=?_)
  ·intro X hX;go_simp
  refine tkd (i:=2) (d:=some 32) (v:=(.int .i64 an)) (hy:=.inl ⟨by rfl,?_⟩) (h:=?_)
  ·intro X hX;have x0:=hX.cell (fun h=>h) c1;go_simp
  refine tkd (i:=3) (d:=some 33) (v:=(.pointer (some ⟨g,an,none⟩))) (hy:=.inl ⟨by rfl,?_⟩) (h:=?_)
  ·intro X hX;go_simp
  refine tkd (i:=4) (d:=some 34) (v:=(.slice aa na ca)) (hy:=.inl ⟨by rfl,?_⟩) (h:=?_)
  ·intro X hX;have x0:=hX.cell (fun h=>h) y1;go_simp
  refine tkd (i:=5) (d:=some 35) (v:=(.slice (some ⟨g,0,none⟩) n cp)) (hy:=.inl ⟨by rfl,?_⟩) (h:=?_)
  ·intro X hX;go_simp
  refine tkd (i:=6) (d:=some 36) (v:=(.pointer (some ⟨w.heap.size,2,none⟩))) (hy:=.inl ⟨by rfl,?_⟩) (h:=?_)
  ·intro X hX;go_simp
  refine tkd (i:=7) (d:=some 37) (v:=(.int .i64 bn)) (hy:=.inl ⟨by rfl,?_⟩) (h:=?_)
  ·intro X hX;have x0:=hX.cell (fun h=>h) c2;go_simp
  refine tkd (i:=8) (d:=some 38) (v:=(.pointer (some ⟨g,bn,none⟩))) (hy:=.inl ⟨by rfl,?_⟩) (h:=?_)
  ·intro X hX;go_simp
  refine tkd (i:=9) (d:=some 39) (v:=(.slice ab nb cb)) (hy:=.inl ⟨by rfl,?_⟩) (h:=?_)
  ·intro X hX;have x0:=hX.cell (fun h=>h) y2;go_simp
  have X0:=z7 ((Only.refl (fun _=>False) w1).drew);refine wpAnyH_ready (rs:=[10]) (by kernel_rfl) (by simp) ?_;refine AllReadyH.cons (o:=_) rfl (fun K hK=>?_) AllReadyH.nil;have bX:Below w1.heap.size w1 w1.drew:=X0.out.below (n:=w1.heap.size) (Nat.le_refl _) (fun _ h=>h.elim);go_simp
  refine(kunion_any (KA.out.below bX) (KB.out.below bX) (by have:=BN.out;omega) (by have:=BN.out;omega) (by have:=BN.out;omega)).mono ?_;rintro e y3 ⟨v',l',rfl,hR,hC,hKn,hO,hb7⟩;have hS:=hS.call hb7;have BY:=z7 (bX.trans (hb7.mono bX.size));have RES:=z7 (And.intro (hR.base (show w1.heap.size≤_ from bX.size)) (And.intro hC (And.intro hKn hO.b)));obtain⟨a5,c5',rfl,_⟩:=zl hR.row;clear hR hC hKn hO hb7 bX;go_simp
  refine hK.out _ _ hS (fun _=>?_);clear hK K;refine tkd (i:=11) (d:=some 29) (v:=(.tuple #[.slice a5 l'.length c5',.nilIface])) (hy:=.inl ⟨by rfl,?_⟩) (h:=?_)
  ·intro X hX;go_simp
  refine tkd (i:=12) (d:=some 41) (v:=(.slice a5 l'.length c5')) (hy:=.inl ⟨by rfl,?_⟩) (h:=?_)
  ·intro X hX;go_simp
  refine tkd (i:=13) (d:=some 42) (v:=(.nilIface)) (hy:=.inl ⟨by rfl,?_⟩) (h:=?_)
  ·intro X hX;go_simp
  refine tkd (i:=14) (d:=some 5) (v:=(.slice a5 l'.length c5')) (hy:=.inl ⟨by rfl,?_⟩) (h:=?_)
  ·intro X hX;go_simp
  refine tkd (i:=15) (d:=some 6) (v:=(.nilIface)) (hy:=.inl ⟨by rfl,?_⟩) (h:=?_)
  ·intro X hX;go_simp
  refine wpAnyH_done (by kernel_rfl) ?_ _;obtain⟨n5,en5⟩:∃n5,l'.length=n5:=⟨_,rfl⟩;rw[en5]at RES ⊢;obtain⟨z1,z2,z3⟩:=AFT.out _ BY.out;clear hS c0 c1 c2 c3 c4 c5 c6 y0 y1 y2 en5;go_wp2
  go_ret
  have hBN:=BN.out;first | refine⟨.slice a5 n5 c5',l',rfl,?_⟩ | refine⟨rfl,.slice a5 n5 c5',l',?_⟩
  refine⟨FIN.out _ _ _ _ _ _ BY.out RES.out.1 RES.out.2.2.2 (by omega) (by omega) (by omega),RES.out.2.1,fun x r c=>?_⟩;rw[RES.out.2.2.1];unfold KnO opP;simp[tkU]
 ·go_enter Tryz.func23,Tryz.ntmps23
  go_wp2_with fail
  try rw[ew1]
  refine wp_region_held_drew (S:=Only (fun _=>False) w1) hmx (Only.refl _ _).drew (fun hS=>?_);refine tkd (i:=0) (d:=some 46) (v:=(.slice (some ⟨g,0,none⟩) n cp)) (hy:=.inl ⟨by rfl,?_⟩) (h:=?_)
  ·intro X hX;go_simp
  refine tkd (i:=1) (d:=some 47) (v:=(.pointer (some ⟨w.heap.size,1,none⟩))) (hy:=.inl ⟨by rfl,?_⟩) (h:=?_)
  ·intro X hX;go_simp
  refine tkd (i:=2) (d:=some 48) (v:=(.int .i64 an)) (hy:=.inl ⟨by rfl,?_⟩) (h:=?_)
  ·intro X hX;have x0:=hX.cell (fun h=>h) c1;go_simp
  refine tkd (i:=3) (d:=some 49) (v:=(.pointer (some ⟨g,an,none⟩))) (hy:=.inl ⟨by rfl,?_⟩) (h:=?_)
  ·intro X hX;go_simp
  refine tkd (i:=4) (d:=some 50) (v:=(.slice aa na ca)) (hy:=.inl ⟨by rfl,?_⟩) (h:=?_)
  ·intro X hX;have x0:=hX.cell (fun h=>h) y1;go_simp
  refine tkd (i:=5) (d:=some 51) (v:=(.slice (some ⟨g,0,none⟩) n cp)) (hy:=.inl ⟨by rfl,?_⟩) (h:=?_)
  ·intro X hX;go_simp
  refine tkd (i:=6) (d:=some 52) (v:=(.pointer (some ⟨w.heap.size,2,none⟩))) (hy:=.inl ⟨by rfl,?_⟩) (h:=?_)
  ·intro X hX;go_simp
  refine tkd (i:=7) (d:=some 53) (v:=(.int .i64 bn)) (hy:=.inl ⟨by rfl,?_⟩) (h:=?_)
  ·intro X hX;have x0:=hX.cell (fun h=>h) c2;go_simp
  refine tkd (i:=8) (d:=some 54) (v:=(.pointer (some ⟨g,bn,none⟩))) (hy:=.inl ⟨by rfl,?_⟩) (h:=?_)
  ·intro X hX;go_simp
  refine tkd (i:=9) (d:=some 55) (v:=(.slice ab nb cb)) (hy:=.inl ⟨by rfl,?_⟩) (h:=?_)
  ·intro X hX;have x0:=hX.cell (fun h=>h) y2;go_simp
  have X0:=z7 ((Only.refl (fun _=>False) w1).drew);refine wpAnyH_ready (rs:=[10]) (by kernel_rfl) (by simp) ?_;refine AllReadyH.cons (o:=_) rfl (fun K hK=>?_) AllReadyH.nil;have bX:Below w1.heap.size w1 w1.drew:=X0.out.below (n:=w1.heap.size) (Nat.le_refl _) (fun _ h=>h.elim);go_simp
  refine(kmeet_any (KA.out.below bX) (KB.out.below bX) (by have:=BN.out;omega) (by have:=BN.out;omega) (by have:=BN.out;omega)).mono ?_;rintro e y3 ⟨v',l',rfl,hR,hC,hKn,hO,hb7⟩;have hS:=hS.call hb7;have BY:=z7 (bX.trans (hb7.mono bX.size));have RES:=z7 (And.intro (hR.base (show w1.heap.size≤_ from bX.size)) (And.intro hC (And.intro hKn hO.b)));obtain⟨a5,c5',rfl,_⟩:=zl hR.row;clear hR hC hKn hO hb7 bX;go_simp
  refine hK.out _ _ hS (fun _=>?_);clear hK K;refine tkd (i:=11) (d:=some 45) (v:=(.tuple #[.slice a5 l'.length c5',.nilIface])) (hy:=.inl ⟨by rfl,?_⟩) (h:=?_)
  ·intro X hX;go_simp
  refine tkd (i:=12) (d:=some 57) (v:=(.slice a5 l'.length c5')) (hy:=.inl ⟨by rfl,?_⟩) (h:=?_)
  ·intro X hX;go_simp
  refine tkd (i:=13) (d:=some 58) (v:=(.nilIface)) (hy:=.inl ⟨by rfl,?_⟩) (h:=?_)
  ·intro X hX;go_simp
  refine tkd (i:=14) (d:=some 5) (v:=(.slice a5 l'.length c5')) (hy:=.inl ⟨by rfl,?_⟩) (h:=?_)
  ·intro X hX;go_simp
  refine tkd (i:=15) (d:=some 6) (v:=(.nilIface)) (hy:=.inl ⟨by rfl,?_⟩) (h:=?_)
  ·intro X hX;go_simp
  refine wpAnyH_done (by kernel_rfl) ?_ _;obtain⟨n5,en5⟩:∃n5,l'.length=n5:=⟨_,rfl⟩;rw[en5]at RES ⊢;obtain⟨z1,z2,z3⟩:=AFT.out _ BY.out;clear hS c0 c1 c2 c3 c4 c5 c6 y0 y1 y2 en5;go_wp2
  go_ret
  have hBN:=BN.out;first | refine⟨.slice a5 n5 c5',l',rfl,?_⟩ | refine⟨rfl,.slice a5 n5 c5',l',?_⟩
  refine⟨FIN.out _ _ _ _ _ _ BY.out RES.out.1 RES.out.2.2.2 (by omega) (by omega) (by omega),RES.out.2.1,fun x r c=>?_⟩;rw[RES.out.2.2.1];unfold KnO opP;simp[tkM]
 ·go_enter Tryz.func23,Tryz.ntmps23
  go_wp2_with fail
  try rw[ew1]
  refine wp_region_held_drew (S:=Only (fun _=>False) w1) hmx (Only.refl _ _).drew (fun hS=>?_);refine tkd (i:=0) (d:=some 62) (v:=(.slice (some ⟨g,0,none⟩) n cp)) (hy:=.inl ⟨by rfl,?_⟩) (h:=?_)
  ·intro X hX;go_simp
  refine tkd (i:=1) (d:=some 63) (v:=(.pointer (some ⟨w.heap.size,1,none⟩))) (hy:=.inl ⟨by rfl,?_⟩) (h:=?_)
  ·intro X hX;go_simp
  refine tkd (i:=2) (d:=some 64) (v:=(.int .i64 an)) (hy:=.inl ⟨by rfl,?_⟩) (h:=?_)
  ·intro X hX;have x0:=hX.cell (fun h=>h) c1;go_simp
  refine tkd (i:=3) (d:=some 65) (v:=(.pointer (some ⟨g,an,none⟩))) (hy:=.inl ⟨by rfl,?_⟩) (h:=?_)
  ·intro X hX;go_simp
  refine tkd (i:=4) (d:=some 66) (v:=(.slice aa na ca)) (hy:=.inl ⟨by rfl,?_⟩) (h:=?_)
  ·intro X hX;have x0:=hX.cell (fun h=>h) y1;go_simp
  refine tkd (i:=5) (d:=some 67) (v:=(.slice (some ⟨g,0,none⟩) n cp)) (hy:=.inl ⟨by rfl,?_⟩) (h:=?_)
  ·intro X hX;go_simp
  refine tkd (i:=6) (d:=some 68) (v:=(.pointer (some ⟨w.heap.size,2,none⟩))) (hy:=.inl ⟨by rfl,?_⟩) (h:=?_)
  ·intro X hX;go_simp
  refine tkd (i:=7) (d:=some 69) (v:=(.int .i64 bn)) (hy:=.inl ⟨by rfl,?_⟩) (h:=?_)
  ·intro X hX;have x0:=hX.cell (fun h=>h) c2;go_simp
  refine tkd (i:=8) (d:=some 70) (v:=(.pointer (some ⟨g,bn,none⟩))) (hy:=.inl ⟨by rfl,?_⟩) (h:=?_)
  ·intro X hX;go_simp
  refine tkd (i:=9) (d:=some 71) (v:=(.slice ab nb cb)) (hy:=.inl ⟨by rfl,?_⟩) (h:=?_)
  ·intro X hX;have x0:=hX.cell (fun h=>h) y2;go_simp
  have X0:=z7 ((Only.refl (fun _=>False) w1).drew);refine wpAnyH_ready (rs:=[10]) (by kernel_rfl) (by simp) ?_;refine AllReadyH.cons (o:=_) rfl (fun K hK=>?_) AllReadyH.nil;have bX:Below w1.heap.size w1 w1.drew:=X0.out.below (n:=w1.heap.size) (Nat.le_refl _) (fun _ h=>h.elim);go_simp
  refine(kminus_any (KA.out.below bX) (KB.out.below bX) (by have:=BN.out;omega) (by have:=BN.out;omega) (by have:=BN.out;omega)).mono ?_;rintro e y3 ⟨v',l',rfl,hR,hC,hKn,hO,hb7⟩;have hS:=hS.call hb7;have BY:=z7 (bX.trans (hb7.mono bX.size));have RES:=z7 (And.intro (hR.base (show w1.heap.size≤_ from bX.size)) (And.intro hC (And.intro hKn hO.b)));obtain⟨a5,c5',rfl,_⟩:=zl hR.row;clear hR hC hKn hO hb7 bX;go_simp
  refine hK.out _ _ hS (fun _=>?_);clear hK K;refine tkd (i:=11) (d:=some 61) (v:=(.tuple #[.slice a5 l'.length c5',.nilIface])) (hy:=.inl ⟨by rfl,?_⟩) (h:=?_)
  ·intro X hX;go_simp
  refine tkd (i:=12) (d:=some 73) (v:=(.slice a5 l'.length c5')) (hy:=.inl ⟨by rfl,?_⟩) (h:=?_)
  ·intro X hX;go_simp
  refine tkd (i:=13) (d:=some 74) (v:=(.nilIface)) (hy:=.inl ⟨by rfl,?_⟩) (h:=?_)
  ·intro X hX;go_simp
  refine tkd (i:=14) (d:=some 5) (v:=(.slice a5 l'.length c5')) (hy:=.inl ⟨by rfl,?_⟩) (h:=?_)
  ·intro X hX;go_simp
  refine tkd (i:=15) (d:=some 6) (v:=(.nilIface)) (hy:=.inl ⟨by rfl,?_⟩) (h:=?_)
  ·intro X hX;go_simp
  refine wpAnyH_done (by kernel_rfl) ?_ _;obtain⟨n5,en5⟩:∃n5,l'.length=n5:=⟨_,rfl⟩;rw[en5]at RES ⊢;obtain⟨z1,z2,z3⟩:=AFT.out _ BY.out;clear hS c0 c1 c2 c3 c4 c5 c6 y0 y1 y2 en5;go_wp2
  go_ret
  have hBN:=BN.out;first | refine⟨.slice a5 n5 c5',l',rfl,?_⟩ | refine⟨rfl,.slice a5 n5 c5',l',?_⟩
  refine⟨FIN.out _ _ _ _ _ _ BY.out RES.out.1 RES.out.2.2.2 (by omega) (by omega) (by omega),RES.out.2.1,fun x r c=>?_⟩;rw[RES.out.2.2.1];unfold KnO opP;simp[tkD]
 ·go_enter Tryz.func23,Tryz.ntmps23
  go_wp2_with fail
  try rw[ew1]
  refine wp_region_held_drew (S:=Only (fun _=>False) w1) hmx (Only.refl _ _).drew (fun hS=>?_);refine tkd (i:=0) (d:=some 78) (v:=(.slice (some ⟨g,0,none⟩) n cp)) (hy:=.inl ⟨by rfl,?_⟩) (h:=?_)
  ·intro X hX;go_simp
  refine tkd (i:=1) (d:=some 79) (v:=(.pointer (some ⟨w.heap.size,1,none⟩))) (hy:=.inl ⟨by rfl,?_⟩) (h:=?_)
  ·intro X hX;go_simp
  refine tkd (i:=2) (d:=some 80) (v:=(.int .i64 an)) (hy:=.inl ⟨by rfl,?_⟩) (h:=?_)
  ·intro X hX;have x0:=hX.cell (fun h=>h) c1;go_simp
  refine tkd (i:=3) (d:=some 81) (v:=(.pointer (some ⟨g,an,none⟩))) (hy:=.inl ⟨by rfl,?_⟩) (h:=?_)
  ·intro X hX;go_simp
  refine tkd (i:=4) (d:=some 82) (v:=(.slice aa na ca)) (hy:=.inl ⟨by rfl,?_⟩) (h:=?_)
  ·intro X hX;have x0:=hX.cell (fun h=>h) y1;go_simp
  refine tkd (i:=5) (d:=some 83) (v:=(.pointer (some ⟨w.heap.size,3,none⟩))) (hy:=.inl ⟨by rfl,?_⟩) (h:=?_)
  ·intro X hX;go_simp
  refine tkd (i:=6) (d:=some 84) (v:=(.slice ai ni ci)) (hy:=.inl ⟨by rfl,?_⟩) (h:=?_)
  ·intro X hX;have x0:=hX.cell (fun h=>h) c3;go_simp
  have X0:=z7 ((Only.refl (fun _=>False) w1).drew);refine wpAnyH_ready (rs:=[7]) (by kernel_rfl) (by simp) ?_;refine AllReadyH.cons (o:=_) rfl (fun K hK=>?_) AllReadyH.nil;have bX:Below w1.heap.size w1 w1.drew:=X0.out.below (n:=w1.heap.size) (Nat.le_refl _) (fun _ h=>h.elim);go_simp
  refine(kproj_any (KA.out.below bX) (HI1.out.below bX) HC.out.1 HC.out.2.1 (by have:=BN.out;omega) (by have:=BN.out;omega) (by have:=BN.out;omega)).mono ?_;rintro e y3 ⟨v',l',rfl,hR,hC,hKn,hO,hb7⟩;have hS:=hS.call hb7;have BY:=z7 (bX.trans (hb7.mono bX.size));have RES:=z7 (And.intro (hR.base (show w1.heap.size≤_ from bX.size)) (And.intro hC (And.intro hKn hO.b)));obtain⟨a5,c5',rfl,_⟩:=zl hR.row;clear hR hC hKn hO hb7 bX;go_simp
  refine hK.out _ _ hS (fun _=>?_);clear hK K;refine tkd (i:=8) (d:=some 77) (v:=(.tuple #[.slice a5 l'.length c5',.nilIface])) (hy:=.inl ⟨by rfl,?_⟩) (h:=?_)
  ·intro X hX;go_simp
  refine tkd (i:=9) (d:=some 86) (v:=(.slice a5 l'.length c5')) (hy:=.inl ⟨by rfl,?_⟩) (h:=?_)
  ·intro X hX;go_simp
  refine tkd (i:=10) (d:=some 87) (v:=(.nilIface)) (hy:=.inl ⟨by rfl,?_⟩) (h:=?_)
  ·intro X hX;go_simp
  refine tkd (i:=11) (d:=some 5) (v:=(.slice a5 l'.length c5')) (hy:=.inl ⟨by rfl,?_⟩) (h:=?_)
  ·intro X hX;go_simp
  refine tkd (i:=12) (d:=some 6) (v:=(.nilIface)) (hy:=.inl ⟨by rfl,?_⟩) (h:=?_)
  ·intro X hX;go_simp
  refine wpAnyH_done (by kernel_rfl) ?_ _;obtain⟨n5,en5⟩:∃n5,l'.length=n5:=⟨_,rfl⟩;rw[en5]at RES ⊢;obtain⟨z1,z2,z3⟩:=AFT.out _ BY.out;clear hS c0 c1 c2 c3 c4 c5 c6 y0 y1 y2 en5;go_wp2
  go_ret
  have hBN:=BN.out;first | refine⟨.slice a5 n5 c5',l',rfl,?_⟩ | refine⟨rfl,.slice a5 n5 c5',l',?_⟩
  refine⟨FIN.out _ _ _ _ _ _ BY.out RES.out.1 RES.out.2.2.2 (by omega) (by omega) (by omega),RES.out.2.1,fun x r c=>?_⟩;rw[RES.out.2.2.1];unfold opP;simp
 ·go_enter Tryz.func23,Tryz.ntmps23
  go_wp2_with fail
  try rw[ew1]
  refine wp_region_held_drew (S:=Only (fun _=>False) w1) hmx (Only.refl _ _).drew (fun hS=>?_);refine tkd (i:=0) (d:=some 10) (v:=(.slice (some ⟨g,0,none⟩) n cp)) (hy:=.inl ⟨by rfl,?_⟩) (h:=?_)
  ·intro X hX;go_simp
  refine tkd (i:=1) (d:=some 11) (v:=(.pointer (some ⟨w.heap.size,1,none⟩))) (hy:=.inl ⟨by rfl,?_⟩) (h:=?_)
  ·intro X hX;go_simp
  refine tkd (i:=2) (d:=some 12) (v:=(.int .i64 an)) (hy:=.inl ⟨by rfl,?_⟩) (h:=?_)
  ·intro X hX;have x0:=hX.cell (fun h=>h) c1;go_simp
  refine tkd (i:=3) (d:=some 13) (v:=(.pointer (some ⟨g,an,none⟩))) (hy:=.inl ⟨by rfl,?_⟩) (h:=?_)
  ·intro X hX;go_simp
  refine tkd (i:=4) (d:=some 14) (v:=(.slice aa na ca)) (hy:=.inl ⟨by rfl,?_⟩) (h:=?_)
  ·intro X hX;have x0:=hX.cell (fun h=>h) y1;go_simp
  refine tkd (i:=5) (d:=some 15) (v:=(.pointer (some ⟨w.heap.size,4,none⟩))) (hy:=.inl ⟨by rfl,?_⟩) (h:=?_)
  ·intro X hX;go_simp
  refine tkd (i:=6) (d:=some 16) (v:=(.pointer (some ⟨w.heap.size,4,none⟩))) (hy:=.inl ⟨by rfl,?_⟩) (h:=?_)
  ·intro X hX;go_simp
  refine tkd (i:=7) (d:=some 17) (v:=(.int .u64 ox)) (hy:=.inl ⟨by rfl,?_⟩) (h:=?_)
  ·intro X hX;have x0:=hX.cell (fun h=>h) c4;go_simp
  refine tkd (i:=8) (d:=some 18) (v:=(.pointer (some ⟨w.heap.size,4,none⟩))) (hy:=.inl ⟨by rfl,?_⟩) (h:=?_)
  ·intro X hX;go_simp
  refine tkd (i:=9) (d:=some 19) (v:=(.pointer (some ⟨w.heap.size,5,none⟩))) (hy:=.inl ⟨by rfl,?_⟩) (h:=?_)
  ·intro X hX;go_simp
  refine tkd (i:=10) (d:=some 20) (v:=(.int .u64 orr)) (hy:=.inl ⟨by rfl,?_⟩) (h:=?_)
  ·intro X hX;have x0:=hX.cell (fun h=>h) c5;go_simp
  refine tkd (i:=11) (d:=some 21) (v:=(.pointer (some ⟨w.heap.size,4,none⟩))) (hy:=.inl ⟨by rfl,?_⟩) (h:=?_)
  ·intro X hX;go_simp
  refine tkd (i:=12) (d:=some 22) (v:=(.pointer (some ⟨w.heap.size,6,none⟩))) (hy:=.inl ⟨by rfl,?_⟩) (h:=?_)
  ·intro X hX;go_simp
  refine tkd (i:=13) (d:=some 23) (v:=(.int .u64 oc)) (hy:=.inl ⟨by rfl,?_⟩) (h:=?_)
  ·intro X hX;have x0:=hX.cell (fun h=>h) c6;go_simp
  have X0:=z7 ((Only.refl (fun _=>False) w1).drew);refine wpAnyH_ready (rs:=[14]) (by kernel_rfl) (by simp) ?_;refine AllReadyH.cons (o:=_) rfl (fun K hK=>?_) AllReadyH.nil;have bX:Below w1.heap.size w1 w1.drew:=X0.out.below (n:=w1.heap.size) (Nat.le_refl _) (fun _ h=>h.elim);go_simp
  refine(kinsert_any ox orr oc (KA.out.below bX) HC.out.2.2.1 HC.out.2.2.2.1 HC.out.2.2.2.2 (by have:=BN.out;omega) (by have:=BN.out;omega) (by have:=BN.out;omega)).mono ?_;rintro e y3 ⟨v',l',rfl,hR,hC,hKn,hO,hb7⟩;have hS:=hS.call hb7;have BY:=z7 (bX.trans (hb7.mono bX.size));have RES:=z7 (And.intro (hR.base (show w1.heap.size≤_ from bX.size)) (And.intro hC (And.intro hKn hO.b)));obtain⟨a5,c5',rfl,_⟩:=zl hR.row;clear hR hC hKn hO hb7 bX;go_simp
  refine hK.out _ _ hS (fun _=>?_);clear hK K;refine tkd (i:=15) (d:=some 9) (v:=(.tuple #[.slice a5 l'.length c5',.nilIface])) (hy:=.inl ⟨by rfl,?_⟩) (h:=?_)
  ·intro X hX;go_simp
  refine tkd (i:=16) (d:=some 25) (v:=(.slice a5 l'.length c5')) (hy:=.inl ⟨by rfl,?_⟩) (h:=?_)
  ·intro X hX;go_simp
  refine tkd (i:=17) (d:=some 26) (v:=(.nilIface)) (hy:=.inl ⟨by rfl,?_⟩) (h:=?_)
  ·intro X hX;go_simp
  refine tkd (i:=18) (d:=some 5) (v:=(.slice a5 l'.length c5')) (hy:=.inl ⟨by rfl,?_⟩) (h:=?_)
  ·intro X hX;go_simp
  refine tkd (i:=19) (d:=some 6) (v:=(.nilIface)) (hy:=.inl ⟨by rfl,?_⟩) (h:=?_)
  ·intro X hX;go_simp
  refine wpAnyH_done (by kernel_rfl) ?_ _;obtain⟨n5,en5⟩:∃n5,l'.length=n5:=⟨_,rfl⟩;rw[en5]at RES ⊢;obtain⟨z1,z2,z3⟩:=AFT.out _ BY.out;clear hS c0 c1 c2 c3 c4 c5 c6 y0 y1 y2 en5;go_wp2
  go_ret
  have hBN:=BN.out;first | refine⟨.slice a5 n5 c5',l',rfl,?_⟩ | refine⟨rfl,.slice a5 n5 c5',l',?_⟩
  refine⟨FIN.out _ _ _ _ _ _ BY.out RES.out.1 RES.out.2.2.2 (by omega) (by omega) (by omega),RES.out.2.1,fun x r c=>?_⟩;rw[RES.out.2.2.1];unfold opP;simp
theorem eqVer(x y z x' y' z':Int)(w:World):(binOp .eql 59 (.agg #[.int .u64 x,.int .u64 y,.int .u64 z]) (.agg #[.int .u64 x',.int .u64 y',.int .u64 z'])).run Tryz.prog w=.ok (.bool (decide (x=x'∧y=y'∧z=z'))) w:=by
 have ht:Tryz.prog.underlying 59=some (.struct (Tryz.prog.fieldsOf 59)):=by kernel_rfl
 have hp:Tryz.prog.stoodInHeld 59=false:=by kernel_rfl
 rw[run_eql_struct,run_equalIn_agg _ _ _ _ _ ht hp]
 have hm : (Tryz.prog.fieldsOf 59).toList.map (fun f => (f.name == "_", f.offset, f.type)) = [(false, 0, 57), (false, 1, 57), (false, 2, 57)] := by kernel_rfl
 have hu:Tryz.prog.underlying 57=some (.int .u64):=Tryz.underlying57;have e:∀(a b:Int) (W:World),(Op.equalIn 9999 57 (.int .u64 a) (.int .u64 b)).run Tryz.prog W=.ok (a == b) W:=fun a b W=>run_equalIn_int W 9998 _ _ _ a b hu;obtain⟨fs,hfs⟩:∃fs,(Tryz.prog.fieldsOf 59).toList=fs:=⟨_,rfl⟩;rw[hfs]at hm ⊢;clear hfs ht hp;have hl:fs.length=3:=by simpa using congrArg List.length hm
 obtain⟨f0,f1,f2,rfl⟩:∃f0 f1 f2,fs=[f0,f1,f2]:=by
  rcases fs with _ | ⟨f0,_ | ⟨f1,_ | ⟨f2,_ | ⟨f3,fs⟩⟩⟩⟩<;>simp at hl
  exact⟨f0,f1,f2,rfl⟩
 simp only[List.map_cons,List.map_nil,List.cons.injEq,Prod.mk.injEq,beq_eq_false_iff_ne,and_true]at hm;obtain⟨⟨n0,o0,t0⟩,⟨n1,o1,t1⟩,n2,o2,t2⟩:=hm;have p0:∀(xs:Array Value) (i:Nat) (W:World) (v:Value),xs[i]?=some v→(part 57 xs i).run Tryz.prog W=.ok v W:=fun xs i W v hv=>by
  unfold part;simp[Go.isAgg,run_underlying hu,hv]
 simp only[Op.eqFields,n0,n1,n2,o0,o1,o2,t0,t1,t2,ne_eq,not_false_eq_true,if_true];by_cases hx:x=x'
 ·by_cases hy:y=y'
  ·by_cases hz:z=z'
   ·simp[p0,e,hx,hy,hz]
   ·simp[p0,e,hx,hy,hz]
  ·simp[p0,e,hx,hy]
 ·simp[p0,e,hx]
def foldB (bs:List Bool) (L:List OpV) (x r c:Int):Nat→List Bool
 | 0=>bs
 | k+1=>stepB (foldB bs L x r c k) (L.getD k OpV.z) x r c
theorem z26(bs:List Bool)(L:List OpV)(x r c:Int):∀k,(foldB bs L x r c k).length=bs.length
 | 0=>rfl
 | k+1=>by rw[foldB,stepB_length,z26 bs L x r c k]
theorem own_bool{w:World}{base g n cap:Nat}{bs:List Bool}(h:w.ownsRow base 4 1 (.slice (some ⟨g,0,none⟩) n cap) n (bs.map Value.bool)){i:Nat}(hi:i<n)(hl:bs.length=n):w.cell? ⟨g,i,none⟩=some (.bool (bs.getD i false)):=by
 rw[h.cellAt i (by omega)];simp[List.getD,List.getElem?_eq_getElem (show i<bs.length by omega)]
theorem ver_b(x r c x' r' c':Int):(decide (x'=x) && (decide (r'=r) && decide (c'=c)))=decide (x=x'∧r=r'∧c=c'):=by
 rw[Bool.eq_iff_iff];simp only[Bool.and_eq_true,decide_eq_true_iff];exact⟨fun h=>⟨h.1.symm,h.2.1.symm,h.2.2.symm⟩,fun h=>⟨h.1.symm,h.2.1.symm,h.2.2.symm⟩⟩
theorem map_setB(bs:List Bool)(i:Nat)(b:Bool):(bs.set i b).map Value.bool=(bs.map Value.bool).set i (.bool b):=List.map_set ..
theorem has_any(vk:Value)(bs:List Bool)(base:Nat)(a:Option Addr)(len cap:Nat)(L:List OpV)(x r c:Int)(w:World)(hk:OwnB1 w base vk bs)(hn:bs.length≤1000)(h0:0<bs.length)(hO:OpsAt w a len L)(hf:∀o∈L,FitO o bs.length)(hx:Word x) :
  Calls Tryz.prog 25 #[vk,.slice a len cap,.agg #[.int .u64 x,.int .u64 r,.int .u64 c]] w fun e w'=>∃v',e=.returned v'∧OwnB1 w' w.heap.size v' (foldB bs L x r c len)∧Below w.heap.size w w':=by
 have hmx:Tryz.prog.follows .mixedOrders=true:=by kernel_rfl
 obtain⟨i0,hi,hz0,hz1,hz2⟩:=info_parts info_bool;have heq:=eqVer;obtain⟨n,en⟩:∃n,bs.length=n+1:=⟨bs.length-1,by omega⟩;unfold OwnB1 at hk;rw[en]at hk hn hf;obtain⟨g,cg,rfl⟩:=ownsRow_succ hk;have HK:=z7 hk;have H:=z7 hO;have HF:=z7 hf;have HX:=z7 hx;have EN:=z7 en;have hm:=hO.most;clear hk hO hf hx h0 en;go_enter Tryz.func25,Tryz.ntmps25
 go_wp2_with(first
  | (at_builtin;go_loud(refine wpList_append_own_at _ rfl _ _ 63 rfl w.heap.size 4 i0 (.bool false) 1 1 Tryz.underlying63 hi hz0 hz1 hz2 rfl (by decide) (.slice (some ⟨w.heap.size+1,0,none⟩) 0 0) 0 [] rfl (by have:=World.ownsRow_lit (base:=w.heap.size) (e:=4) (size:=1) (w.alloc (.cells #[.int .u64 x,.int .u64 r,.int .u64 c] 59)) #[] 0 (by simp) (by unfold maxLen;omega) rfl;simpa using this) ⟨g,0,none⟩ (n+1) cg (bs.map Value.bool) rfl (by simp[EN.out]) (World.ownsRow.cells (zn HK.out (((Only.refl (fun _=>False) w).alloc _).alloc _) (fun _ _ h=>h)) rfl) (by intro u hu;obtain⟨b,_,rfl⟩:=List.mem_map.1 hu;rfl) (by unfold maxLen;omega) (by omega) (by simp;omega) ?_;intro v2 w2 hO2 hg2 _ hb2;have R2:=z7 hO2;have G2:=z7 hg2;clear hO2 hg2 hb2))
  | (fail))
 rw[Nat.zero_add,List.nil_append]at R2;obtain⟨g2,c2,rfl⟩:=ownsRow_succ R2.out;have O2:=z7 (show Only (fun b=>b=w.heap.size+1) ((w.alloc (.cells #[.int .u64 x,.int .u64 r,.int .u64 c] 59)).alloc (.cells #[] 4)) w2 from(Only.refl _ _).grown G2.out (fun k hk=>by simpa[Value.ownBlock]using hk.symm));have B2:=z7 (show Below w.heap.size w w2 from(zc (zc (Below.refl w.heap.size w) _) _).trans ((O2.out.below (n:=w.heap.size) (by simp;omega) (fun b hb=>by omega))));have X2:=z7 (show w2.heap[w.heap.size]?=some (.cells #[.int .u64 x,.int .u64 r,.int .u64 c] 59 (0,0))from O2.out.obj (by omega) (zk _ _ (by simp) (ze _ _ rfl)));clear hi hz0 hz1 hz2;go_loopw [17] (fun ci wr=>∃k:Nat,k≤len∧ci=.int .i64 k∧wr.ownsRow w.heap.size 4 1 (.slice (some ⟨g2,0,none⟩) (n+1) c2) (n+1) ((foldB bs L x r c k).map Value.bool)∧wr.heap[w.heap.size]?=some (.cells #[.int .u64 x,.int .u64 r,.int .u64 c] 59 (0,0))∧Below w.heap.size w wr) (fun ci _=>len-(intOf ci).toNat)
 case atStart=>exact⟨0,Nat.zero_le _,rfl,R2.out,X2.out,B2.out⟩
 case round=>
  obtain⟨k,hk,rfl,hR,hX,hb⟩:=hrel;have HR:=z7 hR;have HXB:=z7 hX;have HB:=z7 hb;have i0':(0:Int)≤(k:Int):=by omega
  by_cases hlt:k<len
  ·have i1:(k:Int)<(len:Int):=by omega
   have Hr:=H.out.below hb;obtain⟨b,off,rfl,hbl,hcs⟩:=Hr.cells k hlt;have hit:=Hr.items _ (Hr.mem hlt);have hfit:=HF.out _ (Hr.mem hlt);have FW:=z7 (show foldB bs L x r c (k+1)=stepB (foldB bs L x r c k) (L.getD k OpV.z) x r c from rfl);have BL:=z7 (show(foldB bs L x r c k).length=n+1 from by rw[z26,EN.out]);obtain⟨Bs,eBs⟩:∃B,foldB bs L x r c k=B:=⟨_,rfl⟩;rw[eBs]at HR FW BL;obtain⟨o,eo⟩:∃o,L.getD k OpV.z=o:=⟨_,rfl⟩;rw[eo]at hcs hit hfit FW;obtain⟨⟨hk0,hk4⟩,⟨ha0,ha1⟩,⟨hb0,hb1⟩,hfew,hcor⟩:=hfit;obtain⟨kind,oa,ob,items,iv,ox,orr,oc⟩:=o;simp only at hk0 hk4 ha0 ha1 hb0 hb1 hfew hcor hit;obtain⟨an,rfl⟩:∃an:Nat,oa=an:=⟨oa.toNat,by omega⟩;obtain⟨bn,rfl⟩:∃bn:Nat,ob=bn:=⟨ob.toNat,by omega⟩;have ha2:an<n+1:=by omega
   have hb2:bn<n+1:=by omega
   have c0:=hcs 0 _ rfl;have c1:=hcs 1 _ rfl;have c2':=hcs 2 _ rfl;have c3:=hcs 3 _ rfl;have c4:=hcs 4 _ rfl;have c5:=hcs 5 _ rfl;have c6:=hcs 6 _ rfl;obtain⟨ai,ci,rfl,hPi,_⟩:=hit;obtain⟨ni,eni⟩:∃ni,items.length=ni:=⟨_,rfl⟩;rw[eni]at c3 hPi;have PI:=z7 hPi;clear hcs hbl eo eBs eni hPi hR hX hb Hr hcor hfew;simp only[Nat.add_zero]at c0;go_wp2_with fail
   obtain⟨wq,ewq⟩:∃wq,wr.alloc (.cells #[.int .i64 kind,.int .i64 an,.int .i64 bn,.slice ai ni ci,.int .u64 ox,.int .u64 orr,.int .u64 oc] 61)=wq:=⟨_,rfl⟩;have bq:Below wr.heap.size wr wq:=by rw[← ewq];exact zc (Below.refl _ _) _
   have q1:wq.heap[wr.heap.size]?=some (.cells #[.int .i64 kind,.int .i64 an,.int .i64 bn,.slice ai ni ci,.int .u64 ox,.int .u64 orr,.int .u64 oc] 61 (0,0)):=by rw[← ewq];exact ze _ _ rfl
   rw[ewq];refine wp_region_held_drew (S:=Only (fun _=>False) wq) hmx (Only.refl _ _).drew (fun hS=>?_);obtain⟨w5,ew5⟩:∃w5,wq.drew=w5:=⟨_,rfl⟩;rw[ew5]at hS ⊢;clear ew5 ewq c0 c1 c2' c3 c4 c5 c6;have q5:w5.heap[wr.heap.size]?=some (.cells #[.int .i64 kind,.int .i64 an,.int .i64 bn,.slice ai ni ci,.int .u64 ox,.int .u64 orr,.int .u64 oc] 61 (0,0)):=hS.obj (fun h=>h) q1;have b5:Below wr.heap.size wr w5:=bq.trans (hS.below (n:=wr.heap.size) bq.size (fun _ h=>h.elim));have r5:=zn HR.out (Only.of_below (may:=fun _=>False) b5) (fun _ _ h=>h);have x5:=(b5.block _ (zh HXB.out)).trans HXB.out;have e1:wq.cell? ⟨wr.heap.size,1,none⟩=some (.int .i64 an):=by simp[World.cell?,q1]
   have e2:wq.cell? ⟨wr.heap.size,2,none⟩=some (.int .i64 bn):=by simp[World.cell?,q1]
   have d0:w5.cell? ⟨wr.heap.size,0,none⟩=some (.int .i64 kind):=by simp[World.cell?,q5]
   have d3:w5.cell? ⟨wr.heap.size,3,none⟩=some (.slice ai ni ci):=by simp[World.cell?,q5]
   have d4:w5.cell? ⟨wr.heap.size,4,none⟩=some (.int .u64 ox):=by simp[World.cell?,q5]
   have d5:w5.cell? ⟨wr.heap.size,5,none⟩=some (.int .u64 orr):=by simp[World.cell?,q5]
   have d6:w5.cell? ⟨wr.heap.size,6,none⟩=some (.int .u64 oc):=by simp[World.cell?,q5]
   have x0:w5.cell? ⟨w.heap.size,0,none⟩=some (.int .u64 x):=by simp[World.cell?,x5]
   have x1:w5.cell? ⟨w.heap.size,1,none⟩=some (.int .u64 r):=by simp[World.cell?,x5]
   have x2:w5.cell? ⟨w.heap.size,2,none⟩=some (.int .u64 c):=by simp[World.cell?,x5]
   have y1:=own_bool r5 ha2 BL.out;have y2:=own_bool r5 hb2 BL.out;have f1:=r5.frozenAt an;have R5:=z7 r5;have X5:=z7 x5;have B5:=z7 (HB.out.trans (b5.mono HB.out.size));have G5:=z7 (show w.heap.size≤g2∧g2<w5.heap.size∧g2≠w.heap.size from⟨(r5.lt g2 rfl).1,(r5.lt g2 rfl).2,fun e=>by
    obtain⟨cs,hc⟩:=zj r5 (k:=g2) rfl;rw[e,x5]at hc
    cases hc⟩)
   have KI:=z7 (hasL_any ai ni ci items x w5 (PI.out.below b5) HX.out);rw[hasL_inL]at KI;obtain⟨p,ep⟩:∃p,Bs.getD an false=p:=⟨_,rfl⟩;obtain⟨q,eq⟩:∃q,Bs.getD bn false=q:=⟨_,rfl⟩;have EP:=z7 ep;have EQ:=z7 eq;rw[ep]at y1;rw[eq]at y2;have DONE:=z7 (show ∀W v,Below w5.heap.size w5 W→v=opB ⟨kind,an,bn,items,.slice ai ni ci,ox,orr,oc⟩ p q x r c→(W.setCell ⟨g2,an,none⟩ (.bool v)).ownsRow w.heap.size 4 1 (.slice (some ⟨g2,0,none⟩) (n+1) c2) (n+1) ((foldB bs L x r c (k+1)).map Value.bool)∧(W.setCell ⟨g2,an,none⟩ (.bool v)).heap[w.heap.size]?=some (.cells #[.int .u64 x,.int .u64 r,.int .u64 c] 59 (0,0))∧Below w.heap.size w (W.setCell ⟨g2,an,none⟩ (.bool v))from fun W v hbW hv=>by
    have o6:Only (fun b=>b=g2) W (W.setCell ⟨g2,an,none⟩ (.bool v)):=(Only.refl (fun b=>b=g2) W).setCell (p:=⟨g2,an,none⟩) (.inl rfl) _;have bW:=B5.out.trans (hbW.mono B5.out.size);refine⟨?_,o6.obj (fun e=>G5.out.2.2 e.symm) ((hbW.block _ (zh X5.out)).trans X5.out),bW.trans (o6.below (n:=w.heap.size) bW.size (fun b hb=>by have:=G5.out.1;omega))⟩;rw[FW.out];unfold stepB;simp only[Int.toNat_natCast];have hv':opB ⟨kind,an,bn,items,.slice ai items.length ci,ox,orr,oc⟩ p q x r c=v:=hv.symm;rw[EP.out,EQ.out,map_setB,hv'];exact((zn R5.out (Only.of_below (may:=fun _=>False) hbW) (fun _ _ h=>h)).stored an (.bool v)).1)
   have j0:(0:Int)≤(an:Int):=by omega
   have j1:(an:Int)<((n+1:Nat):Int):=by omega
   have j2:(0:Int)≤(bn:Int):=by omega
   have j3:(bn:Int)<((n+1:Nat):Int):=by omega
   clear q1 q5 b5 r5 x5 ep eq bq;refine tkd (i:=0) (d:=some 21) (v:=(.pointer (some ⟨wr.heap.size,1,none⟩))) (hy:=.inl ⟨by rfl,?_⟩) (h:=?_)
   ·intro X hX;go_simp
   refine tkd (i:=1) (d:=some 22) (v:=(.int .i64 an)) (hy:=.inl ⟨by rfl,?_⟩) (h:=?_)
   ·intro X hX;have z0:=hX.cell (fun h=>h) e1;go_simp
   refine tkd (i:=2) (d:=some 23) (v:=(.pointer (some ⟨wr.heap.size,2,none⟩))) (hy:=.inl ⟨by rfl,?_⟩) (h:=?_)
   ·intro X hX;go_simp
   refine tkd (i:=3) (d:=some 24) (v:=(.int .i64 bn)) (hy:=.inl ⟨by rfl,?_⟩) (h:=?_)
   ·intro X hX;have z0:=hX.cell (fun h=>h) e2;go_simp
   refine tkd (i:=4) (d:=some 10) (v:=(.int .i64 an)) (hy:=.inl ⟨by rfl,?_⟩) (h:=?_)
   ·intro X hX;go_simp
   refine tkd (i:=5) (d:=some 11) (v:=(.int .i64 bn)) (hy:=.inl ⟨by rfl,?_⟩) (h:=?_)
   ·intro X hX;go_simp
   refine wpAnyH_done (by kernel_rfl) ?_ _;clear hS e1 e2;have hkk:kind=0∨kind=1∨kind=2∨kind=3∨kind=4:=by omega
   clear hk0 hk4;rcases hkk with rfl | rfl | rfl | rfl | rfl
   ·cases p<;>cases q
    ·go_wp2
     go_roundw
     case rel=>exact⟨k+1,by omega,by go_num,DONE.out _ _ (Below.refl _ _) (by simp[opB])⟩
     case measure=>simp[intOf];omega
    ·go_wp2
     go_roundw
     case rel=>exact⟨k+1,by omega,by go_num,DONE.out _ _ (Below.refl _ _) (by simp[opB])⟩
     case measure=>simp[intOf];omega
    ·go_wp2
     go_roundw
     case rel=>exact⟨k+1,by omega,by go_num,DONE.out _ _ (Below.refl _ _) (by simp[opB])⟩
     case measure=>simp[intOf];omega
    ·go_wp2
     go_roundw
     case rel=>exact⟨k+1,by omega,by go_num,DONE.out _ _ (Below.refl _ _) (by simp[opB])⟩
     case measure=>simp[intOf];omega
   ·cases p<;>cases q
    ·go_wp2
     go_roundw
     case rel=>exact⟨k+1,by omega,by go_num,DONE.out _ _ (Below.refl _ _) (by simp[opB])⟩
     case measure=>simp[intOf];omega
    ·go_wp2
     go_roundw
     case rel=>exact⟨k+1,by omega,by go_num,DONE.out _ _ (Below.refl _ _) (by simp[opB])⟩
     case measure=>simp[intOf];omega
    ·go_wp2
     go_roundw
     case rel=>exact⟨k+1,by omega,by go_num,DONE.out _ _ (Below.refl _ _) (by simp[opB])⟩
     case measure=>simp[intOf];omega
    ·go_wp2
     go_roundw
     case rel=>exact⟨k+1,by omega,by go_num,DONE.out _ _ (Below.refl _ _) (by simp[opB])⟩
     case measure=>simp[intOf];omega
   ·cases p<;>cases q
    ·go_wp2
     go_roundw
     case rel=>exact⟨k+1,by omega,by go_num,DONE.out _ _ (Below.refl _ _) (by simp[opB])⟩
     case measure=>simp[intOf];omega
    ·go_wp2
     go_roundw
     case rel=>exact⟨k+1,by omega,by go_num,DONE.out _ _ (Below.refl _ _) (by simp[opB])⟩
     case measure=>simp[intOf];omega
    ·go_wp2
     go_roundw
     case rel=>exact⟨k+1,by omega,by go_num,DONE.out _ _ (Below.refl _ _) (by simp[opB])⟩
     case measure=>simp[intOf];omega
    ·go_wp2
     go_roundw
     case rel=>exact⟨k+1,by omega,by go_num,DONE.out _ _ (Below.refl _ _) (by simp[opB])⟩
     case measure=>simp[intOf];omega
   ·cases p
    ·go_wp2
     go_roundw
     case rel=>exact⟨k+1,by omega,by go_num,DONE.out _ _ (Below.refl _ _) (by simp[opB])⟩
     case measure=>simp[intOf];omega
    ·go_wp2_with fail
     refine KI.out.mono ?_;rintro e w7 ⟨rfl,hb7⟩;have r7:=zn R5.out (Only.of_below (may:=fun _=>False) hb7) (fun _ _ h=>h);have y7:=own_bool r7 ha2 BL.out;have f7:=r7.frozenAt an;rw[EP.out]at y7;have HB7:=z7 hb7;clear y1 y2 f1 r7 hb7;obtain⟨bb,ebb⟩:∃bb,decide (InL items x)=bb:=⟨_,rfl⟩;have EBB:=z7 ebb;rw[ebb];clear ebb;go_wp2
     go_roundw
     case rel=>exact⟨k+1,by omega,by go_num,DONE.out _ _ HB7.out (by simp[opB,EBB.out])⟩
     case measure=>simp[intOf];omega
   ·cases p
    ·go_wp2
     go_roundw
     case rel=>exact⟨k+1,by omega,by go_num,DONE.out _ _ (Below.refl _ _) (by rw[ver_b];simp[opB])⟩
     case measure=>simp[intOf];omega
    ·go_wp2
     go_roundw
     case rel=>exact⟨k+1,by omega,by go_num,DONE.out _ _ (Below.refl _ _) (by simp[opB])⟩
     case measure=>simp[intOf];omega
  ·obtain rfl:len=k:=by omega
   go_wp2
   go_ret
   exact⟨_,rfl,(by unfold OwnB1;rw[z26,EN.out];exact HR.out),HB.out⟩
structure FitsP (L:List KV) (O:List OpV):Prop where
 n0:0<L.length
 n4:L.length≤4
 o6:O.length≤6
 good:∀p∈L,GoodK p.2
 few:∀p∈L,p.2.length≤5
 ops:∀o∈O,FitO o L.length
theorem fits_any(av:Option Addr)(n cv:Nat)(L:List KV)(ao:Option Addr)(m co:Nat)(O:List OpV)(w:World)(hK:KnsAt w av n L)(hO:OpsAt w ao m O) :
  Calls Tryz.prog 22 #[.slice av n cv,.slice ao m co] w fun e w'=>BoolPost (FitsP L O) e∧Below w.heap.size w w':=by
 have HK:=z7 hK;have HO:=z7 hO;have hm1:=hK.most;have hm2:=hO.most;have KR:=z7 (right_any av n cv L w hK);clear hK hO;by_cases hn0:n=0
 ·subst hn0
  go_enter Tryz.func22,Tryz.ntmps22
  go_wp2
  go_ret
  exact⟨z1c _,Below.refl _ _⟩
 have h0:¬(n:Int)=0:=by omega
 have d0:decide ((n:Int)=0)=false:=decide_eq_false h0;have e0:((n:Int) == 0)=false:=by simpa using h0
 by_cases h4:4<(n:Int)
 ·have d4:decide (4<(n:Int))=true:=decide_eq_true h4
  go_enter Tryz.func22,Tryz.ntmps22
  go_wp2
  go_ret
  exact⟨z1c _,Below.refl _ _⟩
 have d4:decide (4<(n:Int))=false:=decide_eq_false h4;by_cases h6:6<(m:Int)
 ·have d6:decide (6<(m:Int))=true:=decide_eq_true h6
  go_enter Tryz.func22,Tryz.ntmps22
  go_wp2
  go_ret
  exact⟨z1c _,Below.refl _ _⟩
 have d6:decide (6<(m:Int))=false:=decide_eq_false h6;go_enter Tryz.func22,Tryz.ntmps22
 go_wp2_with fail
 refine KR.out.mono ?_;rintro e w1 ⟨⟨bb,rfl,hbb⟩,hb1⟩;have B1:=z7 hb1;clear hb1
 cases bb with
 | false=>
   clear hbb;go_wp2
   go_ret
   exact⟨z1c _,B1.out⟩
 | true=>
   have GD:=z7 (hbb rfl);clear hbb;go_wp2
   go_loopw [29] (fun c wr=>∃k:Nat,k≤n∧c=.int .i64 k∧(∀i,i<k→(L.getD i KV.z).2.length≤5)∧Below w.heap.size w wr) (fun c _=>n-(intOf c).toNat)
   case atStart=>exact⟨0,Nat.zero_le _,rfl,fun i hi=>absurd hi (by omega),B1.out⟩
   case round=>
    obtain⟨k,hk,rfl,hno,hb⟩:=hrel;have HN:=z7 hno;have HB:=z7 hb;clear hno;have i0:(0:Int)≤(k:Int):=by omega
    by_cases hlt:k<n
    ·have i1:(k:Int)<(n:Int):=by omega
     have Hr:=HK.out.below hb;obtain⟨b,off,rfl,hbl,hc1⟩:=Hr.cells k hlt;obtain⟨hkn,_,_⟩:=Hr.kn _ (Hr.mem hlt);obtain⟨p,ep⟩:∃p,L.getD k KV.z=p:=⟨_,rfl⟩;have EP:=z7 ep;rw[ep]at hc1 hkn;obtain⟨v,l⟩:=p;simp only at hc1 hkn;obtain⟨ak,ck,rfl⟩:=z4d hkn;obtain⟨nl,enl⟩:∃n,l.length=n:=⟨_,rfl⟩;have ENL:=z7 enl;rw[enl]at hc1;clear ep hb hbl Hr hkn enl;by_cases h5:5<(nl:Int)
     ·have d5:decide (5<(nl:Int))=true:=decide_eq_true h5
      go_wp2
      go_ret
      exact⟨z1c _,HB.out⟩
     ·have d5:decide (5<(nl:Int))=false:=decide_eq_false h5
      have HS:=z7 (show ∀i,i<k+1→(L.getD i KV.z).2.length≤5 from fun i hi=>by
       by_cases e:i<k
       ·exact HN.out i e
       ·obtain rfl:i=k:=by omega
        rw[EP.out];show l.length≤5
        rw[ENL.out];omega)
      go_wp2
      go_roundw
      case rel=>exact⟨k+1,by omega,by go_num,HS.out,HB.out⟩
      case measure=>simp[intOf];omega
    ·obtain rfl:n=k:=by omega
     go_wp2
     go_loopw [39] (fun c wr=>∃k:Nat,k≤m∧c=.int .i64 k∧(∀i,i<k→FitO (O.getD i OpV.z) n)∧Below w.heap.size w wr) (fun c _=>m-(intOf c).toNat)
     case atStart=>exact⟨0,Nat.zero_le _,rfl,fun i hi=>absurd hi (by omega),HB.out⟩
     case round=>
      clear hb;obtain⟨k,hk2,rfl,hno,hb⟩:=hrel;have HN2:=z7 hno;have HB2:=z7 hb;clear hno;have i0:(0:Int)≤(k:Int):=by omega
      by_cases hlt:k<m
      ·have i1:(k:Int)<(m:Int):=by omega
       have Hr:=HO.out.below hb;obtain⟨b,off,rfl,hbl,hcs⟩:=Hr.cells k hlt;have hit:=Hr.items _ (Hr.mem hlt);obtain⟨op,eo⟩:∃o,O.getD k OpV.z=o:=⟨_,rfl⟩;have EO:=z7 eo;rw[eo]at hcs hit;obtain⟨kind,oa,ob,items,iv,ox,orr,oc⟩:=op;simp only at hit;have c0:=hcs 0 _ rfl;have c1:=hcs 1 _ rfl;have c2:=hcs 2 _ rfl;have c3:=hcs 3 _ rfl;have c4:=hcs 4 _ rfl;have c5:=hcs 5 _ rfl;have c6:=hcs 6 _ rfl;obtain⟨ai,ci,rfl,hPi,_⟩:=hit;obtain⟨ni,eni⟩:∃ni,items.length=ni:=⟨_,rfl⟩;have ENI:=z7 eni;rw[eni]at c3 hPi;have PI:=z7 hPi;simp only[Nat.add_zero]at c0;obtain⟨wq,ewq⟩:∃wq,wr.alloc (.cells #[.int .i64 kind,.int .i64 oa,.int .i64 ob,.slice ai ni ci,.int .u64 ox,.int .u64 orr,.int .u64 oc] 61)=wq:=⟨_,rfl⟩;have bq:Below wr.heap.size wr wq:=by rw[← ewq];exact zc (Below.refl _ _) _
       have q1:wq.heap[wr.heap.size]?=some (.cells #[.int .i64 kind,.int .i64 oa,.int .i64 ob,.slice ai ni ci,.int .u64 ox,.int .u64 orr,.int .u64 oc] 61 (0,0)):=by rw[← ewq];exact ze _ _ rfl
       have e0':wq.cell? ⟨wr.heap.size,0,none⟩=some (.int .i64 kind):=by simp[World.cell?,q1]
       have e1':wq.cell? ⟨wr.heap.size,1,none⟩=some (.int .i64 oa):=by simp[World.cell?,q1]
       have e2':wq.cell? ⟨wr.heap.size,2,none⟩=some (.int .i64 ob):=by simp[World.cell?,q1]
       have e3':wq.cell? ⟨wr.heap.size,3,none⟩=some (.slice ai ni ci):=by simp[World.cell?,q1]
       have BQ:=z7 (HB2.out.trans (bq.mono HB2.out.size));have PQ:=z7 (PI.out.below bq);clear hcs hbl eo eni hPi hb Hr q1 bq;by_cases gk0:kind<0
       ·have fk0:decide (kind<0)=true:=decide_eq_true gk0
        go_wp2
        go_ret
        exact⟨z1c _,BQ.out⟩
       have fk0:decide (kind<0)=false:=decide_eq_false gk0;by_cases gk4:4<kind
       ·have fk4:decide (4<kind)=true:=decide_eq_true gk4
        go_wp2
        go_ret
        exact⟨z1c _,BQ.out⟩
       have fk4:decide (4<kind)=false:=decide_eq_false gk4;by_cases ga0:oa<0
       ·have fa0:decide (oa<0)=true:=decide_eq_true ga0
        go_wp2
        go_ret
        exact⟨z1c _,BQ.out⟩
       have fa0:decide (oa<0)=false:=decide_eq_false ga0;by_cases ga1:(n:Int)≤oa
       ·have fa1:decide ((n:Int)≤oa)=true:=decide_eq_true ga1
        go_wp2
        go_ret
        exact⟨z1c _,BQ.out⟩
       have fa1:decide ((n:Int)≤oa)=false:=decide_eq_false ga1;by_cases gb0:ob<0
       ·have fb0:decide (ob<0)=true:=decide_eq_true gb0
        go_wp2
        go_ret
        exact⟨z1c _,BQ.out⟩
       have fb0:decide (ob<0)=false:=decide_eq_false gb0;by_cases gb1:(n:Int)≤ob
       ·have fb1:decide ((n:Int)≤ob)=true:=decide_eq_true gb1
        go_wp2
        go_ret
        exact⟨z1c _,BQ.out⟩
       have fb1:decide ((n:Int)≤ob)=false:=decide_eq_false gb1;by_cases gt10:10<(ni:Int)
       ·have ft10:decide (10<(ni:Int))=true:=decide_eq_true gt10
        go_wp2
        go_ret
        exact⟨z1c _,BQ.out⟩
       have ft10:decide (10<(ni:Int))=false:=decide_eq_false gt10;by_cases hC:Cor items
       ·go_wp2_with fail
        refine(rcor_yes ai ni ci items wq PQ.out hC).mono ?_;rintro e w5 ⟨rfl,hb5⟩;have B5:=z7 (BQ.out.trans (hb5.mono BQ.out.size));have HS:=z7 (show ∀i,i<k+1→FitO (O.getD i OpV.z) n from fun i hi=>by
         by_cases e:i<k
         ·exact HN2.out i e
         ·obtain rfl:i=k:=by omega
          rw[EO.out];exact⟨⟨by simp only;omega,by simp only;omega⟩,⟨by simp only;omega,by simp only;omega⟩,⟨by simp only;omega,by simp only;omega⟩,by show items.length≤10;rw[ENI.out];omega,hC⟩)
        clear hb5;go_wp2
        go_roundw
        case rel=>exact⟨k+1,by omega,by go_num,HS.out,B5.out⟩
        case measure=>simp[intOf];omega
       ·go_wp2_with fail
        refine(rcor_no ai ni ci items wq PQ.out hC).mono ?_;rintro e w5 ⟨rfl,hb5⟩;have B5:=z7 (BQ.out.trans (hb5.mono BQ.out.size));clear hb5;go_wp2
        go_ret
        exact⟨z1c _,B5.out⟩
      ·obtain rfl:m=k:=by omega
       have hl1:=HK.out.length;have hl2:=HO.out.length;have OK:=z7 (show FitsP L O from⟨by omega,by omega,by omega,GD.out,fun p hp=>by
        obtain⟨i,hi,e⟩:=List.mem_iff_getElem.1 hp;have:=HN.out i (by omega);rwa [show L.getD i KV.z=p from by simp[List.getD,List.getElem?_eq_getElem hi,e]]at this,fun op hp=>by
        obtain⟨i,hi,e⟩:=List.mem_iff_getElem.1 hp;have:=HN2.out i (by omega);rw[hl1];rwa [show O.getD i OpV.z=op from by simp[List.getD,List.getElem?_eq_getElem hi,e]]at this⟩)
       clear hl1 hl2;go_wp2
       go_ret
       exact⟨bool_t OK.out,HB2.out⟩
theorem opB_opP{o:OpV}{n:Nat}(hf:FitO o n)(p q:Bool)(x r c:Int):opB o p q x r c=true↔opP o (p=true) (q=true) x r c:=by
 have hk:o.kind=0∨o.kind=1∨o.kind=2∨o.kind=3∨o.kind=4:=by have:=hf.kind;omega
 rcases hk with h | h | h | h | h<;>simp[opB,opP,h]
theorem opP_congr{o:OpV}{p q p' q':Prop}(hp:p↔p')(hq:q↔q')(x r c:Int):opP o p q x r c↔opP o p' q' x r c:=by
 unfold opP;rw[hp,hq]
theorem chg_opP{A B:Int→Int→Int→Prop}{S S':List Int}(o:OpV)(h:ChgP A S)(h':ChgP B S'):ChgP (fun x r c=>opP o (A x r c) (B x r c) x r c) (S ++ S' ++ endsL o.items ++ [o.x,o.x+1]):=fun x h0 hx r c=>by
 have h1:=h x h0 (fun e=>hx (List.mem_append_left _ (List.mem_append_left _ (List.mem_append_left _ e)))) r c;have h2:=h' x h0 (fun e=>hx (List.mem_append_left _ (List.mem_append_left _ (List.mem_append_right _ e)))) r c;have h3:=inL_chg (zs:=o.items) (x:=x) (fun e=>hx (List.mem_append_left _ (List.mem_append_right _ e)));have h4:¬x=o.x:=fun e=>hx (List.mem_append_right _ (by simp[e]));have h5:¬x-1=o.x:=fun e=>hx (List.mem_append_right _ (by simp;omega));unfold opP;simp only[h1,h2,h3,h4,h5,false_and]
def memP (L:List KV) (O:List OpV):Nat→Nat→Int→Int→Int→Prop
 | 0,i,x,r,c=>KnK ((L.getD i KV.z).2.map FV.frag) x r c
 | k+1,i,x,r,c=>(i=(O.getD k OpV.z).a.toNat∧opP (O.getD k OpV.z) (memP L O k (O.getD k OpV.z).a.toNat x r c) (memP L O k (O.getD k OpV.z).b.toNat x r c) x r c)∨(i≠(O.getD k OpV.z).a.toNat∧memP L O k i x r c)
theorem getD_set{α:Type}(z:α)(l:List α){a i:Nat}(v:α)(ha:a<l.length):(l.set a v).getD i z=if i=a then v else l.getD i z:=by
 by_cases e:i=a
 ·subst e
  rw[if_pos rfl,List.getD,List.getElem?_set_self ha,Option.getD_some]
 ·rw[if_neg e,List.getD,List.getElem?_set_ne (fun h=>e h.symm),← List.getD]
theorem foldB_mem{L:List KV}{O:List OpV}{bs:List Bool}{x r c:Int}(hl:bs.length=L.length)(hb:∀i,i<L.length→(bs.getD i false=true↔KnK ((L.getD i KV.z).2.map FV.frag) x r c))(hf:∀o∈O,FitO o L.length) :
  ∀k,k≤O.length→∀i,i<L.length→((foldB bs O x r c k).getD i false=true↔memP L O k i x r c)
 | 0,_,i,hi=>hb i hi
 | k+1,hk,i,hi=>by
   have ih:=foldB_mem hl hb hf k (by omega);have hm:O.getD k OpV.z∈O:=by rw[List.getD,List.getElem?_eq_getElem (by omega),Option.getD_some];exact List.getElem_mem _
   have hfit:=hf _ hm;obtain⟨o,eo⟩:∃o,O.getD k OpV.z=o:=⟨_,rfl⟩;rw[foldB,memP,eo];rw[eo]at hfit;have ha:=hfit.a;have hb':=hfit.b;have han:o.a.toNat<L.length:=by omega
   have hbn:o.b.toNat<L.length:=by omega
   unfold stepB;rw[getD_set false _ _ (by rw[z26];omega)];by_cases e:i=o.a.toNat
   ·rw[if_pos e,opB_opP hfit]
    constructor
    ·exact fun h=>.inl ⟨e,(opP_congr (ih _ han) (ih _ hbn) x r c).1 h⟩
    ·rintro(⟨_,h⟩ | ⟨h,_⟩)
     ·exact(opP_congr (ih _ han) (ih _ hbn) x r c).2 h
     ·exact absurd e h
   ·rw[if_neg e]
    constructor
    ·exact fun h=>.inr ⟨e,(ih i hi).1 h⟩
    ·rintro(⟨h,_⟩ | ⟨_,h⟩)
     ·exact absurd h e
     ·exact(ih i hi).2 h
/-! ### The bounds behind k operations -/
def Pn:Nat→Nat
 | 0=>100
 | k+1=>2 * Pn k+1
def Qn:Nat→Nat
 | 0=>165
 | k+1=>2 * Qn k+19
def Tn:Nat→Nat
 | 0=>202
 | k+1=>2 * Tn k+22
theorem n_le:∀{k:Nat},k<6→Pn k≤5000∧Qn k≤19000∧Tn k≤13000
 | 0,_=>by decide
 | 1,_=>by decide
 | 2,_=>by decide
 | 3,_=>by decide
 | 4,_=>by decide
 | 5,_=>by decide
 | k+6,h=>by omega
theorem n_le6:∀{k:Nat},k≤6→Tn k≤15000
 | 0,_=>by decide
 | 1,_=>by decide
 | 2,_=>by decide
 | 3,_=>by decide
 | 4,_=>by decide
 | 5,_=>by decide
 | 6,_=>by decide
 | k+7,h=>by omega
structure ScrI (L:List KV) (O:List OpV) (k:Nat) (Lk:List KV):Prop where
 kn:∀i,i<L.length→∀x r c,KnK ((Lk.getD i KV.z).2.map FV.frag) x r c↔memP L O k i x r c
 chg:∀i,i<L.length→∃S,ChgP (KnK ((Lk.getD i KV.z).2.map FV.frag)) S∧S.length+1≤Tn k
theorem ScrI.start{L:List KV}(O:List OpV)(ht:∀p∈L,totI p.2≤100):ScrI L O 0 L:=
 ⟨fun i hi x r c=>Iff.rfl,fun i hi=>⟨_,chg_know _,by
  have hm:L.getD i KV.z∈L:=by rw[List.getD,List.getElem?_eq_getElem (by omega),Option.getD_some];exact List.getElem_mem _
  have:=ht _ hm;rw[endsK_len];show 2 * totI _+1≤202
  omega⟩⟩
theorem ScrI.step{L Lk:List KV}{O:List OpV}{k:Nat}{v':Value}{l':List FV}(h:ScrI L O k Lk)(hl:Lk.length=L.length)(hf:FitO (O.getD k OpV.z) L.length)
  (hk:∀x r c,KnK (l'.map FV.frag) x r c↔opP (O.getD k OpV.z) (KnK ((Lk.getD (O.getD k OpV.z).a.toNat KV.z).2.map FV.frag) x r c) (KnK ((Lk.getD (O.getD k OpV.z).b.toNat KV.z).2.map FV.frag) x r c) x r c) :
  ScrI L O (k+1) (Lk.set (O.getD k OpV.z).a.toNat (v',l'))∧∃S,ChgP (KnK (l'.map FV.frag)) S∧S.length+1≤Tn (k+1):=by
 obtain⟨o,eo⟩:∃o,O.getD k OpV.z=o:=⟨_,rfl⟩;rw[eo]at hf hk ⊢;have ha:=hf.a;have hb:=hf.b;have han:o.a.toNat<L.length:=by omega
 have hbn:o.b.toNat<L.length:=by omega
 obtain⟨Sa,ca,la⟩:=h.chg _ han;obtain⟨Sb,cb,lb⟩:=h.chg _ hbn;have hS:∃S,ChgP (KnK (l'.map FV.frag)) S∧S.length+1≤Tn (k+1):=⟨_,(chg_opP o ca cb).same hk,by
  have h1:=endsL_len o.items;have h2:=hf.few;show _≤2 * Tn k+22
  simp only[List.length_append,List.length_cons,List.length_nil];omega⟩
 refine⟨⟨fun i hi x r c=>?_,fun i hi=>?_⟩,hS⟩
 ·rw[getD_set KV.z _ _ (by omega),memP,eo]
  by_cases e:i=o.a.toNat
  ·rw[if_pos e]
   rw[hk x r c,opP_congr (h.kn _ han x r c) (h.kn _ hbn x r c) x r c];exact⟨fun h=>.inl ⟨e,h⟩,fun h=>h.elim (fun h=>h.2) (fun h=>absurd e h.1)⟩
  ·rw[if_neg e,h.kn i hi x r c]
   exact⟨fun h=>.inr ⟨e,h⟩,fun h=>h.elim (fun h=>absurd h.1 e) (fun h=>h.2)⟩
 ·rw[getD_set KV.z _ _ (by omega)]
  by_cases e:i=o.a.toNat
  ·rw[if_pos e];exact hS
  ·rw[if_neg e]
   obtain⟨S,c1,c2⟩:=h.chg i hi;exact⟨S,c1,by show _≤2 * Tn k+22;omega⟩
theorem NowR.tight{w0 W:World}{g n cp a:Nat}{L:List KV}{v':Value}{l':List FV}{P Q T:Nat}(h:NowR w0 W g n cp (L.set a (v',l')) (2 * P+1) (2 * Q+19) (3+22 * T))(hold:∀p∈L,KBnd p.2 P Q T)(hc:CanL l'){S:List Int}(hS:ChgP (KnK (l'.map FV.frag)) S){T':Nat}(hn:S.length+1≤T')(hT:T≤T')(ha:a<L.length) :
  NowR w0 W g n cp (L.set a (v',l')) (2 * P+1) (2 * Q+19) T':=by
 refine⟨h.row,h.length,fun p hp=>?_,h.bl⟩;obtain⟨h1,h2,h3⟩:=h.ents p hp;refine⟨h1,h2,?_⟩;rcases List.mem_or_eq_of_mem_set hp with hp' | rfl
 ·exact(hold p hp').mono (by omega) (by omega) hT
 ·have hkn:KnwAt W v' l':=h1.elim (fun h'=>h'.below h.bl) (fun h'=>h'.know)
  obtain⟨_,_,_,hK,_⟩:=hkn;have ht:=can_tot hc (fun f hf z hz=>((hK.frags f hf).items.words z hz).1.1) hS;have hl:=can_len hc;exact⟨h3.bnd,by show totI l'≤T';omega,by show l'.length≤T';omega⟩
structure VersAt (w:World) (a:Option Addr) (len:Nat) (X:List (Int×Int×Int)):Prop where
 length:X.length=len
 most:len≤9223372036854775807
 words:∀x∈X,Word x.1∧Word x.2.1∧Word x.2.2
 cells:∀i,i<len→∃b off,a=some ⟨b,off,none⟩∧b<w.heap.size∧w.cell? ⟨b,off+i * 3,none⟩=some (.int .u64 (X.getD i (0,0,0)).1)∧w.cell? ⟨b,off+i * 3+1,none⟩=some (.int .u64 (X.getD i (0,0,0)).2.1)∧w.cell? ⟨b,off+i * 3+2,none⟩=some (.int .u64 (X.getD i (0,0,0)).2.2)
theorem VersAt.below{w w':World}{a:Option Addr}{len:Nat}{X:List (Int×Int×Int)}(h:VersAt w a len X)(hb:Below w.heap.size w w'):VersAt w' a len X:=
 ⟨h.length,h.most,h.words,fun i hi=>by
  obtain⟨b,off,e,hlt,h1,h2,h3⟩:=h.cells i hi;exact⟨b,off,e,Nat.lt_of_lt_of_le hlt hb.size,zg hb hlt h1,zg hb hlt h2,zg hb hlt h3⟩⟩
end Go.Proofs.YtbkkolfpegplgaaGreatDoor
namespace Go.Proofs.YtbkkolfpegplgaaGreatDoor
open Go.ChangeShapes Go.WideShapes Go.ChangeAt Go.RowKit Go.Joins Go.Deep
section
variable {H:Type} {enc:TypeId×Value→H} {P:Program} {w:World}
theorem elems_raw{t e:TypeId}{k fuel:Nat}{v:Value}{x:DataW H×List MemPlace}(ht:P.underlying t=some (.slice e))(hC:P.cellsOf e=k)(h0:0<k)
  (h:DataW.trod enc P w 0 (fun _=>true) true fuel t [v]=some x) :
  ∃a len cap,v=.slice a len cap∧len≤cap∧cap≤maxLen∧∀i,i<len→∃b off,a=some ⟨b,off,none⟩∧∃n' cs y,cs.length=k∧(∀(j:Nat) (u:Value),cs[j]?=some u→w.cell? ⟨b,off+i * k+j,none⟩=some u)∧DataW.trod enc P w 0 (fun _=>true) true n' e cs=some y:=by
 rcases open_slice ht h with⟨hcs,_⟩ | ⟨x,l,c,m,n,D,Pl,hcs,_,hl,hm,hmm,_,hx⟩
 ·simp at hcs
  exact⟨none,0,0,hcs,Nat.le_refl _,by unfold maxLen;omega,fun i hi=>absurd hi (by omega)⟩
 ·simp at hcs
  subst hcs;simp only[if_true]at hmm;obtain⟨b,off,spot⟩:=x;have part:∀i,i<l→∃n' cs y,cs.length=k∧(∀(j:Nat) (u:Value),cs[j]?=some u→w.cell? ((⟨b,off,spot⟩:Addr).add (i * k+j))=some u)∧DataW.trod enc P w 0 (fun _=>true) true n' e cs=some y:=by
   intro i hi;obtain⟨cs',hc,ht'⟩:=hx i (by omega);rw[hC]at hc;obtain⟨_,hcl,hat⟩:=World.cells?_some hc;refine⟨_,cs',_,hcl,fun j u hj=>?_,ht'⟩;have hj5:j<k:=by have:=(List.getElem?_eq_some_iff.1 hj).1;omega
   have hcell:=hat j hj5;rw[add_add]at hcell;rw[hcell,hj]
  have hspot:0<l→spot=none:=fun hp=>by
   obtain⟨_,cs,_,hcl,hc,_⟩:=part 0 hp;have:=hc 0 (cs[0]'(by omega)) (by simp[List.getElem?_eq_getElem (show 0<cs.length by omega)]);simpa[Addr.add]using World.cell?_spot this
  refine⟨_,l,c,rfl,hl,hm,fun i hi=>?_⟩;obtain rfl:=hspot (by omega);obtain⟨n',cs,y,hcl,hc,hy⟩:=part i hi;refine⟨b,off,rfl,n',cs,y,hcl,fun j u hj=>?_,hy⟩;have ea:∀j,(⟨b,off,none⟩:Addr).add j=⟨b,off+j,none⟩:=by
   intro j;unfold Addr.add;split<;>simp_all
  have:=hc j u hj;rw[ea,← Nat.add_assoc]at this;exact this
end
section
variable {H:Type} {enc:TypeId×Value→H} {w:World}
theorem open_knows{v:Value}{d:DataW H}{p:List MemPlace}(h:DataW.Trod enc Tryz.prog w 0 (fun _=>true) true 51 v d p)(hs:∃a len cap,v=.slice a len cap):∃L,∀a len cap,v=.slice a len cap→KnsAt w a len L:=by
 obtain⟨a0,len0,cap0,rfl⟩:=hs;obtain⟨fuel,hf⟩:=h;obtain⟨a,len,cap,e,hle,hmax,hx⟩:=elems_raw (k:=1) Tryz.underlying51 (by kernel_rfl) (by omega) (v:=.slice a0 len0 cap0) (by simpa[Value.cells]using hf);injection e with e1 e2 e3
 subst e1;subst e2;subst e3;have hv:∀i,i<len0→∃q:KV,(KnwAt w q.1 q.2∧NilOk q.1∧q.2.length≤9223372036854775807)∧∃b off,a0=some ⟨b,off,none⟩∧b<w.heap.size∧w.cell? ⟨b,off+i,none⟩=some q.1:=by
  intro i hi;obtain⟨b,off,ea,n',cs,y,hcl,hc,hy⟩:=hx i hi;obtain⟨u,rfl⟩:∃u,cs=[u]:=by
   rcases cs with _ | ⟨u,_ | ⟨u',cs⟩⟩<;>simp at hcl
   exact⟨u,rfl⟩
  obtain⟨l,hl⟩:=know_of hy;have hcell:=hc 0 u rfl;rw[Nat.mul_one,Nat.add_zero]at hcell;exact⟨(u,l),hl,b,off,ea,block_lt_of_cell hcell,hcell⟩
 obtain⟨L,hL,hq⟩:=z1w KV.z hv;refine⟨L,fun a len cap e=>?_⟩;injection e with e1 e2 e3
 subst e1;subst e2;subst e3;exact⟨hL,by unfold maxLen at hmax;omega,fun q hq'=>by
  obtain⟨i,hi,rfl⟩:=z2c KV.z hq';exact(hq i (by omega)).1,fun i hi=>(hq i hi).2⟩
theorem open_vers{v:Value}{d:DataW H}{p:List MemPlace}(h:DataW.Trod enc Tryz.prog w 0 (fun _=>true) true 53 v d p)(hs:∃a len cap,v=.slice a len cap):∃X,∀a len cap,v=.slice a len cap→VersAt w a len X:=by
 obtain⟨a0,len0,cap0,rfl⟩:=hs;obtain⟨fuel,hf⟩:=h;obtain⟨a,len,cap,e,hle,hmax,_,hx⟩:=elems_of Tryz.underlying53 Tryz.underlying59 (by kernel_rfl) (k:=3) rfl (by kernel_rfl) (by omega) (v:=.slice a0 len0 cap0) (by simpa[Value.cells]using hf);injection e with e1 e2 e3
 subst e1;subst e2;subst e3;have hv:∀i,i<len0→∃q:Int×Int×Int,(Word q.1∧Word q.2.1∧Word q.2.2)∧∃b off,a0=some ⟨b,off,none⟩∧b<w.heap.size∧w.cell? ⟨b,off+i * 3,none⟩=some (.int .u64 q.1)∧w.cell? ⟨b,off+i * 3+1,none⟩=some (.int .u64 q.2.1)∧w.cell? ⟨b,off+i * 3+2,none⟩=some (.int .u64 q.2.2):=by
  intro i hi;obtain⟨b,off,ea,n',part⟩:=hx i hi;obtain⟨x0,y0,k0,q0⟩:=part 0 _ rfl;obtain⟨x1,y1,k1,q1⟩:=part 1 _ rfl;obtain⟨x2,y2,k2,q2⟩:=part 2 _ rfl;obtain⟨n0,e0,_,w0⟩:=DataW.trod_int Tryz.underlying57 q0;obtain⟨n1,e1,_,w1⟩:=DataW.trod_int Tryz.underlying57 q1;obtain⟨n2,e2,_,w2⟩:=DataW.trod_int Tryz.underlying57 q2;simp at e0 e1 e2
  subst e0 e1 e2;exact⟨(n0,n1,n2),⟨z2k w0,z2k w1,z2k w2⟩,b,off,ea,block_lt_of_cell k0,k0,k1,k2⟩
 obtain⟨X,hX,hq⟩:=z1w ((0,0,0):Int×Int×Int) hv;refine⟨X,fun a len cap e=>?_⟩;injection e with e1 e2 e3
 subst e1;subst e2;subst e3;exact⟨hX,by unfold maxLen at hmax;omega,fun q hq'=>by
  obtain⟨i,hi,rfl⟩:=z2c ((0,0,0):Int×Int×Int) hq';exact(hq i (by omega)).1,fun i hi=>(hq i hi).2⟩
theorem i64_wf{n:Int}(h:(Lit.int .i64 n).wf=true):I64 n:=by
 simp[Lit.wf,IntKind.min,IntKind.max,IntKind.signed,IntKind.bits]at h
 unfold I64;omega
theorem open_ops{v:Value}{d:DataW H}{p:List MemPlace}(h:DataW.Trod enc Tryz.prog w 0 (fun _=>true) true 52 v d p)(hs:∃a len cap,v=.slice a len cap):∃O,∀a len cap,v=.slice a len cap→OpsAt w a len O:=by
 obtain⟨a0,len0,cap0,rfl⟩:=hs;obtain⟨fuel,hf⟩:=h;obtain⟨a,len,cap,e,hle,hmax,hx⟩:=elems_raw (k:=7) Tryz.underlying52 (by kernel_rfl) (by omega) (v:=.slice a0 len0 cap0) (by simpa[Value.cells]using hf);injection e with e1 e2 e3
 subst e1;subst e2;subst e3;have ci:Tryz.prog.cellsOf 3=1:=by kernel_rfl
 have cr:Tryz.prog.cellsOf 56=1:=by kernel_rfl
 have cu:Tryz.prog.cellsOf 57=1:=by kernel_rfl
 have cv:Tryz.prog.cellsOf 59=3:=by kernel_rfl
 have hv:∀i,i<len0→∃o:OpV,((I64 o.kind∧I64 o.a∧I64 o.b)∧Word o.x∧Word o.r∧Word o.c)∧RgAt w o.iv o.items∧∃b off,a0=some ⟨b,off,none⟩∧b<w.heap.size∧∀j u,o.cells[j]?=some u→w.cell? ⟨b,off+i * 7+j,none⟩=some u:=by
  intro i hi;obtain⟨b,off,ea,n',cs,y,hcl,hc,hy⟩:=hx i hi;obtain⟨c0,c1,c2,c3,c4,c5,c6,rfl⟩:∃c0 c1 c2 c3 c4 c5 c6,cs=[c0,c1,c2,c3,c4,c5,c6]:=by
   rcases cs with _ | ⟨c0,_ | ⟨c1,_ | ⟨c2,_ | ⟨c3,_ | ⟨c4,_ | ⟨c5,_ | ⟨c6,_ | ⟨c7,cs⟩⟩⟩⟩⟩⟩⟩⟩<;>simp at hcl
   exact⟨c0,c1,c2,c3,c4,c5,c6,rfl⟩
  obtain⟨xs,n2,_,_,_,hlen,hg⟩:=DataW.trod_struct Tryz.underlying61 hy;obtain⟨y0,y1,y2,y3,y4,rfl⟩:∃y0 y1 y2 y3 y4,xs=[y0,y1,y2,y3,y4]:=by
   rcases xs with _ | ⟨y0,_ | ⟨y1,_ | ⟨y2,_ | ⟨y3,_ | ⟨y4,_ | ⟨y5,xs⟩⟩⟩⟩⟩⟩<;>simp at hlen
   exact⟨y0,y1,y2,y3,y4,rfl⟩
  have g0:DataW.trod enc Tryz.prog w 0 (fun _=>true) true n2 3 [c0]=some y0:=by have this:DataW.trod enc Tryz.prog w 0 (fun _=>true) true n2 3 (([c0,c1,c2,c3,c4,c5,c6].drop 0).take (Tryz.prog.cellsOf 3))=some y0:=hg 0 _ rfl;rw[ci]at this;exact this
  have g1:DataW.trod enc Tryz.prog w 0 (fun _=>true) true n2 3 [c1]=some y1:=by have this:DataW.trod enc Tryz.prog w 0 (fun _=>true) true n2 3 (([c0,c1,c2,c3,c4,c5,c6].drop 1).take (Tryz.prog.cellsOf 3))=some y1:=hg 1 _ rfl;rw[ci]at this;exact this
  have g2:DataW.trod enc Tryz.prog w 0 (fun _=>true) true n2 3 [c2]=some y2:=by have this:DataW.trod enc Tryz.prog w 0 (fun _=>true) true n2 3 (([c0,c1,c2,c3,c4,c5,c6].drop 2).take (Tryz.prog.cellsOf 3))=some y2:=hg 2 _ rfl;rw[ci]at this;exact this
  have g3:DataW.trod enc Tryz.prog w 0 (fun _=>true) true n2 56 [c3]=some y3:=by have this:DataW.trod enc Tryz.prog w 0 (fun _=>true) true n2 56 (([c0,c1,c2,c3,c4,c5,c6].drop 3).take (Tryz.prog.cellsOf 56))=some y3:=hg 3 _ rfl;rw[cr]at this;exact this
  have g4:DataW.trod enc Tryz.prog w 0 (fun _=>true) true n2 59 [c4,c5,c6]=some y4:=by have this:DataW.trod enc Tryz.prog w 0 (fun _=>true) true n2 59 (([c0,c1,c2,c3,c4,c5,c6].drop 4).take (Tryz.prog.cellsOf 59))=some y4:=hg 4 _ rfl;rw[cv]at this;exact this
  obtain⟨xs,n3,_,_,_,hlen,hg⟩:=DataW.trod_struct Tryz.underlying59 g4;obtain⟨z0,z1,z2,rfl⟩:∃y0 y1 y2,xs=[y0,y1,y2]:=by
   rcases xs with _ | ⟨y0,_ | ⟨y1,_ | ⟨y2,_ | ⟨y3,xs⟩⟩⟩⟩<;>simp at hlen
   exact⟨y0,y1,y2,rfl⟩
  have q0:DataW.trod enc Tryz.prog w 0 (fun _=>true) true n3 57 [c4]=some z0:=by have this:DataW.trod enc Tryz.prog w 0 (fun _=>true) true n3 57 (([c4,c5,c6].drop 0).take (Tryz.prog.cellsOf 57))=some z0:=hg 0 _ rfl;rw[cu]at this;exact this
  have q1:DataW.trod enc Tryz.prog w 0 (fun _=>true) true n3 57 [c5]=some z1:=by have this:DataW.trod enc Tryz.prog w 0 (fun _=>true) true n3 57 (([c4,c5,c6].drop 1).take (Tryz.prog.cellsOf 57))=some z1:=hg 1 _ rfl;rw[cu]at this;exact this
  have q2:DataW.trod enc Tryz.prog w 0 (fun _=>true) true n3 57 [c6]=some z2:=by have this:DataW.trod enc Tryz.prog w 0 (fun _=>true) true n3 57 (([c4,c5,c6].drop 2).take (Tryz.prog.cellsOf 57))=some z2:=hg 2 _ rfl;rw[cu]at this;exact this
  obtain⟨m0,e0,_,u0⟩:=DataW.trod_int Tryz.underlying3 g0;obtain⟨m1,e1,_,u1⟩:=DataW.trod_int Tryz.underlying3 g1;obtain⟨m2,e2,_,u2⟩:=DataW.trod_int Tryz.underlying3 g2;obtain⟨m4,e4,_,u4⟩:=DataW.trod_int Tryz.underlying57 q0;obtain⟨m5,e5,_,u5⟩:=DataW.trod_int Tryz.underlying57 q1;obtain⟨m6,e6,_,u6⟩:=DataW.trod_int Tryz.underlying57 q2;obtain⟨zs,hz,_⟩:=ranges_of g3;simp at e0 e1 e2 e4 e5 e6
  subst e0 e1 e2 e4 e5 e6;exact⟨⟨m0,m1,m2,zs,c3,m4,m5,m6⟩,⟨⟨i64_wf u0,i64_wf u1,i64_wf u2⟩,z2k u4,z2k u5,z2k u6⟩,hz,b,off,ea,block_lt_of_cell (hc 0 _ rfl),hc⟩
 obtain⟨O,hO,hq⟩:=z1w OpV.z hv;refine⟨O,fun a len cap e=>?_⟩;injection e with e1 e2 e3
 subst e1;subst e2;subst e3;exact⟨hO,by unfold maxLen at hmax;omega,fun q hq'=>by
  obtain⟨i,hi,rfl⟩:=z2c OpV.z hq';exact(hq i (by omega)).1,fun q hq'=>by
  obtain⟨i,hi,rfl⟩:=z2c OpV.z hq';exact(hq i (by omega)).2.1,fun i hi=>(hq i hi).2.2⟩
end
end Go.Proofs.YtbkkolfpegplgaaGreatDoor
