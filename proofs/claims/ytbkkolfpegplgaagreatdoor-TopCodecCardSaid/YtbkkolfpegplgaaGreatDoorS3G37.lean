/- know.do: an operation on vectors, at the pieces of two arguments; Union, Meet, Minus, Insert. (Printed by wip/mkkndo.py.) know.Union, Meet, Minus, Insert. (Printed by wip/mkknun.py.) A row of knowledge; kenningtop.right. -/
import Derived.Test.YtbkkolfpegplgaaGreatDoorS3G36
import Derived.Test.YtbkkolfpegplgaaGreatDoorS3G29
set_option maxHeartbeats 25600000
set_option maxRecDepth 100000
set_option linter.unusedVariables false
set_option linter.unusedSimpArgs false
namespace Go.Proofs.YtbkkolfpegplgaaGreatDoor
open Go Go.RowKit
instance (k:List Frag) (x r c:Int):Decidable (KnK k x r c):=by unfold KnK;infer_instance
def KnO (tk:Bool→Bool→Bool) (la lb:List FV) (x r c:Int):Prop:=tk (decide (KnK (la.map FV.frag) x r c)) (decide (KnK (lb.map FV.frag) x r c))=true
theorem knT_knO{tk:Bool→Bool→Bool}{la lb:List FV}{es fs:List Ent}{x r c:Int}(h1:KnV es r c↔KnK (la.map FV.frag) x r c)(h2:KnV fs r c↔KnK (lb.map FV.frag) x r c):KnT tk es fs r c↔KnO tk la lb x r c:=by
 unfold KnT KnO;rw[decide_eq_decide.2 h1,decide_eq_decide.2 h2]
structure DoK (tk:Bool→Bool→Bool) (la lb:List FV) (ps:List Iv) (V A:Nat) (k:Nat) (l':List FV):Prop where
 part:PartK ps (KnO tk la lb) k l'
 bnd:VecB l' V A
theorem selI_append_same{la lb:List FV}{x y:Int}(h:selI (la ++ lb) x (la ++ lb).length=selI (la ++ lb) y (la ++ lb).length):selI la x la.length=selI la y la.length∧selI lb x lb.length=selI lb y lb.length:=by
 have hm:∀i,i<(la ++ lb).length→(InL ((la ++ lb).getD i FV.z).items x↔InL ((la ++ lb).getD i FV.z).items y):=fun i hi=>by
  have h1:=z1j (l:=la ++ lb) (x:=x) (m:=(la ++ lb).length) (i:=i);have h2:=z1j (l:=la ++ lb) (x:=y) (m:=(la ++ lb).length) (i:=i);rw[h]at h1;constructor
  ·intro hx
   exact(h2.1 (h1.2 ⟨hi,hx⟩)).2
  ·intro hx
   exact(h1.1 (h2.2 ⟨hi,hx⟩)).2
 constructor
 ·refine List.filter_congr fun i hi=>decide_eq_decide.2 ?_
  have hi':i<la.length:=by simpa using hi
  have:=hm i (by rw[List.length_append];omega);rwa [List.getD,List.getElem?_append_left hi',← List.getD]at this
 ·refine List.filter_congr fun i hi=>decide_eq_decide.2 ?_
  have hi':i<lb.length:=by simpa using hi
  have:=hm (la.length+i) (by rw[List.length_append];omega);rwa [List.getD,List.getElem?_append_right (by omega),Nat.add_sub_cancel_left,← List.getD]at this
theorem knO_same{tk:Bool→Bool→Bool}{la lb:List FV}{x y r c:Int}(h:selI (la ++ lb) x (la ++ lb).length=selI (la ++ lb) y (la ++ lb).length):KnO tk la lb x r c↔KnO tk la lb y r c:=by
 obtain⟨h1,h2⟩:=selI_append_same h;unfold KnO;rw[decide_eq_decide.2 (knK_same (r:=r) (c:=c) h1),decide_eq_decide.2 (knK_same (r:=r) (c:=c) h2)]
theorem knO_some{tk:Bool→Bool→Bool}(htk:tk false false=false){la lb:List FV}{x r c:Int}(h:KnO tk la lb x r c):KnK ((la ++ lb).map FV.frag) x r c:=by
 by_cases h1:KnK (la.map FV.frag) x r c
 ·obtain⟨f,hf,hh⟩:=h1
  exact⟨f,by rw[List.map_append];exact List.mem_append_left _ hf,hh⟩
 ·by_cases h2:KnK (lb.map FV.frag) x r c
  ·obtain⟨f,hf,hh⟩:=h2
   exact⟨f,by rw[List.map_append];exact List.mem_append_right _ hf,hh⟩
  ·unfold KnO at h
   rw[decide_eq_false h1,decide_eq_false h2,htk]at h
   cases h
theorem totI_parts{m:List FV}(h:∀f∈m,f.items.length≤1):totI m≤m.length:=by
 induction m with
 | nil=>exact Nat.le_refl _
 | cons f m ih=>
   have h1:=h f (by simp);have h2:=ih (fun g hg=>h g (by simp[hg]));simp only[totI,List.length_cons];omega
theorem zr{P:Program}{fn:Func}{t t':Array Value}{R:Ending→World→Prop}(h:results fn t=results fn t'):∀{ds:List Deferred} {u:FrameMode} {w:World},Leaves P fn t R ds u w→Leaves P fn t' R ds u w
 | [],.returning,w,⟨v,h1,h2⟩=>⟨v,h ▸ h1,h2⟩
 | [],.panicking _,_,h1=>h1
 | [],.run,_,h1=>h1.elim
 | d :: ds,u,w,⟨hu,fv,cap,f,args,h1,h2,h3⟩=>⟨hu,fv,cap,f,args,h1,h2,h3.mono fun e u' w' he=>by
   cases e with
   | returned v=>exact zr h he
   | panicked chain=>exact zr h he
   | outgrown=>exact he⟩
theorem getD_put{a:Array Value}{d t:Nat}(v u:Value)(h:d≠t):(a.setIfInBounds d v).getD t u=a.getD t u:=by
 simp only[Array.getD_eq_getD_getElem?,Array.getElem?_setIfInBounds_ne h]
theorem z1y(a:Act)(d:Tmp)(v:Value)(h6:d≠6)(h7:d≠7):results Tryz.f33 (a.put (some d) v).tmps=results Tryz.f33 a.tmps:=by
 simp only[results,Tryz.results33,Act.put,List.mapM_toArray,List.mapM_cons,List.mapM_nil,getD_put _ _ h6,getD_put _ _ h7]
theorem do_any(g:FuncId)(tk:Bool→Bool→Bool)(hg:VecOp g tk)(va vb:Value)(la lb:List FV)(I Va Aa Na Vb Ab Nb:Nat)(w:World)(hA:KnwAt w va la)(hB:KnwAt w vb lb)(nA:NilOk va)(nB:NilOk vb)
  (hOa:OkK la I Va Aa) (hOb:OkK lb I Vb Ab) (hI:I≤1000000) (htot:totI la+totI lb≤4000000) (hlen:la.length+lb.length≤10000000)
  (hNa:∀x,(selI la x la.length).length≤Na) (hNb:∀x,(selI lb x lb.length).length≤Nb) (hVla:(Na+1) * Va≤1000000) (hVlb:(Nb+1) * Vb≤1000000) (hAla:(Na+1) * (Aa+3)≤1000000) (hAlb:(Nb+1) * (Ab+3)≤1000000)
  (hVl:Na * Va+Nb * Vb≤10000) (hAl:Na * (Aa+3)+Nb * (Ab+3)+3≤40000) :
  Calls Tryz.prog 33 #[va,vb,.func (.func g) #[] #[]] w fun e w'=>∃v' l',e=.returned (.tuple #[v',.nilIface])∧CanR w (KnO tk la lb) (1+2 * (totI la+totI lb)) (Na * Va+Nb * Vb) (Na * (Aa+3)+Nb * (Ab+3)+3) v' l' w':=by
 have hmx:Tryz.prog.follows .mixedOrders=true:=by kernel_rfl
 have hent:=hg.ent;have HG:=z7 hg;have HA:=z7 hA;have HB:=z7 hB;have NA0:=z7 nA;have NB0:=z7 nB;have hVa:Va≤1000000:=Nat.le_trans (Nat.le_mul_of_pos_left _ (Nat.succ_pos Na)) hVla;have hVb:Vb≤1000000:=Nat.le_trans (Nat.le_mul_of_pos_left _ (Nat.succ_pos Nb)) hVlb;have hAa:Aa+3≤1000000:=Nat.le_trans (Nat.le_mul_of_pos_left _ (Nat.succ_pos Na)) hAla;have hAb:Ab+3≤1000000:=Nat.le_trans (Nat.le_mul_of_pos_left _ (Nat.succ_pos Nb)) hAlb;have KCA:=z7 (fun W (hb:Below w.heap.size w W)=>z4c va la W (hA.below hb) hOa.cor hOa.right (by omega));have KCB:=z7 (fun W (hb:Below w.heap.size w W)=>z4c vb lb W (hB.below hb) hOb.cor hOb.right (by omega));have KAA:=z7 (fun W (hb:Below w.heap.size w W) x=>at_any va la x I Va Aa W (hA.below hb) hOa (by omega) hVa (by omega) (by omega) Na (hNa x) (by omega) (by omega));have KAB:=z7 (fun W (hb:Below w.heap.size w W) x=>at_any vb lb x I Vb Ab W (hB.below hb) hOb (by omega) hVb (by omega) (by omega) Nb (hNb x) (by omega) (by omega));have OA:=z7 hOa;have OB:=z7 hOb;have MVA:=z7 (fun x=>Nat.mul_le_mul_right Va (hNa x));have MAA:=z7 (fun x=>Nat.mul_le_mul_right (Aa+3) (hNa x));have MVB:=z7 (fun x=>Nat.mul_le_mul_right Vb (hNb x));have MAB:=z7 (fun x=>Nat.mul_le_mul_right (Ab+3) (hNb x));obtain⟨NVa,eNVa⟩:∃NV,Na * Va=NV:=⟨_,rfl⟩;obtain⟨NVb,eNVb⟩:∃NV,Nb * Vb=NV:=⟨_,rfl⟩;obtain⟨NAa,eNAa⟩:∃NA,Na * (Aa+3)=NA:=⟨_,rfl⟩;obtain⟨NAb,eNAb⟩:∃NA,Nb * (Ab+3)=NA:=⟨_,rfl⟩;rw[eNVa]at MVA hVl ⊢;rw[eNVb]at MVB hVl ⊢;rw[eNAa]at MAA hAl ⊢;rw[eNAb]at MAB hAl ⊢;have HVL:=z7 hVl;have HAL:=z7 hAl;have TOT:=z7 htot;have II:=z7 hI;have LEN:=z7 hlen;have WB:=z7 (show ∀f∈la ++ lb,∀x,InL f.items x→Word x from fun f hf x hx=>(List.mem_append.1 hf).elim (fun h=>z57 hA f h x hx) (fun h=>z57 hB f h x hx));obtain⟨aa,cpa,rfl,_⟩:=hA;obtain⟨ab,cpb,rfl,_⟩:=hB;obtain⟨nla,enla⟩:∃n,la.length=n:=⟨_,rfl⟩;obtain⟨nlb,enlb⟩:∃n,lb.length=n:=⟨_,rfl⟩;have ELA:=z7 enla;have ELB:=z7 enlb;rw[enla]at HA KCA KAA NA0 LEN hlen MVA MAA ⊢;rw[enlb]at HB KCB KAB NB0 LEN hlen MVB MAB ⊢;clear hg hOa hOb nA nB hI htot hVa hVb hAa hAb hVla hVlb hAla hAlb hNa hNb hVl hAl eNVa eNVb eNAa eNAb enla enlb;go_enter_defers Tryz.func33,Tryz.ntmps33
 go_wp2_with fail
 obtain⟨w1,ew1⟩:∃w1,w.alloc (.cells #[.nilIface] 27)=w1:=⟨_,rfl⟩;have B1:=z7 (show Below w.heap.size w w1 from by rw[← ew1];exact zc (Below.refl _ _) _);have Q1:=z7 (show w1.heap[w.heap.size]?=some (.cells #[.nilIface] 27 (0,0))from by rw[← ew1];exact ze _ _ rfl);have S1:=z7 (show w1.heap.size=w.heap.size+1 from by rw[← ew1];simp);rw[ew1];clear ew1;refine(KCA.out _ B1.out).mono ?_;rintro e w2 ⟨rfl,hb2⟩;have B2:=z7 hb2;clear hb2;go_wp2_with fail
 refine(need_nil _ _).mono ?_;rintro e w3 ⟨rfl,rfl⟩;go_wp2_with fail
 refine(KCB.out _ (zf B1.out B2.out)).mono ?_;rintro e w4 ⟨rfl,hb4⟩;have B4:=z7 (zf B2.out hb4);clear hb4;go_wp2_with fail
 refine(need_nil _ _).mono ?_;rintro e w5 ⟨rfl,rfl⟩;obtain⟨i0,hi,hz0,hz1,hz2⟩:=info_parts z1p;have FR0:=z7 (show ∀(X:World) (v:Value) (f:FV) (W:World),Below w1.heap.size w1 X→(∀b,v.ownBlock=some b→w1.heap.size≤b)→Only (fun b=>v.ownBlock=some b) X W→f∈la ++ lb→FragAt W f from fun X v f W hX hv ho hf=>by
  have hW:=B1.out.trans ((hX.trans (ho.below (n:=w1.heap.size) hX.size hv)).mono B1.out.size);obtain⟨_,_,_,kA,_⟩:=HA.out;obtain⟨_,_,_,kB,_⟩:=HB.out;rcases List.mem_append.1 hf with hf | hf
  ·exact(kA.frags f hf).below hW
  ·exact(kB.frags f hf).below hW)
 go_wp2_with(first
  | (at_make;go_loud(refine wpList_make_own _ rfl _ _ 23 rfl w1.heap.size 80 i0 (.agg #[.slice none 0 0,.slice none 0 0]) 2 Tryz.underlying23 hi hz0 hz1 .i64 .i64 _ (nla+nlb) rfl rfl (by go_num) (by rw[hz2];omega) (by unfold maxLen;omega) B4.out.size ?_;intro w6 hown6 hgrow6;have R6:=z7 (show RawK w6 w1.heap.size _ [] from⟨hown6,by simp⟩);have B6:=z7 (show Below w1.heap.size w1 w6 from B4.out.trans ((Only.refl (fun _=>False) w5).grown hgrow6 (fun k hk=>(by cases hk)) |>.below (n:=w1.heap.size) B4.out.size (fun _ h=>h.elim)));clear hown6 hgrow6))
  | (at_builtin;go_loud(refine z3h rfl _ _ rfl w1.heap.size _ [] rfl R6.out _ la rfl (HA.out.below (B1.out.trans (B6.out.mono B1.out.size))) NA0.out (fun f W _ ho hf=>FR0.out w6 _ f W B6.out (fun b hb=>(R6.out.row.lt b hb).1) ho (List.mem_append_left _ hf)) (by have:=LEN.out;have:=ELA.out;simp;omega) B6.out.size ?_;intro v7 w7 hown7 hgrow7;have R7:=z7 hown7;have B7:=z7 (show Below w1.heap.size w1 w7 from B6.out.trans (((Only.refl (fun b=>(Value.slice (some ⟨w5.heap.size,0,none⟩) 0 (nla+nlb)).ownBlock=some b) w6).grown hgrow7 (fun k hk=>hk)).below (n:=w1.heap.size) B6.out.size (fun b hb=>(R6.out.row.lt b hb).1)));clear hown7 hgrow7))
  | (at_builtin;go_loud(refine z3h rfl _ _ rfl w1.heap.size _ la rfl R7.out _ lb rfl (HB.out.below (B1.out.trans (B7.out.mono B1.out.size))) NB0.out (fun f W _ ho hf=>FR0.out w7 _ f W B7.out (fun b hb=>(R7.out.row.lt b hb).1) ho hf) (by have:=LEN.out;have:=ELA.out;have:=ELB.out;omega) B7.out.size ?_;intro v8 w8 hown8 hgrow8;have R8:=z7 hown8;have B8:=z7 (show Below w1.heap.size w1 w8 from B7.out.trans (((Only.refl (fun b=>v7.ownBlock=some b) w7).grown hgrow8 (fun k hk=>hk)).below (n:=w1.heap.size) B7.out.size (fun b hb=>(R7.out.row.lt b hb).1)));clear hown8 hgrow8))
  | (fail))
 have TAB:=z7 (zx la lb);have LAB:=z7 (show(la ++ lb).length=nla+nlb from by rw[List.length_append,ELA.out,ELB.out]);have CAB:=z7 (show ∀f∈la ++ lb,Cor f.items∧f.items.length≤I from fun f hf=>(List.mem_append.1 hf).elim (fun h=>⟨OA.out.cor f h,OA.out.items f h⟩) (fun h=>⟨OB.out.cor f h,OB.out.items f h⟩));have hI0:I≤1000000:=II.out;refine(pcs_any v8 (la ++ lb) w8 R8.out.know (fun f hf=>(CAB.out f hf).1) (fun f hf=>Nat.le_trans (CAB.out f hf).2 hI0) (by have:=TAB.out;have:=TOT.out;omega) (by rw[LAB.out];exact hlen)).mono ?_;clear hI0;rintro e w9 ⟨vp,ps,rfl,hO1,hPk,hpl,hb9⟩;obtain⟨ap,cp,rfl,hPr,_,_⟩:=hO1.prs;have B9:=z7 (B8.out.trans (hb9.mono B8.out.size));have PK:=z7 hPk;have PL:=z7 hpl;have HP:=z7 hPr;obtain⟨n,en⟩:∃n,ps.length=n:=⟨_,rfl⟩;have EN:=z7 en;rw[en]at HP PL ⊢;have hn9:n≤1000000000:=by have:=PL.out;have:=TOT.out;have:=TAB.out;omega
 obtain⟨a8,c8,rfl,_⟩:=zl R8.out.row;clear hO1 hPk hpl hPr hb9 en;go_wp2
 go_loopw [9,32] (fun o c wr=>∃(k:Nat) (l':List FV),k≤n∧c=.int .i64 k∧KRow wr w9.heap.size o l'∧DoK tk la lb ps (NVa+NVb) (NAa+NAb+3) k l'∧Below w9.heap.size w9 wr) (fun _ c _=>n-(intOf c).toNat)
 case atStart=>exact⟨0,[],Nat.zero_le _,rfl,KRow.nil _ _,⟨PartK.zero _ _,VecB.nil _ _⟩,Below.refl _ _⟩
 case round=>
  obtain⟨k,l',hk,rfl,hR,hP,hb⟩:=hrel;have HR:=z7 hR;have HPK:=z7 hP;have HBL:=z7 hb;have i0':(0:Int)≤(k:Int):=by omega
  clear hP;by_cases hlt:k<n
  ·have i1:(k:Int)<(n:Int):=by omega
   have Hr:=HP.out.below hb;obtain⟨b,off,rfl,hbl,hc1,hc2⟩:=Hr.cells k hlt;have hw:=Hr.word hlt;obtain⟨lo,elo⟩:∃lo,Lo ps k=lo:=⟨_,rfl⟩;obtain⟨hi',ehi⟩:∃hi,Hi ps k=hi:=⟨_,rfl⟩;have ELO:=z7 elo;have EHI:=z7 ehi;rw[elo]at hc1 hw;rw[ehi]at hc2 hw;have WD:=z7 hw;obtain⟨ao,co,rfl,_⟩:=zl hR.row;obtain⟨m,em⟩:∃m,l'.length=m:=⟨_,rfl⟩;have EM:=z7 em;rw[em]at HR ⊢;clear elo ehi hw Hr hR em;go_wp2_with fail
   obtain⟨wq,ewq⟩:∃wq,wr.alloc (.cells #[.int .u64 lo,.int .u64 hi'] 123)=wq:=⟨_,rfl⟩;have BQ:=z7 (show Below w9.heap.size w9 wq from by rw[← ewq];exact hb.alloc hb.size _);have p1:wq.heap[wr.heap.size]?=some (.cells #[.int .u64 lo,.int .u64 hi'] 123 (0,0)):=by rw[← ewq];exact ze _ _ rfl
   have RQ:=z7 (show KRow wq w9.heap.size (.slice ao m co) l' from by rw[← ewq];exact HR.out.below (zc (Below.refl _ _) _));have c0:wq.cell? ⟨wr.heap.size,0,none⟩=some (.int .u64 lo):=by simp[World.cell?,p1]
   have c1:wq.cell? ⟨wr.heap.size,1,none⟩=some (.int .u64 hi'):=by simp[World.cell?,p1]
   have how:∀x,(Value.slice ao m co).ownBlock=some x→x<wr.heap.size:=fun x hx=>(HR.out.row.lt x hx).2;have nq:¬(Value.slice ao m co).ownBlock=some wr.heap.size:=fun e=>by have:=how _ e;omega
   have TO:=z7 (fun W (hX:Only (fun _=>False) wq W)=>B1.out.trans ((B9.out.trans ((BQ.out.trans (hX.below (n:=w9.heap.size) BQ.out.size (fun _ h=>h.elim))).mono B9.out.size)).mono B1.out.size));have KA:=z7 (fun W (hX:Only (fun _=>False) wq W)=>KAA.out W (TO.out W hX) lo);have KB:=z7 (fun W (hX:Only (fun _=>False) wq W)=>KAB.out W (TO.out W hX) lo);rw[ewq];clear hc1 hc2 hbl hb ewq p1 how;refine wp_region_held_drew (S:=Only (fun b=>(Value.slice ao m co).ownBlock=some b) wq) hmx (Only.refl _ _).drew (fun hS=>?_);refine tkd (i:=0) (d:=some 36) (v:=(.slice ao m co)) (hQ:=fun _ _ _ h=>zr (z1y _ _ _ (by decide) (by decide)) h) (hy:=.inl ⟨by rfl,?_⟩) (h:=?_)
   ·intro X hX;go_simp
   refine tkd (i:=1) (d:=some 37) (v:=(.agg #[.int .u64 lo,.int .u64 hi'])) (hQ:=fun _ _ _ h=>zr (z1y _ _ _ (by decide) (by decide)) h) (hy:=.inl ⟨by rfl,?_⟩) (h:=?_)
   ·intro X hX;have x0:=hX.cell nq c0;have x1:=hX.cell nq c1;go_simp
   refine tkd (i:=3) (d:=some 39) (v:=(.func (.func g) #[] #[])) (hQ:=fun _ _ _ h=>zr (z1y _ _ _ (by decide) (by decide)) h) (hy:=.inl ⟨by rfl,?_⟩) (h:=?_)
   ·intro X hX;go_simp
   refine tkd (i:=4) (d:=some 40) (v:=(.slice aa nla cpa)) (hQ:=fun _ _ _ h=>zr (z1y _ _ _ (by decide) (by decide)) h) (hy:=.inl ⟨by rfl,?_⟩) (h:=?_)
   ·intro X hX;go_simp
   refine tkd (i:=5) (d:=some 41) (v:=(.pointer (some ⟨wr.heap.size,0,none⟩))) (hQ:=fun _ _ _ h=>zr (z1y _ _ _ (by decide) (by decide)) h) (hy:=.inl ⟨by rfl,?_⟩) (h:=?_)
   ·intro X hX;go_simp
   refine tkd (i:=6) (d:=some 42) (v:=(.int .u64 lo)) (hQ:=fun _ _ _ h=>zr (z1y _ _ _ (by decide) (by decide)) h) (hy:=.inl ⟨by rfl,?_⟩) (h:=?_)
   ·intro X hX;have x0:=hX.cell nq c0;go_simp
   refine tkd (i:=8) (d:=some 44) (v:=(.slice ab nlb cpb)) (hQ:=fun _ _ _ h=>zr (z1y _ _ _ (by decide) (by decide)) h) (hy:=.inl ⟨by rfl,?_⟩) (h:=?_)
   ·intro X hX;go_simp
   refine tkd (i:=9) (d:=some 45) (v:=(.pointer (some ⟨wr.heap.size,0,none⟩))) (hQ:=fun _ _ _ h=>zr (z1y _ _ _ (by decide) (by decide)) h) (hy:=.inl ⟨by rfl,?_⟩) (h:=?_)
   ·intro X hX;go_simp
   refine tkd (i:=10) (d:=some 46) (v:=(.int .u64 lo)) (hQ:=fun _ _ _ h=>zr (z1y _ _ _ (by decide) (by decide)) h) (hy:=.inl ⟨by rfl,?_⟩) (h:=?_)
   ·intro X hX;have x0:=hX.cell nq c0;go_simp
   have X0:=z7 ((Only.refl (fun _=>False) wq).drew);clear c0 c1;refine wpAnyH_ready (rs:=[2,7]) (by kernel_rfl) (by simp) ?_;refine AllReadyH.cons (o:=_) rfl (fun K hK=>?_) (AllReadyH.cons (o:=_) rfl (fun K hK=>?_) AllReadyH.nil)
   ·have hS:=hS.alloc (.cells #[.int .u64 lo,.int .u64 hi'] 123)
    go_simp
    refine hK.out _ _ hS (fun _=>?_);clear hK K;have X1:=z7 (X0.out.alloc (.cells #[.int .u64 lo,.int .u64 hi'] 123));have N1:=z7 (show(wq.drew.alloc (.cells #[.int .u64 lo,.int .u64 hi'] 123)).heap[wq.heap.size]?=some (.cells #[.int .u64 lo,.int .u64 hi'] 123 (0,0))from ze _ _ (by simp));refine wpAnyH_ready (rs:=[7]) (by kernel_rfl) (by simp) ?_;refine AllReadyH.cons (o:=_) rfl (fun K hK=>?_) AllReadyH.nil;go_simp
    refine(KA.out _ X1.out).mono ?_;rintro e y0 ⟨pv,pl,rfl,hF,hH,hC,hKn,hl,hh,hb7⟩;have hS:=hS.call hb7;obtain⟨pa,pc,rfl,_⟩:=hF.vecAt;have CA:=z7 (And.intro hC (And.intro hKn (And.intro hl hh)));have FA0:=z7 hF.vecAt;obtain⟨pn,epn⟩:∃n,pl.length=n:=⟨_,rfl⟩;have EpN:=z7 epn;rw[epn]at FA0 ⊢;have X2:=z7 (X1.out.call hb7);have N2:=z7 ((hb7.block _ (zh N1.out)).trans N1.out);clear hF hH hC hKn hl hh hb7 epn;go_simp
    refine hK.out _ _ hS (fun _=>?_);clear hK K;refine wpAnyH_ready (rs:=[11]) (by kernel_rfl) (by simp) ?_;refine AllReadyH.cons (o:=_) rfl (fun K hK=>?_) AllReadyH.nil;go_simp
    refine(KB.out _ X2.out).mono ?_;rintro e y1 ⟨qv,ql,rfl,hF,hH,hC,hKn,hl,hh,hb7⟩;have hS:=hS.call hb7;obtain⟨qa,qc,rfl,_⟩:=hF.vecAt;have CB:=z7 (And.intro hC (And.intro hKn (And.intro hl hh)));have FB1:=z7 hF.vecAt;obtain⟨qn,eqn⟩:∃n,ql.length=n:=⟨_,rfl⟩;have EqN:=z7 eqn;rw[eqn]at FB1 ⊢;have FA1:=z7 (FA0.out.below (show Below y0.heap.size y0 y1 from hb7));have X3:=z7 (X2.out.call hb7);have N3:=z7 ((hb7.block _ (zh N2.out)).trans N2.out);clear hF hH hC hKn hl hh hb7 eqn;go_simp
    refine hK.out _ _ hS (fun _=>?_);clear hK K;refine wpAnyH_ready (rs:=[12]) (by kernel_rfl) (by simp) ?_;refine AllReadyH.cons (o:=_) rfl (fun K hK=>?_) AllReadyH.nil;go_simp
    refine(HG.out.run (.slice pa pn pc) (.slice qa qn qc) pl ql NAa NAb _ FA1.out FB1.out (CanV.right (CanW.v CA.out.1)) (CanV.right (CanW.v CB.out.1)) (fun p hp=>Nat.le_trans (CA.out.2.2.2 p hp) (MAA.out lo)) (fun p hp=>Nat.le_trans (CB.out.2.2.2 p hp) (MAB.out lo)) (by have:=HAL.out;omega) (by have h1:=CA.out.2.2.1;have h2:=MVA.out lo;have h3:=HVL.out;omega) (by have h1:=CB.out.2.2.1;have h2:=MVB.out lo;have h3:=HVL.out;omega)).mono ?_;rintro e y2 ⟨vv,lo',rfl,hF,hH,hC,hKn,hl,hh,hb7⟩;have hS:=hS.call hb7;obtain⟨av,cv,rfl,_⟩:=hF.vecAt;have HC7:=z7 (And.intro hC (And.intro hKn (And.intro hl hh)));have HF7:=z7 (hF.base (Nat.zero_le _));obtain⟨nv,env⟩:∃nv,lo'.length=nv:=⟨_,rfl⟩;rw[env]at HF7 ⊢;have X4:=z7 (X3.out.call hb7);have N4:=z7 ((hb7.block _ (zh N3.out)).trans N3.out);clear hF hH hC hKn hl hh hb7 env;go_simp
    refine hK.out _ _ hS (fun _=>?_);clear hK K;have X8:=z7 (show Only (fun _=>False) wq y2 from X4.out);have N8:=z7 (show y2.heap[wq.heap.size]?=some (.cells #[.int .u64 lo,.int .u64 hi'] 123 (0,0))from N4.out);have F8:=z7 (show RowF y2 0 (.slice av nv cv) lo' from HF7.out);refine tkd (i:=13) (d:=some 49) (v:=(.agg #[.slice (some ⟨wq.heap.size,0,none⟩) 1 1,.slice av nv cv])) (hQ:=fun _ _ _ h=>zr (z1y _ _ _ (by decide) (by decide)) h) (hy:=.inl ⟨by rfl,?_⟩) (h:=?_)
    ·intro X hX;go_simp
    refine wpAnyH_ready (rs:=[14]) (by kernel_rfl) (by simp) ?_;refine AllReadyH.cons (o:=_) rfl (fun K hK=>?_) AllReadyH.nil;have hS:=hS.alloc (.cells #[.slice (some ⟨wq.heap.size,0,none⟩) 1 1,.slice av nv cv] 80);go_simp
    refine hK.out _ _ hS (fun _=>?_);clear hK K;refine wpAnyH_ready (rs:=[15]) (by kernel_rfl) (by simp) ?_;refine AllReadyH.cons (o:=_) rfl (fun K hK=>?_) AllReadyH.nil;have hX9:Only (fun _=>False) wq (y2.alloc (.cells #[.slice (some ⟨wq.heap.size,0,none⟩) 1 1,.slice av nv cv] 80)):=X8.out.alloc _;have g8:FragT y2 ⟨[(lo,hi')],.slice (some ⟨wq.heap.size,0,none⟩) 1 1,lo',.slice av nv cv⟩:=⟨itT_one WD.out.1 WD.out.2 N8.out,F8.out⟩;obtain⟨v',w10,hr,hK10,ho10⟩:=KRow.app (vb:=(y2.heap.size)) (g:=⟨[(lo,hi')],.slice (some ⟨wq.heap.size,0,none⟩) 1 1,lo',.slice av nv cv⟩) (RQ.out.only hX9 (fun _ h=>h.elim)) (g8.below (zc (Below.refl _ _) _)) (ze _ _ (by simp)) (by have h1:=HPK.out.part.len;have h2:=PL.out;have h3:=TOT.out;have h4:=TAB.out;omega) (by have h1:=hX9.size;have h2:=BQ.out.size;omega) 23;have hS:=hS.trans ho10;have HK10:=z7 hK10;clear hK10 hX9 g8 ho10;rw[if_pos (by rfl)];refine z1a _ _ _ _ rfl rfl rfl hr ?_;refine hK.out _ _ hS (fun _=>?_);clear hK K hr;simp only[Act.put,List.setIfInBounds_toArray,List.set_cons_zero,List.set_cons_succ];refine tkd (i:=16) (d:=some 9) (v:=(v')) (hQ:=fun _ _ _ h=>zr (z1y _ _ _ (by decide) (by decide)) h) (hy:=.inl ⟨by rfl,?_⟩) (h:=?_)
    ·intro X hX;go_simp
    refine wpAnyH_done (by kernel_rfl) ?_ _;have B10:=z7 (BQ.out.trans (hS.below (n:=w9.heap.size) BQ.out.size (fun b hb=>(HR.out.row.lt b hb).1)));have P10:=z7 (show DoK tk la lb ps (NVa+NVb) (NAa+NAb+3) (k+1) (l' ++ [⟨[(lo,hi')],.slice (some ⟨wq.heap.size,0,none⟩) 1 1,lo',.slice av nv cv⟩])from⟨HPK.out.part.snoc (by show [(lo,hi')]=_;rw[ELO.out,EHI.out]) (fun r c=>by rw[ELO.out];exact(HC7.out.2.1 r c).trans (knT_knO (CA.out.2.1 r c) (CB.out.2.1 r c))),HPK.out.bnd.snoc HC7.out.1 (by have h0:=HC7.out.2.2.1;have h1:=CA.out.2.2.1;have h2:=MVA.out lo;have h3:=CB.out.2.2.1;have h4:=MVB.out lo;show lo'.length≤_;omega) (fun p hp=>HC7.out.2.2.2 p hp)⟩);clear hS;go_wp2
    go_roundw
    case rel=>
     have FINAL:∃(k':Nat) (l':List FV),k'≤n∧(.int .i64 ((k:Int)+1):Value)=.int .i64 k'∧KRow w10 w9.heap.size v' l'∧DoK tk la lb ps (NVa+NVb) (NAa+NAb+3) k' l'∧Below w9.heap.size w9 w10:=⟨k+1,_,by omega,by simp,HK10.out,P10.out,B10.out⟩;first | exact FINAL | ((repeat apply Exists.intro);exact⟨FINAL,rfl⟩)
    case measure=>simp[intOf];omega
   ·go_simp
    refine(KA.out _ X0.out).mono ?_;rintro e y0 ⟨pv,pl,rfl,hF,hH,hC,hKn,hl,hh,hb7⟩;have hS:=hS.call hb7;obtain⟨pa,pc,rfl,_⟩:=hF.vecAt;have CA:=z7 (And.intro hC (And.intro hKn (And.intro hl hh)));have FA0:=z7 hF.vecAt;obtain⟨pn,epn⟩:∃n,pl.length=n:=⟨_,rfl⟩;have EpN:=z7 epn;rw[epn]at FA0 ⊢;have X1:=z7 (X0.out.call hb7);clear hF hH hC hKn hl hh hb7 epn;go_simp
    refine hK.out _ _ hS (fun _=>?_);clear hK K;refine wpAnyH_ready (rs:=[2,11]) (by kernel_rfl) (by simp) ?_;refine AllReadyH.cons (o:=_) rfl (fun K hK=>?_) (AllReadyH.cons (o:=_) rfl (fun K hK=>?_) AllReadyH.nil)
    ·have hS:=hS.alloc (.cells #[.int .u64 lo,.int .u64 hi'] 123)
     go_simp
     refine hK.out _ _ hS (fun _=>?_);clear hK K;have X2:=z7 (X1.out.alloc (.cells #[.int .u64 lo,.int .u64 hi'] 123));have N2:=z7 (show(y0.alloc (.cells #[.int .u64 lo,.int .u64 hi'] 123)).heap[y0.heap.size]?=some (.cells #[.int .u64 lo,.int .u64 hi'] 123 (0,0))from ze _ _ (by simp));refine wpAnyH_ready (rs:=[11]) (by kernel_rfl) (by simp) ?_;refine AllReadyH.cons (o:=_) rfl (fun K hK=>?_) AllReadyH.nil;go_simp
     refine(KB.out _ X2.out).mono ?_;rintro e y1 ⟨qv,ql,rfl,hF,hH,hC,hKn,hl,hh,hb7⟩;have hS:=hS.call hb7;obtain⟨qa,qc,rfl,_⟩:=hF.vecAt;have CB:=z7 (And.intro hC (And.intro hKn (And.intro hl hh)));have FB1:=z7 hF.vecAt;obtain⟨qn,eqn⟩:∃n,ql.length=n:=⟨_,rfl⟩;have EqN:=z7 eqn;rw[eqn]at FB1 ⊢;have FA1:=z7 (FA0.out.below (show Below y0.heap.size y0 y1 from zf (zc (Below.refl _ _) _) hb7));have X3:=z7 (X2.out.call hb7);have N3:=z7 ((hb7.block _ (zh N2.out)).trans N2.out);clear hF hH hC hKn hl hh hb7 eqn;go_simp
     refine hK.out _ _ hS (fun _=>?_);clear hK K;refine wpAnyH_ready (rs:=[12]) (by kernel_rfl) (by simp) ?_;refine AllReadyH.cons (o:=_) rfl (fun K hK=>?_) AllReadyH.nil;go_simp
     refine(HG.out.run (.slice pa pn pc) (.slice qa qn qc) pl ql NAa NAb _ FA1.out FB1.out (CanV.right (CanW.v CA.out.1)) (CanV.right (CanW.v CB.out.1)) (fun p hp=>Nat.le_trans (CA.out.2.2.2 p hp) (MAA.out lo)) (fun p hp=>Nat.le_trans (CB.out.2.2.2 p hp) (MAB.out lo)) (by have:=HAL.out;omega) (by have h1:=CA.out.2.2.1;have h2:=MVA.out lo;have h3:=HVL.out;omega) (by have h1:=CB.out.2.2.1;have h2:=MVB.out lo;have h3:=HVL.out;omega)).mono ?_;rintro e y2 ⟨vv,lo',rfl,hF,hH,hC,hKn,hl,hh,hb7⟩;have hS:=hS.call hb7;obtain⟨av,cv,rfl,_⟩:=hF.vecAt;have HC7:=z7 (And.intro hC (And.intro hKn (And.intro hl hh)));have HF7:=z7 (hF.base (Nat.zero_le _));obtain⟨nv,env⟩:∃nv,lo'.length=nv:=⟨_,rfl⟩;rw[env]at HF7 ⊢;have X4:=z7 (X3.out.call hb7);have N4:=z7 ((hb7.block _ (zh N3.out)).trans N3.out);clear hF hH hC hKn hl hh hb7 env;go_simp
     refine hK.out _ _ hS (fun _=>?_);clear hK K;have X8:=z7 (show Only (fun _=>False) wq y2 from X4.out);have N8:=z7 (show y2.heap[y0.heap.size]?=some (.cells #[.int .u64 lo,.int .u64 hi'] 123 (0,0))from N4.out);have F8:=z7 (show RowF y2 0 (.slice av nv cv) lo' from HF7.out);refine tkd (i:=13) (d:=some 49) (v:=(.agg #[.slice (some ⟨y0.heap.size,0,none⟩) 1 1,.slice av nv cv])) (hQ:=fun _ _ _ h=>zr (z1y _ _ _ (by decide) (by decide)) h) (hy:=.inl ⟨by rfl,?_⟩) (h:=?_)
     ·intro X hX;go_simp
     refine wpAnyH_ready (rs:=[14]) (by kernel_rfl) (by simp) ?_;refine AllReadyH.cons (o:=_) rfl (fun K hK=>?_) AllReadyH.nil;have hS:=hS.alloc (.cells #[.slice (some ⟨y0.heap.size,0,none⟩) 1 1,.slice av nv cv] 80);go_simp
     refine hK.out _ _ hS (fun _=>?_);clear hK K;refine wpAnyH_ready (rs:=[15]) (by kernel_rfl) (by simp) ?_;refine AllReadyH.cons (o:=_) rfl (fun K hK=>?_) AllReadyH.nil;have hX9:Only (fun _=>False) wq (y2.alloc (.cells #[.slice (some ⟨y0.heap.size,0,none⟩) 1 1,.slice av nv cv] 80)):=X8.out.alloc _;have g8:FragT y2 ⟨[(lo,hi')],.slice (some ⟨y0.heap.size,0,none⟩) 1 1,lo',.slice av nv cv⟩:=⟨itT_one WD.out.1 WD.out.2 N8.out,F8.out⟩;obtain⟨v',w10,hr,hK10,ho10⟩:=KRow.app (vb:=(y2.heap.size)) (g:=⟨[(lo,hi')],.slice (some ⟨y0.heap.size,0,none⟩) 1 1,lo',.slice av nv cv⟩) (RQ.out.only hX9 (fun _ h=>h.elim)) (g8.below (zc (Below.refl _ _) _)) (ze _ _ (by simp)) (by have h1:=HPK.out.part.len;have h2:=PL.out;have h3:=TOT.out;have h4:=TAB.out;omega) (by have h1:=hX9.size;have h2:=BQ.out.size;omega) 23;have hS:=hS.trans ho10;have HK10:=z7 hK10;clear hK10 hX9 g8 ho10;rw[if_pos (by rfl)];refine z1a _ _ _ _ rfl rfl rfl hr ?_;refine hK.out _ _ hS (fun _=>?_);clear hK K hr;simp only[Act.put,List.setIfInBounds_toArray,List.set_cons_zero,List.set_cons_succ];refine tkd (i:=16) (d:=some 9) (v:=(v')) (hQ:=fun _ _ _ h=>zr (z1y _ _ _ (by decide) (by decide)) h) (hy:=.inl ⟨by rfl,?_⟩) (h:=?_)
     ·intro X hX;go_simp
     refine wpAnyH_done (by kernel_rfl) ?_ _;have B10:=z7 (BQ.out.trans (hS.below (n:=w9.heap.size) BQ.out.size (fun b hb=>(HR.out.row.lt b hb).1)));have P10:=z7 (show DoK tk la lb ps (NVa+NVb) (NAa+NAb+3) (k+1) (l' ++ [⟨[(lo,hi')],.slice (some ⟨y0.heap.size,0,none⟩) 1 1,lo',.slice av nv cv⟩])from⟨HPK.out.part.snoc (by show [(lo,hi')]=_;rw[ELO.out,EHI.out]) (fun r c=>by rw[ELO.out];exact(HC7.out.2.1 r c).trans (knT_knO (CA.out.2.1 r c) (CB.out.2.1 r c))),HPK.out.bnd.snoc HC7.out.1 (by have h0:=HC7.out.2.2.1;have h1:=CA.out.2.2.1;have h2:=MVA.out lo;have h3:=CB.out.2.2.1;have h4:=MVB.out lo;show lo'.length≤_;omega) (fun p hp=>HC7.out.2.2.2 p hp)⟩);clear hS;go_wp2
     go_roundw
     case rel=>
      have FINAL:∃(k':Nat) (l':List FV),k'≤n∧(.int .i64 ((k:Int)+1):Value)=.int .i64 k'∧KRow w10 w9.heap.size v' l'∧DoK tk la lb ps (NVa+NVb) (NAa+NAb+3) k' l'∧Below w9.heap.size w9 w10:=⟨k+1,_,by omega,by simp,HK10.out,P10.out,B10.out⟩;first | exact FINAL | ((repeat apply Exists.intro);exact⟨FINAL,rfl⟩)
     case measure=>simp[intOf];omega
    ·go_simp
     refine(KB.out _ X1.out).mono ?_;rintro e y1 ⟨qv,ql,rfl,hF,hH,hC,hKn,hl,hh,hb7⟩;have hS:=hS.call hb7;obtain⟨qa,qc,rfl,_⟩:=hF.vecAt;have CB:=z7 (And.intro hC (And.intro hKn (And.intro hl hh)));have FB1:=z7 hF.vecAt;obtain⟨qn,eqn⟩:∃n,ql.length=n:=⟨_,rfl⟩;have EqN:=z7 eqn;rw[eqn]at FB1 ⊢;have FA1:=z7 (FA0.out.below (show Below y0.heap.size y0 y1 from hb7));have X2:=z7 (X1.out.call hb7);clear hF hH hC hKn hl hh hb7 eqn;go_simp
     refine hK.out _ _ hS (fun _=>?_);clear hK K;refine wpAnyH_ready (rs:=[2,12]) (by kernel_rfl) (by simp) ?_;refine AllReadyH.cons (o:=_) rfl (fun K hK=>?_) (AllReadyH.cons (o:=_) rfl (fun K hK=>?_) AllReadyH.nil)
     ·have hS:=hS.alloc (.cells #[.int .u64 lo,.int .u64 hi'] 123)
      go_simp
      refine hK.out _ _ hS (fun _=>?_);clear hK K;have X3:=z7 (X2.out.alloc (.cells #[.int .u64 lo,.int .u64 hi'] 123));have N3:=z7 (show(y1.alloc (.cells #[.int .u64 lo,.int .u64 hi'] 123)).heap[y1.heap.size]?=some (.cells #[.int .u64 lo,.int .u64 hi'] 123 (0,0))from ze _ _ (by simp));refine wpAnyH_ready (rs:=[12]) (by kernel_rfl) (by simp) ?_;refine AllReadyH.cons (o:=_) rfl (fun K hK=>?_) AllReadyH.nil;go_simp
      refine(HG.out.run (.slice pa pn pc) (.slice qa qn qc) pl ql NAa NAb _ (FA1.out.below (zc (Below.refl _ _) _)) (FB1.out.below (zc (Below.refl _ _) _)) (CanV.right (CanW.v CA.out.1)) (CanV.right (CanW.v CB.out.1)) (fun p hp=>Nat.le_trans (CA.out.2.2.2 p hp) (MAA.out lo)) (fun p hp=>Nat.le_trans (CB.out.2.2.2 p hp) (MAB.out lo)) (by have:=HAL.out;omega) (by have h1:=CA.out.2.2.1;have h2:=MVA.out lo;have h3:=HVL.out;omega) (by have h1:=CB.out.2.2.1;have h2:=MVB.out lo;have h3:=HVL.out;omega)).mono ?_;rintro e y2 ⟨vv,lo',rfl,hF,hH,hC,hKn,hl,hh,hb7⟩;have hS:=hS.call hb7;obtain⟨av,cv,rfl,_⟩:=hF.vecAt;have HC7:=z7 (And.intro hC (And.intro hKn (And.intro hl hh)));have HF7:=z7 (hF.base (Nat.zero_le _));obtain⟨nv,env⟩:∃nv,lo'.length=nv:=⟨_,rfl⟩;rw[env]at HF7 ⊢;have X4:=z7 (X3.out.call hb7);have N4:=z7 ((hb7.block _ (zh N3.out)).trans N3.out);clear hF hH hC hKn hl hh hb7 env;go_simp
      refine hK.out _ _ hS (fun _=>?_);clear hK K;have X8:=z7 (show Only (fun _=>False) wq y2 from X4.out);have N8:=z7 (show y2.heap[y1.heap.size]?=some (.cells #[.int .u64 lo,.int .u64 hi'] 123 (0,0))from N4.out);have F8:=z7 (show RowF y2 0 (.slice av nv cv) lo' from HF7.out);refine tkd (i:=13) (d:=some 49) (v:=(.agg #[.slice (some ⟨y1.heap.size,0,none⟩) 1 1,.slice av nv cv])) (hQ:=fun _ _ _ h=>zr (z1y _ _ _ (by decide) (by decide)) h) (hy:=.inl ⟨by rfl,?_⟩) (h:=?_)
      ·intro X hX;go_simp
      refine wpAnyH_ready (rs:=[14]) (by kernel_rfl) (by simp) ?_;refine AllReadyH.cons (o:=_) rfl (fun K hK=>?_) AllReadyH.nil;have hS:=hS.alloc (.cells #[.slice (some ⟨y1.heap.size,0,none⟩) 1 1,.slice av nv cv] 80);go_simp
      refine hK.out _ _ hS (fun _=>?_);clear hK K;refine wpAnyH_ready (rs:=[15]) (by kernel_rfl) (by simp) ?_;refine AllReadyH.cons (o:=_) rfl (fun K hK=>?_) AllReadyH.nil;have hX9:Only (fun _=>False) wq (y2.alloc (.cells #[.slice (some ⟨y1.heap.size,0,none⟩) 1 1,.slice av nv cv] 80)):=X8.out.alloc _;have g8:FragT y2 ⟨[(lo,hi')],.slice (some ⟨y1.heap.size,0,none⟩) 1 1,lo',.slice av nv cv⟩:=⟨itT_one WD.out.1 WD.out.2 N8.out,F8.out⟩;obtain⟨v',w10,hr,hK10,ho10⟩:=KRow.app (vb:=(y2.heap.size)) (g:=⟨[(lo,hi')],.slice (some ⟨y1.heap.size,0,none⟩) 1 1,lo',.slice av nv cv⟩) (RQ.out.only hX9 (fun _ h=>h.elim)) (g8.below (zc (Below.refl _ _) _)) (ze _ _ (by simp)) (by have h1:=HPK.out.part.len;have h2:=PL.out;have h3:=TOT.out;have h4:=TAB.out;omega) (by have h1:=hX9.size;have h2:=BQ.out.size;omega) 23;have hS:=hS.trans ho10;have HK10:=z7 hK10;clear hK10 hX9 g8 ho10;rw[if_pos (by rfl)];refine z1a _ _ _ _ rfl rfl rfl hr ?_;refine hK.out _ _ hS (fun _=>?_);clear hK K hr;simp only[Act.put,List.setIfInBounds_toArray,List.set_cons_zero,List.set_cons_succ];refine tkd (i:=16) (d:=some 9) (v:=(v')) (hQ:=fun _ _ _ h=>zr (z1y _ _ _ (by decide) (by decide)) h) (hy:=.inl ⟨by rfl,?_⟩) (h:=?_)
      ·intro X hX;go_simp
      refine wpAnyH_done (by kernel_rfl) ?_ _;have B10:=z7 (BQ.out.trans (hS.below (n:=w9.heap.size) BQ.out.size (fun b hb=>(HR.out.row.lt b hb).1)));have P10:=z7 (show DoK tk la lb ps (NVa+NVb) (NAa+NAb+3) (k+1) (l' ++ [⟨[(lo,hi')],.slice (some ⟨y1.heap.size,0,none⟩) 1 1,lo',.slice av nv cv⟩])from⟨HPK.out.part.snoc (by show [(lo,hi')]=_;rw[ELO.out,EHI.out]) (fun r c=>by rw[ELO.out];exact(HC7.out.2.1 r c).trans (knT_knO (CA.out.2.1 r c) (CB.out.2.1 r c))),HPK.out.bnd.snoc HC7.out.1 (by have h0:=HC7.out.2.2.1;have h1:=CA.out.2.2.1;have h2:=MVA.out lo;have h3:=CB.out.2.2.1;have h4:=MVB.out lo;show lo'.length≤_;omega) (fun p hp=>HC7.out.2.2.2 p hp)⟩);clear hS;go_wp2
      go_roundw
      case rel=>
       have FINAL:∃(k':Nat) (l':List FV),k'≤n∧(.int .i64 ((k:Int)+1):Value)=.int .i64 k'∧KRow w10 w9.heap.size v' l'∧DoK tk la lb ps (NVa+NVb) (NAa+NAb+3) k' l'∧Below w9.heap.size w9 w10:=⟨k+1,_,by omega,by simp,HK10.out,P10.out,B10.out⟩;first | exact FINAL | ((repeat apply Exists.intro);exact⟨FINAL,rfl⟩)
      case measure=>simp[intOf];omega
     ·go_simp
      refine(HG.out.run (.slice pa pn pc) (.slice qa qn qc) pl ql NAa NAb _ FA1.out FB1.out (CanV.right (CanW.v CA.out.1)) (CanV.right (CanW.v CB.out.1)) (fun p hp=>Nat.le_trans (CA.out.2.2.2 p hp) (MAA.out lo)) (fun p hp=>Nat.le_trans (CB.out.2.2.2 p hp) (MAB.out lo)) (by have:=HAL.out;omega) (by have h1:=CA.out.2.2.1;have h2:=MVA.out lo;have h3:=HVL.out;omega) (by have h1:=CB.out.2.2.1;have h2:=MVB.out lo;have h3:=HVL.out;omega)).mono ?_;rintro e y2 ⟨vv,lo',rfl,hF,hH,hC,hKn,hl,hh,hb7⟩;have hS:=hS.call hb7;obtain⟨av,cv,rfl,_⟩:=hF.vecAt;have HC7:=z7 (And.intro hC (And.intro hKn (And.intro hl hh)));have HF7:=z7 (hF.base (Nat.zero_le _));obtain⟨nv,env⟩:∃nv,lo'.length=nv:=⟨_,rfl⟩;rw[env]at HF7 ⊢;have X3:=z7 (X2.out.call hb7);clear hF hH hC hKn hl hh hb7 env;go_simp
      refine hK.out _ _ hS (fun _=>?_);clear hK K;refine wpAnyH_ready (rs:=[2]) (by kernel_rfl) (by simp) ?_;refine AllReadyH.cons (o:=_) rfl (fun K hK=>?_) AllReadyH.nil;have hS:=hS.alloc (.cells #[.int .u64 lo,.int .u64 hi'] 123);go_simp
      refine hK.out _ _ hS (fun _=>?_);clear hK K;have X4:=z7 (X3.out.alloc (.cells #[.int .u64 lo,.int .u64 hi'] 123));have N4:=z7 (show(y2.alloc (.cells #[.int .u64 lo,.int .u64 hi'] 123)).heap[y2.heap.size]?=some (.cells #[.int .u64 lo,.int .u64 hi'] 123 (0,0))from ze _ _ (by simp));have X8:=z7 (show Only (fun _=>False) wq (y2.alloc (.cells #[.int .u64 lo,.int .u64 hi'] 123))from X4.out);have N8:=z7 (show(y2.alloc (.cells #[.int .u64 lo,.int .u64 hi'] 123)).heap[y2.heap.size]?=some (.cells #[.int .u64 lo,.int .u64 hi'] 123 (0,0))from N4.out);have F8:=z7 (show RowF (y2.alloc (.cells #[.int .u64 lo,.int .u64 hi'] 123)) 0 (.slice av nv cv) lo' from HF7.out.below (zc (Below.refl _ _) _));refine tkd (i:=13) (d:=some 49) (v:=(.agg #[.slice (some ⟨y2.heap.size,0,none⟩) 1 1,.slice av nv cv])) (hQ:=fun _ _ _ h=>zr (z1y _ _ _ (by decide) (by decide)) h) (hy:=.inl ⟨by rfl,?_⟩) (h:=?_)
      ·intro X hX;go_simp
      refine wpAnyH_ready (rs:=[14]) (by kernel_rfl) (by simp) ?_;refine AllReadyH.cons (o:=_) rfl (fun K hK=>?_) AllReadyH.nil;have hS:=hS.alloc (.cells #[.slice (some ⟨y2.heap.size,0,none⟩) 1 1,.slice av nv cv] 80);go_simp
      refine hK.out _ _ hS (fun _=>?_);clear hK K;refine wpAnyH_ready (rs:=[15]) (by kernel_rfl) (by simp) ?_;refine AllReadyH.cons (o:=_) rfl (fun K hK=>?_) AllReadyH.nil;have hX9:Only (fun _=>False) wq ((y2.alloc (.cells #[.int .u64 lo,.int .u64 hi'] 123)).alloc (.cells #[.slice (some ⟨y2.heap.size,0,none⟩) 1 1,.slice av nv cv] 80)):=X8.out.alloc _;have g8:FragT (y2.alloc (.cells #[.int .u64 lo,.int .u64 hi'] 123)) ⟨[(lo,hi')],.slice (some ⟨y2.heap.size,0,none⟩) 1 1,lo',.slice av nv cv⟩:=⟨itT_one WD.out.1 WD.out.2 N8.out,F8.out⟩;obtain⟨v',w10,hr,hK10,ho10⟩:=KRow.app (vb:=(y2.heap.size+1)) (g:=⟨[(lo,hi')],.slice (some ⟨y2.heap.size,0,none⟩) 1 1,lo',.slice av nv cv⟩) (RQ.out.only hX9 (fun _ h=>h.elim)) (g8.below (zc (Below.refl _ _) _)) (ze _ _ (by simp)) (by have h1:=HPK.out.part.len;have h2:=PL.out;have h3:=TOT.out;have h4:=TAB.out;omega) (by have h1:=hX9.size;have h2:=BQ.out.size;omega) 23;have hS:=hS.trans ho10;have HK10:=z7 hK10;clear hK10 hX9 g8 ho10;rw[if_pos (by rfl)];refine z1a _ _ _ _ rfl rfl rfl hr ?_;refine hK.out _ _ hS (fun _=>?_);clear hK K hr;simp only[Act.put,List.setIfInBounds_toArray,List.set_cons_zero,List.set_cons_succ];refine tkd (i:=16) (d:=some 9) (v:=(v')) (hQ:=fun _ _ _ h=>zr (z1y _ _ _ (by decide) (by decide)) h) (hy:=.inl ⟨by rfl,?_⟩) (h:=?_)
      ·intro X hX;go_simp
      refine wpAnyH_done (by kernel_rfl) ?_ _;have B10:=z7 (BQ.out.trans (hS.below (n:=w9.heap.size) BQ.out.size (fun b hb=>(HR.out.row.lt b hb).1)));have P10:=z7 (show DoK tk la lb ps (NVa+NVb) (NAa+NAb+3) (k+1) (l' ++ [⟨[(lo,hi')],.slice (some ⟨y2.heap.size,0,none⟩) 1 1,lo',.slice av nv cv⟩])from⟨HPK.out.part.snoc (by show [(lo,hi')]=_;rw[ELO.out,EHI.out]) (fun r c=>by rw[ELO.out];exact(HC7.out.2.1 r c).trans (knT_knO (CA.out.2.1 r c) (CB.out.2.1 r c))),HPK.out.bnd.snoc HC7.out.1 (by have h0:=HC7.out.2.2.1;have h1:=CA.out.2.2.1;have h2:=MVA.out lo;have h3:=CB.out.2.2.1;have h4:=MVB.out lo;show lo'.length≤_;omega) (fun p hp=>HC7.out.2.2.2 p hp)⟩);clear hS;go_wp2
      go_roundw
      case rel=>
       have FINAL:∃(k':Nat) (l':List FV),k'≤n∧(.int .i64 ((k:Int)+1):Value)=.int .i64 k'∧KRow w10 w9.heap.size v' l'∧DoK tk la lb ps (NVa+NVb) (NAa+NAb+3) k' l'∧Below w9.heap.size w9 w10:=⟨k+1,_,by omega,by simp,HK10.out,P10.out,B10.out⟩;first | exact FINAL | ((repeat apply Exists.intro);exact⟨FINAL,rfl⟩)
      case measure=>simp[intOf];omega
  ·obtain rfl:n=k:=by omega
   have hl1:=HPK.out.part.len;have ht1:totI l'≤l'.length:=totI_parts (fun f hf=>by
    obtain⟨i,_,_,e⟩:=HPK.out.part.it hf;rw[e];simp)
   have HGI:=z7 (show GrpI wr l' from PartK.grp (show PartK ps (KnO tk la lb) ps.length l' from by rw[EN.out];exact HPK.out.part) PK.out HR.out HPK.out.bnd (by have:=HVL.out;omega) (by have:=HAL.out;omega));have KG:=z7 (group_any _ l' wr HR.out.know HGI.out (by have h2:=PL.out;have h3:=TOT.out;have h4:=TAB.out;omega) (by have h2:=PL.out;have h3:=TOT.out;have h4:=TAB.out;omega));have HL1:=z7 (And.intro hl1 ht1);have Q9:=z7 (show wr.heap[w.heap.size]?=some (.cells #[.nilIface] 27 (0,0))from((B9.out.trans (HBL.out.mono B9.out.size)).block _ (by have:=S1.out;omega)).trans Q1.out);obtain⟨ar,cr,rfl,_⟩:=zl HR.out.row;clear hl1 ht1 hR hb;go_wp2_with fail
   refine KG.out.mono ?_;rintro e w11 ⟨v2,l2,rfl,hK2,hG2,hb11⟩;have q11:=(hb11.block _ (zh Q9.out)).trans Q9.out;have f11:w11.frozen? ⟨w.heap.size,0,none⟩=false:=frozen_of_row _ _ 0 _ _ q11;have c11:w11.cell? ⟨w.heap.size,0,none⟩=some .nilIface:=by simp[World.cell?,q11]
   have HK2:=z7 hK2;have HG2:=z7 hG2;have B11:=z7 hb11;have Q11:=z7 q11;obtain⟨a2,c2,rfl,_⟩:=zl hK2.row;clear hK2 hG2 hb11 q11;go_wp2
   refine leaves_cons (f:=76) (args:=#[.pointer (some ⟨w.heap.size,0,none⟩)]) (by simp) (by simp[go_sem]) ?_;refine(guard_idle _ _).mono ?_;rintro e u' w'' ⟨rfl,rfl,rfl⟩;have q12:(w11.setCell ⟨w.heap.size,0,none⟩ .nilIface).cell? ⟨w.heap.size,0,none⟩=some .nilIface:=by simp[World.cell?,heap_setCell_same _ _ 0 _ _ _ Q11.out]
   have o12:Only (fun b=>b=w.heap.size) w11 (w11.setCell ⟨w.heap.size,0,none⟩ .nilIface):=(Only.refl (fun b=>b=w.heap.size) w11).setCell (p:=⟨w.heap.size,0,none⟩) (.inl rfl) _;have htq:Typed w11 27 w.heap.size:=⟨_,Q11.out⟩;have bR:Below w.heap.size w wr:=B1.out.trans ((B9.out.trans (HBL.out.mono B9.out.size)).mono B1.out.size);have b11:Below w.heap.size w w11:=bR.trans (B11.out.mono bR.size);obtain⟨hl1,ht1⟩:=HL1.out;have e1:=HG2.out.tot;have e2:=HG2.out.len;rw[List.take_length]at e1;have e3:=PL.out;have e4:=TAB.out;refine⟨.tuple #[.slice a2 l2.length c2,.nilIface],?_,_,l2,rfl,(HK2.out.only o12 (fun k hk=>by rw[hk];exact⟨Typed.not htq (by decide),Typed.not htq (by decide),Typed.not htq (by decide)⟩)).base bR.size,HG2.out.can,fun x r c=>?_,by omega,by omega,(grp_vecB HGI.out HG2.out HPK.out.bnd).mono (by omega) (by omega),b11.trans (o12.below (n:=w.heap.size) b11.size (fun b hb=>by omega))⟩
   ·simp[results,Tryz.results33,go_sem,q12]
   ·rw[HG2.out.kn,List.take_length]
    exact PartK.know (show PartK ps (KnO tk la lb) ps.length l' from by rw[EN.out];exact HPK.out.part) PK.out (fun x y h=>knO_same h) (fun x h=>by
     have h':=knO_some HG.out.off h;refine⟨?_,knK_sel h'⟩;obtain⟨f,hf,h1,_⟩:=h';obtain⟨g,hg,rfl⟩:=zn.1 hf;exact WB.out g hg x h1) x
structure KOk (w:World) (v:Value) (l:List FV) (P Q T:Nat):Prop where
 at':KnwAt w v l
 nil:NilOk v
 bnd:∃V A N,OkK l 1000000 V A∧(∀x,(selI l x l.length).length≤N)∧(N+1) * V≤1000000∧(N+1) * (A+3)≤1000000∧N * V≤P∧N * (A+3)≤Q
 tot:totI l≤T
 len:l.length≤T
theorem KOk.below{w w':World}{v:Value}{l:List FV}{P Q T:Nat}(h:KOk w v l P Q T)(hb:Below w.heap.size w w'):KOk w' v l P Q T:=⟨h.at'.below hb,h.nil,h.bnd,h.tot,h.len⟩
theorem KOk.mono{w:World}{v:Value}{l:List FV}{P Q T P' Q' T':Nat}(h:KOk w v l P Q T)(hP:P≤P')(hQ:Q≤Q')(hT:T≤T'):KOk w v l P' Q' T':=by
 obtain⟨V,A,N,h1,h2,h3,h4,h5,h6⟩:=h.bnd;exact⟨h.at',h.nil,⟨V,A,N,h1,h2,h3,h4,Nat.le_trans h5 hP,Nat.le_trans h6 hQ⟩,Nat.le_trans h.tot hT,Nat.le_trans h.len hT⟩
theorem KOk.slice{w:World}{v:Value}{l:List FV}{P Q T:Nat}(h:KOk w v l P Q T):∃a c,v=.slice a l.length c:=by
 obtain⟨a,c,e,_⟩:=h.at';exact⟨a,c,e⟩
theorem z4f:∀{l:List FV} {f:FV},f∈l→f.items.length≤totI l
 | g :: l,f,h=>by
   rcases List.mem_cons.1 h with rfl | h
   ·simp only[totI];omega
   ·have:=z4f h
    simp only[totI];omega
theorem can_kok{w w':World}{K:Int→Int→Int→Prop}{T V A:Nat}{v:Value}{l:List FV}(h:CanR w K T V A v l w')(hV:V≤10000)(hA:A≤40000)(hT:T≤1000000):KOk w' v l V (A+3) T:=
 ⟨h.row.know,h.row.nilOk,⟨V,A,1,⟨fun f hf=>(h.can.at f hf).1,fun f hf=>CanV.right (CanW.v (h.can.at f hf).2.2.1),fun f hf=>by have h1:=z4f hf;have h2:=h.tot;omega,fun f hf=>h.bnd.vec f hf,fun f hf=>h.bnd.hs f hf⟩,selI_one h.can.apart',by omega,by omega,by omega,by omega⟩,h.tot,h.len⟩
def OpR (w:World) (K:Int→Int→Int→Prop) (P Q T:Nat) (e:Ending) (w':World):Prop:=
 ∃v' l',e=.returned (.tuple #[v',.nilIface])∧KRow w' w.heap.size v' l'∧CanL l'∧(∀x r c,KnK (l'.map FV.frag) x r c↔K x r c)∧KOk w' v' l' P Q T∧Below w.heap.size w w'
theorem do_kok{g:FuncId}{tk:Bool→Bool→Bool}(hg:VecOp g tk){va vb:Value}{la lb:List FV}{Pa Qa Ta Pb Qb Tb:Nat}{w:World}(ha:KOk w va la Pa Qa Ta)(hb:KOk w vb lb Pb Qb Tb)(hP:Pa+Pb≤10000)(hQ:Qa+Qb≤39000)(hT:Ta+Tb≤400000) :
  Calls Tryz.prog 33 #[va,vb,.func (.func g) #[] #[]] w fun e w'=>OpR w (KnO tk la lb) (Pa+Pb) (Qa+Qb+6) (1+2 * (Ta+Tb)) e w':=by
 obtain⟨hA,nA,⟨Va,Aa,Na,okA,sA,v1,h1,v2,h2⟩,ta,na⟩:=ha;obtain⟨hB,nB,⟨Vb,Ab,Nb,okB,sB,v3,h3,v4,h4⟩,tb,nb⟩:=hb;refine(do_any g tk hg va vb la lb 1000000 Va Aa Na Vb Ab Nb w hA hB nA nB okA okB (Nat.le_refl _) (by omega) (by omega) sA sB v1 v3 h1 h3 (by omega) (by omega)).mono ?_;rintro e w' ⟨v',l',rfl,h⟩;exact⟨v',l',rfl,h.row,h.can,h.kn,(can_kok h (by omega) (by omega) (by omega)).mono (by omega) (by omega) (by omega),h.bl⟩
theorem kunion_any{va vb:Value}{la lb:List FV}{Pa Qa Ta Pb Qb Tb:Nat}{w:World}(ha:KOk w va la Pa Qa Ta)(hb:KOk w vb lb Pb Qb Tb)(hP:Pa+Pb≤10000)(hQ:Qa+Qb≤39000)(hT:Ta+Tb≤400000) :
  Calls Tryz.prog 9 #[va,vb] w fun e w'=>OpR w (KnO tkU la lb) (Pa+Pb) (Qa+Qb+6) (1+2 * (Ta+Tb)) e w':=by
 have K:=z7 (do_kok knU_op ha hb hP hQ hT);obtain⟨aa,cpa,rfl⟩:=ha.slice;obtain⟨ab,cpb,rfl⟩:=hb.slice;clear ha hb;go_enter Tryz.func9,Tryz.ntmps9
 go_wp2_with fail
 refine K.out.mono ?_;rintro e w1 ⟨v',l',rfl,hR,hr2⟩;have HR:=z7 (And.intro hR hr2);obtain⟨a2,c2,rfl,_⟩:=zl hR.row;clear hR hr2;go_wp2
 go_ret2
 exact⟨_,l',rfl,HR.out.1,HR.out.2⟩
theorem knK_single{item rep x' c' x r c:Int}{f:FV}(hi:f.items=[(item,item)])(hv:∀r c,KnV f.es r c↔r=rep∧c=c'):KnK ([f].map FV.frag) x r c↔x=item∧r=rep∧c=c':=by
 constructor
 ·rintro⟨g,hg,h1,h2⟩
  obtain rfl:g=f.frag:=by simpa using hg
  have h1':InL f.items x:=h1;rw[hi,z1l]at h1';have h3:item≤x∧x≤item:=h1';exact⟨by omega,(hv r c).1 h2⟩
 ·rintro⟨rfl,h⟩
  exact⟨f.frag,by simp,by show InL f.items x;rw[hi,z1l];exact⟨Int.le_refl _,Int.le_refl _⟩,(hv r c).2 h⟩
theorem kinsert_any{v:Value}{l:List FV}(item rep cnt:Int){P Q T:Nat}{w:World}(hE:KOk w v l P Q T)(h1:Word item)(h2:Word rep)(h3:Word cnt)(hP:P≤9000)(hQ:Q≤38000)(hT:T≤300000) :
  Calls Tryz.prog 29 #[v,.int .u64 item,.int .u64 rep,.int .u64 cnt] w fun e w'=>OpR w (fun x r c=>KnK (l.map FV.frag) x r c∨(x=item∧r=rep∧c=cnt)) (P+1) (Q+19) (3+2 * T) e w':=by
 have H:=z7 hE;have W1:=z7 h1;have KADD:=z7 (fun W=>ladd_any rep cnt W h2 h3);obtain⟨a,cap,rfl⟩:=hE.slice;clear h1 h2 h3 hE;go_enter Tryz.func29,Tryz.ntmps29
 go_wp2_with fail
 obtain⟨w1,ew1⟩:∃w1,w.alloc (.cells #[.int .u64 item,.int .u64 item] 123)=w1:=⟨_,rfl⟩;have B1:=z7 (show Below w.heap.size w w1 from by rw[← ew1];exact zc (Below.refl _ _) _);have Q1:=z7 (show w1.heap[w.heap.size]?=some (.cells #[.int .u64 item,.int .u64 item] 123 (0,0))from by rw[← ew1];exact ze _ _ rfl);rw[ew1];clear ew1;refine(KADD.out w1).mono ?_;rintro e w2 ⟨v2,lo,rfl,hF,hH,hC,hKn,hl,hh,hb2⟩;have B2:=z7 (B1.out.trans (hb2.mono B1.out.size));have Q2:=z7 ((hb2.block _ (zh Q1.out)).trans Q1.out);have HF:=z7 hF;have HC:=z7 (And.intro hC (And.intro hKn (And.intro hl hh)));obtain⟨a2,c2,rfl,_⟩:=hF.vecAt;clear hF hH hC hKn hl hh hb2;go_wp2_with fail
 obtain⟨w3,ew3⟩:∃w3,w2.alloc (.cells #[.slice (some ⟨w.heap.size,0,none⟩) 1 1,.slice a2 lo.length c2] 80)=w3:=⟨_,rfl⟩;have hb3:Below w2.heap.size w2 w3:=by rw[← ew3];exact zc (Below.refl _ _) _
 have q3:w3.heap[w2.heap.size]?=some (.cells #[.slice (some ⟨w.heap.size,0,none⟩) 1 1,.slice a2 lo.length c2] 80 (0,0)):=by rw[← ew3];exact ze _ _ rfl
 have hfr:FragAt w3 ⟨[(item,item)],.slice (some ⟨w.heap.size,0,none⟩) 1 1,lo,.slice a2 lo.length c2⟩:=⟨⟨_,_,rfl,prs_one W1.out W1.out ((hb3.block _ (zh Q2.out)).trans Q2.out),Nat.le_refl _⟩,HF.out.vecAt.below hb3⟩;have hsing:∀f∈[(⟨[(item,item)],.slice (some ⟨w.heap.size,0,none⟩) 1 1,lo,.slice a2 lo.length c2⟩:FV)],f=⟨[(item,item)],.slice (some ⟨w.heap.size,0,none⟩) 1 1,lo,.slice a2 lo.length c2⟩:=fun f hf=>by simpa using hf
 have hkn:KnwAt w3 (.slice (some ⟨w2.heap.size,0,none⟩) 1 1) [⟨[(item,item)],.slice (some ⟨w.heap.size,0,none⟩) 1 1,lo,.slice a2 lo.length c2⟩]:=⟨_,1,rfl,⟨rfl,fun f hf=>(by
  obtain rfl:=hsing f hf;exact hfr),fun i hi=>⟨w2.heap.size,0,rfl,zh q3,by
  have:i=0:=by simpa using hi
  subst this;exact⟨by simp[World.cell?,q3,List.getD],by simp[World.cell?,q3,List.getD]⟩⟩⟩,Nat.le_refl _⟩
 have B3:=z7 (B2.out.trans (hb3.mono B2.out.size));have hOb:OkK [⟨[(item,item)],.slice (some ⟨w.heap.size,0,none⟩) 1 1,lo,.slice a2 lo.length c2⟩] 1000000 1 10:=by
  refine⟨fun f hf=>?_,fun f hf=>?_,fun f hf=>?_,fun f hf=>?_,fun f hf=>?_⟩;all_goals obtain rfl:=hsing f hf
  ·exact cor_single (Int.le_refl _)
  ·exact CanV.right (CanW.v HC.out.1)
  ·exact(by decide:1≤1000000)
  ·exact HC.out.2.2.1
  ·exact fun p hp=>Nat.le_trans (HC.out.2.2.2 p hp) (by decide)
 have hkb:KOk w3 (.slice (some ⟨w2.heap.size,0,none⟩) 1 1) [⟨[(item,item)],.slice (some ⟨w.heap.size,0,none⟩) 1 1,lo,.slice a2 lo.length c2⟩] 1 13 1:=⟨hkn,fun n c e=>(by cases e),⟨1,10,1,hOb,fun x=>selI_len _ x _,by decide,by decide,by decide,by decide⟩,by simp only[totI,List.length_cons,List.length_nil];omega,by simp⟩;have K:=z7 (kunion_any (H.out.below B3.out) hkb (by omega) (by omega) (by omega));rw[ew3];clear ew3 hb3 q3 hfr hkn hsing hOb hkb hP hQ hT;refine K.out.mono ?_;rintro e w4 ⟨v',l',rfl,hR,hC4,hK4,hO4,hb4⟩;have HR:=z7 (And.intro (hR.base B3.out.size) (And.intro hC4 (And.intro hK4 (And.intro hO4 (B3.out.trans (hb4.mono B3.out.size))))));obtain⟨a4,c4,rfl,_⟩:=zl hR.row;clear hR hC4 hK4 hO4 hb4 K;go_wp2
 go_ret2
 obtain⟨r1,r2,r3,r4,r5⟩:=HR.out;refine⟨_,l',rfl,r1,r2,fun x r c=>?_,r4.mono (by omega) (by omega) (by omega),r5⟩;rw[r3];unfold KnO tkU;rw[Bool.or_eq_true,decide_eq_true_iff,decide_eq_true_iff,knK_single (x':=0) (rep:=rep) (c':=cnt) (item:=item) (f:=⟨[(item,item)],.slice (some ⟨w.heap.size,0,none⟩) 1 1,lo,.slice a2 lo.length c2⟩) rfl (fun r c=>HC.out.2.1 r c)]
abbrev KV:=Value×List FV
def KV.z:KV:=(.slice none 0 0,[])
structure KnsAt (w:World) (a:Option Addr) (len:Nat) (L:List KV):Prop where
 length:L.length=len
 most:len≤9223372036854775807
 kn:∀p∈L,KnwAt w p.1 p.2∧NilOk p.1∧p.2.length≤9223372036854775807
 cells:∀i,i<len→∃b off,a=some ⟨b,off,none⟩∧b<w.heap.size∧w.cell? ⟨b,off+i,none⟩=some (L.getD i KV.z).1
theorem KnsAt.below{w w':World}{a:Option Addr}{len:Nat}{L:List KV}(h:KnsAt w a len L)(hb:Below w.heap.size w w'):KnsAt w' a len L:=
 ⟨h.length,h.most,fun p hp=>⟨(h.kn p hp).1.below hb,(h.kn p hp).2⟩,fun i hi=>by
  obtain⟨b,off,e,hlt,h1⟩:=h.cells i hi;exact⟨b,off,e,Nat.lt_of_lt_of_le hlt hb.size,zg hb hlt h1⟩⟩
theorem KnsAt.mem{w:World}{a:Option Addr}{len:Nat}{L:List KV}(h:KnsAt w a len L){i:Nat}(hi:i<len):L.getD i KV.z∈L:=by
 have:=h.length;rw[List.getD,List.getElem?_eq_getElem (by omega),Option.getD_some];exact List.getElem_mem (by omega)
def GoodK (l:List FV):Prop:=FewK l∧RightK l
theorem z3w{w:World}{v:Value}{l:List FV}(h:KnwAt w v l):∃a c,v=.slice a l.length c:=by
 obtain⟨a,c,e,_⟩:=h;exact⟨a,c,e⟩
theorem right_any(a:Option Addr)(len cap:Nat)(L:List KV)(w:World)(h:KnsAt w a len L) :
  Calls Tryz.prog 7 #[.slice a len cap] w fun e w'=>BoolPost (∀p∈L,GoodK p.2) e∧Below w.heap.size w w':=by
 have H:=z7 h;have hm:=h.most;clear h;go_enter Tryz.func7,Tryz.ntmps7
 go_wp2
 go_loopw [7] (fun c wr=>∃k:Nat,k≤len∧c=.int .i64 k∧(∀i,i<k→GoodK (L.getD i KV.z).2)∧Below w.heap.size w wr)
  (fun c _=>len-(intOf c).toNat)
 case atStart=>exact⟨0,Nat.zero_le _,rfl,fun i hi=>absurd hi (by omega),Below.refl _ _⟩
 case round=>
  obtain⟨k,hk,rfl,hno,hb⟩:=hrel;have HN:=z7 hno;have HB:=z7 hb;clear hno;have i0:(0:Int)≤(k:Int):=by omega
  by_cases hlt:k<len
  ·have i1:(k:Int)<(len:Int):=by omega
   have Hr:=H.out.below hb;obtain⟨b,off,rfl,hbl,hc1⟩:=Hr.cells k hlt;obtain⟨hkn,_,hml⟩:=Hr.kn _ (Hr.mem hlt);obtain⟨p,ep⟩:∃p,L.getD k KV.z=p:=⟨_,rfl⟩;have EP:=z7 ep;rw[ep]at hc1 hkn hml;obtain⟨v,l⟩:=p;simp only at hc1 hkn hml;have KF:=z7 (few11_any v l wr hkn hml);have KR:=z7 (fun W (hW:Below wr.heap.size wr W)=>right11_any v l W (hkn.below hW) hml);obtain⟨ak,ck,rfl⟩:=z3w hkn;obtain⟨n,en⟩:∃n,l.length=n:=⟨_,rfl⟩;rw[en]at hc1 KF KR;clear ep hb hbl Hr hkn hml en;go_wp2_with fail
   refine KF.out.mono ?_;rintro e w3 ⟨⟨bb,rfl,hbb⟩,hb3⟩
   cases bb with
   | false=>
     have B3:=z7 (zf HB.out hb3);clear hbb hb3;go_wp2
     go_ret
     exact⟨bool_f _,B3.out⟩
   | true=>
     have B3:=z7 hb3;have HF:=z7 (hbb rfl);clear hbb hb3;go_wp2_with fail
     refine(KR.out _ B3.out).mono ?_;rintro e w4 ⟨⟨bb,rfl,hbb⟩,hb4⟩;have B4:=z7 (zf HB.out (zf B3.out hb4));clear hb4
     cases bb with
     | false=>
       clear hbb;go_wp2
       go_ret
       exact⟨bool_f _,B4.out⟩
     | true=>
       have HS:=z7 (show ∀i,i<k+1→GoodK (L.getD i KV.z).2 from fun i hi=>by
        by_cases e:i<k
        ·exact HN.out i e
        ·obtain rfl:i=k:=by omega
         rw[EP.out];exact⟨HF.out,hbb rfl⟩)
       clear hbb;go_wp2
       go_roundw
       case rel=>exact⟨k+1,by omega,by go_num,HS.out,B4.out⟩
       case measure=>simp[intOf];omega
  ·obtain rfl:len=k:=by omega
   have OK:=z7 (show ∀p∈L,GoodK p.2 from fun p hp=>by
    obtain⟨i,hi,e⟩:=List.mem_iff_getElem.1 hp;have hl:=H.out.length;have:=HN.out i (by omega);rwa [show L.getD i KV.z=p from by simp[List.getD,List.getElem?_eq_getElem hi,e]]at this)
   go_wp2
   go_ret
   exact⟨bool_t OK.out,HB.out⟩
theorem GoodK.kok{w:World}{v:Value}{l:List FV}(h:GoodK l)(hk:KnwAt w v l)(hn:NilOk v){n:Nat}(hl:l.length≤n)(h12:n≤12):KOk w v l (n * 20) (n * 33) (n * 20):=by
 obtain⟨hf,hr⟩:=h;have htot:∀(m:List FV),(∀f∈m,f.items.length≤20)→totI m≤m.length * 20:=fun m=>by
  induction m with
  | nil=>intro _;exact Nat.le_refl _
  | cons f m ih=>
    intro hm;have h1:=hm f (by simp);have h2:=ih (fun g hg=>hm g (by simp[hg]));simp only[totI,List.length_cons];omega
 refine⟨hk,hn,⟨20,30,n,⟨hr.cor,hr.vec,fun f hf'=>Nat.le_trans (hf.items f hf') (by decide),hf.vec,hf.hs⟩,fun x=>Nat.le_trans (selI_len l x _) hl,by omega,by omega,Nat.le_refl _,Nat.le_refl _⟩,?_,by omega⟩;have:=htot l hf.items;omega
end Go.Proofs.YtbkkolfpegplgaaGreatDoor
