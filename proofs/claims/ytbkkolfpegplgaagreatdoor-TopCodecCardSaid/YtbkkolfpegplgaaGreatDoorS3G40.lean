/- wire's Reader: segment, in front of an index. (Printed by wip/mkwsegc.py.) wire's Reader: take. wire's Reader: Put. wire's Reader: Begin, Knowledge. (Printed by wip/mkwbegin.py.) wire.Within: the numbers one by one. -/
import Derived.Test.YtbkkolfpegplgaaGreatDoorS3G39
import Derived.Test.YtbkkolfpegplgaaGreatDoorS3G16
import Derived.BigQuiet
import Derived.Stop.Asserts
set_option maxHeartbeats 12800000
set_option maxRecDepth 100000
set_option linter.unusedVariables false
set_option linter.unusedSimpArgs false
namespace Go.Proofs.YtbkkolfpegplgaaGreatDoor
open Go Go.RowKit
theorem z2z(w:World){ops:Array Oper}{rest:List Oper}{o:Oper}{a:Act}{Q:Exit→Act→World→Prop}(hg:o.guard=none)(m x v:Operand)(hop:o.op=Op.mapUpdate 156 m x v)(b i:Nat)(us:List Nat)
  (hm:a.eval m=.map (some b)) (h:UsedR w b us) (hi:i≤4000000000) (hn:us.length≤4000000000) (hx:a.eval x=.int .i64 i) (hv:a.eval v=.bool true)
  (hK:∀w',UsedR w' b (addU us i)→Only (fun k=>k=b) w w'→wpList Tryz.prog ops Q rest (a.put o.dst undef) w') :
  wpList Tryz.prog ops Q (o :: rest) a w:=by
 obtain⟨D,h,hT,hf,hsz⟩:=h.own;have hk:WideAt.IsKeyLit (.int .i64 (i:Nat)):=key_int.key (keyi_of hi);have hs:=Maps.size_put (k:=.int .i64 (i:Nat)) hT (.held (.bool true));rw[hf i hi]at hs;have hs2:Maps.size (D.put (.int .i64 (i:Nat)) (.held (.bool true)))=(addU us i).length:=by
  unfold addU;rw[hs];by_cases g:i∈us
  ·rw[if_pos (by simpa using g),if_pos g];exact hsz
  ·rw[if_neg (by simpa using g),if_neg g,List.length_append];simp[hsz]
 refine wpList_mapUpdate_own w hg m x v 156 hop 3 4 key_int Tryz.underlying156 Rv b us.length D hm h (by unfold maxLen;omega) _ (.bool true) _ hx hv (keyi_of hi) (.held (.bool true)) [] rfl (fun w' h2 h3=>hK w' ⟨_,by rw[← hs2];exact owns_size h2,hT.put hk _,fun j hj=>?_,hs2⟩ ⟨h3.os,h3.tape,h3.output,h3.size,fun k hk' hl=>h3.block k hk' (fun e=>hl (by injection e))⟩);by_cases e:j=i
 ·subst e
  rw[Maps.has_put_same hT.isMap hk];unfold addU;split
  ·rename_i g;simp[g]
  ·simp
 ·rw[Maps.has_put_other (lit_nei (show((j:Nat):Int)≠((i:Nat):Int) by omega)),hf j hj]
  unfold addU;split
  ·rfl
  ·simp[e]
theorem OutW.useds{w w':World}{base r:Nat}{lm:Lim}{er:Value}{s:WS}{pv kv:Value}{m c:Nat}{l:List FV}{us:List Nat}(h:OutW w base r lm er s pv kv m c l)(hu:UsedR w' m us)(ho:Only (fun b=>b=m) w w'):OutW w' base r lm er { s with us:=us } pv kv m c l:=
 ⟨h.br,h.rd.only ho (fun e=>h.used.notCells (e ▸ h.rd.typed)),h.row.only ho (fun k hk=>by rw[hk];exact⟨h.used.notCells,h.used.notCells,h.used.notCells⟩),h.frags,hu,h.cur.only ho (fun e=>h.used.notCells (e ▸ h.cur.typed)),h.bm,h.bc⟩
theorem SegX.useds{w w' ws:World}{l:List FV}{m:Nat}{us:List Nat}(h:SegX w l ws)(hu:UsedR w m us)(ho:Only (fun b=>b=m) w w'):SegX w' l ws:=by
 refine⟨h.vec,⟨ho.os.trans h.only.os,ho.tape.trans h.only.tape,ho.output.trans h.only.output,Nat.le_trans h.only.size ho.size,fun k hk hl=>?_⟩,fun f hf=>⟨zo (h.own f hf).row ho (fun k hk hv=>?_),(h.own f hf).words⟩,h.dis⟩
 ·have hb:=h.only.block k hk hl
  refine(ho.block k (Nat.lt_of_lt_of_le hk h.only.size) (fun e=>hl ⟨fun hE=>?_,fun hI=>?_⟩)).trans hb
  ·obtain⟨cs,hc⟩:=hE
   exact hu.notCells (show Typed w _ m from⟨cs,by rw[← e];exact hb.trans hc⟩)
  ·obtain⟨cs,hc⟩:=hI
   exact hu.notCells (show Typed w _ m from⟨cs,by rw[← e];exact hb.trans hc⟩)
 ·rw[hv]at hk
  exact hu.notCells (zj (h.own f hf).row hk)
theorem wseg_ix(lm:Lim)(base r:Nat)(s:WS)(left last:Int)(touch:Bool)(x at' rest:Int)(z:Iv)(w:World)(p:Nat)(kv:Value)(m c:Nat)(l:List FV)(hv:OutW w base r lm .nilIface s (ptrV 243 p) kv m c l)(bp:base≤p)(wl:Word left∧0<left)
  (hp:SgC w p left 2 last touch) (hlast:s.last=some z) (hx:Word x) (ws:World) (hsx:SegX w l ws) (hbs:base≤ws.heap.size) (hk:s.k.length≤4000000000) (hu:s.us.length≤4000000000) (hit:∀f∈s.k,f.items.length≤4000000000) (hat:0≤at'∧at'≤4000000000) :
  Calls Tryz.prog 157 #[.pointer (some ⟨r,0,none⟩),.pointer (some ⟨p,0,none⟩),.int .u64 x,.int .i64 at',.int .i64 rest] w fun e w'=>TakeP lm base r (segS s left 2 last touch x at' rest) w e w':=by
 have hmx:Tryz.prog.follows .mixedOrders=true:=by kernel_rfl
 obtain⟨i,rfl⟩:∃i:Nat,x=(i:Int):=⟨x.toNat,by have:=hx.1;omega⟩;have hlk:s.k.length=l.length:=by rw[← hv.frags,List.length_map]
 obtain⟨ak,ck,ekv,_⟩:=zl hv.row.row;subst ekv;obtain⟨nk,enk⟩:∃nk,l.length=nk:=⟨_,rfl⟩;have hnk:nk≤4000000000:=by omega
 have ENK:=z7 enk;have HLK:=z7 (hlk.trans enk);have KL:=z7 (last_cur c s.last s.op w hv.cur);have d6:=hv.rd.c6;have d8:=hv.rd.c8;rw[enk]at d6;have y1:=hp.c1;have y2:=hp.c2;have y3:=hp.c3;have HV:=z7 hv;have HP:=z7 hp;have HSX:=z7 hsx;have HIT:=z7 hit;have HU:=z7 hu;have BS:=z7 (zw hv);have KF8:=z7 (fun W=>z17 8 at' (by decide) W);have KF10:=z7 (fun W=>z17 10 at' (by decide) W);have HX:=z7 hx;have w64:IntKind.u64.wrap (nk:Int)=nk:=z11 ⟨by omega,by omega⟩;clear hv hp hsx hit hu hx hlk enk;by_cases g1:(nk:Int)≤(i:Int)
 ·have E1:=z7 (show segS s left 2 last touch (i:Int) at' rest=.error (8,at')from by unfold segS;rw[if_neg (by decide),if_neg (by decide),if_pos (by rw[HLK.out];exact g1)])
  go_enter Tryz.func157,Tryz.ntmps157
  go_wp2_with fail
  refine(KF8.out _).mono ?_;rintro e w5 ⟨rfl,rfl⟩;go_wp2
  go_ret
  rw[E1.out];exact⟨Below.refl _ _ |>.mono BS.out,fun c a hc=>(by cases hc;exact⟨rfl,_,_,_,_,HV.out.rd⟩),fun s' hs=>(by cases hs)⟩
 ·have i64:IntKind.i64.wrap (i:Int)=(i:Int):=IntWalk.i64_in _ (by omega)
  by_cases g2:touch=true∧(i:Int)=last
  ·obtain⟨rfl,rfl⟩:=g2
   have E1:=z7 (show segS s left 2 (i:Int) true (i:Int) at' rest=.error (10,at')from by unfold segS;rw[if_neg (by decide),if_neg (by decide),if_neg (by rw[HLK.out];exact g1),if_pos ⟨rfl,rfl⟩]);go_enter Tryz.func157,Tryz.ntmps157
   go_wp2_with fail
   refine(KF10.out _).mono ?_;rintro e w5 ⟨rfl,rfl⟩;go_wp2
   go_ret
   rw[E1.out];exact⟨Below.refl _ _ |>.mono BS.out,fun c a hc=>(by cases hc;exact⟨rfl,_,_,_,_,HV.out.rd⟩),fun s' hs=>(by cases hs)⟩
  ·have tcases:(touch=true∧((i:Int) == last)=false)∨touch=false:=by
    cases touch
    ·exact .inr rfl
    ·exact .inl ⟨rfl,by simpa using fun e=>g2 ⟨rfl,e⟩⟩
   have ESEG:=z7 (show segS s left 2 last touch (i:Int) at' rest=if left-1=0 then finishS { s with k:=putI s.k i z,us:=addU s.us i } (at'+sizeV (i:Int)) rest else .ok { s with k:=putI s.k i z,us:=addU s.us i,pt:=.segs (left-1) 0 i touch } from by unfold segS;rw[if_neg (by decide),if_neg (by decide),if_neg (by rw[HLK.out];exact g1),if_neg g2,hlast];rfl);clear g2;rcases tcases with⟨ht,hne⟩ | ht
   all_goals
    subst ht;go_enter Tryz.func157,Tryz.ntmps157
    go_wp2_with fail
    refine KL.out.mono ?_;rintro e w1 ⟨⟨za,zb,rfl,hz⟩,hb1⟩;obtain⟨rfl,rfl⟩:=hz z hlast;have hil:i<l.length:=by rw[ENK.out];omega
    have hmem:l.getD i FV.z∈l:=by rw[List.getD,List.getElem?_eq_getElem hil,Option.getD_some];exact List.getElem_mem hil
    have hzw:Word z.1∧Word z.2:=by
     obtain⟨_,_,_,_,_,_,_,h3⟩:=HV.out.cur;obtain⟨_,_,_,h4,h5⟩:=h3 z hlast;exact⟨h4,h5⟩
    obtain⟨w2,ew2⟩:∃w2,w1.alloc (.cells #[.int .u64 z.1,.int .u64 z.2] 123)=w2:=⟨_,rfl⟩;have q18:w2.heap[w1.heap.size]?=some (.cells #[.int .u64 z.1,.int .u64 z.2] 123 (0,0)):=by rw[← ew2];exact ze _ _ rfl
    have b2:Below w.heap.size w w2:=by rw[← ew2];exact zc hb1 _
    have V2:=z7 (HV.out.below b2);have P2:=z7 (HP.out.below b2);have X2:=z7 (HSX.out.below b2);have B2:=z7 (zq b2 BS.out:Below base w w2);obtain⟨g,eg⟩:∃g,ak=some ⟨g,0,none⟩:=by
     rcases HV.out.row.row.2 with⟨_,hl⟩ | ⟨g,cap',cur,hvv,_⟩
     ·omega
     ·injection hvv with e1 _ _;exact⟨g,e1⟩
    subst eg;have hty:Typed w 80 g:=zj HV.out.row.row rfl;have hgl:g<w.heap.size:=by obtain⟨cs,hc⟩:=hty;exact zh hc
    obtain⟨ai,ci,eiv,_⟩:=zl (X2.out.own _ hmem).row;have cg:w2.cell? ⟨g,i * 2,none⟩=some (l.getD i FV.z).iv:=by
     obtain⟨a',cap',e,hKn,_⟩:=V2.out.row.know;injection e with e1 _ _
     subst e1;obtain⟨b,off,e2,_,h1,_⟩:=hKn.cells i hil
     cases e2
     rw[Nat.zero_add]at h1;exact h1
    have hib:∀b,(l.getD i FV.z).iv.ownBlock=some b→Typed w 123 b∧b<w.heap.size:=fun b hb=>⟨zj (HSX.out.own _ hmem).row hb,((HSX.out.own _ hmem).row.lt b hb).2⟩;have nr:¬(r=g∨(l.getD i FV.z).iv.ownBlock=some r):=fun h=>by
     rcases h with h | h
     ·rw[← h]at hty;exact hty.ne HV.out.rd.typed (by decide) rfl
     ·exact(hib r h).1.ne HV.out.rd.typed (by decide) rfl
    have hw1:w.heap.size≤w1.heap.size:=hb1.size;have nq:¬(w1.heap.size=g∨(l.getD i FV.z).iv.ownBlock=some w1.heap.size):=fun h=>by
     rcases h with h | h
     ·omega
     ·have:=(hib _ h).2;omega
    have np:¬(p=g∨(l.getD i FV.z).iv.ownBlock=some p):=fun h=>by
     rcases h with h | h
     ·rw[← h]at hty;exact hty.ne HP.out.typed (by decide) rfl
     ·exact(hib p h).1.ne HP.out.typed (by decide) rfl
    have hni:(l.getD i FV.z).items.length≤4000000000:=by
     have:=HIT.out (l.getD i FV.z).frag (by rw[← HV.out.frags];exact List.mem_map.2 ⟨_,hmem,rfl⟩);exact this
    have OI:=z7 (X2.out.own _ hmem);obtain⟨f,ef⟩:∃f,l.getD i FV.z=f:=⟨_,rfl⟩;have EF:=z7 ef;rw[ef]at eiv cg nr nq np OI hni;obtain⟨ni,eni⟩:∃ni,f.items.length=ni:=⟨_,rfl⟩;rw[eni]at eiv;rw[eiv]at cg nr nq np OI;have EIV:=z7 eiv;have ENI:=z7 eni;have HNI:=z7 (show ni≤4000000000 by rw[← eni];exact hni);have k6:=V2.out.rd.c6;rw[ENK.out]at k6;have k7:=V2.out.rd.c7;have s0:w2.cell? ⟨w1.heap.size,0,none⟩=some (.int .u64 z.1):=by simp[World.cell?,q18]
    have s1:w2.cell? ⟨w1.heap.size,1,none⟩=some (.int .u64 z.2):=by simp[World.cell?,q18]
    have ZW:=z7 hzw;have j0:(0:Int)≤(i:Int):=by omega
    have j1:(i:Int)<(nk:Int):=by omega
    have HM:=z7 hmem;have NP:=z7 np;have HI:=z7 hil;have HBS:=z7 hbs;have GL:=z7 (Nat.lt_of_lt_of_le hgl b2.size);have GT:=z7 (show Typed w2 80 g from by obtain⟨cs,hc⟩:=hty;exact⟨cs,(b2.block g hgl).trans hc⟩);have NGI:=z7 (show ¬(Value.slice ai ni ci).ownBlock=some g from fun h=>by rw[← EIV.out,← EF.out]at h;exact(hib g h).1.ne hty (by decide) rfl);clear hzw hb1 b2 hty hgl hib hmem eiv ef eni hz d6 y1 y2 y3 q18;go_wp2_with fail
    refine wp_region_held_drew (S:=Only (fun b=>b=g∨(Value.slice ai ni ci).ownBlock=some b) w2) hmx (Only.refl _ _).drew (fun hS=>?_);obtain⟨wd,ewd⟩:∃wd,w2.drew=wd:=⟨_,rfl⟩;have BD:=z7 (show Below w2.heap.size w2 wd from by rw[← ewd];exact(Only.refl (fun _=>False) w2).drew.below (n:=w2.heap.size) (Nat.le_refl _) (fun _ h=>h.elim));rw[ewd]at hS ⊢;clear ewd;refine tkd (i:=0) (d:=some 58) (v:=(.pointer (some ⟨r,0,none⟩))) (hy:=.inl ⟨by rfl,?_⟩) (h:=?_)
    ·intro X hX;go_simp
    refine tkd (i:=1) (d:=some 59) (v:=(.pointer (some ⟨r,0,none⟩))) (hy:=.inl ⟨by rfl,?_⟩) (h:=?_)
    ·intro X hX;go_simp
    refine tkd (i:=2) (d:=some 60) (v:=(.pointer (some ⟨r,6,none⟩))) (hy:=.inl ⟨by rfl,?_⟩) (h:=?_)
    ·intro X hX;go_simp
    refine tkd (i:=3) (d:=some 61) (v:=(.slice (some ⟨g,0,none⟩) nk ck)) (hy:=.inl ⟨by rfl,?_⟩) (h:=?_)
    ·intro X hX;have x0:=hX.cell nr k6;go_simp
    refine tkd (i:=4) (d:=some 62) (v:=(.int .i64 (i:Int))) (hy:=.inl ⟨by rfl,?_⟩) (h:=?_)
    ·intro X hX;go_simp
    refine tkd (i:=5) (d:=some 63) (v:=(.pointer (some ⟨r,0,none⟩))) (hy:=.inl ⟨by rfl,?_⟩) (h:=?_)
    ·intro X hX;go_simp
    refine tkd (i:=6) (d:=some 64) (v:=(.pointer (some ⟨r,0,none⟩))) (hy:=.inl ⟨by rfl,?_⟩) (h:=?_)
    ·intro X hX;go_simp
    refine tkd (i:=7) (d:=some 65) (v:=(.pointer (some ⟨r,6,none⟩))) (hy:=.inl ⟨by rfl,?_⟩) (h:=?_)
    ·intro X hX;go_simp
    refine tkd (i:=8) (d:=some 66) (v:=(.slice (some ⟨g,0,none⟩) nk ck)) (hy:=.inl ⟨by rfl,?_⟩) (h:=?_)
    ·intro X hX;have x0:=hX.cell nr k6;go_simp
    refine tkd (i:=9) (d:=some 67) (v:=(.int .i64 (i:Int))) (hy:=.inl ⟨by rfl,?_⟩) (h:=?_)
    ·intro X hX;go_simp
    refine tkd (i:=10) (d:=some 68) (v:=(.pointer (some ⟨g,i * 2,none⟩))) (hy:=.inl ⟨by rfl,?_⟩) (h:=?_)
    ·intro X hX;go_simp
    refine tkd (i:=11) (d:=some 69) (v:=(.pointer (some ⟨g,i * 2,none⟩))) (hy:=.inl ⟨by rfl,?_⟩) (h:=?_)
    ·intro X hX;go_simp
    refine tkd (i:=13) (d:=some 71) (v:=(.agg #[.int .u64 z.1,.int .u64 z.2])) (hy:=.inl ⟨by rfl,?_⟩) (h:=?_)
    ·intro X hX;have x0:=hX.cell nq s0;have x1:=hX.cell nq s1;go_simp
    refine wpAnyH_ready (rs:=[12,14]) (by kernel_rfl) (by simp) ?_;refine AllReadyH.cons (o:=_) rfl (fun K hK=>?_) (AllReadyH.cons (o:=_) rfl (fun K hK=>?_) AllReadyH.nil)
    ·have cgd:wd.cell? ⟨g,i * 2,none⟩=some (.slice ai ni ci):=zg BD.out GL.out cg
     go_simp
     clear cgd;refine hK.out _ _ hS (fun _=>?_);clear hK K;refine wpAnyH_ready (rs:=[14]) (by kernel_rfl) (by simp) ?_;refine AllReadyH.cons (o:=_) rfl (fun K hK=>?_) AllReadyH.nil;have hS9:=hS.alloc (.cells #[.int .u64 z.1,.int .u64 z.2] 123);go_simp
     refine hK.out _ _ hS9 (fun _=>?_);clear hK K;have hX9:=X2.out.below (zc BD.out (.cells #[.int .u64 z.1,.int .u64 z.2] 123));have hO9:=V2.out.below (zc BD.out (.cells #[.int .u64 z.1,.int .u64 z.2] 123));have hown0:=hX9.own _ HM.out;rw[EF.out,EIV.out]at hown0;obtain⟨v',w3,hrun,hown,hon,hblk⟩:=ivs_app hown0 ZW.out (ze _ _ rfl) (by rw[ENI.out];have:=HNI.out;omega) hX9.only.size 56;obtain⟨a3,c3,e3,_⟩:=zl hown.row;subst e3;obtain⟨n3,en3⟩:∃n3,(f.items ++ [z]).length=n3:=⟨_,rfl⟩;have SP:=seg_put (r:=r) (lm:=lm) (s:=s) (z:=z) (i:=i) hO9 hX9 HI.out HBS.out (by rw[EF.out,EIV.out];exact hon) (by rw[EF.out];exact hown) (by
      rw[EF.out,EIV.out];rcases hblk with h | h
      ·exact .inl h
      ·exact .inr ⟨_,h,Nat.le_refl _⟩)
     rw[en3]at SP hrun;have SPH:=z7 SP;have ho3:Only (fun b=>b=g∨(Value.slice ai ni ci).ownBlock=some b) w2 w3:=hS9.trans (hon.wide (fun b hb=>.inr hb));have c3g:w3.cell? ⟨g,i * 2,none⟩=some (.slice ai ni ci):=(hon.cell (fun h=>NGI.out h) (zg (zc BD.out (.cells #[.int .u64 z.1,.int .u64 z.2] 123)) GL.out cg));have f3g:w3.frozen? ⟨g,i * 2,none⟩=false:=by
      obtain⟨cs,hc⟩:=GT.out;exact frozen_of_row _ _ _ _ _ (hon.obj (fun h=>NGI.out h) ((zc BD.out (.cells #[.int .u64 z.1,.int .u64 z.2] 123)).block g GL.out |>.trans hc))
     clear hX9 hO9 hown0 hown hon hblk SP en3;refine wpAnyH_ready (rs:=[15]) (by kernel_rfl) (by simp) ?_;refine AllReadyH.cons (o:=_) rfl (fun K hK=>?_) AllReadyH.nil;rw[if_pos (by rfl)];refine z1a _ _ _ _ rfl rfl rfl hrun ?_;refine hK.out _ _ ho3 (fun _=>?_);simp only[Act.put,List.setIfInBounds_toArray,List.set_cons_zero,List.set_cons_succ];clear hK K;refine tkd (i:=16) (d:=some 74) (v:=(.pointer (some ⟨g,i * 2,none⟩))) (hy:=.inl ⟨by rfl,?_⟩) (h:=?_)
     ·intro X hX;go_simp
     refine tkd (i:=17) (d:=some 75) (v:=(.pointer (some ⟨g,i * 2,none⟩))) (hy:=.inl ⟨by rfl,?_⟩) (h:=?_)
     ·intro X hX;go_simp
     refine wpAnyH_ready (rs:=[18]) (by kernel_rfl) (by simp) ?_;refine AllReadyH.cons (o:=_) rfl (fun K hK=>?_) AllReadyH.nil;have ho4:=ho3.setCell (p:=⟨g,i * 2,none⟩) (.inl (.inl rfl)) (.slice a3 n3 c3);go_simp
     refine hK.out _ _ ho4 (fun _=>?_);clear hK K;refine wpAnyH_done (by kernel_rfl) ?_ _;clear hrun ho3 ho4 c3g f3g;have hWQ:=zc BD.out (.cells #[.int .u64 z.1,.int .u64 z.2] 123);have P4:=z7 ((P2.out.below hWQ).only SPH.out.2.2 (fun h=>NP.out (by rw[EF.out,EIV.out]at h;exact h)));have RD4:=SPH.out.1.rd;have q7:=RD4.c7;have B4:=z7 (show Below base w (w3.setCell ⟨g,i * 2,none⟩ (.slice a3 n3 c3))from by
      have h1:=B2.out.trans (hWQ.mono (show base≤w2.heap.size from Nat.le_trans BS.out B2.out.size));refine h1.trans (SPH.out.2.2.below (n:=base) (Nat.le_trans BS.out h1.size) (fun b hb=>?_));rcases hb with rfl | hb
      ·exact(V2.out.row.row.lt b rfl).1
      ·exact Nat.le_trans HBS.out (((z7 (X2.out.own _ HM.out)).out.row.lt b hb).1))
     obtain⟨w4,ew4⟩:∃w4,w3.setCell ⟨g,i * 2,none⟩ (.slice a3 n3 c3)=w4:=⟨_,rfl⟩;rw[ew4]at SPH P4 q7 B4 ⊢;clear ew4 RD4 hWQ;have jw:IntKind.u64.wrap (left-1)=left-1:=z11 ⟨by have:=wl.2;omega,by have:=wl.1.2;omega⟩;by_cases hl1:left-1=0
     ·have E1:=z7 (ESEG.out.trans (if_pos hl1))
      have nl:(left-1 == 0)=true:=by rw[hl1];rfl
      have w0:IntKind.u64.wrap (left-1)=0:=by rw[hl1];decide
      have KS:=z7 (fun W=>size_any (i:Int) W HX.out);obtain⟨sz,esz⟩:∃sz,(vb 10 (i:Int)).length=sz:=⟨_,rfl⟩;have hsz:sz≤10:=by rw[← esz];exact z4a 10 _
      have ESZ:=z7 (show sizeV (i:Int)=sz from by unfold sizeV;rw[esz]);have aw:IntKind.i64.wrap (at'+sz)=at'+sz:=IntWalk.i64_in _ (by omega);rw[esz]at KS;clear esz jw;go_wp2_with(at_mapUpdate;go_loud(refine z2z _ rfl _ _ _ rfl m i s.us rfl SPH.out.1.used (by omega) (by have:=HU.out;omega) rfl rfl ?_);intro w5 hu5 ho5;have O5:=z7 (SPH.out.1.useds hu5 ho5);have P5:=z7 (P4.out.only ho5 (fun e=>SPH.out.1.used.notCells (e ▸ P4.out.typed)));have x5:=P5.out.fz 2;have X5:=z7 (SPH.out.2.1.useds SPH.out.1.used ho5);have P6:=z7 (P5.out.s2 i);have y6:=P6.out.c0;have x6:=P6.out.fz 0;have P7:=z7 (P6.out.s0 (left-1));have y7:=P7.out.c0;have y5:=P5.out.c2;have B5:=z7 (B4.out.trans (ho5.below (n:=base) (Nat.le_trans BS.out B4.out.size) (fun b hb=>by rw[hb];exact V2.out.bm)));clear hu5 ho5)
      refine(KS.out _).mono ?_;rintro e w8 ⟨rfl,rfl⟩;have O7:=(O5.out.seg P5.out 2 (.int .i64 i)).seg P6.out 0 (.int .u64 0);have B7:=z7 (B5.out.trans (((P5.out.keep 2 (.int .i64 i)).trans (P6.out.keep 0 (.int .u64 0))).below (n:=base) (Nat.le_trans BS.out B5.out.size) (fun b hb=>by rw[hb];exact bp)));have KF:=z7 (wfin_any lm base r _ _ _ _ _ _ (at'+sz) rest _ O7);clear O7;go_wp2_with fail
      refine KF.out.mono ?_;rintro e w9 hT;have hb9:=B7.out.trans hT.below
      cases hT9:finishS { s with k:=putI s.k i z,us:=addU s.us i } (at'+sz) rest with
      | error ca=>
        obtain⟨ce,ae⟩:=ca;obtain⟨rfl,hrd⟩:=hT.bad ce ae hT9;go_wp2
        go_ret
        rw[E1.out,ESZ.out,hT9];exact⟨hb9,fun c a hc=>(by cases hc;exact⟨rfl,hrd⟩),fun s' hs=>(by cases hs)⟩
      | ok s9=>
        obtain⟨rfl,hm⟩:=hT.good s9 hT9;go_wp2
        go_ret
        rw[E1.out,ESZ.out,hT9];exact⟨hb9,fun c a hc=>(by cases hc),fun s' hs=>(by cases hs;exact⟨rfl,hm⟩)⟩
     ·have E1:=z7 (ESEG.out.trans (if_neg hl1))
      have nl:(left-1 == 0)=false:=by simpa using hl1
      have t3:IntKind.i64.wrap ((2:Int)+1)=3:=by decide
      have t0:IntKind.i64.wrap ((3:Int).tmod 3)=0:=by decide
      go_wp2_with(at_mapUpdate;go_loud(refine z2z _ rfl _ _ _ rfl m i s.us rfl SPH.out.1.used (by omega) (by have:=HU.out;omega) rfl rfl ?_);intro w5 hu5 ho5;have O5:=z7 (SPH.out.1.useds hu5 ho5);have P5:=z7 (P4.out.only ho5 (fun e=>SPH.out.1.used.notCells (e ▸ P4.out.typed)));have x5:=P5.out.fz 2;have X5:=z7 (SPH.out.2.1.useds SPH.out.1.used ho5);have P6:=z7 (P5.out.s2 i);have y6:=P6.out.c0;have x6:=P6.out.fz 0;have P7:=z7 (P6.out.s0 (left-1));have y7:=P7.out.c0;have y71:=P7.out.c1;have x71:=P7.out.fz 1;have y5:=P5.out.c2;have B5:=z7 (B4.out.trans (ho5.below (n:=base) (Nat.le_trans BS.out B4.out.size) (fun b hb=>by rw[hb];exact V2.out.bm)));clear hu5 ho5)
      go_ret
      rw[E1.out];have O8:=((O5.out.seg P5.out 2 (.int .i64 i)).seg P6.out 0 (.int .u64 (left-1))).seg P7.out 1 (.int .i64 0);have X8:=((X5.out.one (P5.out.keep 2 (.int .i64 i)) P5.out.typed (by decide)).one (P6.out.keep 0 (.int .u64 (left-1))) P6.out.typed (by decide)).one (P7.out.keep 1 (.int .i64 0)) P7.out.typed (by decide);have B8:=B5.out.trans ((((P5.out.keep 2 (.int .i64 i)).trans (P6.out.keep 0 (.int .u64 (left-1)))).trans (P7.out.keep 1 (.int .i64 0))).below (n:=base) (Nat.le_trans BS.out B5.out.size) (fun b hb=>by rw[hb];exact bp));exact⟨B8,fun c a hc=>(by cases hc),fun s' hs=>(by cases hs;exact⟨rfl,_,_,_,_,_,O8.toS rfl rfl rfl rfl,⟨⟨⟨by have:=wl.2;omega,by have:=wl.1.2;omega⟩,by have:=wl.2;omega⟩,p,rfl,bp,P7.out.s1 0⟩,ws,X8,HBS.out⟩)⟩
    ·have hS9:=hS.alloc (.cells #[.int .u64 z.1,.int .u64 z.2] 123)
     go_simp
     refine hK.out _ _ hS9 (fun _=>?_);clear hK K;refine wpAnyH_ready (rs:=[12]) (by kernel_rfl) (by simp) ?_;refine AllReadyH.cons (o:=_) rfl (fun K hK=>?_) AllReadyH.nil;have cg9:(wd.alloc (.cells #[.int .u64 z.1,.int .u64 z.2] 123)).cell? ⟨g,i * 2,none⟩=some (.slice ai ni ci):=zg (zc BD.out (.cells #[.int .u64 z.1,.int .u64 z.2] 123)) GL.out cg;go_simp
     refine hK.out _ _ hS9 (fun _=>?_);clear hK K;have hX9:=X2.out.below (zc BD.out (.cells #[.int .u64 z.1,.int .u64 z.2] 123));have hO9:=V2.out.below (zc BD.out (.cells #[.int .u64 z.1,.int .u64 z.2] 123));have hown0:=hX9.own _ HM.out;rw[EF.out,EIV.out]at hown0;obtain⟨v',w3,hrun,hown,hon,hblk⟩:=ivs_app hown0 ZW.out (ze _ _ rfl) (by rw[ENI.out];have:=HNI.out;omega) hX9.only.size 56;obtain⟨a3,c3,e3,_⟩:=zl hown.row;subst e3;obtain⟨n3,en3⟩:∃n3,(f.items ++ [z]).length=n3:=⟨_,rfl⟩;have SP:=seg_put (r:=r) (lm:=lm) (s:=s) (z:=z) (i:=i) hO9 hX9 HI.out HBS.out (by rw[EF.out,EIV.out];exact hon) (by rw[EF.out];exact hown) (by
      rw[EF.out,EIV.out];rcases hblk with h | h
      ·exact .inl h
      ·exact .inr ⟨_,h,Nat.le_refl _⟩)
     rw[en3]at SP hrun;have SPH:=z7 SP;have ho3:Only (fun b=>b=g∨(Value.slice ai ni ci).ownBlock=some b) w2 w3:=hS9.trans (hon.wide (fun b hb=>.inr hb));have c3g:w3.cell? ⟨g,i * 2,none⟩=some (.slice ai ni ci):=(hon.cell (fun h=>NGI.out h) (zg (zc BD.out (.cells #[.int .u64 z.1,.int .u64 z.2] 123)) GL.out cg));have f3g:w3.frozen? ⟨g,i * 2,none⟩=false:=by
      obtain⟨cs,hc⟩:=GT.out;exact frozen_of_row _ _ _ _ _ (hon.obj (fun h=>NGI.out h) ((zc BD.out (.cells #[.int .u64 z.1,.int .u64 z.2] 123)).block g GL.out |>.trans hc))
     clear hX9 hO9 hown0 hown hon hblk SP en3;refine wpAnyH_ready (rs:=[15]) (by kernel_rfl) (by simp) ?_;refine AllReadyH.cons (o:=_) rfl (fun K hK=>?_) AllReadyH.nil;rw[if_pos (by rfl)];refine z1a _ _ _ _ rfl rfl rfl hrun ?_;refine hK.out _ _ ho3 (fun _=>?_);simp only[Act.put,List.setIfInBounds_toArray,List.set_cons_zero,List.set_cons_succ];clear hK K;refine tkd (i:=16) (d:=some 74) (v:=(.pointer (some ⟨g,i * 2,none⟩))) (hy:=.inl ⟨by rfl,?_⟩) (h:=?_)
     ·intro X hX;go_simp
     refine tkd (i:=17) (d:=some 75) (v:=(.pointer (some ⟨g,i * 2,none⟩))) (hy:=.inl ⟨by rfl,?_⟩) (h:=?_)
     ·intro X hX;go_simp
     refine wpAnyH_ready (rs:=[18]) (by kernel_rfl) (by simp) ?_;refine AllReadyH.cons (o:=_) rfl (fun K hK=>?_) AllReadyH.nil;have ho4:=ho3.setCell (p:=⟨g,i * 2,none⟩) (.inl (.inl rfl)) (.slice a3 n3 c3);go_simp
     refine hK.out _ _ ho4 (fun _=>?_);clear hK K;refine wpAnyH_done (by kernel_rfl) ?_ _;clear hrun ho3 ho4 c3g f3g;have hWQ:=zc BD.out (.cells #[.int .u64 z.1,.int .u64 z.2] 123);have P4:=z7 ((P2.out.below hWQ).only SPH.out.2.2 (fun h=>NP.out (by rw[EF.out,EIV.out]at h;exact h)));have RD4:=SPH.out.1.rd;have q7:=RD4.c7;have B4:=z7 (show Below base w (w3.setCell ⟨g,i * 2,none⟩ (.slice a3 n3 c3))from by
      have h1:=B2.out.trans (hWQ.mono (show base≤w2.heap.size from Nat.le_trans BS.out B2.out.size));refine h1.trans (SPH.out.2.2.below (n:=base) (Nat.le_trans BS.out h1.size) (fun b hb=>?_));rcases hb with rfl | hb
      ·exact(V2.out.row.row.lt b rfl).1
      ·exact Nat.le_trans HBS.out (((z7 (X2.out.own _ HM.out)).out.row.lt b hb).1))
     obtain⟨w4,ew4⟩:∃w4,w3.setCell ⟨g,i * 2,none⟩ (.slice a3 n3 c3)=w4:=⟨_,rfl⟩;rw[ew4]at SPH P4 q7 B4 ⊢;clear ew4 RD4 hWQ;have jw:IntKind.u64.wrap (left-1)=left-1:=z11 ⟨by have:=wl.2;omega,by have:=wl.1.2;omega⟩;by_cases hl1:left-1=0
     ·have E1:=z7 (ESEG.out.trans (if_pos hl1))
      have nl:(left-1 == 0)=true:=by rw[hl1];rfl
      have w0:IntKind.u64.wrap (left-1)=0:=by rw[hl1];decide
      have KS:=z7 (fun W=>size_any (i:Int) W HX.out);obtain⟨sz,esz⟩:∃sz,(vb 10 (i:Int)).length=sz:=⟨_,rfl⟩;have hsz:sz≤10:=by rw[← esz];exact z4a 10 _
      have ESZ:=z7 (show sizeV (i:Int)=sz from by unfold sizeV;rw[esz]);have aw:IntKind.i64.wrap (at'+sz)=at'+sz:=IntWalk.i64_in _ (by omega);rw[esz]at KS;clear esz jw;go_wp2_with(at_mapUpdate;go_loud(refine z2z _ rfl _ _ _ rfl m i s.us rfl SPH.out.1.used (by omega) (by have:=HU.out;omega) rfl rfl ?_);intro w5 hu5 ho5;have O5:=z7 (SPH.out.1.useds hu5 ho5);have P5:=z7 (P4.out.only ho5 (fun e=>SPH.out.1.used.notCells (e ▸ P4.out.typed)));have x5:=P5.out.fz 2;have X5:=z7 (SPH.out.2.1.useds SPH.out.1.used ho5);have P6:=z7 (P5.out.s2 i);have y6:=P6.out.c0;have x6:=P6.out.fz 0;have P7:=z7 (P6.out.s0 (left-1));have y7:=P7.out.c0;have y5:=P5.out.c2;have B5:=z7 (B4.out.trans (ho5.below (n:=base) (Nat.le_trans BS.out B4.out.size) (fun b hb=>by rw[hb];exact V2.out.bm)));clear hu5 ho5)
      refine(KS.out _).mono ?_;rintro e w8 ⟨rfl,rfl⟩;have O7:=(O5.out.seg P5.out 2 (.int .i64 i)).seg P6.out 0 (.int .u64 0);have B7:=z7 (B5.out.trans (((P5.out.keep 2 (.int .i64 i)).trans (P6.out.keep 0 (.int .u64 0))).below (n:=base) (Nat.le_trans BS.out B5.out.size) (fun b hb=>by rw[hb];exact bp)));have KF:=z7 (wfin_any lm base r _ _ _ _ _ _ (at'+sz) rest _ O7);clear O7;go_wp2_with fail
      refine KF.out.mono ?_;rintro e w9 hT;have hb9:=B7.out.trans hT.below
      cases hT9:finishS { s with k:=putI s.k i z,us:=addU s.us i } (at'+sz) rest with
      | error ca=>
        obtain⟨ce,ae⟩:=ca;obtain⟨rfl,hrd⟩:=hT.bad ce ae hT9;go_wp2
        go_ret
        rw[E1.out,ESZ.out,hT9];exact⟨hb9,fun c a hc=>(by cases hc;exact⟨rfl,hrd⟩),fun s' hs=>(by cases hs)⟩
      | ok s9=>
        obtain⟨rfl,hm⟩:=hT.good s9 hT9;go_wp2
        go_ret
        rw[E1.out,ESZ.out,hT9];exact⟨hb9,fun c a hc=>(by cases hc),fun s' hs=>(by cases hs;exact⟨rfl,hm⟩)⟩
     ·have E1:=z7 (ESEG.out.trans (if_neg hl1))
      have nl:(left-1 == 0)=false:=by simpa using hl1
      have t3:IntKind.i64.wrap ((2:Int)+1)=3:=by decide
      have t0:IntKind.i64.wrap ((3:Int).tmod 3)=0:=by decide
      go_wp2_with(at_mapUpdate;go_loud(refine z2z _ rfl _ _ _ rfl m i s.us rfl SPH.out.1.used (by omega) (by have:=HU.out;omega) rfl rfl ?_);intro w5 hu5 ho5;have O5:=z7 (SPH.out.1.useds hu5 ho5);have P5:=z7 (P4.out.only ho5 (fun e=>SPH.out.1.used.notCells (e ▸ P4.out.typed)));have x5:=P5.out.fz 2;have X5:=z7 (SPH.out.2.1.useds SPH.out.1.used ho5);have P6:=z7 (P5.out.s2 i);have y6:=P6.out.c0;have x6:=P6.out.fz 0;have P7:=z7 (P6.out.s0 (left-1));have y7:=P7.out.c0;have y71:=P7.out.c1;have x71:=P7.out.fz 1;have y5:=P5.out.c2;have B5:=z7 (B4.out.trans (ho5.below (n:=base) (Nat.le_trans BS.out B4.out.size) (fun b hb=>by rw[hb];exact V2.out.bm)));clear hu5 ho5)
      go_ret
      rw[E1.out];have O8:=((O5.out.seg P5.out 2 (.int .i64 i)).seg P6.out 0 (.int .u64 (left-1))).seg P7.out 1 (.int .i64 0);have X8:=((X5.out.one (P5.out.keep 2 (.int .i64 i)) P5.out.typed (by decide)).one (P6.out.keep 0 (.int .u64 (left-1))) P6.out.typed (by decide)).one (P7.out.keep 1 (.int .i64 0)) P7.out.typed (by decide);have B8:=B5.out.trans ((((P5.out.keep 2 (.int .i64 i)).trans (P6.out.keep 0 (.int .u64 (left-1)))).trans (P7.out.keep 1 (.int .i64 0))).below (n:=base) (Nat.le_trans BS.out B5.out.size) (fun b hb=>by rw[hb];exact bp));exact⟨B8,fun c a hc=>(by cases hc),fun s' hs=>(by cases hs;exact⟨rfl,_,_,_,_,_,O8.toS rfl rfl rfl rfl,⟨⟨⟨by have:=wl.2;omega,by have:=wl.1.2;omega⟩,by have:=wl.2;omega⟩,p,rfl,bp,P7.out.s1 0⟩,ws,X8,HBS.out⟩)⟩
theorem z28{P:Program}{t:TypeId}{u}(hu:P.underlying t=some u)(hn:∀m,u≠.interface m)(v:Value)(xT:TypeId)(w:World):(Instr.typeAssert (.iface t v) xT t true).run P w=.ok (.tuple #[v,.bool true]) w:=by
 cases u with
 | interface m=>exact absurd rfl (hn m)
 | _=>simp[Instr.typeAssert,run_underlying hu]
theorem z1k{P:Program}{t t':TypeId}{u}{z:Value}(hu:P.underlying t'=some u)(hn:∀m,u≠.interface m)(hne:t≠t')(hz:(P.info? t').map (·.zero)=some (some z))(v:Value)(xT:TypeId)(w:World):(Instr.typeAssert (.iface t v) xT t' true).run P w=.ok (.tuple #[z,.bool false]) w:=by
 obtain⟨j,hj,hz'⟩:=Option.map_eq_some_iff.1 hz
 cases u with
 | interface m=>exact absurd rfl (hn m)
 | _=>simp[Instr.typeAssert,run_underlying hu,hne,zeroValue,typeInfo,hj,hz']
theorem ta_start(v:Value)(xT:TypeId)(w:World):(Instr.typeAssert (.iface 155 v) xT 155 true).run Tryz.prog w=.ok (.tuple #[v,.bool true]) w:=z28 Tryz.underlying155 (by intro m h;cases h) v xT w
theorem ta_vecs(v:Value)(xT:TypeId)(w:World):(Instr.typeAssert (.iface 237 v) xT 237 true).run Tryz.prog w=.ok (.tuple #[v,.bool true]) w:=z28 Tryz.underlying237 (by intro m h;cases h) v xT w
theorem z5g(v:Value)(xT:TypeId)(w:World):(Instr.typeAssert (.iface 237 v) xT 155 true).run Tryz.prog w=.ok (.tuple #[.agg #[],.bool false]) w:=z1k Tryz.underlying155 (by intro m h;cases h) (by decide) (by kernel_rfl) v xT w
theorem ta_mid(v:Value)(xT:TypeId)(w:World):(Instr.typeAssert (.iface 241 v) xT 241 true).run Tryz.prog w=.ok (.tuple #[v,.bool true]) w:=z28 Tryz.underlying241 (by intro m h;cases h) v xT w
theorem ta_mid_start(v:Value)(xT:TypeId)(w:World):(Instr.typeAssert (.iface 241 v) xT 155 true).run Tryz.prog w=.ok (.tuple #[.agg #[],.bool false]) w:=z1k Tryz.underlying155 (by intro m h;cases h) (by decide) (by kernel_rfl) v xT w
theorem ta_mid_vecs(v:Value)(xT:TypeId)(w:World):(Instr.typeAssert (.iface 241 v) xT 237 true).run Tryz.prog w=.ok (.tuple #[.pointer none,.bool false]) w:=z1k Tryz.underlying237 (by intro m h;cases h) (by decide) (by kernel_rfl) v xT w
theorem ta_segs(v:Value)(xT:TypeId)(w:World):(Instr.typeAssert (.iface 243 v) xT 243 true).run Tryz.prog w=.ok (.tuple #[v,.bool true]) w:=z28 Tryz.underlying243 (by intro m h;cases h) v xT w
theorem ta_segs_start(v:Value)(xT:TypeId)(w:World):(Instr.typeAssert (.iface 243 v) xT 155 true).run Tryz.prog w=.ok (.tuple #[.agg #[],.bool false]) w:=z1k Tryz.underlying155 (by intro m h;cases h) (by decide) (by kernel_rfl) v xT w
theorem ta_segs_vecs(v:Value)(xT:TypeId)(w:World):(Instr.typeAssert (.iface 243 v) xT 237 true).run Tryz.prog w=.ok (.tuple #[.pointer none,.bool false]) w:=z1k Tryz.underlying237 (by intro m h;cases h) (by decide) (by kernel_rfl) v xT w
theorem ta_segs_mid(v:Value)(xT:TypeId)(w:World):(Instr.typeAssert (.iface 243 v) xT 241 true).run Tryz.prog w=.ok (.tuple #[.agg #[],.bool false]) w:=z1k Tryz.underlying241 (by intro m h;cases h) (by decide) (by kernel_rfl) v xT w
def NeedW (lm:Lim) (s:WS) (x at' rest:Int):Prop:=
 match s.pt with
 | .vecs _ _ none=>∀st',stepS lm St0 x rest=.ok st'→okV st'.es
 | .vecs _ _ (some st)=>StI st at'∧∀st',stepS lm st x rest=.ok st'→okV st'.es
 | .segs _ turn _ _=>(turn=0∧s.op=none)∨(turn=1∧∃l,s.op=some l)∨(turn=2∧∃z,s.last=some z)
 | _=>True
structure LimW2 (lm:Lim):Prop where
 ve:-9223372036854775808≤lm.ve∧lm.ve≤9223372036854775807
 se:-9223372036854775808≤lm.se∧lm.se≤9223372036854775807
theorem wlim_any(x limit rest:Int)(w:World)(hx:Word x)(hl:-9223372036854775808≤limit∧limit≤9223372036854775807)(hr:-9223372036854775808≤rest∧rest≤9223372036854775807) :
  Calls Tryz.prog 154 #[.int .u64 x,.int .i64 limit,.int .i64 rest] w fun e w'=>e=.returned (.int .i64 (limitC x limit rest))∧w=w':=wlimited_any x limit rest w hx hl hr
theorem TakeP.from{lm:Lim}{base r:Nat}{o:Except (Int×Int) WS}{w w1 w':World}{e:Ending}(h:TakeP lm base r o w1 e w')(hb:Below base w w1):TakeP lm base r o w e w':=⟨hb.trans h.below,h.bad,h.good⟩
structure StepB (s:WS):Prop where
 wsb:WsB s
 us:s.us.length≤4000000000
 items:∀f∈s.k,f.items.length≤4000000000
theorem wtake_any(lm:Lim)(hlm:LimW lm)(hl2:LimW2 lm)(base r:Nat)(s:WS)(x at' rest:Int)(w:World)(hm:MemW w base r lm .nilIface s)(hfin:s.pt.isFin=false)(hx:Word x)(h0:0≤at')(ha:at'≤4000000000)(hr:-9223372036854775808≤rest∧rest≤9223372036854775807)(hg:Laid w)(hb0:0<base)(hB:StepB s)(hN:NeedW lm s x at' rest) :
  Calls Tryz.prog 99 #[.pointer (some ⟨r,0,none⟩),.int .u64 x,.int .i64 at',.int .i64 rest] w fun e w'=>TakeP lm base r (stepW lm s x at' rest) w e w':=by
 obtain⟨pt,k,us,last,op⟩:=s
 cases pt with
 | fin=>cases hfin
 | vecs left fr inner=>
   cases inner with
   | none=>
     obtain⟨pv,kv,m,c,l,hO,⟨hwl,p,ip,rfl,bp,hp⟩,hni⟩:=hm;have c5:w.cell? ⟨r,5,none⟩=some (.iface 237 (.pointer (some ⟨p,0,none⟩))):=hO.rd.c5;have K:=z7 (wvec_start lm hlm base r _ left x at' rest w p ip kv m c l hO bp hwl hni hp h0 ha hx hr hg hb0 hB.wsb hN);have a1:=z5g;have a2:=ta_vecs;clear hO hni hp hB hN hg hlm;go_enter Tryz.func99,Tryz.ntmps99
     go_wp2_with fail
     refine K.out.mono ?_;rintro e w9 hT
     cases hT9:stepW lm ⟨.vecs left fr none,k,us,last,op⟩ x at' rest with
     | error ca=>
       obtain⟨rfl,hrd⟩:=hT.bad ca.1 ca.2 hT9;go_wp2
       go_ret
       exact hT
     | ok s9=>
       obtain⟨rfl,hm⟩:=hT.good s9 hT9;go_wp2
       go_ret
       exact hT
   | some st=>
     obtain⟨wb,p,ri,kv,m,c,l,hV⟩:=hm;have c5:w.cell? ⟨r,5,none⟩=some (.iface 237 (.pointer (some ⟨p,0,none⟩))):=(hV.out.rd.only hV.only (hV.out.ne hV.tp (by decide))).c5;have K:=z7 (wvec_mid lm hlm base r _ left fr st x at' rest w wb p ri kv m c l hV hN.1 ha hx hr hg hb0 hB.wsb hN.2);have a1:=z5g;have a2:=ta_vecs;clear hV hB hN hg hlm;go_enter Tryz.func99,Tryz.ntmps99
     go_wp2_with fail
     refine K.out.mono ?_;rintro e w9 hT
     cases hT9:stepW lm ⟨.vecs left fr (some st),k,us,last,op⟩ x at' rest with
     | error ca=>
       obtain⟨rfl,hrd⟩:=hT.bad ca.1 ca.2 hT9;go_wp2
       go_ret
       exact hT
     | ok s9=>
       obtain⟨rfl,hm⟩:=hT.good s9 hT9;go_wp2
       go_ret
       exact hT
 | segs left turn la touch=>
   obtain⟨pv,kv,m,c,l,hO,⟨hwl,p,rfl,bp,hp⟩,ws,hsx,hbs⟩:=hm;have c5:w.cell? ⟨r,5,none⟩=some (.iface 243 (.pointer (some ⟨p,0,none⟩))):=hO.rd.c5;have K:Hid (Calls Tryz.prog 157 #[.pointer (some ⟨r,0,none⟩),.pointer (some ⟨p,0,none⟩),.int .u64 x,.int .i64 at',.int .i64 rest] w fun e w'=>TakeP lm base r (segS ⟨.segs left turn la touch,k,us,last,op⟩ left turn la touch x at' rest) w e w'):=z7 (by
    rcases hN with⟨rfl,ho⟩ | ⟨rfl,l0,ho⟩ | ⟨rfl,z,hz⟩
    ·exact wseg_lo lm base r _ left la touch x at' rest w p kv m c l hO bp hwl hp ho hx ws hsx hbs
    ·exact wseg_hi lm base r _ left la touch x at' rest l0 w p kv m c l hO bp hwl hp ho hx ws hsx hbs
    ·exact wseg_ix lm base r _ left la touch x at' rest z w p kv m c l hO bp hwl hp hz hx ws hsx hbs hB.wsb.k hB.us hB.items ⟨h0,ha⟩)
   have a1:=ta_segs_start;have a2:=ta_segs_vecs;have a3:=ta_segs_mid;have a4:=ta_segs;clear hO hsx hp hB hN hg hlm;go_enter Tryz.func99,Tryz.ntmps99
   go_wp2_with fail
   refine K.out.mono ?_;rintro e w9 hT
   cases hT9:stepW lm ⟨.segs left turn la touch,k,us,last,op⟩ x at' rest with
   | error ca=>
     obtain⟨rfl,hrd⟩:=hT.bad ca.1 ca.2 hT9;go_wp2
     go_ret
     exact hT
   | ok s9=>
     obtain⟨rfl,hm⟩:=hT.good s9 hT9;go_wp2
     go_ret
     exact hT
 | start=>
   obtain⟨pv,kv,m,c,l,hO,rfl,hni⟩:=hm;have c5:w.cell? ⟨r,5,none⟩=some (.iface 155 (.agg #[])):=hO.rd.c5;have bs:=zw hO;obtain⟨w1,ew1⟩:∃w1,w.alloc (.cells #[] 155)=w1:=⟨_,rfl⟩;have b1:Below w.heap.size w w1:=by rw[← ew1];exact zc (Below.refl _ _) _
   have O1:=z7 (hO.below b1);have B1:=z7 (zq b1 bs:Below base w w1);have c1:=O1.out.rd.c1;have z5:=O1.out.rd.free 5;have NI:=z7 hni;have KL:=z7 (fun W=>wlim_any x lm.ve rest W hx hl2.ve hr);have HX:=z7 hx;have a1:=ta_start;clear hO hB hN hg hlm hl2 b1 hni bs hx;by_cases g:limitC x lm.ve rest=0
   ·rw[g]at KL
    have E1:=z7 (show stepW lm ⟨.start,k,us,last,op⟩ x at' rest=if x=0 then .ok ⟨.mid,k,us,last,op⟩else .ok ⟨.vecs x (-1) none,k,us,last,op⟩from by unfold stepW;simp only;rw[if_neg (by rw[g];decide)];by_cases h:x=0<;>simp[h]);clear g;obtain⟨w2,ew2⟩:∃w2,w1.alloc (.cells #[.int .u64 x,.int .i64 (-1),.pointer none] 240)=w2:=⟨_,rfl⟩;have b2:Below w1.heap.size w1 w2:=by rw[← ew2];exact zc (Below.refl _ _) _
    have P2:=z7 (show w2.heap[w1.heap.size]?=some (.cells #[.int .u64 x,.int .i64 (-1),.pointer none] 240 (0,0)) by rw[← ew2];exact ze _ _ rfl);have O2:=z7 (O1.out.below b2);have B2:=z7 (B1.out.trans (zq b2 (zw O1.out)));have BS1:=z7 (zw O1.out);have z52:=O2.out.rd.free 5;have O3:=z7 (O2.out.part (ptrV 237 w1.heap.size));have o3:Only (fun b=>b=r) w2 (w2.setCell ⟨r,5,none⟩ (ptrV 237 w1.heap.size)):=(Only.refl (fun b=>b=r) w2).setCell (p:=⟨r,5,none⟩) (.inl rfl) _;have P3:=z7 (o3.obj (fun e=>O2.out.ne (show Typed w2 240 w1.heap.size from⟨_,P2.out⟩) (by decide) e.symm) P2.out);have B3:=z7 (B2.out.trans (o3.below (n:=base) (zw O2.out) (fun b hb=>by rw[hb];exact O1.out.br)));have c52:=O2.out.rd.c5;clear b2 o3;by_cases g:x=0
    ·have g0:(x == 0)=true:=by rw[g];rfl
     have E2:=z7 (E1.out.trans (if_pos g));have z53:=O3.out.rd.free 5;have c53:=O3.out.rd.c5;have O4:=z7 (O3.out.part (unitV 241));have B4:=z7 (B3.out.trans (((Only.refl (fun b=>b=r) _).setCell (p:=⟨r,5,none⟩) (.inl rfl) (unitV 241)).below (n:=base) (zw O3.out) (fun b hb=>by rw[hb];exact O1.out.br)));clear E1 g;go_enter Tryz.func99,Tryz.ntmps99
     go_wp2_with fail
     refine(KL.out _).mono ?_;rintro e w5 ⟨rfl,rfl⟩;go_wp2_with fail
     go_ret
     rw[E2.out];exact⟨B4.out,fun c a hc=>(by cases hc),fun s' hs=>(by cases hs;exact⟨rfl,_,_,_,_,_,O4.out.toS rfl rfl rfl rfl,rfl,NI.out⟩)⟩
    ·have g0:(x == 0)=false:=by simpa using g
     have E2:=z7 (E1.out.trans (if_neg g));have HG:=z7 g;clear E1 g;go_enter Tryz.func99,Tryz.ntmps99
     go_wp2_with fail
     refine(KL.out _).mono ?_;rintro e w5 ⟨rfl,rfl⟩;go_wp2_with fail
     go_ret
     rw[E2.out];exact⟨B3.out,fun c a hc=>(by cases hc),fun s' hs=>(by cases hs;exact⟨rfl,_,_,_,_,_,O3.out.toS rfl rfl rfl rfl,⟨⟨HX.out,by have:=HX.out.1;have:=HG.out;omega⟩,_,_,rfl,BS1.out,P3.out⟩,NI.out⟩)⟩
   ·have E1:=z7 (show stepW lm ⟨.start,k,us,last,op⟩ x at' rest=.error (limitC x lm.ve rest,at')from by unfold stepW;simp only;rw[if_pos g])
    obtain⟨lc,elc⟩:∃lc,limitC x lm.ve rest=lc:=⟨_,rfl⟩;rw[elc]at g KL E1;clear elc;have KN:=z7 (fun W=>z17 lc at' g W);have g2:(lc == 0)=false:=by simpa using g
    clear g;go_enter Tryz.func99,Tryz.ntmps99
    go_wp2_with fail
    refine(KL.out _).mono ?_;rintro e w5 ⟨rfl,rfl⟩;go_wp2_with fail
    refine(KN.out _).mono ?_;rintro e w5 ⟨rfl,rfl⟩;go_wp2
    go_ret
    rw[E1.out];exact⟨B1.out,fun c a hc=>(by cases hc;exact⟨rfl,_,_,_,_,O1.out.rd⟩),fun s' hs=>(by cases hs)⟩
 | mid=>
   obtain⟨pv,kv,m,c,l,hO,rfl,hni⟩:=hm;have c5:w.cell? ⟨r,5,none⟩=some (.iface 241 (.agg #[])):=hO.rd.c5;have bs:=zw hO;obtain⟨w1,ew1⟩:∃w1,w.alloc (.cells #[] 241)=w1:=⟨_,rfl⟩;have b1:Below w.heap.size w w1:=by rw[← ew1];exact zc (Below.refl _ _) _
   have O1:=z7 (hO.below b1);have B1:=z7 (zq b1 bs:Below base w w1);have c4:=O1.out.rd.c4;have z5:=O1.out.rd.free 5;have NI:=z7 hni;have KL:=z7 (fun W=>wlim_any x lm.se rest W hx hl2.se hr);have HX:=z7 hx;have a1:=ta_mid_start;have a2:=ta_mid_vecs;have a3:=ta_mid;clear hO hB hN hg hlm hl2 b1 hni bs hx;by_cases g:limitC x lm.se rest=0
   ·rw[g]at KL
    have E1:=z7 (show stepW lm ⟨.mid,k,us,last,op⟩ x at' rest=if x=0 then finishS ⟨.mid,k,us,last,op⟩ (at'+sizeV x) rest else .ok ⟨.segs x 0 0 false,k,us,last,op⟩from by unfold stepW;simp only;rw[if_neg (by rw[g];decide)]);clear g;obtain⟨w2,ew2⟩:∃w2,w1.alloc (.cells #[.int .u64 x,.int .i64 0,.int .i64 0,.bool false] 245)=w2:=⟨_,rfl⟩;have b2:Below w1.heap.size w1 w2:=by rw[← ew2];exact zc (Below.refl _ _) _
    have P2:=z7 (show SgC w2 w1.heap.size x 0 0 false by rw[← ew2];exact ze _ _ rfl);have O2:=z7 (O1.out.below b2);have B2:=z7 (B1.out.trans (zq b2 (zw O1.out)));have BS1:=z7 (zw O1.out);have z52:=O2.out.rd.free 5;have O3:=z7 (O2.out.part (ptrV 243 w1.heap.size));have o3:Only (fun b=>b=r) w2 (w2.setCell ⟨r,5,none⟩ (ptrV 243 w1.heap.size)):=(Only.refl (fun b=>b=r) w2).setCell (p:=⟨r,5,none⟩) (.inl rfl) _;have P3:=z7 (P2.out.only o3 (fun e=>O2.out.ne P2.out.typed (by decide) e.symm));have B3:=z7 (B2.out.trans (o3.below (n:=base) (zw O2.out) (fun b hb=>by rw[hb];exact O1.out.br)));have c52:=O2.out.rd.c5;clear b2 o3;by_cases g:x=0
    ·have KS:=z7 (fun W=>size_any x W HX.out)
     obtain⟨sz,esz⟩:∃sz,(vb 10 x).length=sz:=⟨_,rfl⟩;have hsz:sz≤10:=by rw[← esz];exact z4a 10 _
     have ESZ:=z7 (show sizeV x=sz from by unfold sizeV;rw[esz]);have aw:IntKind.i64.wrap (at'+sz)=at'+sz:=IntWalk.i64_in _ (by omega);rw[esz]at KS;clear esz;have g0:(x == 0)=true:=by rw[g];rfl
     have E2:=z7 (E1.out.trans (if_pos g));have KF:=z7 (wfin_any lm base r _ _ _ _ _ _ (at'+sz) rest _ O3.out);clear E1 g;go_enter Tryz.func99,Tryz.ntmps99
     go_wp2_with fail
     refine(KL.out _).mono ?_;rintro e w5 ⟨rfl,rfl⟩;go_wp2_with fail
     refine(KS.out _).mono ?_;rintro e w8 ⟨rfl,rfl⟩;go_wp2_with fail
     refine KF.out.mono ?_;rintro e w9 hT;have hT:=hT.from B3.out
     cases hT9:finishS ⟨.mid,k,us,last,op⟩ (at'+sz) rest with
     | error ca=>
       obtain⟨rfl,hrd⟩:=hT.bad ca.1 ca.2 hT9;go_wp2
       go_ret
       rw[E2.out,ESZ.out];exact hT
     | ok s9=>
       obtain⟨rfl,hm⟩:=hT.good s9 hT9;go_wp2
       go_ret
       rw[E2.out,ESZ.out];exact hT
    ·have g0:(x == 0)=false:=by simpa using g
     have E2:=z7 (E1.out.trans (if_neg g));have HG:=z7 g;clear E1 g;go_enter Tryz.func99,Tryz.ntmps99
     go_wp2_with fail
     refine(KL.out _).mono ?_;rintro e w5 ⟨rfl,rfl⟩;go_wp2_with fail
     go_ret
     rw[E2.out];exact⟨B3.out,fun c a hc=>(by cases hc),fun s' hs=>(by cases hs;exact⟨rfl,_,_,_,_,_,O3.out.toS rfl rfl rfl rfl,⟨⟨HX.out,by have:=HX.out.1;have:=HG.out;omega⟩,_,rfl,BS1.out,P3.out⟩,_,SegX.start O3.out.row NI.out,zw O3.out⟩)⟩
   ·have E1:=z7 (show stepW lm ⟨.mid,k,us,last,op⟩ x at' rest=.error (limitC x lm.se rest,at')from by unfold stepW;simp only;rw[if_pos g])
    obtain⟨lc,elc⟩:∃lc,limitC x lm.se rest=lc:=⟨_,rfl⟩;rw[elc]at g KL E1;clear elc;have KN:=z7 (fun W=>z17 lc at' g W);have g2:(lc == 0)=false:=by simpa using g
    clear g;go_enter Tryz.func99,Tryz.ntmps99
    go_wp2_with fail
    refine(KL.out _).mono ?_;rintro e w5 ⟨rfl,rfl⟩;go_wp2_with fail
    refine(KN.out _).mono ?_;rintro e w5 ⟨rfl,rfl⟩;go_wp2
    go_ret
    rw[E1.out];exact⟨B1.out,fun c a hc=>(by cases hc;exact⟨rfl,_,_,_,_,O1.out.rd⟩),fun s' hs=>(by cases hs)⟩
theorem setCell_id{w:World}{r j:Nat}{v:Value}{cs:Array Value}{T:TypeId}{z:Nat×Nat}(h:w.heap[r]?=some (.cells cs T z))(hj:cs[j]?=some v):w.setCell ⟨r,j,none⟩ v=w:=by
 have hl:j<cs.size:=by
  rcases Nat.lt_or_ge j cs.size with g | g
  ·exact g
  ·rw[Array.getElem?_eq_none (by omega)]at hj;cases hj
 have e:∀f:Obj→Obj,f (.cells cs T z)=.cells cs T z→w.heap.modify r f=w.heap:=fun f hf=>by
  apply Array.ext_getElem?
  intro i;rw[Array.getElem?_modify];split
  ·rename_i e;subst e;rw[h];simp[hf]
  ·rfl
 unfold World.setCell;rw[e];simp only[Option.isSome_none,Bool.false_eq_true,if_false];congr 1
 apply Array.ext_getElem?
 intro i;rw[Array.getElem?_setIfInBounds];split
 ·rename_i e;subst e;exact hj.symm
 ·rfl
def PvOk (pt:Pt) (t:TypeId) (v:Value):Prop:=(pt.isFin=true→t=168∧v=.agg #[])∧(pt.isFin=false→t≠168)
theorem MemW.rd{w:World}{base r:Nat}{lm:Lim}{er:Value}{s:WS}(h:MemW w base r lm er s):∃t v kv m c,RdW w r lm (.iface t v) kv m c er∧PvOk s.pt t v∧base≤r:=by
 obtain⟨pt,k,us,last,op⟩:=s
 cases pt with
 | fin=>
   obtain⟨pv,kv,m,c,l,hO,rfl,_⟩:=h;exact⟨_,_,_,_,_,hO.rd,⟨fun _=>⟨rfl,rfl⟩,(fun h=>by cases h)⟩,hO.br⟩
 | start=>
   obtain⟨pv,kv,m,c,l,hO,rfl,_⟩:=h;exact⟨_,_,_,_,_,hO.rd,⟨(fun h=>by cases h),fun _=>by decide⟩,hO.br⟩
 | mid=>
   obtain⟨pv,kv,m,c,l,hO,rfl,_⟩:=h;exact⟨_,_,_,_,_,hO.rd,⟨(fun h=>by cases h),fun _=>by decide⟩,hO.br⟩
 | segs left turn la touch=>
   obtain⟨pv,kv,m,c,l,hO,⟨_,p,rfl,_⟩,_⟩:=h;exact⟨_,_,_,_,_,hO.rd,⟨(fun h=>by cases h),fun _=>by decide⟩,hO.br⟩
 | vecs left fr inner=>
   cases inner with
   | none=>
     obtain⟨pv,kv,m,c,l,hO,⟨_,p,ip,rfl,_⟩,_⟩:=h;exact⟨_,_,_,_,_,hO.rd,⟨(fun h=>by cases h),fun _=>by decide⟩,hO.br⟩
   | some st=>
     obtain⟨wb,p,ri,kv,m,c,l,hV⟩:=h;exact⟨_,_,_,_,_,hV.out.rd.only hV.only (hV.out.ne hV.tp (by decide)),⟨(fun h=>by cases h),fun _=>by decide⟩,hV.out.br⟩
theorem run_eqI(t:TypeId)(v:Value)(h:t≠168)(w:World):(binOp .eql 160 (.iface t v) (.iface 168 (.agg #[]))).run Tryz.prog w=.ok (.bool false) w:=run_eql_iface_types t _ v _ Tryz.underlying160 h w
theorem run_neI(t:TypeId)(v:Value)(h:t≠168)(w:World):(binOp .neq 160 (.iface t v) (.iface 168 (.agg #[]))).run Tryz.prog w=.ok (.bool true) w:=by
 have h:∀d:Nat,(Op.equalIn (d+1) 160 (.iface t v) (.iface 168 (.agg #[]))).run Tryz.prog w=.ok false w:=fun d=>by simp[Op.equalIn,run_underlying Tryz.underlying160,h]
 simp only[binOp];simp[Op.equal,Op.maxDepth,h 9999]
theorem run_eqE(w:World):(binOp .eql 160 (.iface 168 (.agg #[])) (.iface 168 (.agg #[]))).run Tryz.prog w=.ok (.bool true) w:=by
 have hc:(Tryz.prog.info? 168).map (·.comparable)=some true:=by kernel_rfl
 cases hi:Tryz.prog.info? 168 with
 | none=>simp[hi]at hc
 | some i=>
 have hcc:i.comparable=true:=by simpa[hi]using hc
 have h1:∀d:Nat,(Op.equalIn (d+1) 168 (.agg #[]) (.agg #[])).run Tryz.prog w=.ok true w:=fun d=>by simp[Op.equalIn,run_underlying Tryz.underlying168]
 have h:∀d:Nat,(Op.equalIn (d+2) 160 (.iface 168 (.agg #[])) (.iface 168 (.agg #[]))).run Tryz.prog w=.ok true w:=fun d=>by
  have h1:=h1 d;simp[Op.equalIn,run_underlying Tryz.underlying160,typeInfo,hi,hcc,run_underlying Tryz.underlying168]
 simp only[binOp];simp[Op.equal,Op.maxDepth,h 9998]
theorem MemW.below{w w':World}{base r:Nat}{lm:Lim}{er:Value}{s:WS}(h:MemW w base r lm er s)(hb:Below w.heap.size w w'):MemW w' base r lm er s:=by
 obtain⟨pt,k,us,last,op⟩:=s
 cases pt with
 | fin=>
   obtain⟨pv,kv,m,c,l,hO,hp,_⟩:=h;exact⟨_,_,_,_,_,hO.below hb,hp,trivial⟩
 | start=>
   obtain⟨pv,kv,m,c,l,hO,hp,hn⟩:=h;exact⟨_,_,_,_,_,hO.below hb,hp,hn⟩
 | mid=>
   obtain⟨pv,kv,m,c,l,hO,hp,hn⟩:=h;exact⟨_,_,_,_,_,hO.below hb,hp,hn⟩
 | segs left turn la touch=>
   obtain⟨pv,kv,m,c,l,hO,⟨hw,p,rfl,bp,hp⟩,ws,hsx,hbs⟩:=h;exact⟨_,_,_,_,_,hO.below hb,⟨hw,p,rfl,bp,(hb.block p (zh hp)).trans hp⟩,ws,hsx.below hb,hbs⟩
 | vecs left fr inner=>
   cases inner with
   | none=>
     obtain⟨pv,kv,m,c,l,hO,⟨hw,p,ip,rfl,bp,hp⟩,hn⟩:=h;exact⟨_,_,_,_,_,hO.below hb,⟨hw,p,ip,rfl,bp,(hb.block p (zh hp)).trans hp⟩,hn⟩
   | some st=>
     obtain⟨wb,p,ri,kv,m,c,l,hV⟩:=h;exact⟨wb,p,ri,kv,m,c,l,hV.out,hV.bp,hV.tp,hV.only.belowN (hb.mono hV.only.size),(hb.block p (zh hV.cell)).trans hV.cell,hV.wl,hV.fr0,hV.inner.only (may:=fun _=>False) (Only.of_below hb) (fun _ h=>h.elim),hV.bw,hV.ni⟩
structure PutP (lm:Lim) (base r:Nat) (o:Except (Int×Int) WS) (w:World) (e:Ending) (w':World):Prop where
 below:Below base w w'
 bad:∀c a,o=.error (c,a)→e=.returned (.tuple #[.bool true,.iface 107 (.agg #[.int .i64 c,.int .i64 a])])∧∃pv kv m c',RdW w' r lm pv kv m c' (.iface 107 (.agg #[.int .i64 c,.int .i64 a]))
 good:∀s',o=.ok s'→e=.returned (.tuple #[.bool s'.pt.isFin,.nilIface])∧MemW w' base r lm .nilIface s'
theorem wput_any(lm:Lim)(hlm:LimW lm)(hl2:LimW2 lm)(base r:Nat)(s:WS)(x at' rest:Int)(w:World)(hm:MemW w base r lm .nilIface s)(hfin:s.pt.isFin=false)(hx:Word x)(h0:0≤at')(ha:at'≤4000000000)(hr:-9223372036854775808≤rest∧rest≤9223372036854775807)(hg:Laid w)(hb0:0<base)(hB:StepB s)(hN:NeedW lm s x at' rest) :
  Calls Tryz.prog 55 #[.pointer (some ⟨r,0,none⟩),.int .u64 x,.int .i64 at',.int .i64 rest] w fun e w'=>PutP lm base r (stepW lm s x at' rest) w e w':=by
 have hmx:Tryz.prog.follows .mixedOrders=true:=by kernel_rfl
 have K:=z7 (wtake_any lm hlm hl2 base r s x at' rest w hm hfin hx h0 ha hr hg hb0 hB hN);obtain⟨t,v,kv,m,c,hrd,hpv,hbr⟩:=hm.rd;have n1:=run_neI t v (hpv.2 hfin);have c9:=hrd.c9;have c5:=hrd.c5;have HBR:=z7 hbr;clear hm hN hB hlm hl2 hg hrd hpv hbr;go_enter Tryz.func55,Tryz.ntmps55
 go_wp2_with fail
 refine K.out.mono ?_;rintro e w1 hT;have HT:=z7 hT
 cases hT9:stepW lm s x at' rest with
 | error ca=>
   obtain⟨cc,aa⟩:=ca;obtain⟨rfl,pv1,kv1,m1,c1,hrd⟩:=hT.bad cc aa hT9;have z9:=hrd.free 9;have c91:=hrd.c9;have R2:=hrd.s9 (.iface 107 (.agg #[.int .i64 cc,.int .i64 aa]));have c92:=R2.c9;have ho:Only (fun b=>b=r) w1 (w1.setCell ⟨r,9,none⟩ (.iface 107 (.agg #[.int .i64 cc,.int .i64 aa]))):=(Only.refl (fun b=>b=r) w1).setCell (p:=⟨r,9,none⟩) (.inl rfl) _;have HO:=z7 ho;have HR2:=z7 R2;have HLT:=z7 hrd.lt;clear hT hrd R2 ho;go_wp2_with fail
   go_quiet (fail)
   go_wp2_with fail
   go_ret2
   exact⟨HT.out.below.trans ((HO.out.drewN _).below (n:=base) (by have:=HBR.out;have:=HLT.out;omega) (fun b hb=>by rw[hb];exact HBR.out)),fun c a hc=>(by rw[hT9]at hc;cases hc;exact⟨rfl,_,_,_,_,HR2.out.only ((Only.refl (fun _=>False) _).drewN _) (fun h=>h)⟩),fun s' hs=>(by rw[hT9]at hs;cases hs)⟩
 | ok s9=>
   obtain⟨rfl,hm9⟩:=hT.good s9 hT9;obtain⟨t9,v9,kv9,m9,c9',hrd,hpv,_⟩:=hm9.rd;have HM9:=z7 hm9;have HLT:=z7 (show base≤w1.heap.size from by have:=hrd.lt;have:=HBR.out;omega);have z9:=hrd.free 9;have c91:=hrd.c9;have c51:=hrd.c5;have sid:w1.setCell ⟨r,9,none⟩ .nilIface=w1:=setCell_id hrd rfl;clear hT hrd hm9
   cases hf:s9.pt.isFin with
   | true=>
     obtain⟨rfl,rfl⟩:=hpv.1 hf;have n2:=run_eqE;go_wp2_with fail
     go_quiet (fail)
     go_wp2_with fail
     go_ret2
     have hd:=fun q=>zm (Below.refl w1.heap.size w1) q;exact⟨HT.out.below.trans (zq (hd _) HLT.out),fun c a hc=>(by rw[hT9]at hc;cases hc),fun s' hs=>(by rw[hT9]at hs;cases hs;rw[hf];exact⟨rfl,HM9.out.below (hd _)⟩)⟩
   | false=>
     have n2:=run_eqI t9 v9 (hpv.2 hf);go_wp2_with fail
     go_quiet (fail)
     go_wp2_with fail
     go_ret2
     have hd:=fun q=>zm (Below.refl w1.heap.size w1) q;exact⟨HT.out.below.trans (zq (hd _) HLT.out),fun c a hc=>(by rw[hT9]at hc;cases hc),fun s' hs=>(by rw[hT9]at hs;cases hs;rw[hf];exact⟨rfl,HM9.out.below (hd _)⟩)⟩
def limV (lm:Lim):Value:=.agg #[.int .i64 lm.f,.int .i64 lm.ve,.int .i64 lm.en,.int .i64 lm.ho,.int .i64 lm.se]
theorem run_mkmap(w:World):(Instr.makeMap 156 none).run Tryz.prog w=.ok (.map (some w.heap.size)) (w.alloc (.map #[] 0)):=by
 simp[Instr.makeMap,run_underlying Tryz.underlying156,go_sem]
theorem run_neE(w:World):(binOp .neq 160 (.iface 168 (.agg #[])) (.iface 168 (.agg #[]))).run Tryz.prog w=.ok (.bool false) w:=by
 have hc:(Tryz.prog.info? 168).map (·.comparable)=some true:=by kernel_rfl
 cases hi:Tryz.prog.info? 168 with
 | none=>simp[hi]at hc
 | some i=>
 have hcc:i.comparable=true:=by simpa[hi]using hc
 have h:∀d:Nat,(Op.equalIn (d+2) 160 (.iface 168 (.agg #[])) (.iface 168 (.agg #[]))).run Tryz.prog w=.ok true w:=fun d=>by
  simp[Op.equalIn,run_underlying Tryz.underlying160,typeInfo,hi,hcc,run_underlying Tryz.underlying168]
 simp only[binOp];simp[Op.equal,Op.maxDepth,h 9998]
theorem begin_mem{w':World}{base r:Nat}{lm:Lim}{m c:Nat}(hb:base≤r)(hbm:base≤m)(hbc:base≤c)(hr:RdW w' r lm (unitV 155) (.slice none 0 0) m c .nilIface)(hm:UsedR w' m [])(hc:CurAt w' c 0 0 0 0 false false 153):MemW w' base r lm .nilIface WS0:=
 ⟨_,_,m,c,[],⟨hb,hr,⟨World.ownsRow_nil _ _ _ _,by simp⟩,rfl,hm,⟨0,0,0,_,hc,(fun l hl=>by cases hl),fun _=>rfl,fun z hz=>by cases hz⟩,hbm,hbc⟩,rfl,by intro f hf;simp at hf⟩
theorem wbegin_any(lm:Lim)(base:Nat)(w:World)(hbase:base≤w.heap.size) :
  Calls Tryz.prog 53 #[.agg #[.int .i64 lm.f,.int .i64 lm.ve,.int .i64 lm.en,.int .i64 lm.ho,.int .i64 lm.se]] w fun e w'=>∃r,e=.returned (.pointer (some ⟨r,0,none⟩))∧w.heap.size≤r∧MemW w' base r lm .nilIface WS0∧Below w.heap.size w w':=by
 have hmx:Tryz.prog.follows .mixedOrders=true:=by kernel_rfl
 have KC:=z7 (fun W=>start_any 0 W);have HBASE:=z7 hbase;clear hbase;go_enter Tryz.func53,Tryz.ntmps53
 go_wp2_with fail
 obtain⟨w1,ew1⟩:∃w1,w.alloc (.cells #[.int .i64 lm.f,.int .i64 lm.ve,.int .i64 lm.en,.int .i64 lm.ho,.int .i64 lm.se] 38)=w1:=⟨_,rfl⟩;have b1:Below w.heap.size w w1:=by rw[← ew1];exact zc (Below.refl _ _) _
 have q1:w1.heap[w.heap.size]?=some (.cells #[.int .i64 lm.f,.int .i64 lm.ve,.int .i64 lm.en,.int .i64 lm.ho,.int .i64 lm.se] 38 (0,0)):=by rw[← ew1];exact ze _ _ rfl
 rw[ew1];have B1:=z7 b1;have l0:w1.cell? ⟨w.heap.size,0,none⟩=some (.int .i64 lm.f):=by simp[World.cell?,q1]
 have l1:w1.cell? ⟨w.heap.size,1,none⟩=some (.int .i64 lm.ve):=by simp[World.cell?,q1]
 have l2:w1.cell? ⟨w.heap.size,2,none⟩=some (.int .i64 lm.en):=by simp[World.cell?,q1]
 have l3:w1.cell? ⟨w.heap.size,3,none⟩=some (.int .i64 lm.ho):=by simp[World.cell?,q1]
 have l4:w1.cell? ⟨w.heap.size,4,none⟩=some (.int .i64 lm.se):=by simp[World.cell?,q1]
 clear ew1 b1 q1;refine wp_region_held_drew (S:=Only (fun _=>False) w1) hmx (Only.refl _ _).drew (fun hS=>?_);obtain⟨wd,ewd⟩:∃wd,w1.drew=wd:=⟨_,rfl⟩;rw[ewd]at hS ⊢;clear ewd;refine tkd (i:=0) (d:=some 3) (v:=(.agg #[.int .i64 lm.f,.int .i64 lm.ve,.int .i64 lm.en,.int .i64 lm.ho,.int .i64 lm.se])) (hy:=.inl ⟨by rfl,?_⟩) (h:=?_)
 ·intro X hX;have x0:=hX.cell (fun h=>h) l0;have x1:=hX.cell (fun h=>h) l1;have x2:=hX.cell (fun h=>h) l2;have x3:=hX.cell (fun h=>h) l3;have x4:=hX.cell (fun h=>h) l4;go_simp
 refine tkd (i:=1) (d:=some 4) (v:=(.agg #[])) (hy:=.inl ⟨by rfl,?_⟩) (h:=?_)
 ·intro X hX;go_simp
 refine tkd (i:=2) (d:=some 5) (v:=(.iface 155 (.agg #[]))) (hy:=.inl ⟨by rfl,?_⟩) (h:=?_)
 ·intro X hX;go_simp
 refine wpAnyH_ready (rs:=[3,4]) (by kernel_rfl) (by simp) ?_;refine AllReadyH.cons (o:=_) rfl (fun K hK=>?_) (AllReadyH.cons (o:=_) rfl (fun K hK=>?_) AllReadyH.nil)
 ·have hS2:=hS.alloc (.map #[] 0)
  go_simp
  refine hK.out _ _ hS2 (fun _=>?_);clear hK K;refine wpAnyH_ready (rs:=[4]) (by kernel_rfl) (by simp) ?_;refine AllReadyH.cons (o:=_) rfl (fun K hK=>?_) AllReadyH.nil;go_simp
  refine(KC.out _).mono ?_;rintro e w3 ⟨rfl,hc,hb3⟩;obtain⟨m,em⟩:∃m,wd.heap.size=m:=⟨_,rfl⟩;obtain⟨c,ec⟩:∃c,(wd.alloc (.map #[] 0)).heap.size=c:=⟨_,rfl⟩;have hu:=(UsedR.made wd).at (hb3.block wd.heap.size (by simp));have hmc:m≤c:=by rw[← em,← ec];simp
  rw[em]at hu;rw[ec]at hc;have hS3:=hS2.trans (Only.of_below hb3);rw[em,ec];have hwm:w1.heap.size≤m:=by rw[← em];exact hS.size
  clear hb3 hS2 hS em ec;go_simp
  refine hK.out _ _ hS3 (fun _=>?_);clear hK K;refine tkd (i:=5) (d:=some 8) (v:=(.agg #[.int .i64 lm.f,.int .i64 lm.ve,.int .i64 lm.en,.int .i64 lm.ho,.int .i64 lm.se,.iface 155 (.agg #[]),.slice none 0 0,.map (some m),.pointer (some ⟨c,0,none⟩),.nilIface])) (hy:=.inl ⟨by rfl,?_⟩) (h:=?_)
  ·intro X hX;go_simp
  refine wpAnyH_ready (rs:=[6]) (by kernel_rfl) (by simp) ?_;refine AllReadyH.cons (o:=_) rfl (fun K hK=>?_) AllReadyH.nil;obtain⟨w5,ew5⟩:∃w5,w3.alloc (.cells #[.int .i64 lm.f,.int .i64 lm.ve,.int .i64 lm.en,.int .i64 lm.ho,.int .i64 lm.se,.iface 155 (.agg #[]),.slice none 0 0,.map (some m),.pointer (some ⟨c,0,none⟩),.nilIface] 162)=w5:=⟨_,rfl⟩;have hr:RdW w5 w3.heap.size lm (unitV 155) (.slice none 0 0) m c .nilIface:=by rw[← ew5];exact ze _ _ rfl
  have hc5:=(show CurAt w5 c 0 0 0 0 false false 153 from by rw[← ew5];exact zk w3 _ (zh hc) hc);have hu5:UsedR w5 m []:=hu.at (by rw[← ew5];exact(zc (Below.refl w3.heap.size w3) _).block m hu.lt);have hS5:=hS3.alloc (.cells #[.int .i64 lm.f,.int .i64 lm.ve,.int .i64 lm.en,.int .i64 lm.ho,.int .i64 lm.se,.iface 155 (.agg #[]),.slice none 0 0,.map (some m),.pointer (some ⟨c,0,none⟩),.nilIface] 162);rw[ew5]at hS5;have hsz:=hS3.size;go_simp
  refine hK.out _ _ hS5 (fun _=>?_);clear hK K;refine tkd (i:=7) (d:=some 2) (v:=(.pointer (some ⟨w3.heap.size,0,none⟩))) (hy:=.inl ⟨by rfl,?_⟩) (h:=?_)
  ·intro X hX;go_simp
  refine wpAnyH_done (by kernel_rfl) ?_ _;have hB:=B1.out.trans (hS5.below (n:=w.heap.size) B1.out.size (fun _ h=>h.elim));have hs1:=B1.out.size;have hb0:=HBASE.out;have hcl:=Nat.le_refl c;clear hS3 hS5;go_wp2
  go_ret
  exact⟨_,rfl,by omega,begin_mem (by omega) (by omega) (by omega) hr hu5 hc5,hB⟩
 ·go_simp
  refine(KC.out _).mono ?_;rintro e w3 ⟨rfl,hc,hb3⟩;obtain⟨c,ec⟩:∃c,wd.heap.size=c:=⟨_,rfl⟩;have hwm:=z7 (Nat.le_trans hS.size hb3.size);have hmc:w1.heap.size≤c:=by rw[← ec];exact hS.size
  have hS2:=hS.trans (Only.of_below hb3);rw[ec]at hc ⊢;clear hb3 hS ec;go_simp
  refine hK.out _ _ hS2 (fun _=>?_);clear hK K;refine wpAnyH_ready (rs:=[3]) (by kernel_rfl) (by simp) ?_;refine AllReadyH.cons (o:=_) rfl (fun K hK=>?_) AllReadyH.nil;have mk:=run_mkmap w3;go_simp
  clear mk;have hwm:=hwm.out;obtain⟨m,em⟩:∃m,w3.heap.size=m:=⟨_,rfl⟩;obtain⟨w4,ew4⟩:∃w4,w3.alloc (.map #[] 0)=w4:=⟨_,rfl⟩;have hu:UsedR w4 m []:=by rw[← ew4,← em];exact UsedR.made w3
  have hc:=(show CurAt w4 c 0 0 0 0 false false 153 from by rw[← ew4];exact zk w3 _ (zh hc) hc);have hS3:=hS2.alloc (.map #[] 0);rw[ew4]at hS3;rw[em]at hwm;rw[ew4,em];clear hS2 ew4 em;refine hK.out _ _ hS3 (fun _=>?_);clear hK K;refine tkd (i:=5) (d:=some 8) (v:=(.agg #[.int .i64 lm.f,.int .i64 lm.ve,.int .i64 lm.en,.int .i64 lm.ho,.int .i64 lm.se,.iface 155 (.agg #[]),.slice none 0 0,.map (some m),.pointer (some ⟨c,0,none⟩),.nilIface])) (hy:=.inl ⟨by rfl,?_⟩) (h:=?_)
  ·intro X hX;go_simp
  refine wpAnyH_ready (rs:=[6]) (by kernel_rfl) (by simp) ?_;refine AllReadyH.cons (o:=_) rfl (fun K hK=>?_) AllReadyH.nil;obtain⟨w5,ew5⟩:∃w5,w4.alloc (.cells #[.int .i64 lm.f,.int .i64 lm.ve,.int .i64 lm.en,.int .i64 lm.ho,.int .i64 lm.se,.iface 155 (.agg #[]),.slice none 0 0,.map (some m),.pointer (some ⟨c,0,none⟩),.nilIface] 162)=w5:=⟨_,rfl⟩;have hr:RdW w5 w4.heap.size lm (unitV 155) (.slice none 0 0) m c .nilIface:=by rw[← ew5];exact ze _ _ rfl
  have hc5:=(show CurAt w5 c 0 0 0 0 false false 153 from by rw[← ew5];exact zk w4 _ (zh hc) hc);have hu5:UsedR w5 m []:=hu.at (by rw[← ew5];exact(zc (Below.refl w4.heap.size w4) _).block m hu.lt);have hS5:=hS3.alloc (.cells #[.int .i64 lm.f,.int .i64 lm.ve,.int .i64 lm.en,.int .i64 lm.ho,.int .i64 lm.se,.iface 155 (.agg #[]),.slice none 0 0,.map (some m),.pointer (some ⟨c,0,none⟩),.nilIface] 162);rw[ew5]at hS5;have hsz:=hS3.size;go_simp
  refine hK.out _ _ hS5 (fun _=>?_);clear hK K;refine tkd (i:=7) (d:=some 2) (v:=(.pointer (some ⟨w4.heap.size,0,none⟩))) (hy:=.inl ⟨by rfl,?_⟩) (h:=?_)
  ·intro X hX;go_simp
  refine wpAnyH_done (by kernel_rfl) ?_ _;have hB:=B1.out.trans (hS5.below (n:=w.heap.size) B1.out.size (fun _ h=>h.elim));have hs1:=B1.out.size;have hb0:=HBASE.out;have hcl:=Nat.le_refl c;clear hS3 hS5;go_wp2
  go_ret
  exact⟨_,rfl,by omega,begin_mem (by omega) (by omega) (by omega) hr hu5 hc5,hB⟩
theorem wknow_fin(lm:Lim)(base r:Nat)(s:WS)(w:World)(hm:MemW w base r lm .nilIface s)(hf:s.pt=.fin) :
  Calls Tryz.prog 56 #[.pointer (some ⟨r,0,none⟩)] w fun e w'=>∃kv,e=.returned kv∧∃l,KRow w' base kv l∧l.map FV.frag=s.k∧Below w.heap.size w w':=by
 obtain⟨pt,k,us,last,op⟩:=s;obtain rfl:pt=.fin:=hf;obtain⟨pv,kv,m,c,l,hO,rfl,_⟩:=hm;obtain⟨ak,ck,ekv,_⟩:=zl hO.row.row;subst ekv;have n2:=run_neE;have c9:=hO.rd.c9;have c5:w.cell? ⟨r,5,none⟩=some (.iface 168 (.agg #[])):=hO.rd.c5;have HR:=z7 hO.row;have HF:=z7 hO.frags;obtain⟨n,en⟩:∃n,l.length=n:=⟨_,rfl⟩;have c6:=hO.rd.c6;rw[en]at c6;have EN:=z7 en;clear hO en;go_enter Tryz.func56,Tryz.ntmps56
 go_wp2
 go_ret
 rw[← EN.out];exact⟨_,rfl,l,HR.out,HF.out,Below.refl _ _⟩
theorem wknow_bad(lm:Lim)(r:Nat)(t:TypeId)(v pv kv:Value)(m c:Nat)(w:World)(hr:RdW w r lm pv kv m c (.iface t v)) :
  Calls Tryz.prog 56 #[.pointer (some ⟨r,0,none⟩)] w fun e w'=>e=.returned (.slice none 0 0)∧Below w.heap.size w w':=by
 have c9:=hr.c9;clear hr;go_enter Tryz.func56,Tryz.ntmps56
 go_wp2
 go_ret
 exact⟨rfl,Below.refl _ _⟩
inductive RunW (lm:Lim) (d:Int) (zs:List Int):WS→Int→Except (Int×Int) (List Frag)→Prop where
 | rd {s:WS} {a c:Int}:Rd zs a (.error c)→RunW lm d zs s a (.error (c,d+a))
 | stop {s:WS} {a x n c b:Int}:Rd zs a (.ok (x,n))→StepB s→NeedW lm s x (d+a) (zs.length-n)→stepW lm s x (d+a) (zs.length-n)=.error (c,b)→RunW lm d zs s a (.error (c,b))
 | fin {s s':WS} {a x n:Int}:Rd zs a (.ok (x,n))→StepB s→NeedW lm s x (d+a) (zs.length-n)→stepW lm s x (d+a) (zs.length-n)=.ok s'→s'.pt.isFin=true→RunW lm d zs s a (.ok s'.k)
 | next {s s':WS} {a x n:Int} {o:Except (Int×Int) (List Frag)}:Rd zs a (.ok (x,n))→StepB s→NeedW lm s x (d+a) (zs.length-n)→stepW lm s x (d+a) (zs.length-n)=.ok s'→s'.pt.isFin=false→RunW lm d zs s' n o→RunW lm d zs s a o
def RunC (lm:Lim) (d b:Int) (zs:List Int) (s:WS) (a:Int) (o:Except (Int×Int) (List Frag)):Prop:=
 (∃c,Rd zs a (.error c)∧o=.error (c,b))∨(∃x n,Rd zs a (.ok (x,n))∧StepB s∧NeedW lm s x b (zs.length-n) ∧
    ((∃c b',stepW lm s x b (zs.length-n)=.error (c,b')∧o=.error (c,b'))∨(∃s',stepW lm s x b (zs.length-n)=.ok s'∧s'.pt.isFin=true∧o=.ok s'.k)∨(∃s',stepW lm s x b (zs.length-n)=.ok s'∧s'.pt.isFin=false∧RunW lm d zs s' n o)))
theorem runW_cases{lm:Lim}{d:Int}{zs:List Int}{s:WS}{a:Int}{o:Except (Int×Int) (List Frag)}(h:RunW lm d zs s a o):RunC lm d (d+a) zs s a o:=by
 cases h with
 | rd h1=>exact .inl ⟨_,h1,rfl⟩
 | stop h1 h2 h3 h4=>exact .inr ⟨_,_,h1,h2,h3,.inl ⟨_,_,h4,rfl⟩⟩
 | fin h1 h2 h3 h4 h5=>exact .inr ⟨_,_,h1,h2,h3,.inr (.inl ⟨_,h4,h5,rfl⟩)⟩
 | next h1 h2 h3 h4 h5 h6=>exact .inr ⟨_,_,h1,h2,h3,.inr (.inr ⟨_,h4,h5,h6⟩)⟩
theorem runW_cases0{lm:Lim}{zs:List Int}{s:WS}{a:Int}{o:Except (Int×Int) (List Frag)}(h:RunW lm 0 zs s a o):RunC lm 0 a zs s a o:=by
 have:=runW_cases h;rwa [Int.zero_add]at this
def withinR (base:Nat) (o:Except (Int×Int) (List Frag)) (e:Ending) (w':World):Prop:=
 match o with
 | .error (c,a)=>e=.returned (.tuple #[.slice none 0 0,.iface 107 (.agg #[.int .i64 c,.int .i64 a])])
 | .ok k=>∃v,e=.returned (.tuple #[v,.nilIface])∧∃l,KRow w' base v l∧l.map FV.frag=k
theorem isFin_is{pt:Pt}(h:pt.isFin=true):pt=.fin:=by cases pt<;>first | rfl | cases h
theorem wput_eq(lm:Lim)(hlm:LimW lm)(hl2:LimW2 lm)(base r:Nat)(s:WS)(x at' rest:Int)(o:Except (Int×Int) WS)(ho:stepW lm s x at' rest=o)(w:World)(hm:MemW w base r lm .nilIface s)(hfin:s.pt.isFin=false)(hx:Word x)(h0:0≤at')(ha:at'≤4000000000)(hr:-9223372036854775808≤rest∧rest≤9223372036854775807)(hg:Laid w)(hb0:0<base)(hB:StepB s)(hN:NeedW lm s x at' rest) :
  Calls Tryz.prog 55 #[.pointer (some ⟨r,0,none⟩),.int .u64 x,.int .i64 at',.int .i64 rest] w fun e w'=>PutP lm base r o w e w':=by
 subst ho;exact wput_any lm hlm hl2 base r s x at' rest w hm hfin hx h0 ha hr hg hb0 hB hN
theorem wwithin_any(p:Option Addr)(len cap:Nat)(zs:List Int)(lm:Lim)(hlm:LimW lm)(hl2:LimW2 lm)(o:Except (Int×Int) (List Frag))(w:World)(hg:Laid w)(h:Ints .u8 w p len zs)(hcap:len≤cap)(hlen:len≤4000000000)(hr:RunW lm 0 zs WS0 0 o) :
  Calls Tryz.prog 16 #[.slice p len cap,.agg #[.int .i64 lm.f,.int .i64 lm.ve,.int .i64 lm.en,.int .i64 lm.ho,.int .i64 lm.se]] w fun e w'=>Below w.heap.size w w'∧withinR w.heap.size o e w':=by
 have hl:=h.length;have H0:=z7 (show 0<w.heap.size from by
  exact hg.pos)
 have LAID:=z7 hg;have INTS:=z7 h;have HR:=z7 hr;have BEG:=z7 (fun W (hW:w.heap.size≤W.heap.size)=>wbegin_any lm w.heap.size W hW);clear hg h hr;go_enter Tryz.func16,Tryz.ntmps16
 go_wp2_with fail
 refine(BEG.out _ (by simp)).mono ?_;rintro e w1 ⟨r,rfl,hr1,hm1,hb1⟩;have MEM:=z7 hm1;have B1:=z7 (zf (zc (Below.refl _ _) _) hb1);clear hm1 hb1 hr1;go_wp2_with fail
 go_loopw [7] (fun c wr=>∃(s:WS) (a:Nat),c=.int .i64 a∧a≤len∧RunW lm 0 zs s a o∧s.pt.isFin=false∧MemW wr w.heap.size r lm .nilIface s∧Below w.heap.size w wr)
  (fun c _=>len-(intOf c).toNat)
 case atStart=>exact⟨WS0,0,rfl,by omega,HR.out,rfl,MEM.out,B1.out⟩
 case round=>
  obtain⟨s,a,rfl,hal,hrun,hf0,hM,hb⟩:=hrel;clear MEM B1;have HM:=z7 hM;have HB:=z7 hb;rcases runW_cases0 hrun with⟨c,hq,ho⟩ | ⟨x,n,hq,hB,hN,hcase⟩
  ·subst ho
   have KR:=z7 (rd_any p len cap zs a (.error c) wr (INTS.out.below hb) hcap hlen (by omega) hq);rw[show rdV (a:Int) (.error c)=.tuple #[.int .u64 0,.int .i64 0,.iface 107 (.agg #[.int .i64 c,.int .i64 a])] from rfl]at KR;clear hrun hq hM hb HR hf0;go_wp2_with fail
   refine KR.out.mono ?_;rintro e w2 ⟨rfl,hb2⟩;have B2:=z7 (zf HB.out hb2);clear hb2;go_wp2
   go_ret2
   exact⟨B2.out,rfl⟩
  ·have KR:=z7 (rd_any p len cap zs a (.ok (x,n)) wr (INTS.out.below hb) hcap hlen (by omega) hq)
   obtain⟨_,hn1,hn2,hxw⟩:=rd_ok hq;obtain⟨n,rfl⟩:∃m:Nat,n=m:=⟨n.toNat,by omega⟩;rw[show rdV (a:Int) (.ok (x,(n:Int)))=.tuple #[.int .u64 x,.int .i64 n,.nilIface] from rfl]at KR;have q0:IntKind.i64.wrap ((len:Int)-n)=(len:Int)-n:=by rw[IntKind.wrap_i64];omega
   rcases hcase with⟨c,b,hs,ho⟩ | ⟨s',hs,hf,ho⟩ | ⟨s',hs,hf,hrun'⟩
   ·subst ho
    have KP:=z7 (fun W hM' hg'=>wput_eq lm hlm hl2 w.heap.size r s x a (len-n) (.error (c,b)) (by rw[← hl];exact hs) W hM' hf0 hxw (by omega) (by omega) (by omega) hg' H0.out hB (by rw[← hl];exact hN));clear hrun hq hM hb HR hf0 hs hxw hB hN;go_wp2_with fail
    refine KR.out.mono ?_;rintro e w2 ⟨rfl,hb2⟩;have B2:=z7 (zf HB.out hb2);have HM2:=z7 (HM.out.below hb2);clear hb2;go_wp2_with fail
    refine(KP.out _ HM2.out (LAID.out.below B2.out)).mono ?_;rintro e w3 hp;obtain⟨rfl,pv3,kv3,m3,c3,hr3⟩:=hp.bad c b rfl;have B3:=z7 (B2.out.trans hp.below);have KK:=z7 (wknow_bad lm r _ _ _ _ _ _ _ hr3);clear hp hr3;go_wp2_with fail
    refine KK.out.mono ?_;rintro e w4 ⟨rfl,hb4⟩;have B4:=z7 (zf B3.out hb4);clear hb4;go_wp2
    go_ret2
    exact⟨B4.out,rfl⟩
   ·subst ho
    have KP:=z7 (fun W hM' hg'=>wput_eq lm hlm hl2 w.heap.size r s x a (len-n) (.ok s') (by rw[← hl];exact hs) W hM' hf0 hxw (by omega) (by omega) (by omega) hg' H0.out hB (by rw[← hl];exact hN));clear hrun hq hM hb HR hf0 hs hxw hB hN;go_wp2_with fail
    refine KR.out.mono ?_;rintro e w2 ⟨rfl,hb2⟩;have B2:=z7 (zf HB.out hb2);have HM2:=z7 (HM.out.below hb2);clear hb2;go_wp2_with fail
    refine(KP.out _ HM2.out (LAID.out.below B2.out)).mono ?_;rintro e w3 hp;obtain⟨he,hm3⟩:=hp.good s' rfl;rw[hf]at he;subst he;have B3:=z7 (B2.out.trans hp.below);have KK:=z7 (wknow_fin lm _ r _ _ hm3 (isFin_is hf));clear hp hm3;go_wp2_with fail
    refine KK.out.mono ?_;rintro e w4 ⟨v,rfl,l,hK4,hl4,hb4⟩;have B4:=z7 (zf B3.out hb4);have HK4:=z7 hK4;have HL4:=z7 hl4;clear hb4 hK4 hl4;go_wp2
    go_ret2
    exact⟨B4.out,_,rfl,l,HK4.out,HL4.out⟩
   ·have KP:=z7 (fun W hM' hg'=>wput_eq lm hlm hl2 w.heap.size r s x a (len-n) (.ok s') (by rw[← hl];exact hs) W hM' hf0 hxw (by omega) (by omega) (by omega) hg' H0.out hB (by rw[← hl];exact hN))
    have HRUN:=z7 hrun';clear hrun hq hM hb HR hf0 hs hxw hB hN hrun';go_wp2_with fail
    refine KR.out.mono ?_;rintro e w2 ⟨rfl,hb2⟩;have B2:=z7 (zf HB.out hb2);have HM2:=z7 (HM.out.below hb2);clear hb2;go_wp2_with fail
    refine(KP.out _ HM2.out (LAID.out.below B2.out)).mono ?_;rintro e w3 hp;obtain⟨he,hm3⟩:=hp.good s' rfl;rw[hf]at he;subst he;have B3:=z7 (B2.out.trans hp.below);have HM3:=z7 hm3;have HF:=z7 hf;clear hp hm3 hf;go_wp2
    go_roundw
    case rel=>exact⟨s',n,rfl,by omega,HRUN.out,HF.out,HM3.out,B3.out⟩
    case measure=>simp[intOf];omega
end Go.Proofs.YtbkkolfpegplgaaGreatDoor
