import Derived.Test.YtbkkolfpegplgaaGreatDoorTG39
open Go.IntWalk renaming i64_in→PC
open Go.RowKit.Below renaming refl→PD
open Go.World renaming cell?→PE
open List renaming setIfInBounds_toArray→PF,set_cons_zero→PG,set_cons_succ→PH
open Nat renaming le_trans→PI,le_refl→PJ,lt_of_lt_of_le→PM
open Go.Proofs.Tryz
set_option maxHeartbeats 12800000
set_option maxRecDepth 100000
set_option linter.unusedVariables false
set_option linter.unusedSimpArgs false
namespace Go.Proofs.YtbkkolfpegplgaaGreatDoor
open Go Go.RowKit
theorem jE(w:World){p:Array Oper}{rest:List Oper}{o:Oper}{a:Act}{Q:Exit→Act→World→Prop}(C:o.guard=none)(m x v:Operand)(u:o.op=Op.mapUpdate 156 m x v)(b i:Nat)(us:List Nat)
  (E:a.eval m=.map (some b)) (h:UsedR w b us) (hi:i≤4000000000) (H:us.length≤4000000000) (F:a.eval x=.int .i64 i) (hv:a.eval v=.bool true)
  (G:∀w',UsedR w' b (kW us i)→Only (fun k=>k=b) w w'→wpList prog p Q rest (a.put o.dst undef) w') :
  wpList prog p Q (o :: rest) a w:=by
 obtain⟨D,h,r,z,n⟩:=h.own;have y:WideAt.IsKeyLit (.int .i64 (i:Nat)):=key_int.key (Ni hi);have hs:=Maps.size_put (k:=.int .i64 (i:Nat)) r (.held (.bool true));rw[z i hi]at hs;have l:Maps.size (D.put (.int .i64 (i:Nat)) (.held (.bool true)))=(kW us i).length:=by
  unfold kW;rw[hs];by_cases g:i∈us
  ·rw[if_pos (by simpa using g),if_pos g];exact n
  rw[if_neg (by simpa using g),if_neg g,List.length_append];simp[n]
 refine wpList_mapUpdate_own w C m x v 156 u 3 4 key_int underlying156 Rv b us.length D E h (by unfold maxLen;omega) _ (.bool true) _ F hv (Ni hi) (.held (.bool true)) [] rfl (fun w' h2 h3=>G w' ⟨_,by rw[← l];exact Qe h2,r.put y _,fun j A=>?_,l⟩ ⟨h3.os,h3.tape,h3.output,h3.size,fun k s B=>h3.block k s (fun e=>B (by injection e))⟩);by_cases e:j=i
 ·subst e;rw[Maps.has_put_same r.isMap y];unfold kW;split
  ·rename_i g;simp[g]
  simp
 rw[Maps.has_put_other (Zo (show((j:Nat):Int)≠((i:Nat):Int) by omega)),z j A];unfold kW;split
 ·rfl
 simp[e]
theorem OutW.useds{w w':World}{base r:Nat}{lm:cD}{j:Value}{s:WS}{n p:Value}{m c:Nat}{l:List FV}{us:List Nat}(h:OutW w base r lm j s n p m c l)(y:UsedR w' m us)(ho:Only (fun b=>b=m) w w'):OutW w' base r lm j { s with us:=us } n p m c l:=
 ⟨h.br,h.rd.only ho (fun e=>h.used.notCells (e ▸ h.rd.typed)),h.row.only ho (fun k u=>by rw[u];exact⟨h.used.notCells,h.used.notCells,h.used.notCells⟩),h.frags,y,h.cur.only ho (fun e=>h.used.notCells (e ▸ h.cur.typed)),h.bm,h.bc⟩
theorem SegX.useds{w w' ws:World}{l:List FV}{m:Nat}{us:List Nat}(h:SegX w l ws)(u:UsedR w m us)(ho:Only (fun b=>b=m) w w'):SegX w' l ws:=by
 refine⟨h.vec,⟨ho.os.trans h.only.os,ho.tape.trans h.only.tape,ho.output.trans h.only.output,PI h.only.size ho.size,fun k j y=>?_⟩,fun f s=>⟨bF (h.own f s).row ho (fun k j hv=>?_),(h.own f s).words⟩,h.dis⟩
 ·have n:=h.only.block k j y;refine(ho.block k (PM j h.only.size) (fun e=>y ⟨fun z=>?_,fun A=>?_⟩)).trans n
  ·obtain⟨p,r⟩:=z;exact u.notCells (show Typed w _ m from⟨p,by rw[← e];exact n.trans r⟩)
  obtain⟨p,r⟩:=A;exact u.notCells (show Typed w _ m from⟨p,by rw[← e];exact n.trans r⟩)
 rw[hv]at j;exact u.notCells (aR (h.own f s).row j)
theorem Ya(lm:cD)(base r:Nat)(s:WS)(left last:Int)(touch:Bool)(x at' rest:Int)(z:Iv)(w:World)(p:Nat)(kv:Value)(m c:Nat)(l:List FV)(hv:OutW w base r lm .nilIface s (qR 243 p) kv m c l)(bp:base≤p)(wl:aL left∧0<left)
  (hp:SgC w p left 2 last touch) (V:s.last=some z) (hx:aL x) (ws:World) (D8:SegX w l ws) (F0:base≤ws.heap.size) (hk:s.k.length≤4000000000) (hu:s.us.length≤4000000000) (D9:∀f∈s.k,f.items.length≤4000000000) (F5:0≤at'∧at'≤4000000000) :
  Calls prog 157 #[.pointer (some ⟨r,0,none⟩),.pointer (some ⟨p,0,none⟩),.int .u64 x,.int .i64 at',.int .i64 rest] w fun e w'=>TakeP lm base r (jY s left 2 last touch x at' rest) w e w':=by
 have E0:prog.follows .mixedOrders=true:=aC;obtain⟨i,rfl⟩:∃i:Nat,x=(i:Int):=⟨x.toNat,by have:=hx.1;omega⟩;have D0:s.k.length=l.length:=by rw[← hv.frags,List.length_map]
 obtain⟨ak,ck,E8,_⟩:=aY hv.row.row;subst E8;obtain⟨nk,B9⟩:=aG l.length;have F1:nk≤4000000000:=aA;have D1:=aI B9;have C1:=aI (D0.trans B9);have KL:=aI (Ha c s.last s.op w hv.cur);have d6:=hv.rd.c6;have d8:=hv.rd.c8;rw[B9]at d6;have y1:=hp.c1;have y2:=hp.c2;have y3:=hp.c3;have HV:=aI hv;have HP:=aI hp;have C2:=aI D8;have E2:=aI D9;have HU:=aI hu;have R:=aI (bT hv);have E3:=aI (fun W=>cU 8 at' aB W);have D2:=aI (fun W=>cU 10 at' aB W);have HX:=aI hx;have w64:IntKind.u64.wrap (nk:Int)=nk:=bA ⟨aA,aA⟩;clear hv hp D8 D9 hu hx D0 B9;by_cases g1:(nk:Int)≤(i:Int)
 ·have Z:=aI (show jY s left 2 last touch (i:Int) at' rest=.error (8,at')from by unfold jY;rw[if_neg aB,if_neg aB,if_pos (by rw[C1.out];exact g1)]);go_enter func157,ntmps157;go_wp2_with fail;refine(E3 _).mono ?_;rintro e w5 ⟨rfl,rfl⟩;go_wp2;go_ret;rw[Z.out];exact⟨PD _ _ |>.mono R,fun c a E=>(by cases E;exact⟨rfl,_,_,_,_,HV.rd⟩),fun s' hs=>(by cases hs)⟩
 have F2:IntKind.i64.wrap (i:Int)=(i:Int):=PC _ aA;by_cases g2:touch=true∧(i:Int)=last
 ·obtain⟨rfl,rfl⟩:=g2;have Z:=aI (show jY s left 2 (i:Int) true (i:Int) at' rest=.error (10,at')from by unfold jY;rw[if_neg aB,if_neg aB,if_neg (by rw[C1.out];exact g1),if_pos ⟨rfl,rfl⟩]);go_enter func157,ntmps157;go_wp2_with fail;refine(D2 _).mono ?_;rintro e w5 ⟨rfl,rfl⟩;go_wp2;go_ret;rw[Z.out];exact⟨PD _ _ |>.mono R,fun c a E=>(by cases E;exact⟨rfl,_,_,_,_,HV.rd⟩),fun s' hs=>(by cases hs)⟩
 have B1:(touch=true∧((i:Int) == last)=false)∨touch=false:=by
  cases touch
  ·exact .inr rfl
  exact .inl ⟨rfl,by simpa using fun e=>g2 ⟨rfl,e⟩⟩
 have Y:=aI (show jY s left 2 last touch (i:Int) at' rest=if left-1=0 then eH { s with k:=zC s.k i z,us:=kW s.us i } (at'+pZ (i:Int)) rest else .ok { s with k:=zC s.k i z,us:=kW s.us i,pt:=.segs (left-1) 0 i touch } from by unfold jY;rw[if_neg aB,if_neg aB,if_neg (by rw[C1.out];exact g1),if_neg g2,V];rfl);clear g2;rcases B1 with⟨ht,hne⟩ | ht
 all_goals
  subst ht;go_enter func157,ntmps157;go_wp2_with fail;refine KL.mono ?_;rintro e w1 ⟨⟨za,zb,rfl,hz⟩,C7⟩;obtain⟨rfl,rfl⟩:=hz z V;have B3:i<l.length:=by rw[D1.out];omega
  have D:l.getD i FV.z∈l:=by rw[List.getD,List.getElem?_eq_getElem B3,Option.getD_some];exact List.getElem_mem B3
  have D3:aL z.1∧aL z.2:=by
   obtain⟨_,_,_,_,_,_,_,h3⟩:=HV.cur;obtain⟨_,_,_,h4,h5⟩:=h3 z V;exact⟨h4,h5⟩
  obtain⟨w2,D7⟩:=aG (w1.alloc (.cells #[.int .u64 z.1,.int .u64 z.2] 123));have C3:w2.heap[w1.heap.size]?=some (.cells #[.int .u64 z.1,.int .u64 z.2] 123 (0,0)):=by rw[← D7];exact aK _ _ rfl
  have b2:Below w.heap.size w w2:=by rw[← D7];exact aJ C7 _
  have V2:=aI (HV.below b2);have P2:=aI (HP.below b2);have X2:=aI (C2.below b2);have B2:=aI (below_of b2 R:Below base w w2);obtain⟨g,eg⟩:∃g,ak=some ⟨g,0,none⟩:=by
   rcases HV.row.row.2 with⟨_,hl⟩ | ⟨g,cap',cur,hvv,_⟩
   ·omega
   injection hvv with e1 _ _;exact⟨g,e1⟩
  subst eg;have P:Typed w 80 g:=aR HV.row.row rfl;have C4:g<w.heap.size:=by obtain⟨cs,E⟩:=P;exact aO E
  obtain⟨ai,ci,A8,_⟩:=aY (X2.own _ D).row;have cg:w2.cell? ⟨g,i * 2,none⟩=some (l.getD i FV.z).iv:=by
   obtain⟨a',cap',e,E9,_⟩:=V2.row.know;injection e with e1 _ _;subst e1;obtain⟨b,off,e2,_,h1,_⟩:=E9.cells i B3
   cases e2
   rw[Nat.zero_add]at h1;exact h1
  have A2:∀b,(l.getD i FV.z).iv.ownBlock=some b→Typed w 123 b∧b<w.heap.size:=fun b A=>⟨aR (C2.own _ D).row A,((C2.own _ D).row.lt b A).2⟩;have nr:¬(r=g∨(l.getD i FV.z).iv.ownBlock=some r):=fun h=>by
   rcases h with h | h
   ·rw[← h]at P;exact P.ne HV.rd.typed aB rfl
   exact(A2 r h).1.ne HV.rd.typed aB rfl
  have F3:w.heap.size≤w1.heap.size:=C7.size;have nq:¬(w1.heap.size=g∨(l.getD i FV.z).iv.ownBlock=some w1.heap.size):=fun h=>by
   rcases h with h | h
   ·omega
   have:=(A2 _ h).2;omega
  have np:¬(p=g∨(l.getD i FV.z).iv.ownBlock=some p):=fun h=>by
   rcases h with h | h
   ·rw[← h]at P;exact P.ne HP.typed aB rfl
   exact(A2 p h).1.ne HP.typed aB rfl
  have D4:(l.getD i FV.z).items.length≤4000000000:=by
   have:=E2.out (l.getD i FV.z).frag (by rw[← HV.frags];exact List.mem_map.2 ⟨_,D,rfl⟩);exact this
  have OI:=aI (X2.own _ D);obtain⟨f,ef⟩:=aG (l.getD i FV.z);have EF:=aI ef;rw[ef]at A8 cg nr nq np OI D4;obtain⟨ni,C0⟩:=aG f.items.length;rw[C0]at A8;rw[A8]at cg nr nq np OI;have M:=aI A8;have D5:=aI C0;have D6:=aI (show ni≤4000000000 by rw[← C0];exact D4);have k6:=V2.rd.c6;rw[D1.out]at k6;have k7:=V2.rd.c7;have s0:w2.cell? ⟨w1.heap.size,0,none⟩=some (.int .u64 z.1):=by simp[PE,C3]
  have s1:w2.cell? ⟨w1.heap.size,1,none⟩=some (.int .u64 z.2):=by simp[PE,C3]
  have ZW:=aI D3;have j0:(0:Int)≤(i:Int):=aA;have j1:(i:Int)<(nk:Int):=aA;have HM:=aI D;have NP:=aI np;have HI:=aI B3;have A0:=aI F0;have GL:=aI (PM C4 b2.size);have GT:=aI (show Typed w2 80 g from by obtain⟨cs,E⟩:=P;exact⟨cs,(b2.block g C4).trans E⟩);have B6:=aI (show ¬(Value.slice ai ni ci).ownBlock=some g from fun h=>by rw[← M.out,← EF.out]at h;exact(A2 g h).1.ne P aB rfl);clear D3 C7 b2 P C4 A2 D A8 ef C0 hz d6 y1 y2 y3 C3;go_wp2_with fail;refine wp_region_held_drew (S:=Only (fun b=>b=g∨(Value.slice ai ni ci).ownBlock=some b) w2) E0 (Only.refl _ _).drew (fun hS=>?_);obtain⟨wd,C8⟩:=aG w2.drew;have BD:=aI (show Below w2.heap.size w2 wd from by rw[← C8];exact(Only.refl (fun _=>False) w2).drew.below (n:=w2.heap.size) (PJ _) (fun _ h=>h.elim));rw[C8]at hS ⊢;clear C8;refine aP 0 58 (.pointer (some ⟨r,0,none⟩)) ?_;refine aP 1 59 (.pointer (some ⟨r,0,none⟩)) ?_;refine aP 2 60 (.pointer (some ⟨r,6,none⟩)) ?_;refine dL 3 61 (.slice (some ⟨g,0,none⟩) nk ck) ?_ ?_
  ·intro X hX;have x0:=hX.cell nr k6;go_simp
  refine aP 4 62 (.int .i64 (i:Int)) ?_;refine aP 5 63 (.pointer (some ⟨r,0,none⟩)) ?_;refine aP 6 64 (.pointer (some ⟨r,0,none⟩)) ?_;refine aP 7 65 (.pointer (some ⟨r,6,none⟩)) ?_;refine dL 8 66 (.slice (some ⟨g,0,none⟩) nk ck) ?_ ?_
  ·intro X hX;have x0:=hX.cell nr k6;go_simp
  refine aP 9 67 (.int .i64 (i:Int)) ?_;refine aP 10 68 (.pointer (some ⟨g,i * 2,none⟩)) ?_;refine aP 11 69 (.pointer (some ⟨g,i * 2,none⟩)) ?_;refine dL 13 71 (.agg #[.int .u64 z.1,.int .u64 z.2]) ?_ ?_
  ·intro X hX;have x0:=hX.cell nq s0;have x1:=hX.cell nq s1;go_simp
  refine Se 12 14 (fun K I=>?_) fun K I=>?_
  ·have E4:wd.cell? ⟨g,i * 2,none⟩=some (.slice ai ni ci):=aM BD GL cg;go_simp;clear E4;refine I _ _ hS (fun _=>?_);clear I K;refine cW 14 fun K I=>?_;have A1:=hS.alloc (.cells #[.int .u64 z.1,.int .u64 z.2] 123);go_simp;refine I _ _ A1 (fun _=>?_);clear I K;have N:=X2.below (aJ BD (.cells #[.int .u64 z.1,.int .u64 z.2] 123));have A3:=V2.below (aJ BD (.cells #[.int .u64 z.1,.int .u64 z.2] 123));have y:=N.own _ HM;rw[EF.out,M.out]at y;obtain⟨v',w3,F,G,H,Q⟩:=Nm y ZW (aK _ _ rfl) (by rw[D5.out];have:=D6.out;omega) N.only.size 56;obtain⟨a3,c3,e3,_⟩:=aY G.row;subst e3;obtain⟨n3,A9⟩:=aG ((f.items ++ [z]).length);have SP:=Ma (r:=r) (lm:=lm) (s:=s) (z:=z) (i:=i) A3 N HI A0 (by rw[EF.out,M.out];exact H) (by rw[EF.out];exact G) (by
    rw[EF.out,M.out];rcases Q with h | h
    ·exact .inl h
    exact .inr ⟨_,h,PJ _⟩)
   rw[A9]at SP F;have j:=aI SP;have T:Only (fun b=>b=g∨(Value.slice ai ni ci).ownBlock=some b) w2 w3:=A1.trans (H.wide (fun b A=>.inr A));have C5:w3.cell? ⟨g,i * 2,none⟩=some (.slice ai ni ci):=(H.cell (fun h=>B6 h) (aM (aJ BD (.cells #[.int .u64 z.1,.int .u64 z.2] 123)) GL cg));have C6:w3.frozen? ⟨g,i * 2,none⟩=false:=by
    obtain⟨cs,E⟩:=GT.out;exact frozen_of_row _ _ _ _ _ (H.obj (fun h=>B6 h) ((aJ BD (.cells #[.int .u64 z.1,.int .u64 z.2] 123)).block g GL |>.trans E))
   clear N A3 y G H Q SP A9;refine cW 15 fun K I=>?_;rw[if_pos (by rfl)];refine cV _ _ _ _ rfl rfl rfl F ?_;refine I _ _ T (fun _=>?_);simp only[Act.put,PF,PG,PH];clear I K;refine aP 16 74 (.pointer (some ⟨g,i * 2,none⟩)) ?_;refine aP 17 75 (.pointer (some ⟨g,i * 2,none⟩)) ?_;refine cW 18 fun K I=>?_;have A4:=T.setCell (p:=⟨g,i * 2,none⟩) (.inl (.inl rfl)) (.slice a3 n3 c3);go_simp;refine I _ _ A4 (fun _=>?_);clear I K;refine iM ?_;clear F T A4 C5 C6;have U:=aJ BD (.cells #[.int .u64 z.1,.int .u64 z.2] 123);have P4:=aI ((P2.below U).only j.2.2 (fun h=>NP (by rw[EF.out,M.out]at h;exact h)));have A5:=j.1.rd;have q7:=A5.c7;have B4:=aI (show Below base w (w3.setCell ⟨g,i * 2,none⟩ (.slice a3 n3 c3))from by
    have h1:=B2.trans (U.mono (show base≤w2.heap.size from PI R B2.size));refine h1.trans (j.2.2.below (n:=base) (PI R h1.size) (fun b A=>?_));rcases A with rfl | A
    ·exact(V2.row.row.lt b rfl).1
    exact PI A0 (((aI (X2.own _ HM)).out.row.lt b A).1))
   obtain⟨w4,B0⟩:=aG (w3.setCell ⟨g,i * 2,none⟩ (.slice a3 n3 c3));rw[B0]at j P4 q7 B4 ⊢;clear B0 A5 U;have jw:IntKind.u64.wrap (left-1)=left-1:=bA ⟨by have:=wl.2;omega,by have:=wl.1.2;omega⟩;by_cases hl1:left-1=0
   ·have Z:=aI (Y.trans (if_pos hl1));have nl:(left-1 == 0)=true:=by rw[hl1];rfl
    have w0:IntKind.u64.wrap (left-1)=0:=by rw[hl1];decide
    have KS:=aI (fun W=>rP (i:Int) W HX);obtain⟨sz,O⟩:=aG ((vb 10 (i:Int)).length);have E5:sz≤10:=by rw[← O];exact jF 10 _
    have A6:=aI (show pZ (i:Int)=sz from by unfold pZ;rw[O]);have aw:IntKind.i64.wrap (at'+sz)=at'+sz:=PC _ aA;rw[O]at KS;clear O jw;go_wp2_with(at_mapUpdate;go_loud(refine jE _ rfl _ _ _ rfl m i s.us rfl j.1.used aA (by have:=HU.out;omega) rfl rfl ?_);intro w5 J u;have O5:=aI (j.1.useds J u);have B:=aI (P4.only u (fun e=>j.1.used.notCells (e ▸ P4.typed)));have x5:=B.fz 2;have X5:=aI (j.2.1.useds j.1.used u);have C:=aI (B.s2 i);have y6:=C.c0;have x6:=C.fz 0;have L:=aI (C.s0 (left-1));have y7:=L.c0;have y5:=B.c2;have B5:=aI (B4.trans (u.below (n:=base) (PI R B4.size) (fun b A=>by rw[A];exact V2.bm)));clear J u);refine(KS _).mono ?_;rintro e w8 ⟨rfl,rfl⟩;have O7:=(O5.seg B 2 (.int .i64 i)).seg C 0 (.int .u64 0);have B7:=aI (B5.trans (((B.keep 2 (.int .i64 i)).trans (C.keep 0 (.int .u64 0))).below (n:=base) (PI R B5.size) (fun b A=>by rw[A];exact bp)));have KF:=aI (wF lm base r _ _ _ _ _ _ (at'+sz) rest _ O7);clear O7;go_wp2_with fail;refine KF.mono ?_;rintro e w9 hT;have A7:=B7.trans hT.below
    cases hT9:eH { s with k:=zC s.k i z,us:=kW s.us i } (at'+sz) rest with
    | error ca=>
      obtain⟨ce,ae⟩:=ca;obtain⟨rfl,C9⟩:=hT.bad ce ae hT9;go_wp2;go_ret;rw[Z.out,A6.out,hT9];exact⟨A7,fun c a E=>(by cases E;exact⟨rfl,C9⟩),fun s' hs=>(by cases hs)⟩
    | ok s9=>
      obtain⟨rfl,hm⟩:=hT.good s9 hT9;go_wp2;go_ret;rw[Z.out,A6.out,hT9];exact⟨A7,fun c a E=>(by cases E),fun s' hs=>(by cases hs;exact⟨rfl,hm⟩)⟩
   have Z:=aI (Y.trans (if_neg hl1));have nl:(left-1 == 0)=false:=by simpa using hl1
   have t3:IntKind.i64.wrap ((2:Int)+1)=3:=aB;have t0:IntKind.i64.wrap ((3:Int).tmod 3)=0:=aB;go_wp2_with(at_mapUpdate;go_loud(refine jE _ rfl _ _ _ rfl m i s.us rfl j.1.used aA (by have:=HU.out;omega) rfl rfl ?_);intro w5 J u;have O5:=aI (j.1.useds J u);have B:=aI (P4.only u (fun e=>j.1.used.notCells (e ▸ P4.typed)));have x5:=B.fz 2;have X5:=aI (j.2.1.useds j.1.used u);have C:=aI (B.s2 i);have y6:=C.c0;have x6:=C.fz 0;have L:=aI (C.s0 (left-1));have y7:=L.c0;have E6:=L.c1;have E7:=L.fz 1;have y5:=B.c2;have B5:=aI (B4.trans (u.below (n:=base) (PI R B4.size) (fun b A=>by rw[A];exact V2.bm)));clear J u);go_ret;rw[Z.out];have O8:=((O5.seg B 2 (.int .i64 i)).seg C 0 (.int .u64 (left-1))).seg L 1 (.int .i64 0);have X8:=((X5.one (B.keep 2 (.int .i64 i)) B.typed aB).one (C.keep 0 (.int .u64 (left-1))) C.typed aB).one (L.keep 1 (.int .i64 0)) L.typed aB;have B8:=B5.trans ((((B.keep 2 (.int .i64 i)).trans (C.keep 0 (.int .u64 (left-1)))).trans (L.keep 1 (.int .i64 0))).below (n:=base) (PI R B5.size) (fun b A=>by rw[A];exact bp));exact⟨B8,fun c a E=>(by cases E),fun s' hs=>(by cases hs;exact⟨rfl,_,_,_,_,_,O8.toS rfl rfl rfl rfl,⟨⟨⟨by have:=wl.2;omega,by have:=wl.1.2;omega⟩,by have:=wl.2;omega⟩,p,rfl,bp,L.s1 0⟩,ws,X8,A0⟩)⟩
  have A1:=hS.alloc (.cells #[.int .u64 z.1,.int .u64 z.2] 123);go_simp;refine I _ _ A1 (fun _=>?_);clear I K;refine cW 12 fun K I=>?_;have F4:(wd.alloc (.cells #[.int .u64 z.1,.int .u64 z.2] 123)).cell? ⟨g,i * 2,none⟩=some (.slice ai ni ci):=aM (aJ BD (.cells #[.int .u64 z.1,.int .u64 z.2] 123)) GL cg;go_simp;refine I _ _ A1 (fun _=>?_);clear I K;have N:=X2.below (aJ BD (.cells #[.int .u64 z.1,.int .u64 z.2] 123));have A3:=V2.below (aJ BD (.cells #[.int .u64 z.1,.int .u64 z.2] 123));have y:=N.own _ HM;rw[EF.out,M.out]at y;obtain⟨v',w3,F,G,H,Q⟩:=Nm y ZW (aK _ _ rfl) (by rw[D5.out];have:=D6.out;omega) N.only.size 56;obtain⟨a3,c3,e3,_⟩:=aY G.row;subst e3;obtain⟨n3,A9⟩:=aG ((f.items ++ [z]).length);have SP:=Ma (r:=r) (lm:=lm) (s:=s) (z:=z) (i:=i) A3 N HI A0 (by rw[EF.out,M.out];exact H) (by rw[EF.out];exact G) (by
   rw[EF.out,M.out];rcases Q with h | h
   ·exact .inl h
   exact .inr ⟨_,h,PJ _⟩)
  rw[A9]at SP F;have j:=aI SP;have T:Only (fun b=>b=g∨(Value.slice ai ni ci).ownBlock=some b) w2 w3:=A1.trans (H.wide (fun b A=>.inr A));have C5:w3.cell? ⟨g,i * 2,none⟩=some (.slice ai ni ci):=(H.cell (fun h=>B6 h) (aM (aJ BD (.cells #[.int .u64 z.1,.int .u64 z.2] 123)) GL cg));have C6:w3.frozen? ⟨g,i * 2,none⟩=false:=by
   obtain⟨cs,E⟩:=GT.out;exact frozen_of_row _ _ _ _ _ (H.obj (fun h=>B6 h) ((aJ BD (.cells #[.int .u64 z.1,.int .u64 z.2] 123)).block g GL |>.trans E))
  clear N A3 y G H Q SP A9;refine cW 15 fun K I=>?_;rw[if_pos (by rfl)];refine cV _ _ _ _ rfl rfl rfl F ?_;refine I _ _ T (fun _=>?_);simp only[Act.put,PF,PG,PH];clear I K;refine aP 16 74 (.pointer (some ⟨g,i * 2,none⟩)) ?_;refine aP 17 75 (.pointer (some ⟨g,i * 2,none⟩)) ?_;refine cW 18 fun K I=>?_;have A4:=T.setCell (p:=⟨g,i * 2,none⟩) (.inl (.inl rfl)) (.slice a3 n3 c3);go_simp;refine I _ _ A4 (fun _=>?_);clear I K;refine iM ?_;clear F T A4 C5 C6;have U:=aJ BD (.cells #[.int .u64 z.1,.int .u64 z.2] 123);have P4:=aI ((P2.below U).only j.2.2 (fun h=>NP (by rw[EF.out,M.out]at h;exact h)));have A5:=j.1.rd;have q7:=A5.c7;have B4:=aI (show Below base w (w3.setCell ⟨g,i * 2,none⟩ (.slice a3 n3 c3))from by
   have h1:=B2.trans (U.mono (show base≤w2.heap.size from PI R B2.size));refine h1.trans (j.2.2.below (n:=base) (PI R h1.size) (fun b A=>?_));rcases A with rfl | A
   ·exact(V2.row.row.lt b rfl).1
   exact PI A0 (((aI (X2.own _ HM)).out.row.lt b A).1))
  obtain⟨w4,B0⟩:=aG (w3.setCell ⟨g,i * 2,none⟩ (.slice a3 n3 c3));rw[B0]at j P4 q7 B4 ⊢;clear B0 A5 U;have jw:IntKind.u64.wrap (left-1)=left-1:=bA ⟨by have:=wl.2;omega,by have:=wl.1.2;omega⟩;by_cases hl1:left-1=0
  ·have Z:=aI (Y.trans (if_pos hl1));have nl:(left-1 == 0)=true:=by rw[hl1];rfl
   have w0:IntKind.u64.wrap (left-1)=0:=by rw[hl1];decide
   have KS:=aI (fun W=>rP (i:Int) W HX);obtain⟨sz,O⟩:=aG ((vb 10 (i:Int)).length);have E5:sz≤10:=by rw[← O];exact jF 10 _
   have A6:=aI (show pZ (i:Int)=sz from by unfold pZ;rw[O]);have aw:IntKind.i64.wrap (at'+sz)=at'+sz:=PC _ aA;rw[O]at KS;clear O jw;go_wp2_with(at_mapUpdate;go_loud(refine jE _ rfl _ _ _ rfl m i s.us rfl j.1.used aA (by have:=HU.out;omega) rfl rfl ?_);intro w5 J u;have O5:=aI (j.1.useds J u);have B:=aI (P4.only u (fun e=>j.1.used.notCells (e ▸ P4.typed)));have x5:=B.fz 2;have X5:=aI (j.2.1.useds j.1.used u);have C:=aI (B.s2 i);have y6:=C.c0;have x6:=C.fz 0;have L:=aI (C.s0 (left-1));have y7:=L.c0;have y5:=B.c2;have B5:=aI (B4.trans (u.below (n:=base) (PI R B4.size) (fun b A=>by rw[A];exact V2.bm)));clear J u);refine(KS _).mono ?_;rintro e w8 ⟨rfl,rfl⟩;have O7:=(O5.seg B 2 (.int .i64 i)).seg C 0 (.int .u64 0);have B7:=aI (B5.trans (((B.keep 2 (.int .i64 i)).trans (C.keep 0 (.int .u64 0))).below (n:=base) (PI R B5.size) (fun b A=>by rw[A];exact bp)));have KF:=aI (wF lm base r _ _ _ _ _ _ (at'+sz) rest _ O7);clear O7;go_wp2_with fail;refine KF.mono ?_;rintro e w9 hT;have A7:=B7.trans hT.below
   cases hT9:eH { s with k:=zC s.k i z,us:=kW s.us i } (at'+sz) rest with
   | error ca=>
     obtain⟨ce,ae⟩:=ca;obtain⟨rfl,C9⟩:=hT.bad ce ae hT9;go_wp2;go_ret;rw[Z.out,A6.out,hT9];exact⟨A7,fun c a E=>(by cases E;exact⟨rfl,C9⟩),fun s' hs=>(by cases hs)⟩
   | ok s9=>
     obtain⟨rfl,hm⟩:=hT.good s9 hT9;go_wp2;go_ret;rw[Z.out,A6.out,hT9];exact⟨A7,fun c a E=>(by cases E),fun s' hs=>(by cases hs;exact⟨rfl,hm⟩)⟩
  have Z:=aI (Y.trans (if_neg hl1));have nl:(left-1 == 0)=false:=by simpa using hl1
  have t3:IntKind.i64.wrap ((2:Int)+1)=3:=aB;have t0:IntKind.i64.wrap ((3:Int).tmod 3)=0:=aB;go_wp2_with(at_mapUpdate;go_loud(refine jE _ rfl _ _ _ rfl m i s.us rfl j.1.used aA (by have:=HU.out;omega) rfl rfl ?_);intro w5 J u;have O5:=aI (j.1.useds J u);have B:=aI (P4.only u (fun e=>j.1.used.notCells (e ▸ P4.typed)));have x5:=B.fz 2;have X5:=aI (j.2.1.useds j.1.used u);have C:=aI (B.s2 i);have y6:=C.c0;have x6:=C.fz 0;have L:=aI (C.s0 (left-1));have y7:=L.c0;have E6:=L.c1;have E7:=L.fz 1;have y5:=B.c2;have B5:=aI (B4.trans (u.below (n:=base) (PI R B4.size) (fun b A=>by rw[A];exact V2.bm)));clear J u);go_ret;rw[Z.out];have O8:=((O5.seg B 2 (.int .i64 i)).seg C 0 (.int .u64 (left-1))).seg L 1 (.int .i64 0);have X8:=((X5.one (B.keep 2 (.int .i64 i)) B.typed aB).one (C.keep 0 (.int .u64 (left-1))) C.typed aB).one (L.keep 1 (.int .i64 0)) L.typed aB;have B8:=B5.trans ((((B.keep 2 (.int .i64 i)).trans (C.keep 0 (.int .u64 (left-1)))).trans (L.keep 1 (.int .i64 0))).below (n:=base) (PI R B5.size) (fun b A=>by rw[A];exact bp));exact⟨B8,fun c a E=>(by cases E),fun s' hs=>(by cases hs;exact⟨rfl,_,_,_,_,_,O8.toS rfl rfl rfl rfl,⟨⟨⟨by have:=wl.2;omega,by have:=wl.1.2;omega⟩,by have:=wl.2;omega⟩,p,rfl,bp,L.s1 0⟩,ws,X8,A0⟩)⟩
theorem gJ{P:Program}{t:TypeId}{u}(b:P.underlying t=some u)(j:∀m,u≠.interface m)(v:Value)(l:TypeId)(w:World):(Instr.typeAssert (.iface t v) l t true).run P w=.ok (.tuple #[v,.bool true]) w:=by
 cases u with
 | interface m=>exact absurd rfl (j m)
 | _=>simp[Instr.typeAssert,run_underlying b]
theorem eT{P:Program}{t b:TypeId}{u}{z:Value}(r:P.underlying b=some u)(s:∀m,u≠.interface m)(n:t≠b)(y:(P.info? b).map (·.zero)=some (some z))(v:Value)(A:TypeId)(w:World):(Instr.typeAssert (.iface t v) A b true).run P w=.ok (.tuple #[z,.bool false]) w:=by
 obtain⟨j,p,l⟩:=Option.map_eq_some_iff.1 y
 cases u with
 | interface m=>exact absurd rfl (s m)
 | _=>simp[Instr.typeAssert,run_underlying r,n,zeroValue,typeInfo,p,l]
theorem Sz(v:Value)(b:TypeId)(w:World):(Instr.typeAssert (.iface 155 v) b 155 true).run prog w=.ok (.tuple #[v,.bool true]) w:=gJ underlying155 (by intro m h;cases h) v b w
theorem Lv(v:Value)(b:TypeId)(w:World):(Instr.typeAssert (.iface 237 v) b 237 true).run prog w=.ok (.tuple #[v,.bool true]) w:=gJ underlying237 (by intro m h;cases h) v b w
theorem pW(v:Value)(b:TypeId)(w:World):(Instr.typeAssert (.iface 237 v) b 155 true).run prog w=.ok (.tuple #[.agg #[],.bool false]) w:=eT underlying155 (by intro m h;cases h) aB aC v b w
theorem CR(v:Value)(b:TypeId)(w:World):(Instr.typeAssert (.iface 241 v) b 241 true).run prog w=.ok (.tuple #[v,.bool true]) w:=gJ underlying241 (by intro m h;cases h) v b w
theorem Cg(v:Value)(b:TypeId)(w:World):(Instr.typeAssert (.iface 241 v) b 155 true).run prog w=.ok (.tuple #[.agg #[],.bool false]) w:=eT underlying155 (by intro m h;cases h) aB aC v b w
theorem Eu(v:Value)(b:TypeId)(w:World):(Instr.typeAssert (.iface 241 v) b 237 true).run prog w=.ok (.tuple #[.pointer none,.bool false]) w:=eT underlying237 (by intro m h;cases h) aB aC v b w
theorem Yk(v:Value)(b:TypeId)(w:World):(Instr.typeAssert (.iface 243 v) b 243 true).run prog w=.ok (.tuple #[v,.bool true]) w:=gJ underlying243 (by intro m h;cases h) v b w
theorem yY(v:Value)(b:TypeId)(w:World):(Instr.typeAssert (.iface 243 v) b 155 true).run prog w=.ok (.tuple #[.agg #[],.bool false]) w:=eT underlying155 (by intro m h;cases h) aB aC v b w
theorem Cf(v:Value)(b:TypeId)(w:World):(Instr.typeAssert (.iface 243 v) b 237 true).run prog w=.ok (.tuple #[.pointer none,.bool false]) w:=eT underlying237 (by intro m h;cases h) aB aC v b w
theorem Et(v:Value)(b:TypeId)(w:World):(Instr.typeAssert (.iface 243 v) b 241 true).run prog w=.ok (.tuple #[.agg #[],.bool false]) w:=eT underlying241 (by intro m h;cases h) aB aC v b w
def vF (lm:cD) (s:WS) (x at' rest:Int):Prop:=
 match s.pt with
 | .vecs _ _ none=>∀st',bU lm tZ x rest=.ok st'→DI st'.es
 | .vecs _ _ (some st)=>StI st at'∧∀st',bU lm st x rest=.ok st'→DI st'.es
 | .segs _ turn _ _=>(turn=0∧s.op=none)∨(turn=1∧∃l,s.op=some l)∨(turn=2∧∃z,s.last=some z)
 | _=>True
structure vG (lm:cD):Prop where
 ve:-9223372036854775808≤lm.ve∧lm.ve≤9223372036854775807
 se:-9223372036854775808≤lm.se∧lm.se≤9223372036854775807
theorem Eh(x limit rest:Int)(w:World)(b:aL x)(j:-9223372036854775808≤limit∧limit≤9223372036854775807)(l:-9223372036854775808≤rest∧rest≤9223372036854775807) :
  Calls prog 154 #[.int .u64 x,.int .i64 limit,.int .i64 rest] w fun e w'=>e=.returned (.int .i64 (bS x limit rest))∧w=w':=By x limit rest w b j l
theorem TakeP.from{lm:cD}{base r:Nat}{o:Except (Int×Int) WS}{w b w':World}{e:Ending}(h:TakeP lm base r o b e w')(j:Below base w b):TakeP lm base r o w e w':=⟨j.trans h.below,h.bad,h.good⟩
structure qH (s:WS):Prop where
 wsb:MC s
 us:s.us.length≤4000000000
 items:∀f∈s.k,f.items.length≤4000000000
theorem Oh(lm:cD)(C:uB lm)(R:vG lm)(base r:Nat)(s:WS)(x at' rest:Int)(w:World)(N:MemW w base r lm .nilIface s)(A2:s.pt.isFin=false)(I:aL x)(h0:0≤at')(ha:at'≤4000000000)(hr:-9223372036854775808≤rest∧rest≤9223372036854775807)(hg:Laid w)(A3:0<base)(L:qH s)(S:vF lm s x at' rest) :
  Calls prog 99 #[.pointer (some ⟨r,0,none⟩),.int .u64 x,.int .i64 at',.int .i64 rest] w fun e w'=>TakeP lm base r (cT lm s x at' rest) w e w':=by
 obtain⟨pt,k,us,last,op⟩:=s
 cases pt with
 | fin=>cases A2
 | vecs left fr inner=>
   cases inner with
   | none=>
     obtain⟨pv,M,m,c,l,u,⟨F,p,ip,rfl,bp,X⟩,y⟩:=N;have c5:w.cell? ⟨r,5,none⟩=some (.iface 237 (.pointer (some ⟨p,0,none⟩))):=u.rd.c5;have K:=aI (Jf lm C base r _ left x at' rest w p ip M m c l u bp F y X h0 ha I hr hg A3 L.wsb S);have a1:=pW;have a2:=Lv;clear u y X L S hg C;go_enter func99,ntmps99;go_wp2_with fail;refine K.mono ?_;rintro e w9 j
     cases hT9:cT lm ⟨.vecs left fr none,k,us,last,op⟩ x at' rest with
     | error ca=>
       obtain⟨rfl,Y⟩:=j.bad ca.1 ca.2 hT9;go_wp2;go_ret;exact j
     | ok s9=>
       obtain⟨rfl,N⟩:=j.good s9 hT9;go_wp2;go_ret;exact j
   | some st=>
     obtain⟨wb,p,ri,M,m,c,l,hV⟩:=N;have c5:w.cell? ⟨r,5,none⟩=some (.iface 237 (.pointer (some ⟨p,0,none⟩))):=(hV.out.rd.only hV.only (hV.out.ne hV.tp aB)).c5;have K:=aI (Sh lm C base r _ left fr st x at' rest w wb p ri M m c l hV S.1 ha I hr hg A3 L.wsb S.2);have a1:=pW;have a2:=Lv;clear hV L S hg C;go_enter func99,ntmps99;go_wp2_with fail;refine K.mono ?_;rintro e w9 j
     cases hT9:cT lm ⟨.vecs left fr (some st),k,us,last,op⟩ x at' rest with
     | error ca=>
       obtain⟨rfl,Y⟩:=j.bad ca.1 ca.2 hT9;go_wp2;go_ret;exact j
     | ok s9=>
       obtain⟨rfl,N⟩:=j.good s9 hT9;go_wp2;go_ret;exact j
 | segs left turn la touch=>
   obtain⟨pv,M,m,c,l,u,⟨F,p,rfl,bp,X⟩,ws,O,Z⟩:=N;have c5:w.cell? ⟨r,5,none⟩=some (.iface 243 (.pointer (some ⟨p,0,none⟩))):=u.rd.c5;have K:Hid (Calls prog 157 #[.pointer (some ⟨r,0,none⟩),.pointer (some ⟨p,0,none⟩),.int .u64 x,.int .i64 at',.int .i64 rest] w fun e w'=>TakeP lm base r (jY ⟨.segs left turn la touch,k,us,last,op⟩ left turn la touch x at' rest) w e w'):=aI (by
    rcases S with⟨rfl,ho⟩ | ⟨rfl,l0,ho⟩ | ⟨rfl,z,hz⟩
    ·exact Xz lm base r _ left la touch x at' rest w p M m c l u bp F X ho I ws O Z
    ·exact Yb lm base r _ left la touch x at' rest l0 w p M m c l u bp F X ho I ws O Z
    exact Ya lm base r _ left la touch x at' rest z w p M m c l u bp F X hz I ws O Z L.wsb.k L.us L.items ⟨h0,ha⟩)
   have a1:=yY;have a2:=Cf;have a3:=Et;have a4:=Yk;clear u O X L S hg C;go_enter func99,ntmps99;go_wp2_with fail;refine K.mono ?_;rintro e w9 j
   cases hT9:cT lm ⟨.segs left turn la touch,k,us,last,op⟩ x at' rest with
   | error ca=>
     obtain⟨rfl,Y⟩:=j.bad ca.1 ca.2 hT9;go_wp2;go_ret;exact j
   | ok s9=>
     obtain⟨rfl,N⟩:=j.good s9 hT9;go_wp2;go_ret;exact j
 | start=>
   obtain⟨pv,M,m,c,l,u,rfl,y⟩:=N;have c5:w.cell? ⟨r,5,none⟩=some (.iface 155 (.agg #[])):=u.rd.c5;have bs:=bT u;obtain⟨w1,A0⟩:=aG (w.alloc (.cells #[] 155));have b1:Below w.heap.size w w1:=by rw[← A0];exact aJ (PD _ _) _
   have A:=aI (u.below b1);have B1:=aI (below_of b1 bs:Below base w w1);have c1:=A.rd.c1;have z5:=A.rd.free 5;have NI:=aI y;have D:=aI (fun W=>Eh x lm.ve rest W I R.ve hr);have HX:=aI I;have a1:=Sz;clear u L S hg C R b1 y bs I;by_cases g:bS x lm.ve rest=0
   ·rw[g]at D;have B:=aI (show cT lm ⟨.start,k,us,last,op⟩ x at' rest=if x=0 then .ok ⟨.mid,k,us,last,op⟩else .ok ⟨.vecs x (-1) none,k,us,last,op⟩from by unfold cT;simp only;rw[if_neg (by rw[g];decide)];by_cases h:x=0<;>simp[h]);clear g;obtain⟨w2,G⟩:=aG (w1.alloc (.cells #[.int .u64 x,.int .i64 (-1),.pointer none] 240));have b2:Below w1.heap.size w1 w2:=by rw[← G];exact aJ (PD _ _) _
    have P2:=aI (show w2.heap[w1.heap.size]?=some (.cells #[.int .u64 x,.int .i64 (-1),.pointer none] 240 (0,0)) by rw[← G];exact aK _ _ rfl);have E:=aI (A.below b2);have B2:=aI (B1.trans (below_of b2 (bT A)));have U:=aI (bT A);have A4:=E.rd.free 5;have J:=aI (E.part (qR 237 w1.heap.size));have V:Only (fun b=>b=r) w2 (w2.setCell ⟨r,5,none⟩ (qR 237 w1.heap.size)):=(Only.refl (fun b=>b=r) w2).setCell (p:=⟨r,5,none⟩) (.inl rfl) _;have P3:=aI (V.obj (fun e=>E.ne (show Typed w2 240 w1.heap.size from⟨_,P2⟩) aB e.symm) P2);have B3:=aI (B2.trans (V.below (n:=base) (bT E) (fun b hb=>by rw[hb];exact A.br)));have A5:=E.rd.c5;clear b2 V;by_cases g:x=0
    ·have g0:(x == 0)=true:=by rw[g];rfl
     have T:=aI (B.trans (if_pos g));have A6:=J.rd.free 5;have A7:=J.rd.c5;have O4:=aI (J.part (gF 241));have B4:=aI (B3.trans (((Only.refl (fun b=>b=r) _).setCell (p:=⟨r,5,none⟩) (.inl rfl) (gF 241)).below (n:=base) (bT J) (fun b hb=>by rw[hb];exact A.br)));clear B g;go_enter func99,ntmps99;go_wp2_with fail;refine(D _).mono ?_;rintro e w5 ⟨rfl,rfl⟩;go_wp2_with fail;go_ret;rw[T.out];exact⟨B4,fun c a Q=>(by cases Q),fun s' hs=>(by cases hs;exact⟨rfl,_,_,_,_,_,O4.toS rfl rfl rfl rfl,rfl,NI⟩)⟩
    have g0:(x == 0)=false:=by simpa using g
    have T:=aI (B.trans (if_neg g));have HG:=aI g;clear B g;go_enter func99,ntmps99;go_wp2_with fail;refine(D _).mono ?_;rintro e w5 ⟨rfl,rfl⟩;go_wp2_with fail;go_ret;rw[T.out];exact⟨B3,fun c a Q=>(by cases Q),fun s' hs=>(by cases hs;exact⟨rfl,_,_,_,_,_,J.toS rfl rfl rfl rfl,⟨⟨HX,by have:=HX.1;have:=HG.out;omega⟩,_,_,rfl,U,P3⟩,NI⟩)⟩
   have B:=aI (show cT lm ⟨.start,k,us,last,op⟩ x at' rest=.error (bS x lm.ve rest,at')from by unfold cT;simp only;rw[if_pos g]);obtain⟨lc,H⟩:=aG (bS x lm.ve rest);rw[H]at g D B;clear H;have KN:=aI (fun W=>cU lc at' g W);have g2:(lc == 0)=false:=by simpa using g
   clear g;go_enter func99,ntmps99;go_wp2_with fail;refine(D _).mono ?_;rintro e w5 ⟨rfl,rfl⟩;go_wp2_with fail;refine(KN _).mono ?_;rintro e w5 ⟨rfl,rfl⟩;go_wp2;go_ret;rw[B.out];exact⟨B1,fun c a Q=>(by cases Q;exact⟨rfl,_,_,_,_,A.rd⟩),fun s' hs=>(by cases hs)⟩
 | mid=>
   obtain⟨pv,M,m,c,l,u,rfl,y⟩:=N;have c5:w.cell? ⟨r,5,none⟩=some (.iface 241 (.agg #[])):=u.rd.c5;have bs:=bT u;obtain⟨w1,A0⟩:=aG (w.alloc (.cells #[] 241));have b1:Below w.heap.size w w1:=by rw[← A0];exact aJ (PD _ _) _
   have A:=aI (u.below b1);have B1:=aI (below_of b1 bs:Below base w w1);have c4:=A.rd.c4;have z5:=A.rd.free 5;have NI:=aI y;have D:=aI (fun W=>Eh x lm.se rest W I R.se hr);have HX:=aI I;have a1:=Cg;have a2:=Eu;have a3:=CR;clear u L S hg C R b1 y bs I;by_cases g:bS x lm.se rest=0
   ·rw[g]at D;have B:=aI (show cT lm ⟨.mid,k,us,last,op⟩ x at' rest=if x=0 then eH ⟨.mid,k,us,last,op⟩ (at'+pZ x) rest else .ok ⟨.segs x 0 0 false,k,us,last,op⟩from by unfold cT;simp only;rw[if_neg (by rw[g];decide)]);clear g;obtain⟨w2,G⟩:=aG (w1.alloc (.cells #[.int .u64 x,.int .i64 0,.int .i64 0,.bool false] 245));have b2:Below w1.heap.size w1 w2:=by rw[← G];exact aJ (PD _ _) _
    have P2:=aI (show SgC w2 w1.heap.size x 0 0 false by rw[← G];exact aK _ _ rfl);have E:=aI (A.below b2);have B2:=aI (B1.trans (below_of b2 (bT A)));have U:=aI (bT A);have A4:=E.rd.free 5;have J:=aI (E.part (qR 243 w1.heap.size));have V:Only (fun b=>b=r) w2 (w2.setCell ⟨r,5,none⟩ (qR 243 w1.heap.size)):=(Only.refl (fun b=>b=r) w2).setCell (p:=⟨r,5,none⟩) (.inl rfl) _;have P3:=aI (P2.only V (fun e=>E.ne P2.typed aB e.symm));have B3:=aI (B2.trans (V.below (n:=base) (bT E) (fun b hb=>by rw[hb];exact A.br)));have A5:=E.rd.c5;clear b2 V;by_cases g:x=0
    ·have KS:=aI (fun W=>rP x W HX);obtain⟨sz,P⟩:=aG ((vb 10 x).length);have A8:sz≤10:=by rw[← P];exact jF 10 _
     have A1:=aI (show pZ x=sz from by unfold pZ;rw[P]);have aw:IntKind.i64.wrap (at'+sz)=at'+sz:=PC _ aA;rw[P]at KS;clear P;have g0:(x == 0)=true:=by rw[g];rfl
     have T:=aI (B.trans (if_pos g));have KF:=aI (wF lm base r _ _ _ _ _ _ (at'+sz) rest _ J);clear B g;go_enter func99,ntmps99;go_wp2_with fail;refine(D _).mono ?_;rintro e w5 ⟨rfl,rfl⟩;go_wp2_with fail;refine(KS _).mono ?_;rintro e w8 ⟨rfl,rfl⟩;go_wp2_with fail;refine KF.mono ?_;rintro e w9 j;have j:=j.from B3
     cases hT9:eH ⟨.mid,k,us,last,op⟩ (at'+sz) rest with
     | error ca=>
       obtain⟨rfl,Y⟩:=j.bad ca.1 ca.2 hT9;go_wp2;go_ret;rw[T.out,A1.out];exact j
     | ok s9=>
       obtain⟨rfl,N⟩:=j.good s9 hT9;go_wp2;go_ret;rw[T.out,A1.out];exact j
    have g0:(x == 0)=false:=by simpa using g
    have T:=aI (B.trans (if_neg g));have HG:=aI g;clear B g;go_enter func99,ntmps99;go_wp2_with fail;refine(D _).mono ?_;rintro e w5 ⟨rfl,rfl⟩;go_wp2_with fail;go_ret;rw[T.out];exact⟨B3,fun c a Q=>(by cases Q),fun s' hs=>(by cases hs;exact⟨rfl,_,_,_,_,_,J.toS rfl rfl rfl rfl,⟨⟨HX,by have:=HX.1;have:=HG.out;omega⟩,_,rfl,U,P3⟩,_,SegX.start J.row NI,bT J⟩)⟩
   have B:=aI (show cT lm ⟨.mid,k,us,last,op⟩ x at' rest=.error (bS x lm.se rest,at')from by unfold cT;simp only;rw[if_pos g]);obtain⟨lc,H⟩:=aG (bS x lm.se rest);rw[H]at g D B;clear H;have KN:=aI (fun W=>cU lc at' g W);have g2:(lc == 0)=false:=by simpa using g
   clear g;go_enter func99,ntmps99;go_wp2_with fail;refine(D _).mono ?_;rintro e w5 ⟨rfl,rfl⟩;go_wp2_with fail;refine(KN _).mono ?_;rintro e w5 ⟨rfl,rfl⟩;go_wp2;go_ret;rw[B.out];exact⟨B1,fun c a Q=>(by cases Q;exact⟨rfl,_,_,_,_,A.rd⟩),fun s' hs=>(by cases hs)⟩
theorem Jj{w:World}{r j:Nat}{v:Value}{b:Array Value}{T:TypeId}{z:Nat×Nat}(h:w.heap[r]?=some (.cells b T z))(l:b[j]?=some v):w.setCell ⟨r,j,none⟩ v=w:=by
 have n:j<b.size:=by
  rcases Nat.lt_or_ge j b.size with g | g
  ·exact g
  rw[Array.getElem?_eq_none aA]at l;cases l
 have e:∀f:Obj→Obj,f (.cells b T z)=.cells b T z→w.heap.modify r f=w.heap:=fun f m=>by
  apply Array.ext_getElem?;intro i;rw[Array.getElem?_modify];split
  ·rename_i e;subst e;rw[h];simp[m]
  rfl
 unfold World.setCell;rw[e];simp only[Option.isSome_none,Bool.false_eq_true,if_false];congr 1
 apply Array.ext_getElem?;intro i;rw[Array.getElem?_setIfInBounds];split
 ·rename_i e;subst e;exact l.symm
 rfl
def MH (pt:Pt) (t:TypeId) (v:Value):Prop:=(pt.isFin=true→t=168∧v=.agg #[])∧(pt.isFin=false→t≠168)
theorem MemW.rd{w:World}{base r:Nat}{lm:cD}{y:Value}{s:WS}(h:MemW w base r lm y s):∃t v j m c,RdW w r lm (.iface t v) j m c y∧MH s.pt t v∧base≤r:=by
 obtain⟨pt,k,us,last,op⟩:=s
 cases pt with
 | fin=>
   obtain⟨u,j,m,c,l,b,rfl,_⟩:=h;exact⟨_,_,_,_,_,b.rd,⟨fun _=>⟨rfl,rfl⟩,(fun h=>by cases h)⟩,b.br⟩
 | start=>
   obtain⟨u,j,m,c,l,b,rfl,_⟩:=h;exact⟨_,_,_,_,_,b.rd,⟨(fun h=>by cases h),fun _=>aB⟩,b.br⟩
 | mid=>
   obtain⟨u,j,m,c,l,b,rfl,_⟩:=h;exact⟨_,_,_,_,_,b.rd,⟨(fun h=>by cases h),fun _=>aB⟩,b.br⟩
 | segs left turn la touch=>
   obtain⟨u,j,m,c,l,b,⟨_,p,rfl,_⟩,_⟩:=h;exact⟨_,_,_,_,_,b.rd,⟨(fun h=>by cases h),fun _=>aB⟩,b.br⟩
 | vecs left fr inner=>
   cases inner with
   | none=>
     obtain⟨u,j,m,c,l,b,⟨_,p,z,rfl,_⟩,_⟩:=h;exact⟨_,_,_,_,_,b.rd,⟨(fun h=>by cases h),fun _=>aB⟩,b.br⟩
   | some st=>
     obtain⟨wb,p,A,j,m,c,l,n⟩:=h;exact⟨_,_,_,_,_,n.out.rd.only n.only (n.out.ne n.tp aB),⟨(fun h=>by cases h),fun _=>aB⟩,n.out.br⟩
theorem Yt(t:TypeId)(v:Value)(h:t≠168)(w:World):(binOp .eql 160 (.iface t v) (.iface 168 (.agg #[]))).run prog w=.ok (.bool false) w:=run_eql_iface_types t _ v _ underlying160 h w
theorem Yr(t:TypeId)(v:Value)(h:t≠168)(w:World):(binOp .neq 160 (.iface t v) (.iface 168 (.agg #[]))).run prog w=.ok (.bool true) w:=by
 have h:∀d:Nat,(Op.equalIn (d+1) 160 (.iface t v) (.iface 168 (.agg #[]))).run prog w=.ok false w:=fun d=>by simp[Op.equalIn,run_underlying underlying160,h]
 simp only[binOp];simp[Op.equal,Op.maxDepth,h 9999]
theorem Yu(w:World):(binOp .eql 160 (.iface 168 (.agg #[])) (.iface 168 (.agg #[]))).run prog w=.ok (.bool true) w:=by
 have j:(prog.info? 168).map (·.comparable)=some true:=aC
 cases hi:prog.info? 168 with
 | none=>simp[hi]at j
 | some i=>
 have b:i.comparable=true:=by simpa[hi]using j
 have h1:∀d:Nat,(Op.equalIn (d+1) 168 (.agg #[]) (.agg #[])).run prog w=.ok true w:=fun d=>by simp[Op.equalIn,run_underlying underlying168]
 have h:∀d:Nat,(Op.equalIn (d+2) 160 (.iface 168 (.agg #[])) (.iface 168 (.agg #[]))).run prog w=.ok true w:=fun d=>by
  have h1:=h1 d;simp[Op.equalIn,run_underlying underlying160,typeInfo,hi,b,run_underlying underlying168]
 simp only[binOp];simp[Op.equal,Op.maxDepth,h 9998]
theorem MemW.below{w w':World}{base r:Nat}{lm:cD}{E:Value}{s:WS}(h:MemW w base r lm E s)(n:Below w.heap.size w w'):MemW w' base r lm E s:=by
 obtain⟨pt,k,us,last,op⟩:=s
 cases pt with
 | fin=>
   obtain⟨A,y,m,c,l,u,j,_⟩:=h;exact⟨_,_,_,_,_,u.below n,j,trivial⟩
 | start=>
   obtain⟨A,y,m,c,l,u,j,z⟩:=h;exact⟨_,_,_,_,_,u.below n,j,z⟩
 | mid=>
   obtain⟨A,y,m,c,l,u,j,z⟩:=h;exact⟨_,_,_,_,_,u.below n,j,z⟩
 | segs left turn la touch=>
   obtain⟨A,y,m,c,l,u,⟨B,p,rfl,bp,j⟩,F,C,D⟩:=h;exact⟨_,_,_,_,_,u.below n,⟨B,p,rfl,bp,(n.block p (aO j)).trans j⟩,F,C.below n,D⟩
 | vecs left fr inner=>
   cases inner with
   | none=>
     obtain⟨A,y,m,c,l,u,⟨B,p,G,rfl,bp,j⟩,z⟩:=h;exact⟨_,_,_,_,_,u.below n,⟨B,p,G,rfl,bp,(n.block p (aO j)).trans j⟩,z⟩
   | some st=>
     obtain⟨wb,p,H,y,m,c,l,b⟩:=h;exact⟨wb,p,H,y,m,c,l,b.out,b.bp,b.tp,b.only.belowN (n.mono b.only.size),(n.block p (aO b.cell)).trans b.cell,b.wl,b.fr0,b.inner.only (may:=fun _=>False) (Only.of_below n) (fun _ h=>h.elim),b.bw,b.ni⟩
structure JF (lm:cD) (base r:Nat) (o:Except (Int×Int) WS) (w:World) (e:Ending) (w':World):Prop where
 below:Below base w w'
 bad:∀c a,o=.error (c,a)→e=.returned (.tuple #[.bool true,.iface 107 (.agg #[.int .i64 c,.int .i64 a])])∧∃pv kv m c',RdW w' r lm pv kv m c' (.iface 107 (.agg #[.int .i64 c,.int .i64 a]))
 good:∀s',o=.ok s'→e=.returned (.tuple #[.bool s'.pt.isFin,.nilIface])∧MemW w' base r lm .nilIface s'
theorem Si(lm:cD)(G:uB lm)(H:vG lm)(base r:Nat)(s:WS)(x at' rest:Int)(w:World)(P:MemW w base r lm .nilIface s)(z:s.pt.isFin=false)(hx:aL x)(h0:0≤at')(ha:at'≤4000000000)(hr:-9223372036854775808≤rest∧rest≤9223372036854775807)(R:Laid w)(Q:0<base)(S:qH s)(T:vF lm s x at' rest) :
  Calls prog 55 #[.pointer (some ⟨r,0,none⟩),.int .u64 x,.int .i64 at',.int .i64 rest] w fun e w'=>JF lm base r (cT lm s x at' rest) w e w':=by
 have U:prog.follows .mixedOrders=true:=aC;have K:=aI (Oh lm G H base r s x at' rest w P z hx h0 ha hr R Q S T);obtain⟨t,v,kv,m,c,j,l,E⟩:=P.rd;have n1:=Yr t v (l.2 z);have c9:=j.c9;have c5:=j.c5;have A:=aI E;clear P T S G H R j l E;go_enter func55,ntmps55;go_wp2_with fail;refine K.mono ?_;rintro e w1 F;have I:=aI F
 cases hT9:cT lm s x at' rest with
 | error ca=>
   obtain⟨N,O⟩:=ca;obtain⟨rfl,A0,A1,m1,c1,j⟩:=F.bad N O hT9;have V:=j.free 9;have J:=j.c9;have L:=j.s9 (.iface 107 (.agg #[.int .i64 N,.int .i64 O]));have W:=L.c9;have ho:Only (fun b=>b=r) w1 (w1.setCell ⟨r,9,none⟩ (.iface 107 (.agg #[.int .i64 N,.int .i64 O]))):=(Only.refl (fun b=>b=r) w1).setCell (p:=⟨r,9,none⟩) (.inl rfl) _;have X:=aI ho;have M:=aI L;have u:=aI j.lt;clear F j L ho;go_wp2_with fail;go_quiet (fail);go_wp2_with fail;go_ret2;exact⟨I.below.trans ((X.drewN _).below (n:=base) (by have:=A.out;have:=u.out;omega) (fun b hb=>by rw[hb];exact A)),fun c a y=>(by rw[hT9]at y;cases y;exact⟨rfl,_,_,_,_,M.only ((Only.refl (fun _=>False) _).drewN _) (fun h=>h)⟩),fun s' hs=>(by rw[hT9]at hs;cases hs)⟩
 | ok s9=>
   obtain⟨rfl,B⟩:=F.good s9 hT9;obtain⟨t9,v9,A2,m9,A3,j,l,_⟩:=B.rd;have C:=aI B;have u:=aI (show base≤w1.heap.size from by have:=j.lt;have:=A.out;omega);have V:=j.free 9;have J:=j.c9;have Y:=j.c5;have Z:w1.setCell ⟨r,9,none⟩ .nilIface=w1:=Jj j rfl;clear F j B
   cases hf:s9.pt.isFin with
   | true=>
     obtain⟨rfl,rfl⟩:=l.1 hf;have n2:=Yu;go_wp2_with fail;go_quiet (fail);go_wp2_with fail;go_ret2;have D:=fun q=>aU (PD w1.heap.size w1) q;exact⟨I.below.trans (below_of (D _) u),fun c a y=>(by rw[hT9]at y;cases y),fun s' hs=>(by rw[hT9]at hs;cases hs;rw[hf];exact⟨rfl,C.below (D _)⟩)⟩
   | false=>
     have n2:=Yt t9 v9 (l.2 hf);go_wp2_with fail;go_quiet (fail);go_wp2_with fail;go_ret2;have D:=fun q=>aU (PD w1.heap.size w1) q;exact⟨I.below.trans (below_of (D _) u),fun c a y=>(by rw[hT9]at y;cases y),fun s' hs=>(by rw[hT9]at hs;cases hs;rw[hf];exact⟨rfl,C.below (D _)⟩)⟩
def NU (lm:cD):Value:=.agg #[.int .i64 lm.f,.int .i64 lm.ve,.int .i64 lm.en,.int .i64 lm.ho,.int .i64 lm.se]
theorem Ox(w:World):(Instr.makeMap 156 none).run prog w=.ok (.map (some w.heap.size)) (w.alloc (.map #[] 0)):=by
 simp[Instr.makeMap,run_underlying underlying156,go_sem]
theorem Ys(w:World):(binOp .neq 160 (.iface 168 (.agg #[])) (.iface 168 (.agg #[]))).run prog w=.ok (.bool false) w:=by
 have j:(prog.info? 168).map (·.comparable)=some true:=aC
 cases hi:prog.info? 168 with
 | none=>simp[hi]at j
 | some i=>
 have b:i.comparable=true:=by simpa[hi]using j
 have h:∀d:Nat,(Op.equalIn (d+2) 160 (.iface 168 (.agg #[])) (.iface 168 (.agg #[]))).run prog w=.ok true w:=fun d=>by
  simp[Op.equalIn,run_underlying underlying160,typeInfo,hi,b,run_underlying underlying168]
 simp only[binOp];simp[Op.equal,Op.maxDepth,h 9998]
theorem Ru{w':World}{base r:Nat}{lm:cD}{m c:Nat}(u:base≤r)(b:base≤m)(j:base≤c)(y:RdW w' r lm (gF 155) (.slice none 0 0) m c .nilIface)(A:UsedR w' m [])(B:CurAt w' c 0 0 0 0 false false 153):MemW w' base r lm .nilIface Lm:=
 ⟨_,_,m,c,[],⟨u,y,⟨World.ownsRow_nil _ _ _ _,aD⟩,rfl,A,⟨0,0,0,_,B,(fun l n=>by cases n),fun _=>rfl,fun z p=>by cases p⟩,b,j⟩,rfl,by intro f s;simp at s⟩
theorem wI(lm:cD)(base:Nat)(w:World)(A:base≤w.heap.size) :
  Calls prog 53 #[.agg #[.int .i64 lm.f,.int .i64 lm.ve,.int .i64 lm.en,.int .i64 lm.ho,.int .i64 lm.se]] w fun e w'=>∃r,e=.returned (.pointer (some ⟨r,0,none⟩))∧w.heap.size≤r∧MemW w' base r lm .nilIface Lm∧Below w.heap.size w w':=by
 have P:prog.follows .mixedOrders=true:=aC;have U:=aI (fun W=>zU 0 W);have H:=aI A;clear A;go_enter func53,ntmps53;go_wp2_with fail;obtain⟨w1,E⟩:=aG (w.alloc (.cells #[.int .i64 lm.f,.int .i64 lm.ve,.int .i64 lm.en,.int .i64 lm.ho,.int .i64 lm.se] 38));have b1:Below w.heap.size w w1:=by rw[← E];exact aJ (PD _ _) _
 have J:w1.heap[w.heap.size]?=some (.cells #[.int .i64 lm.f,.int .i64 lm.ve,.int .i64 lm.en,.int .i64 lm.ho,.int .i64 lm.se] 38 (0,0)):=by rw[← E];exact aK _ _ rfl
 rw[E];have Q:=aI b1;have Y:w1.cell? ⟨w.heap.size,0,none⟩=some (.int .i64 lm.f):=by simp[PE,J]
 have Z:w1.cell? ⟨w.heap.size,1,none⟩=some (.int .i64 lm.ve):=by simp[PE,J]
 have l2:w1.cell? ⟨w.heap.size,2,none⟩=some (.int .i64 lm.en):=by simp[PE,J]
 have l3:w1.cell? ⟨w.heap.size,3,none⟩=some (.int .i64 lm.ho):=by simp[PE,J]
 have l4:w1.cell? ⟨w.heap.size,4,none⟩=some (.int .i64 lm.se):=by simp[PE,J]
 clear E b1 J;refine wp_region_held_drew (S:=Only (fun _=>False) w1) P (Only.refl _ _).drew (fun G=>?_);obtain⟨wd,O⟩:=aG w1.drew;rw[O]at G ⊢;clear O;refine dL 0 3 (.agg #[.int .i64 lm.f,.int .i64 lm.ve,.int .i64 lm.en,.int .i64 lm.ho,.int .i64 lm.se]) ?_ ?_
 ·intro X I;have x0:=I.cell (fun h=>h) Y;have x1:=I.cell (fun h=>h) Z;have x2:=I.cell (fun h=>h) l2;have x3:=I.cell (fun h=>h) l3;have x4:=I.cell (fun h=>h) l4;go_simp
 refine aP 1 4 (.agg #[]) ?_;refine aP 2 5 (.iface 155 (.agg #[])) ?_;refine Se 3 4 (fun K l=>?_) fun K l=>?_;have p:=G.alloc (.map #[] 0);go_simp;refine l _ _ p (fun _=>?_);clear l K;refine cW 4 fun K l=>?_;go_simp;refine(U _).mono ?_;rintro e y ⟨rfl,B,u⟩;obtain⟨m,C⟩:=aG wd.heap.size;obtain⟨c,F⟩:=aG ((wd.alloc (.map #[] 0)).heap.size);have L:=(UsedR.made wd).at (u.block wd.heap.size aD);have R:m≤c:=by rw[← C,← F];simp
 rw[C]at L;rw[F]at B;have b:=p.trans (Only.of_below u);rw[C,F];have D:w1.heap.size≤m:=by rw[← C];exact G.size
 clear u p G C F;go_simp;refine l _ _ b (fun _=>?_);clear l K;refine aP 5 8 (.agg #[.int .i64 lm.f,.int .i64 lm.ve,.int .i64 lm.en,.int .i64 lm.ho,.int .i64 lm.se,.iface 155 (.agg #[]),.slice none 0 0,.map (some m),.pointer (some ⟨c,0,none⟩),.nilIface]) ?_;refine cW 6 fun K l=>?_;obtain⟨w5,j⟩:=aG (y.alloc (.cells #[.int .i64 lm.f,.int .i64 lm.ve,.int .i64 lm.en,.int .i64 lm.ho,.int .i64 lm.se,.iface 155 (.agg #[]),.slice none 0 0,.map (some m),.pointer (some ⟨c,0,none⟩),.nilIface] 162));have V:RdW w5 y.heap.size lm (gF 155) (.slice none 0 0) m c .nilIface:=by rw[← j];exact aK _ _ rfl
 have M:=(show CurAt w5 c 0 0 0 0 false false 153 from by rw[← j];exact aT y _ (aO B) B);have N:UsedR w5 m []:=L.at (by rw[← j];exact(aJ (PD y.heap.size y) _).block m L.lt);have s:=b.alloc (.cells #[.int .i64 lm.f,.int .i64 lm.ve,.int .i64 lm.en,.int .i64 lm.ho,.int .i64 lm.se,.iface 155 (.agg #[]),.slice none 0 0,.map (some m),.pointer (some ⟨c,0,none⟩),.nilIface] 162);rw[j]at s;have T:=b.size;go_simp;refine l _ _ s (fun _=>?_);clear l K;refine cB (i:=7) (d:=some 2) (v:=(.pointer (some ⟨y.heap.size,0,none⟩))) rfl rfl aC aC aC (fun _ _ _ h=>h) (Or.inl ⟨by rfl,?_⟩) aF ?_
 ·intro X I;go_simp
 rotate_left;go_simp;refine(U _).mono ?_;rintro e y ⟨rfl,B,u⟩;obtain⟨c,F⟩:=aG wd.heap.size;have D:=aI (PI G.size u.size);have R:w1.heap.size≤c:=by rw[← F];exact G.size
 have p:=G.trans (Only.of_below u);rw[F]at B ⊢;clear u G F;go_simp;refine l _ _ p (fun _=>?_);clear l K;refine cW 3 fun K l=>?_;have mk:=Ox y;go_simp;clear mk;have D:=D.out;obtain⟨m,C⟩:=aG y.heap.size;obtain⟨w4,z⟩:=aG (y.alloc (.map #[] 0));have L:UsedR w4 m []:=by rw[← z,← C];exact UsedR.made y
 have B:=(show CurAt w4 c 0 0 0 0 false false 153 from by rw[← z];exact aT y _ (aO B) B);have b:=p.alloc (.map #[] 0);rw[z]at b;rw[C]at D;rw[z,C];clear p z C;refine l _ _ b (fun _=>?_);clear l K;refine aP 5 8 (.agg #[.int .i64 lm.f,.int .i64 lm.ve,.int .i64 lm.en,.int .i64 lm.ho,.int .i64 lm.se,.iface 155 (.agg #[]),.slice none 0 0,.map (some m),.pointer (some ⟨c,0,none⟩),.nilIface]) ?_;refine cW 6 fun K l=>?_;obtain⟨w5,j⟩:=aG (w4.alloc (.cells #[.int .i64 lm.f,.int .i64 lm.ve,.int .i64 lm.en,.int .i64 lm.ho,.int .i64 lm.se,.iface 155 (.agg #[]),.slice none 0 0,.map (some m),.pointer (some ⟨c,0,none⟩),.nilIface] 162));have V:RdW w5 w4.heap.size lm (gF 155) (.slice none 0 0) m c .nilIface:=by rw[← j];exact aK _ _ rfl
 have M:=(show CurAt w5 c 0 0 0 0 false false 153 from by rw[← j];exact aT w4 _ (aO B) B);have N:UsedR w5 m []:=L.at (by rw[← j];exact(aJ (PD w4.heap.size w4) _).block m L.lt);have s:=b.alloc (.cells #[.int .i64 lm.f,.int .i64 lm.ve,.int .i64 lm.en,.int .i64 lm.ho,.int .i64 lm.se,.iface 155 (.agg #[]),.slice none 0 0,.map (some m),.pointer (some ⟨c,0,none⟩),.nilIface] 162);rw[j]at s;have T:=b.size;go_simp;refine l _ _ s (fun _=>?_);clear l K;refine cB (i:=7) (d:=some 2) (v:=(.pointer (some ⟨w4.heap.size,0,none⟩))) rfl rfl aC aC aC (fun _ _ _ h=>h) (Or.inl ⟨by rfl,?_⟩) aF ?_
 ·intro X I;go_simp
 rotate_left
 all_goals
  simp only[Act.put,PF,PG,PH];refine iM ?_;have hB:=Q.trans (s.below (n:=w.heap.size) Q.size (fun _ h=>h.elim));have A0:=Q.size;have A1:=H.out;have A2:=PJ c;clear b s;go_wp2;go_ret;exact⟨_,rfl,aA,Ru aA aA aA V N M,hB⟩
theorem zM(lm:cD)(base r:Nat)(s:WS)(w:World)(B:MemW w base r lm .nilIface s)(C:s.pt=.fin) :
  Calls prog 56 #[.pointer (some ⟨r,0,none⟩)] w fun e w'=>∃j,e=.returned j∧∃l,KRow w' base j l∧l.map FV.frag=s.k∧Below w.heap.size w w':=by
 obtain⟨pt,k,us,last,op⟩:=s;obtain rfl:pt=.fin:=C;obtain⟨G,j,m,c,l,b,rfl,_⟩:=B;obtain⟨H,I,p,_⟩:=aY b.row.row;subst p;have D:=Ys;have E:=b.rd.c9;have F:w.cell? ⟨r,5,none⟩=some (.iface 168 (.agg #[])):=b.rd.c5;have u:=aI b.row;have y:=aI b.frags;obtain⟨n,en⟩:=aG l.length;have z:=b.rd.c6;rw[en]at z;have A:=aI en;clear b en;go_enter func56,ntmps56;go_wp2;go_ret;rw[← A.out];exact⟨_,rfl,l,u,y,PD _ _⟩
theorem Oi(lm:cD)(r:Nat)(t:TypeId)(v j l:Value)(m c:Nat)(w:World)(b:RdW w r lm j l m c (.iface t v)) :
  Calls prog 56 #[.pointer (some ⟨r,0,none⟩)] w fun e w'=>e=.returned (.slice none 0 0)∧Below w.heap.size w w':=by
 have n:=b.c9;clear b;go_enter func56,ntmps56;go_wp2;go_ret;exact⟨rfl,PD _ _⟩
inductive mT (lm:cD) (d:Int) (zs:List Int):WS→Int→Except (Int×Int) (List Frag)→Prop where
 | rd {s:WS} {a c:Int}:Rd zs a (.error c)→mT lm d zs s a (.error (c,d+a))
 | stop {s:WS} {a x n c b:Int}:Rd zs a (.ok (x,n))→qH s→vF lm s x (d+a) (zs.length-n)→cT lm s x (d+a) (zs.length-n)=.error (c,b)→mT lm d zs s a (.error (c,b))
 | fin {s s':WS} {a x n:Int}:Rd zs a (.ok (x,n))→qH s→vF lm s x (d+a) (zs.length-n)→cT lm s x (d+a) (zs.length-n)=.ok s'→s'.pt.isFin=true→mT lm d zs s a (.ok s'.k)
 | next {s s':WS} {a x n:Int} {o:Except (Int×Int) (List Frag)}:Rd zs a (.ok (x,n))→qH s→vF lm s x (d+a) (zs.length-n)→cT lm s x (d+a) (zs.length-n)=.ok s'→s'.pt.isFin=false→mT lm d zs s' n o→mT lm d zs s a o
def JD (lm:cD) (d b:Int) (zs:List Int) (s:WS) (a:Int) (o:Except (Int×Int) (List Frag)):Prop:=
 (∃c,Rd zs a (.error c)∧o=.error (c,b))∨(∃x n,Rd zs a (.ok (x,n))∧qH s∧vF lm s x b (zs.length-n) ∧
    ((∃c b',cT lm s x b (zs.length-n)=.error (c,b')∧o=.error (c,b'))∨(∃s',cT lm s x b (zs.length-n)=.ok s'∧s'.pt.isFin=true∧o=.ok s'.k)∨(∃s',cT lm s x b (zs.length-n)=.ok s'∧s'.pt.isFin=false∧mT lm d zs s' n o)))
theorem wU{lm:cD}{d:Int}{zs:List Int}{s:WS}{a:Int}{o:Except (Int×Int) (List Frag)}(h:mT lm d zs s a o):JD lm d (d+a) zs s a o:=by
 cases h with
 | rd h1=>exact .inl ⟨_,h1,rfl⟩
 | stop h1 h2 h3 h4=>exact .inr ⟨_,_,h1,h2,h3,.inl ⟨_,_,h4,rfl⟩⟩
 | fin h1 h2 h3 h4 h5=>exact .inr ⟨_,_,h1,h2,h3,.inr (.inl ⟨_,h4,h5,rfl⟩)⟩
 | next h1 h2 h3 h4 h5 h6=>exact .inr ⟨_,_,h1,h2,h3,.inr (.inr ⟨_,h4,h5,h6⟩)⟩
theorem Fj{lm:cD}{zs:List Int}{s:WS}{a:Int}{o:Except (Int×Int) (List Frag)}(h:mT lm 0 zs s a o):JD lm 0 a zs s a o:=by
 have:=wU h;rwa [Int.zero_add]at this
def Bz (base:Nat) (o:Except (Int×Int) (List Frag)) (e:Ending) (w':World):Prop:=
 match o with
 | .error (c,a)=>e=.returned (.tuple #[.slice none 0 0,.iface 107 (.agg #[.int .i64 c,.int .i64 a])])
 | .ok k=>∃v,e=.returned (.tuple #[v,.nilIface])∧∃l,KRow w' base v l∧l.map FV.frag=k
theorem Hk{pt:Pt}(h:pt.isFin=true):pt=.fin:=by cases pt<;>first | rfl | cases h
theorem rI(lm:cD)(j:uB lm)(l:vG lm)(base r:Nat)(s:WS)(x at' rest:Int)(o:Except (Int×Int) WS)(ho:cT lm s x at' rest=o)(w:World)(n:MemW w base r lm .nilIface s)(b:s.pt.isFin=false)(p:aL x)(h0:0≤at')(u:at'≤4000000000)(y:-9223372036854775808≤rest∧rest≤9223372036854775807)(z:Laid w)(m:0<base)(A:qH s)(B:vF lm s x at' rest) :
  Calls prog 55 #[.pointer (some ⟨r,0,none⟩),.int .u64 x,.int .i64 at',.int .i64 rest] w fun e w'=>JF lm base r o w e w':=by
 subst ho;exact Si lm j l base r s x at' rest w n b p h0 u y z m A B
theorem Ef(p:Option Addr)(len cap:Nat)(zs:List Int)(lm:cD)(N:uB lm)(O:vG lm)(o:Except (Int×Int) (List Frag))(w:World)(hg:Laid w)(h:Ints .u8 w p len zs)(J:len≤cap)(K:len≤4000000000)(hr:mT lm 0 zs Lm 0 o) :
  Calls prog 16 #[.slice p len cap,.agg #[.int .i64 lm.f,.int .i64 lm.ve,.int .i64 lm.en,.int .i64 lm.ho,.int .i64 lm.se]] w fun e w'=>Below w.heap.size w w'∧Bz w.heap.size o e w':=by
 have P:=h.length;have H0:=aI (show 0<w.heap.size from by
  exact hg.pos)
 have A:=aI hg;have I:=aI h;have Q:=aI hr;have A2:=aI (fun W (hW:w.heap.size≤W.heap.size)=>wI lm w.heap.size W hW);clear hg h hr;go_enter func16,ntmps16;go_wp2_with fail;refine(A2 _ aD).mono ?_;rintro e w1 ⟨r,rfl,A6,V,X⟩;have R:=aI V;have B1:=aI (aN (aJ (PD _ _) _) X);clear V X A6;go_wp2_with fail;go_loopw [7] (fun c wr=>∃(s:WS) (a:Nat),c=.int .i64 a∧a≤len∧mT lm 0 zs s a o∧s.pt.isFin=false∧MemW wr w.heap.size r lm .nilIface s∧Below w.heap.size w wr)
  (fun c _=>len-(intOf c).toNat)
 case atStart=>exact⟨Lm,0,rfl,aA,Q,rfl,R,B1⟩
 obtain⟨s,a,rfl,A7,u,y,Y,M⟩:=hrel;clear R B1;have HM:=aI Y;have HB:=aI M;rcases Fj u with⟨c,hq,ho⟩ | ⟨x,n,hq,hB,hN,hcase⟩
 ·subst ho;have L:=aI (Cx p len cap zs a (.error c) wr (I.below M) J K aA hq);rw[show GU (a:Int) (.error c)=.tuple #[.int .u64 0,.int .i64 0,.iface 107 (.agg #[.int .i64 c,.int .i64 a])] from rfl]at L;clear u hq Y M Q y;go_wp2_with fail;refine L.mono ?_;rintro e w2 ⟨rfl,j⟩;have H:=aI (aN HB j);clear j;go_wp2;go_ret2;exact⟨H,rfl⟩
 have L:=aI (Cx p len cap zs a (.ok (x,n)) wr (I.below M) J K aA hq);obtain⟨_,A8,A9,z⟩:=xH hq;obtain⟨n,rfl⟩:∃m:Nat,n=m:=⟨n.toNat,aA⟩;rw[show GU (a:Int) (.ok (x,(n:Int)))=.tuple #[.int .u64 x,.int .i64 n,.nilIface] from rfl]at L;have q0:IntKind.i64.wrap ((len:Int)-n)=(len:Int)-n:=by rw[IntKind.wrap_i64];omega
 rcases hcase with⟨c,b,hs,ho⟩ | ⟨s',hs,hf,ho⟩ | ⟨s',hs,hf,hrun'⟩
 ·subst ho;have S:=aI (fun W F G=>rI lm N O w.heap.size r s x a (len-n) (.error (c,b)) (by rw[← P];exact hs) W F y z aA aA aA G H0 hB (by rw[← P];exact hN));clear u hq Y M Q y hs z hB hN;go_wp2_with fail;refine L.mono ?_;rintro e w2 ⟨rfl,j⟩;have H:=aI (aN HB j);have B:=aI (HM.below j);clear j;go_wp2_with fail;refine(S _ B (A.below H)).mono ?_;rintro e w3 C;obtain⟨rfl,B0,B5,m3,c3,Z⟩:=C.bad c b rfl;have T:=aI (H.trans C.below);have KK:=aI (Oi lm r _ _ _ _ _ _ _ Z);clear C Z;go_wp2_with fail;refine KK.mono ?_;rintro e w4 ⟨rfl,D⟩;have B4:=aI (aN T D);clear D;go_wp2;go_ret2;exact⟨B4,rfl⟩
 ·subst ho;have S:=aI (fun W F G=>rI lm N O w.heap.size r s x a (len-n) (.ok s') (by rw[← P];exact hs) W F y z aA aA aA G H0 hB (by rw[← P];exact hN));clear u hq Y M Q y hs z hB hN;go_wp2_with fail;refine L.mono ?_;rintro e w2 ⟨rfl,j⟩;have H:=aI (aN HB j);have B:=aI (HM.below j);clear j;go_wp2_with fail;refine(S _ B (A.below H)).mono ?_;rintro e w3 C;obtain⟨he,E⟩:=C.good s' rfl;rw[hf]at he;subst he;have T:=aI (H.trans C.below);have KK:=aI (zM lm _ r _ _ E (Hk hf));clear C E;go_wp2_with fail;refine KK.mono ?_;rintro e w4 ⟨v,rfl,l,A0,A1,D⟩;have B4:=aI (aN T D);have A3:=aI A0;have A4:=aI A1;clear D A0 A1;go_wp2;go_ret2;exact⟨B4,_,rfl,l,A3,A4⟩
 have S:=aI (fun W F G=>rI lm N O w.heap.size r s x a (len-n) (.ok s') (by rw[← P];exact hs) W F y z aA aA aA G H0 hB (by rw[← P];exact hN));have U:=aI hrun';clear u hq Y M Q y hs z hB hN hrun';go_wp2_with fail;refine L.mono ?_;rintro e w2 ⟨rfl,j⟩;have H:=aI (aN HB j);have B:=aI (HM.below j);clear j;go_wp2_with fail;refine(S _ B (A.below H)).mono ?_;rintro e w3 C;obtain⟨he,E⟩:=C.good s' rfl;rw[hf]at he;subst he;have T:=aI (H.trans C.below);have A5:=aI E;have HF:=aI hf;clear C E hf;go_wp2;go_roundw
 case rel=>exact⟨s',n,rfl,aA,U,HF,A5,T⟩
 simp[intOf];omega
end Go.Proofs.YtbkkolfpegplgaaGreatDoor
