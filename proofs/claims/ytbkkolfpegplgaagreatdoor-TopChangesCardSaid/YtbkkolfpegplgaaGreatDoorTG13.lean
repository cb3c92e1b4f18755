import Derived.Test.YtbkkolfpegplgaaGreatDoorTG11
import Derived.Test.YtbkkolfpegplgaaGreatDoorTG16
import Derived.Test.YtbkkolfpegplgaaGreatDoorTG17
import Derived.Test.YtbkkolfpegplgaaGreatDoorTG43
open Go.RowKit.Below renaming refl→PC
open Go.World renaming cell?→PD
open List renaming getElem?_eq_getElem→PE,getD→PF,length_append→PG,length_cons→PH,length_map→PI,flatMap_cons→PJ,flatMap_append→PM,getElem?_append_left→PN,append_assoc→PO,append_nil→PQ,getElem?_append_right→PS,getElem?_map→PT,length_take→PU,length_drop→PV,getElem_mem→PX,flatMap_nil→PY,cons_append→PZ,nil_append→QA,length_nil→QB
open Nat renaming le_trans→QC,le_refl→QE,zero_add→QF,zero_le→QG,lt_of_lt_of_le→QH,add_sub_cancel→QI
open Go.Proofs.Tryz
set_option maxHeartbeats 8000000
set_option maxRecDepth 100000
set_option linter.unusedSimpArgs false
namespace Go.Proofs.YtbkkolfpegplgaaGreatDoor
open Go Go.RowKit
theorem xB{X Y:World}{b:Nat}{o:Obj}(j:Below X.heap.size X Y)(h:X.heap[b]?=some o):Y.heap[b]?=some o:=(j.block _ (aO h)).trans h
structure HiT (r:Nat) (lm:cD) (fn v:Value) (ents hls:Int) (cp:Value) (b8:Nat) (lo hi:Int) (W:World):Prop where
 rd:RdR W r lm fn .nilIface v ents hls cp
 s0:W.cell? ⟨b8,0,none⟩=some (.int .u64 lo)
 s1:W.cell? ⟨b8,1,none⟩=some (.int .u64 hi)
theorem eV{X Y:World}{b i:Nat}{v:Value}(l:Below X.heap.size X Y)(j:X.cell? ⟨b,i,none⟩=some v):Y.cell? ⟨b,i,none⟩=some v:=aM l (block_lt_of_cell j) j
theorem HiT.below{r:Nat}{lm:cD}{fn v:Value}{ents hls:Int}{cp:Value}{j:Nat}{lo hi:Int}{W W':World}(h:HiT r lm fn v ents hls cp j lo hi W)(b:Below W.heap.size W W'):HiT r lm fn v ents hls cp j lo hi W':=
 ⟨h.rd.below b,eV b h.s0,eV b h.s1⟩
theorem HiT.drew{r:Nat}{lm:cD}{fn v:Value}{ents hls:Int}{cp:Value}{b:Nat}{lo hi:Int}{W:World}(h:HiT r lm fn v ents hls cp b lo hi W):HiT r lm fn v ents hls cp b lo hi W.drew:=h.below (aS (PC _ _))
theorem HiT.alloc{r:Nat}{lm:cD}{fn v:Value}{ents hls:Int}{cp:Value}{b:Nat}{lo hi:Int}{W:World}(h:HiT r lm fn v ents hls cp b lo hi W)(o:Obj):HiT r lm fn v ents hls cp b lo hi (W.alloc o):=h.below (aJ (PC _ _) _)
theorem HiT.new8{r:Nat}{lm:cD}{fn v:Value}{ents hls:Int}{cp:Value}{b:Nat}{lo hi:Int}{W:World}(_:HiT r lm fn v ents hls cp b lo hi W):(W.alloc (.cells #[.int .u64 lo,.int .u64 hi] 123)).heap[W.heap.size]?=some (.cells #[.int .u64 lo,.int .u64 hi] 123 (0,0)):=aK _ _ rfl
theorem IK{w:World}{b:Nat}{x y:Value}{t:TypeId}(h:w.heap[b]?=some (.cells #[x,y] t (0,0))):∀j u,[x,y][j]?=some u→w.cell? ((⟨b,0,none⟩:Addr).add j)=some u:=by
 have m:∀j,(⟨b,0,none⟩:Addr).add j=⟨b,0+j,none⟩:=by
  intro j;unfold Addr.add;split<;>simp_all
 intro j u l;rw[m];match j,l with
 | 0,l=>simp at l;subst l;simp[PD,h]
 | 1,l=>simp at l;subst l;simp[PD,h]
theorem Qu:(prog.info? 123).map (fun i=>(i.zero,i.size,i.bytes))=some (some (.agg #[.int .u64 0,.int .u64 0]),2,16):=aC
structure HiH (W0:World) (r:Nat) (lm:cD) (fn v:Value) (ents hls:Int) (cp:Value) (b8:Nat) (lo hi:Int) (g o:Nat) (mx:Int) (W:World):Prop where
 rd:RdR W r lm fn .nilIface v ents hls cp
 s0:W.cell? ⟨b8,0,none⟩=some (.int .u64 lo)
 s1:W.cell? ⟨b8,1,none⟩=some (.int .u64 hi)
 cm:W.cell? ⟨g,o,none⟩=some (.int .u64 mx)
 bl:Below W0.heap.size W0 W
theorem HiH.below{W0:World}{r:Nat}{lm:cD}{fn v:Value}{ents hls:Int}{cp:Value}{j:Nat}{lo hi:Int}{g o:Nat}{mx:Int}{W W':World}(h:HiH W0 r lm fn v ents hls cp j lo hi g o mx W)(b:Below W.heap.size W W'):HiH W0 r lm fn v ents hls cp j lo hi g o mx W':=
 ⟨h.rd.below b,eV b h.s0,eV b h.s1,eV b h.cm,aN h.bl b⟩
theorem HiH.drew{W0:World}{r:Nat}{lm:cD}{fn v:Value}{ents hls:Int}{cp:Value}{b:Nat}{lo hi:Int}{g o:Nat}{mx:Int}{W:World}(h:HiH W0 r lm fn v ents hls cp b lo hi g o mx W):HiH W0 r lm fn v ents hls cp b lo hi g o mx W.drew:=h.below (aS (PC _ _))
theorem Ct{w:World}{base B g cap:Nat}{hv:Value}{l:List EV}{e:Ent}(h:RowC w base (.slice (some ⟨g,0,none⟩) (l.length+1) cap) l e B hv):w.cell? ⟨g,l.length * 3+2,none⟩=some hv:=by
 obtain⟨n,b,j,_,_,_,_,_,_,_,m⟩:=dM h;simp at j;obtain⟨rfl,_⟩:=j;exact m
theorem Hf(zs:List Iv)(x y:Int):dW (zs ++ [(x,y)])=y:=by
 unfold dW Hi;rw[tL];simp
theorem Zx{W w3:World}{base r g cap B p b8:Nat}{lm:cD}{fn cp hv n:Value}{ents hls lo hi M N O x y:Int}{sm:Bool}{f:FuncId}{l:List EV}{cur:Ent}
  (A3:base≤r) (X:HiT r lm fn (.slice (some ⟨g,0,none⟩) (l.length+1) cap) ents hls cp b8 x y W) (s:RowC W base (.slice (some ⟨g,0,none⟩) (l.length+1) cap) l cur B hv)
  (Y:CurOk W base cp { cur with hs:=cur.hs ++ [(lo,hi)] } none p M N O sm f) (h1:aL lo) (h2:aL hi) (h8:∀k,hv.ownBlock=some k→k≠b8) (ng:g≠b8)
  (I:w3.ownsRow B 123 2 n (cur.hs.length+1) (bB cur.hs ++ [.int .u64 lo,.int .u64 hi])) (hg:W.grownBy w3 hv.ownBlock) :
  (HiT r lm fn (.slice (some ⟨g,0,none⟩) (l.length+1) cap) ents hls cp b8 x y w3∧w3.cell? ⟨g,l.length * 3+2,none⟩=some hv∧∀j,w3.frozen? ⟨g,j,none⟩=false) ∧
  HiT r lm fn (.slice (some ⟨g,0,none⟩) (l.length+1) cap) ents hls cp b8 x y (w3.setCell ⟨g,l.length * 3+2,none⟩ n) ∧
  RowC (w3.setCell ⟨g,l.length * 3+2,none⟩ n) base (.slice (some ⟨g,0,none⟩) (l.length+1) cap) l { cur with hs:=cur.hs ++ [(lo,hi)] } B n ∧
  CurOk (w3.setCell ⟨g,l.length * 3+2,none⟩ n) base cp { cur with hs:=cur.hs ++ [(lo,hi)] } none p M N O sm f∧Below base W (w3.setCell ⟨g,l.length * 3+2,none⟩ n):=by
 have P:=X.rd;have A1:=P.lt;obtain⟨g',A0,e1,U,A2,E,_,_,_,_,cH⟩:=dM s;simp at e1;obtain⟨rfl,rfl⟩:=e1;have u:Only (fun b=>hv.ownBlock=some b) W w3:=iR hg;have Q:∀k,hv.ownBlock=some k→Typed W 123 k:=fun k m=>aR s.own.row m;have nr:¬hv.ownBlock=some r:=fun m=>P.typed.ne (Q _ m) aB rfl;have J:¬hv.ownBlock=some g:=fun m=>E.ne (Q _ m) aB rfl;have np:¬hv.ownBlock=some p:=fun m=>Y.typed.ne (Q _ m) aB rfl;have Z:¬hv.ownBlock=some b8:=fun m=>h8 _ m rfl;have D:HiT r lm fn (.slice (some ⟨g,0,none⟩) (l.length+1) cap) ents hls cp b8 x y w3:=⟨P.only u nr,u.cell Z X.s0,u.cell Z X.s1⟩;have F:Typed w3 96 g:=by obtain⟨cs,e⟩:=E;exact⟨cs,u.obj J e⟩
 have R:=D.rd;have S:=Y.only u np;have G:Only (fun b=>b=g) w3 (w3.setCell ⟨g,l.length * 3+2,none⟩ n):=(Only.refl (fun b=>b=g) w3).setCell (p:=⟨g,l.length * 3+2,none⟩) (.inl rfl) _;have A:=bF s.row u (fun k m V=>by simp[Value.ownBlock]at m;subst m;exact J V);have hs:=A.stored (l.length * 3+2) n;rw[Rr l cur hv n (cur.hs ++ [(lo,hi)])]at hs;have T:¬r=g:=fun e=>P.typed.ne E aB e;have K:¬b8=g:=fun e=>ng e.symm;refine⟨⟨D,u.cell J cH,A.frozenAt⟩,⟨R.only G T,G.cell K D.s0,G.cell K D.s1⟩,⟨hs.1,s.le,QC s.lt (QC u.size G.size),fun q hq=>?_,s.words,⟨?_,?_⟩,⟨s.word.rep,s.word.mx,?_⟩⟩,S.only G (fun e=>Y.typed.ne E aB e),?_⟩
 ·refine((s.fins q hq).only u fun k m=>.inl (s.own.row.lt k m).1).only G fun k m=>.inr ?_;subst m;exact F.not aB
 ·have H:w3.ownsRow B 123 2 n (cur.hs ++ [(lo,hi)]).length (bB (cur.hs ++ [(lo,hi)])):=by
   rw[gS]at I;simpa using I
  exact bF H G (fun k m V=>by subst V;exact F.ne (aR H m) aB rfl)
 ·intro z C;rcases List.mem_append.1 C with C | C
  ·exact s.own.words z C
  obtain rfl:z=(lo,hi):=by simpa using C
  exact⟨h1,h2⟩
 ·intro z C;rcases List.mem_append.1 C with C | C
  ·exact s.word.hs z C
  obtain rfl:z=(lo,hi):=by simpa using C
  exact⟨h1,h2⟩
 have L:base≤W.heap.size:=by have:=s.le;have:=s.lt;omega
 refine(u.below L fun k m=>QC s.le (s.own.row.lt k m).1).trans (G.below (QC L u.size) fun k m=>by subst m;exact U)
theorem hi_over(lm:cD)(base r p:Nat)(fn v cp:Value)(cur:Ent)(ents hls x rest lo b j:Int)(s:Bool)(f:FuncId)(w:World)(u:RdR w r lm fn .nilIface v ents hls cp)(n:CurOk w base cp cur (some lo) p lo b j s f)(y:aL lo)(z:aL x)(hs:¬lo+x<18446744073709551616) :
  Calls prog 274 #[.pointer (some ⟨r,0,none⟩),.int .u64 x,.int .i64 rest] w fun e w'=>e=.returned (.tuple #[.nilFunc,.iface 42 (.int .i64 8)])∧Below w.heap.size w w':=by
 have l:prog.follows .mixedOrders=true:=aC;have m:=n.ptr;subst m;have A:=u.c10;have B:=aI (CF p x 1 lo b j s f w n.cur y z hs);clear u n y z hs;go_enter func274,ntmps274;go_wp2_with fail;refine B.mono ?_;rintro e E ⟨rfl,b1⟩;have C:=aI (aJ b1 (.cells #[.int .u64 0,.int .u64 0] 123));clear b1;go_wp2_with fail;refine wp_region_held_drew (S:=Below w.heap.size w) l (aS C) (fun D=>?_);refine aP 0 19 (.bool false) ?_;refine aP 1 20 (.bool true) ?_;refine aP 2 21 (.bool true) ?_;refine jB 3 22 ?_;refine jB 4 23 ?_;refine jB 5 24 ?_;refine jB 6 25 ?_;refine jB 7 26 ?_;refine jB 8 27 ?_;refine jB 9 28 ?_;refine jB 10 29 ?_;refine aP 11 30 (.bool true) ?_;refine iM ?_;go_wp2;go_ret2;exact⟨rfl,D⟩
theorem Wb(lm:cD)(base r p g cap B:Nat)(fn cp hv:Value)(l:List EV)(cur:Ent)(ents hls x rest lo P Q:Int)(sm:Bool)(f:FuncId)(w:World)(A3:base≤r)(hR:RdR w r lm fn .nilIface (.slice (some ⟨g,0,none⟩) (l.length+1) cap) ents hls cp)
  (E:RowC w base (.slice (some ⟨g,0,none⟩) (l.length+1) cap) l cur B hv) (A:CurOk w base cp cur (some lo) p lo P Q sm f) (hl:aL lo) (hx:aL x) (hs:lo+x<18446744073709551616) (hm:cur.mx≤lo+x) :
  Calls prog 274 #[.pointer (some ⟨r,0,none⟩),.int .u64 x,.int .i64 rest] w fun e w'=>e=.returned (.tuple #[.nilFunc,.iface 42 (.int .i64 8)])∧Below base w w'∧RdR w' r lm fn .nilIface (.slice (some ⟨g,0,none⟩) (l.length+1) cap) ents hls cp:=by
 have R:prog.follows .mixedOrders=true:=aC;have T:=A.ptr;subst T;have U:=hR.c10;have KH:=aI (Kt p x 1 lo P Q sm f w A.cur hl hx hs);have A2:g<w.heap.size:=(dM E).elim fun g' h=>h.elim fun j h=>by obtain⟨s,_,h2,_⟩:=h;simp at s;obtain⟨rfl,_⟩:=s;exact h2
 have F:Typed w 96 g:=(dM E).elim fun g' h=>h.elim fun j h=>by obtain⟨s,_,_,h2,_⟩:=h;simp at s;obtain⟨rfl,_⟩:=s;exact h2
 have G:l.length+1≤9223372036854775807:=(dM E).elim fun g' h=>h.elim fun j h=>h.2.2.2.2.1;have cM:w.cell? ⟨g,l.length * 3+1,none⟩=some (.int .u64 cur.mx):=(dM E).elim fun g' h=>h.elim fun j h=>by obtain⟨s,_,_,_,_,_,_,h2,_⟩:=h;simp at s;obtain⟨rfl,_⟩:=s;exact h2
 have KE:=aI (fun(W:World) (hW:RdR W r lm fn .nilIface (.slice (some ⟨g,0,none⟩) (l.length+1) cap) ents hls (.pointer (some ⟨p,0,none⟩)))=>tP lm r g l.length cap fn .nilIface (.pointer (some ⟨p,0,none⟩)) ents hls W hW G);obtain⟨hi,m⟩:=aH (lo+x);have V:aL hi:=by have:=hl.1;have:=hx.1;rw[m];exact⟨aA,hs⟩
 rw[← m]at KH;rw[← m]at hm;have Y:=aI hR;have HC:=aI E;have HK:=aI A;have u:=aI F;have CM:=aI cM;obtain⟨mx,O⟩:=aG cur.mx;rw[O]at CM hm;clear hR E A hl hx hs F cM m V O;go_enter func274,ntmps274;go_wp2_with fail;refine KH.mono ?_;rintro e D ⟨rfl,A0,ho⟩;have tp:=HK.typed;have z:=Y.only ho (fun e=>Y.typed.ne tp aB e);have H:Typed D 96 g:=by obtain⟨cs,e⟩:=u.out;exact⟨cs,ho.obj (fun e=>u.ne tp aB e) e⟩
 have I:¬g=p:=fun e=>u.ne tp aB e;have J:∀k,k=p→¬Typed w 96 k∧¬Typed w 123 k:=fun k hk=>by subst hk;exact⟨tp.not aB,tp.not aB⟩
 have C1:=aI (HC.only ho J);have B1:=aI (ho.below (n:=base) (by have:=Y.lt;omega) (fun k hk=>by subst hk;exact HK.le));have L:=ho.cell I CM;have M:=z.lt;have N:HiH D r lm fn (.slice (some ⟨g,0,none⟩) (l.length+1) cap) ents hls (.pointer (some ⟨p,0,none⟩)) D.heap.size lo hi g (l.length * 3+1) mx (D.alloc (.cells #[.int .u64 lo,.int .u64 hi] 123)):=
  ⟨z.below (aJ (PC _ _) _),aD,aD,eV (aJ (PC _ _) _) L,aJ (PC _ _) _⟩
 obtain⟨b8,A1⟩:=aG D.heap.size;rw[A1]at N;have Z:=aI M;clear A0 ho tp z H I J L U M;go_wp2_with fail;refine wp_region_held_drew (S:=HiH D r lm fn (.slice (some ⟨g,0,none⟩) (l.length+1) cap) ents hls (.pointer (some ⟨p,0,none⟩)) b8 lo hi g (l.length * 3+1) mx) R N.drew (fun C=>?_);refine aP 0 19 (.bool true) ?_;refine aP 1 20 (.bool false) ?_;refine aP 2 21 (.bool false) ?_;refine aP 3 22 (.pointer (some ⟨b8,1,none⟩)) ?_;refine dL 4 23 (.int .u64 hi) ?_ ?_
 ·intro X hX;obtain⟨d0,d1,d2,d3,d4⟩:=hX;go_simp
 refine aP 5 24 (.pointer (some ⟨r,0,none⟩)) ?_;refine cW 6 fun K A=>?_;go_simp;refine(KE _ C.rd).mono ?_;rintro e wq ⟨rfl,hb⟩;have C:=C.below hb;clear hb;go_simp;refine A _ _ C (fun _=>?_);clear A K;refine aP 7 26 (.pointer (some ⟨g,l.length * 3,none⟩)) ?_;refine aP 8 27 (.pointer (some ⟨g,l.length * 3+1,none⟩)) ?_;refine dL 9 28 (.int .u64 mx) ?_ ?_
 ·intro X hX;obtain⟨d0,d1,d2,d3,d4⟩:=hX;go_simp
 refine aP 10 29 (.bool true) ?_;refine aP 11 30 (.bool true) ?_;refine iM ?_;go_wp2;go_ret2;exact⟨rfl,B1.trans (below_of C.bl (by have:=Z.out;omega)),C.rd⟩
theorem Zy(lm:cD)(base r p g cap B:Nat)(fn cp hv:Value)(l:List EV)(cur:Ent)(ents hls x rest lo B4 B5:Int)(sm:Bool)(f:FuncId)(w:World)(M:base≤r)(hR:RdR w r lm fn .nilIface (.slice (some ⟨g,0,none⟩) (l.length+1) cap) ents hls cp)
  (hC:RowC w base (.slice (some ⟨g,0,none⟩) (l.length+1) cap) l cur B hv) (m:CurOk w base cp cur (some lo) p lo B4 B5 sm f) (hl:aL lo) (hx:aL x) (hs:lo+x<18446744073709551616) (hm:lo+x<cur.mx) (D5:cur.hs.length≤4000000000) (he:0<ents∧ents<18446744073709551616) (hh:0≤hls∧hls<18446744073709551616) :
  Calls prog 274 #[.pointer (some ⟨r,0,none⟩),.int .u64 x,.int .i64 rest] w fun e w'=>e=.returned (.tuple #[(dJ ⟨.lo,l.map (·.1),{ cur with hs:=cur.hs ++ [(lo,lo+x)] },ents,hls⟩).ph.fn r,.nilIface])∧Below base w w'∧MemF w' base r lm fn .nilIface (dJ ⟨.lo,l.map (·.1),{ cur with hs:=cur.hs ++ [(lo,lo+x)] },ents,hls⟩):=by
 have A0:prog.follows .mixedOrders=true:=aC;have B6:=m.ptr;subst B6;have B7:=hR.c10;have Y:=aI (Kt p x 1 lo B4 B5 sm f w m.cur hl hx hs);have A1:g<w.heap.size:=(dM hC).elim fun g' h=>h.elim fun C h=>by obtain⟨N,_,h2,_⟩:=h;simp at N;obtain⟨rfl,_⟩:=N;exact h2
 have A2:Typed w 96 g:=(dM hC).elim fun g' h=>h.elim fun C h=>by obtain⟨N,_,_,h2,_⟩:=h;simp at N;obtain⟨rfl,_⟩:=N;exact h2
 have A3:l.length+1≤9223372036854775807:=(dM hC).elim fun g' h=>h.elim fun C h=>h.2.2.2.2.1;have cM:w.cell? ⟨g,l.length * 3+1,none⟩=some (.int .u64 cur.mx):=(dM hC).elim fun g' h=>h.elim fun C h=>by obtain⟨N,_,_,_,_,_,_,h2,_⟩:=h;simp at N;obtain⟨rfl,_⟩:=N;exact h2
 have Z:=aI (fun(W:World) (hW:RdR W r lm fn .nilIface (.slice (some ⟨g,0,none⟩) (l.length+1) cap) ents hls (.pointer (some ⟨p,0,none⟩)))=>tP lm r g l.length cap fn .nilIface (.pointer (some ⟨p,0,none⟩)) ents hls W hW A3);obtain⟨hi,L⟩:=aH (lo+x);have A4:aL hi:=by have:=hl.1;have:=hx.1;rw[L];exact⟨aA,hs⟩
 rw[← L]at Y;rw[← L]at hm ⊢;obtain⟨i0,C8,C9,D0,D1⟩:=info_parts Qu;have HR:=aI hR;have HC:=aI hC;have HK:=aI m;have O:=aI A2;have CM:=aI cM;have B8:=aI hl;have A5:=aI A4;obtain⟨mx,B0⟩:=aG cur.mx;rw[B0]at CM hm;clear hR hC m hl hx hs A2 cM L A4 B0;have D3:¬mx≤hi:=aA;go_enter func274,ntmps274;go_wp2_with fail;refine Y.mono ?_;rintro e I ⟨rfl,B2,ho⟩;have tp:=HK.typed;have Q:=HR.only ho (fun e=>HR.typed.ne tp aB e);have A6:Typed I 96 g:=by obtain⟨cs,e⟩:=O.out;exact⟨cs,ho.obj (fun e=>O.ne tp aB e) e⟩
 have A7:¬g=p:=fun e=>O.ne tp aB e;have A8:∀k,k=p→¬Typed w 96 k∧¬Typed w 123 k:=fun k F=>by subst F;exact⟨tp.not aB,tp.not aB⟩
 have C1:=aI (HC.only ho A8);have B1:=aI (ho.below (n:=base) (by have:=HR.lt;omega) (fun k F=>by subst F;exact HK.le));have A9:=ho.cell A7 CM;have B9:=Q.lt;have R:HiH I r lm fn (.slice (some ⟨g,0,none⟩) (l.length+1) cap) ents hls (.pointer (some ⟨p,0,none⟩)) I.heap.size lo hi g (l.length * 3+1) mx (I.alloc (.cells #[.int .u64 lo,.int .u64 hi] 123)):=
  ⟨Q.below (aJ (PC _ _) _),aD,aD,eV (aJ (PC _ _) _) A9,aJ (PC _ _) _⟩
 have K1:CurOk I base (.pointer (some ⟨p,0,none⟩)) { cur with hs:=cur.hs ++ [(lo,hi)] } none p lo lo hi true 245:=⟨rfl,HK.le,B2,fun y hy=>(by cases hy),.inr ⟨aD,rfl,(Hf _ _ _).symm,A5⟩⟩;have A:=aI (fun(W:World) (z:Below I.heap.size I W)=>And.intro (C1.only (may:=fun _=>False) (Only.of_below z) (fun _ F=>F.elim)) (K1.only (may:=fun _=>False) (Only.of_below z) (fun F=>F)));have N8:=aI (fun k (F:hv.ownBlock=some k)=>Nat.ne_of_lt (C1.own.row.lt k F).2);have NG:=aI (Nat.ne_of_lt (QH A1 ho.size));have C0:=aI C1.lt;have C2:=aI (show base≤I.heap.size from QC C1.le C1.lt);obtain⟨b8,D2⟩:=aG I.heap.size;rw[D2]at R N8 NG;clear B2 ho tp Q A6 A7 A8 A9 B7 B9 A1 K1;go_wp2_with fail;refine wp_region_held_drew (S:=HiH I r lm fn (.slice (some ⟨g,0,none⟩) (l.length+1) cap) ents hls (.pointer (some ⟨p,0,none⟩)) b8 lo hi g (l.length * 3+1) mx) A0 R.drew (fun j=>?_);refine aP 0 19 (.bool true) ?_;refine aP 1 20 (.bool false) ?_;refine aP 2 21 (.bool false) ?_;refine aP 3 22 (.pointer (some ⟨b8,1,none⟩)) ?_;refine dL 4 23 (.int .u64 hi) ?_ ?_
 ·intro X hX;obtain⟨d0,d1,d2,d3,d4⟩:=hX;go_simp
 refine aP 5 24 (.pointer (some ⟨r,0,none⟩)) ?_;refine cW 6 fun K m=>?_;go_simp;refine(Z _ j.rd).mono ?_;rintro e wq ⟨rfl,z⟩;have j:=j.below z;clear z;go_simp;refine m _ _ j (fun _=>?_);clear m K;refine aP 7 26 (.pointer (some ⟨g,l.length * 3,none⟩)) ?_;refine aP 8 27 (.pointer (some ⟨g,l.length * 3+1,none⟩)) ?_;refine dL 9 28 (.int .u64 mx) ?_ ?_
 ·intro X hX;obtain⟨d0,d1,d2,d3,d4⟩:=hX;go_simp
 refine aP 10 29 (.bool false) ?_;refine aP 11 30 (.bool false) ?_;refine iM ?_;have C3:HiT r lm fn (.slice (some ⟨g,0,none⟩) (l.length+1) cap) ents hls (.pointer (some ⟨p,0,none⟩)) b8 lo hi _:=⟨j.rd,j.s0,j.s1⟩;have C4:=aI (aS j.bl);clear j R;go_wp2_with fail;refine wp_region_held_drew (S:=HiT r lm fn (.slice (some ⟨g,0,none⟩) (l.length+1) cap) ents hls (.pointer (some ⟨p,0,none⟩)) b8 lo hi) A0 C3.drew (fun j=>?_);have s:=C4.out;refine aP 0 32 (.pointer (some ⟨r,0,none⟩)) ?_;refine aP 2 34 (.pointer (some ⟨r,0,none⟩)) ?_;refine dL 7 39 (.agg #[.int .u64 lo,.int .u64 hi]) ?_ ?_
 ·intro X hX;obtain⟨d0,d1,d2⟩:=hX;go_simp
 refine Se 1 8 (fun K m=>?_) fun K m=>?_;skip
 go_simp;refine(Z _ j.rd).mono ?_;rintro e wq ⟨rfl,z⟩;have j:=j.below z;have s:=aN s z;clear z;go_simp;refine m _ _ j (fun _=>?_);clear m K;refine Se 3 8 (fun K m=>?_) fun K m=>?_;skip
 go_simp;refine(Z _ j.rd).mono ?_;rintro e wq ⟨rfl,z⟩;have j:=j.below z;have s:=aN s z;clear z;go_simp;refine m _ _ j (fun _=>?_);clear m K;refine aP 4 36 (.pointer (some ⟨g,l.length * 3,none⟩)) ?_;refine aP 5 37 (.pointer (some ⟨g,l.length * 3+2,none⟩)) ?_;refine Se 6 8 (fun K m=>?_) fun K m=>?_;skip
 have T:=Ct (A _ s).1;go_simp;refine m _ _ j (fun _=>?_);clear m K T;refine cW 8 fun K m=>?_;go_simp;refine m _ _ (j.alloc _) (fun _=>?_);clear m K;have E:=j.new8;have s:=aJ s (.cells #[.int .u64 lo,.int .u64 hi] 123);have j:=j.alloc (.cells #[.int .u64 lo,.int .u64 hi] 123);rotate_left;skip
 go_simp;refine m _ _ (j.alloc _) (fun _=>?_);clear m K;have E:=j.new8;have s:=aJ s (.cells #[.int .u64 lo,.int .u64 hi] 123);have j:=j.alloc (.cells #[.int .u64 lo,.int .u64 hi] 123);refine cW 6 fun K m=>?_;have T:=Ct (A _ s).1;go_simp;refine m _ _ j (fun _=>?_);clear m K T;rotate_left;skip
 go_simp;refine m _ _ (j.alloc _) (fun _=>?_);clear m K;have E:=j.new8;have s:=aJ s (.cells #[.int .u64 lo,.int .u64 hi] 123);have j:=j.alloc (.cells #[.int .u64 lo,.int .u64 hi] 123);refine cW 3 fun K m=>?_;go_simp;refine(Z _ j.rd).mono ?_;rintro e wq ⟨rfl,z⟩;have j:=j.below z;have s:=aN s z;have E:=xB z E;clear z;go_simp;refine m _ _ j (fun _=>?_);clear m K;refine aP 4 36 (.pointer (some ⟨g,l.length * 3,none⟩)) ?_;refine aP 5 37 (.pointer (some ⟨g,l.length * 3+2,none⟩)) ?_;refine cW 6 fun K m=>?_;have T:=Ct (A _ s).1;go_simp;refine m _ _ j (fun _=>?_);clear m K T;rotate_left;skip
 go_simp;refine m _ _ (j.alloc _) (fun _=>?_);clear m K;have E:=j.new8;have s:=aJ s (.cells #[.int .u64 lo,.int .u64 hi] 123);have j:=j.alloc (.cells #[.int .u64 lo,.int .u64 hi] 123);refine cW 1 fun K m=>?_;go_simp;refine(Z _ j.rd).mono ?_;rintro e wq ⟨rfl,z⟩;have j:=j.below z;have s:=aN s z;have E:=xB z E;clear z;go_simp;refine m _ _ j (fun _=>?_);clear m K;refine cW 3 fun K m=>?_;go_simp;refine(Z _ j.rd).mono ?_;rintro e wq ⟨rfl,z⟩;have j:=j.below z;have s:=aN s z;have E:=xB z E;clear z;go_simp;refine m _ _ j (fun _=>?_);clear m K;refine aP 4 36 (.pointer (some ⟨g,l.length * 3,none⟩)) ?_;refine aP 5 37 (.pointer (some ⟨g,l.length * 3+2,none⟩)) ?_;refine cW 6 fun K m=>?_;have T:=Ct (A _ s).1;go_simp;refine m _ _ j (fun _=>?_);clear m K T;rotate_left
 all_goals
  refine cW 9 fun K m=>?_;rw[if_pos (by rfl)];refine wp_append_own _ (.tmp 38) (.tmp 40) 56 rfl B 123 i0 (.agg #[.int .u64 0,.int .u64 0]) 2 16 underlying56 C8 C9 D0 D1 rfl aB _ _ _ rfl (A _ s).1.own.row ⟨_,0,none⟩ 1 1 [.int .u64 lo,.int .u64 hi] rfl rfl (IK E) (by intro u hu;simp at hu;rcases hu with rfl | rfl<;>rfl) (by unfold maxLen;omega) aA (by have:=s.size;have:=C0.out;omega) ?_;intro D4 w3 G H _;obtain⟨a',C,rfl,_⟩:=aY G;have P:=aI (Zx M j (A _ s).1 (A _ s).2 B8 A5 N8 NG G H);have PB:=aI (B1.trans ((below_of s C2).trans P.2.2.2.2));clear G H s E;refine m _ _ P.1.1 (fun _=>?_);clear m K j;have j:=P.1.1;refine aP 10 42 (.pointer (some ⟨g,l.length * 3,none⟩)) ?_;refine aP 11 43 (.pointer (some ⟨g,l.length * 3+2,none⟩)) ?_;clear j;have gH:=P.1.2.1;have fG:=P.1.2.2;refine cW 12 fun K m=>?_;go_simp;refine m _ _ P.2.1 (fun _=>?_);clear m K gH fG;refine iM ?_;have J:=P.2.1.rd;have Y:=aI (Hs lm r fn .nilIface _ _ ents hls _ J he hh);have D:=aI (fun w2 h1 h2=>Aw (w2:=w2) (ph:=.lo) (lm:=lm) (fn:=fn) (ents:=ents) (hls:=hls) M J.typed rfl P.2.2.1 P.2.2.2.1 h1 h2);have C5:=aI (show base≤_ from QC M (Nat.le_of_lt J.lt));rw[← No r .lo (l.map (·.1)) { cur with hs:=cur.hs ++ [(lo,hi)] } ents hls]at Y;obtain⟨fv,U⟩:=aG ((dJ ⟨.lo,l.map (·.1),{ cur with hs:=cur.hs ++ [(lo,hi)] },ents,hls⟩).ph.fn r);rw[U]at Y;have C6:=aI U;clear J U;go_wp2_with fail;refine Y.mono ?_;rintro e w5 ⟨rfl,B3,V⟩;have hM:=aI (D w5 B3 V);have C7:=aI (PB.trans (V.below C5 (fun k F=>by subst F;exact M)));clear B3 V;go_wp2;go_ret2;exact⟨by rw[C6.out]<;>rfl,C7,hM⟩
theorem ET(lm:cD)(base r:Nat)(lo:Int)(fn:Value)(s:St)(x rest:Int)(w:World)(h:MemF w base r lm fn .nilIface s)(M:s.ph=.hi lo)(H:aL x)(N:0<s.ents∧s.ents<18446744073709551616)(O:0≤s.hls∧s.hls<18446744073709551616)(P:s.cur.hs.length≤4000000000) :
  Calls prog 274 #[.pointer (some ⟨r,0,none⟩),.int .u64 x,.int .i64 rest] w fun e w'=>StepPost lm base r fn (bU lm s x rest) w e w':=by
 obtain⟨ph,es,cur,ents,hls⟩:=s;obtain rfl:ph=.hi lo:=M;obtain⟨y,v,cp,z,l,B,hv,p,b,j,m,D,f,E,F,A⟩:=h;have u:l.map (·.1)=es:=E;subst u;obtain⟨J,G⟩:=A.opn lo rfl;subst J;have C:bU lm ⟨.hi b,l.map (·.1),cur,ents,hls⟩ x rest=if b+x<18446744073709551616∧b+x<cur.mx then .ok (dJ ⟨.hi b,l.map (·.1),{ cur with hs:=cur.hs ++ [(b,b+x)] },ents,hls⟩)else .error 8:=rfl;have I:dJ ⟨.hi b,l.map (·.1),{ cur with hs:=cur.hs ++ [(b,b+x)] },ents,hls⟩=dJ ⟨.lo,l.map (·.1),{ cur with hs:=cur.hs ++ [(b,b+x)] },ents,hls⟩:=by unfold dJ;rfl
 obtain⟨g,cap,rfl,_⟩:=dM F;by_cases hs:b+x<18446744073709551616
 ·by_cases hq:b+x<cur.mx
  ·refine(Zy lm base r p g cap B fn cp hv l cur ents hls x rest b j m D f w y z F A G H hs hq P N O).mono ?_;rintro e w' ⟨h1,n,K⟩;exact .ok ((C.trans (if_pos ⟨hs,hq⟩)).trans (by rw[I])) n h1 K
  refine(Wb lm base r p g cap B fn cp hv l cur ents hls x rest b j m D f w y z F A G H hs aA).mono ?_;rintro e w' ⟨h1,n,L⟩;exact .err (C.trans (if_neg (fun h=>hq h.2))) n h1 _ _ _ _ L
 refine(hi_over lm base r p fn _ cp cur ents hls x rest b j m D f w z A G H hs).mono ?_;rintro e w' ⟨h1,n⟩;exact .err (C.trans (if_neg (fun h=>hs h.1))) (below_of n (by have:=z.lt;omega)) h1 _ _ _ _ (z.below n)
structure StI (s:St) (a:Int):Prop where
 ph:s.ph≠.fin
 ents:s.ph=.count∨(0<s.ents∧s.ents<18446744073709551616)
 hls:0≤s.hls∧s.hls<18446744073709551616
 es:(s.es.length:Int)≤a
 hs:(s.cur.hs.length:Int)≤a
theorem BP(a:Int)(b:0≤a):StI tZ a:=⟨(by simp[tZ]),.inl rfl,aB,by simpa[tZ]using b,by simpa[tZ]using b⟩
theorem Kk{x l n c:Int}(h:bS x l n=c)(b:c≠0):c=5∨c=7:=by
 have:=tJ x l n;omega
theorem wP{lm:cD}{s:St}{x rest c:Int}(h:bU lm s x rest=.error c):c=5∨c=7∨c=8∨c=9:=by
 obtain⟨ph,es,cur,ents,hls⟩:=s;unfold bU at h
 cases ph<;>simp only at h
 all_goals(repeat' split at h)<;>cases h
 all_goals first
  | (right;right;left;rfl)
  | (right;right;right;rfl)
  | (rename_i b;rcases Kk rfl b with g | g<;>omega)
theorem Ay{s:St}{a n:Int}(j:0<s.ents∧s.ents<18446744073709551616)(l:0≤s.hls∧s.hls<18446744073709551616)(h1:(s.es.length:Int)≤a)(h2:(s.cur.hs.length:Int)≤n)(m:a<n)(b:(dJ s).ph≠.fin):StI (dJ s) n:=by
 obtain⟨ph,es,cur,ents,hls⟩:=s;simp only at j l h1 h2;unfold dJ at b ⊢;simp only at b ⊢;by_cases g:0<hls
 ·rw[if_pos g]at b ⊢;exact⟨b,.inr j,by simp only;omega,by simp only;omega,h2⟩
 rw[if_neg g]at b ⊢;by_cases g2:0<ents-1
 ·rw[if_pos g2]at b ⊢;exact⟨b,.inr (by simp only;omega),l,by simp;omega,h2⟩
 rw[if_neg g2]at b;exact absurd rfl b
theorem Th{lm:cD}{s s':St}{x rest a n:Int}(h:bU lm s x rest=.ok s')(D:StI s a)(A:aL x)(B:a<n)(m:s'.ph≠.fin):StI s' n:=by
 have r:=A.1;have u:=A.2;obtain⟨z,p,j,y,C⟩:=D;obtain⟨ph,es,cur,ents,hls⟩:=s;simp only at z p j y C;unfold bU at h
 cases ph with
 | count=>
   simp only at h;split at h
   ·cases h
   split at h
   ·cases h
   cases h
   exact⟨m,.inr (by simp only;omega),j,by simp only;omega,by simp only;omega⟩
 | rep=>
   simp only at h;have b:=p.resolve_left aD;split at h
   ·cases h;exact⟨m,.inr b,j,by simp only;omega,by simp;omega⟩
   split at h
   ·cases h;exact⟨m,.inr b,j,by simp only;omega,by simp;omega⟩
   cases h
 | top=>
   simp only at h;have b:=p.resolve_left aD
   cases h
   exact⟨m,.inr b,j,by simp only;omega,by simp only;omega⟩
 | op=>
   simp only at h;have b:=p.resolve_left aD;split at h
   ·cases h
   cases h
   exact Ay b ⟨r,u⟩ y (by simp only;omega) B m
 | lo=>
   simp only at h;have b:=p.resolve_left aD;split at h
   ·cases h;exact⟨m,.inr b,j,by simp only;omega,by simp only;omega⟩
   split at h
   ·cases h;exact⟨m,.inr b,j,by simp only;omega,by simp only;omega⟩
   cases h
 | hi l=>
   simp only at h;have b:=p.resolve_left aD;split at h
   ·cases h;exact Ay b j y (by simp;omega) B m
   cases h
 | fin=>exact absurd rfl z
structure Oe (lm:cD) (base r:Nat) (o:Except Int St) (w:World) (e:Ending) (w':World):Prop where
 below:Below base w w'
 bad:∀c,o=.error c→e=.returned (.tuple #[.bool true,.iface 42 (.int .i64 c)])∧∃v cp en hl,RdR w' r lm .nilFunc (.iface 42 (.int .i64 c)) v en hl cp
 good:∀s',o=.ok s'→e=.returned (.tuple #[.bool s'.ph.isFin,.nilIface])∧MemF w' base r lm (s'.ph.fn r) .nilIface s'
theorem Ds{p:Ph}(h:p.isFin=true):p=.fin:=by cases p<;>simp_all [Ph.isFin]
def Ph.fid:Ph→FuncId
 | .count=>243
 | .rep=>262
 | .top=>268
 | .op=>271
 | .lo=>273
 | .hi _=>274
 | .fin=>274
theorem Wn{p:Ph}(r:Nat)(h:p.isFin=false):p.fn r=tN r p.fid:=by cases p<;>first | rfl | cases h
theorem Dq{p:Ph}(r:Nat)(h:p.isFin=true):p.fn r=.nilFunc:=by rw[Ds h];rfl
theorem jR{lm:cD}{base r:Nat}{s:St}{x rest:Int}{w:World}{F:FuncId}(M:s.ph.fn r=tN r F)(N:lY F)(h:MemF w base r lm (s.ph.fn r) .nilIface s)
  (C:Calls prog F #[.pointer (some ⟨r,0,none⟩),.int .u64 x,.int .i64 rest] w fun e w'=>StepPost lm base r (s.ph.fn r) (bU lm s x rest) w e w') :
  Calls prog 210 #[.pointer (some ⟨r,0,none⟩),.int .u64 x,.int .i64 rest] w fun e w'=>Oe lm base r (bU lm s x rest) w e w':=by
 obtain⟨D,v,cp,E,_⟩:=h;rw[M]at E C;have B:∀{b w':World} {x y:Value},Below base w b→Below ((b.setCell ⟨r,5,none⟩ x).setCell ⟨r,6,none⟩ y).heap.size ((b.setCell ⟨r,5,none⟩ x).setCell ⟨r,6,none⟩ y) w'→Below base w w':=by
  intro b w' x y h1 h2;have h3:Below base w ((b.setCell ⟨r,5,none⟩ x).setCell ⟨r,6,none⟩ y):=(h1.setCell (p:=⟨r,5,none⟩) D _).setCell (p:=⟨r,6,none⟩) D _;have:=E.lt;have:=h3.size;exact h3.trans (below_of h2 aA)
 cases ho:bU lm s x rest with
 | error c=>
   have O:c≠0:=by rcases wP ho with g | g | g | g<;>omega
   have P:sN c=.iface 42 (.int .i64 c):=by unfold sN;rw[if_neg O]
   rw[ho]at C;refine(Ub lm r F c x rest v cp s.ents s.hls (fun b=>Below base w b∧∃v cp en Q,RdR b r lm (tN r F) .nilIface v en Q cp) w E (C.mono fun e b A=>?_) (fun b h1=>h1.2) N).mono ?_
   ·obtain⟨z,l⟩:=A.bad c rfl;rw[P]at z;exact⟨z,A.below,l⟩
   rintro e w' ⟨rfl,b,⟨G,H,m,I,J,l⟩,j⟩;exact⟨B G j,fun c' n=>(by cases n;exact⟨rfl,H,m,I,J,((l.s5 _).s6 _).below j⟩),fun s' u=>(by cases u)⟩
 | ok s'=>
   rw[ho]at C
   cases hf:s'.ph.isFin with
   | true=>
     refine(Ua lm r F x rest v cp s.ents s.hls (fun b=>Below base w b∧MemF b base r lm (tN r F) .nilIface s') w E (C.mono fun e b A=>?_) (fun b h1=>?_) N).mono ?_
     ·obtain⟨z,l⟩:=A.good s' rfl;rw[Dq r hf]at z;exact⟨z,A.below,l⟩
     ·obtain⟨_,_,H,m,l,_⟩:=h1;exact⟨H,m,_,_,l⟩
     rintro e w' ⟨rfl,b,⟨G,K⟩,j⟩;refine⟨B G j,fun c' n=>(by cases n),fun L u=>?_⟩
     cases u
     rw[hf,Dq r hf];exact⟨rfl,(K.store _ _).below j⟩
   | false=>
     refine(Pf lm r F s'.ph.fid x rest v cp s.ents s.hls (fun b=>Below base w b∧MemF b base r lm (tN r F) .nilIface s') w E (C.mono fun e b A=>?_) (fun b h1=>?_) N).mono ?_
     ·obtain⟨z,l⟩:=A.good s' rfl;rw[Wn r hf]at z;exact⟨z,A.below,l⟩
     ·obtain⟨_,_,H,m,l,_⟩:=h1;exact⟨H,m,_,_,l⟩
     rintro e w' ⟨rfl,b,⟨G,K⟩,j⟩;refine⟨B G j,fun c' n=>(by cases n),fun L u=>?_⟩
     cases u
     rw[hf,Wn r hf];exact⟨rfl,(K.store _ _).below j⟩
theorem Fl(lm:cD)(m:uB lm)(base r:Nat)(s:St)(x rest a:Int)(w:World)(h:MemF w base r lm (s.ph.fn r) .nilIface s)(b:StI s a)(y:a≤4000000000)(j:aL x)(n:-9223372036854775808≤rest∧rest≤9223372036854775807) :
  Calls prog 210 #[.pointer (some ⟨r,0,none⟩),.int .u64 x,.int .i64 rest] w fun e w'=>Oe lm base r (bU lm s x rest) w e w':=by
 have p:s.es.length≤4000000000:=by have:=b.es;omega
 have u:s.cur.hs.length≤4000000000:=by have:=b.hs;omega
 cases hp:s.ph with
 | count=>exact jR (F:=243) (by rw[hp];rfl) LY h (Rn lm m base r _ s x rest w h hp j n)
 | rep=>exact jR (F:=262) (by rw[hp];rfl) LW h (Yx lm base r _ s x rest w h hp j p)
 | top=>exact jR (F:=268) (by rw[hp];rfl) LV h (Yj lm base r _ s x rest w h hp j)
 | op=>exact jR (F:=271) (by rw[hp];rfl) LU h (Vc lm m base r _ s x rest w h hp j n (b.ents.resolve_left (by rw[hp];simp)))
 | lo=>exact jR (F:=273) (by rw[hp];rfl) LS h (DQ lm base r _ s x rest w h hp j)
 | hi l=>exact jR (F:=274) (by rw[hp];rfl) LR h (ET lm base r l _ s x rest w h hp j (b.ents.resolve_left (by rw[hp];simp)) b.hls u)
 | fin=>exact absurd hp b.ph
def MS (base:Nat) (o:Except (Int×Int) (List Ent×Int)) (e:Ending) (w':World):Prop:=
 match o with
 | .error (c,a)=>e=.returned (.tuple #[.slice none 0 0,.int .i64 0,.iface 107 (.agg #[.int .i64 c,.int .i64 a])])
 | .ok (es,n)=>∃v l,e=.returned (.tuple #[v,.int .i64 n,.nilIface])∧l.map (·.1)=es∧RowF w' base v l
theorem RowF.below{w w':World}{base:Nat}{v:Value}{l:List EV}(h:RowF w base v l)(j:Below w.heap.size w w'):RowF w' base v l:=
 h.only (may:=fun _=>False) (Only.of_below j) fun _ b=>b.elim
structure HolesAt (w:World) (p:EV):Prop where
 at':∃a cap,p.2=.slice a p.1.hs.length cap∧Prs w a p.1.hs.length p.1.hs∧p.1.hs.length≤cap
theorem HolesAt.below{w w':World}{p:EV}(h:HolesAt w p)(b:Below w.heap.size w w'):HolesAt w' p:=by
 obtain⟨a,cap,h1,h2,h3⟩:=h.at';exact⟨a,cap,h1,h2.below b,h3⟩
structure EntsAt (w:World) (a:Option Addr) (len:Nat) (l:List EV):Prop where
 length:l.length=len
 most:len≤9223372036854775807
 words:∀p∈l,EntW p.1
 holes:∀p∈l,HolesAt w p
 cells:∀i,i<len→∃b off,a=some ⟨b,off,none⟩∧b<w.heap.size∧w.cell? ⟨b,off+i * 3,none⟩=some (.int .u64 (l.getD i EV.z).1.rep)∧w.cell? ⟨b,off+i * 3+1,none⟩=some (.int .u64 (l.getD i EV.z).1.mx)∧w.cell? ⟨b,off+i * 3+2,none⟩=some (l.getD i EV.z).2
theorem EntsAt.below{w w':World}{a:Option Addr}{len:Nat}{l:List EV}(h:EntsAt w a len l)(m:Below w.heap.size w w'):EntsAt w' a len l:=
 ⟨h.length,h.most,h.words,fun p n=>(h.holes p n).below m,fun i hi=>by
  obtain⟨b,off,e,j,h1,h2,h3⟩:=h.cells i hi;exact⟨b,off,e,QH j m.size,aM m j h1,aM m j h2,aM m j h3⟩⟩
theorem EntsAt.mem{w:World}{a:Option Addr}{len:Nat}{l:List EV}(h:EntsAt w a len l){i:Nat}(hi:i<len):l.getD i EV.z∈l:=yG (by have:=h.length;omega)
theorem RowF.ents{w:World}{base:Nat}{v:Value}{l:List EV}(h:RowF w base v l):∃a cap,v=.slice a l.length cap∧EntsAt w a l.length l∧l.length≤cap:=by
 have b:∀p∈l,HolesAt w p:=fun p s=>by
  obtain⟨a,cap,h1,h2,h3,_⟩:=h.fins p s;exact⟨a,cap,h1,h2,h3⟩
 rcases h.row.2 with⟨rfl,hn⟩ | ⟨g,cap,cur,rfl,hbg,hg,hle,hm,hs,ht⟩
 ·exact⟨none,0,by rw[hn],⟨rfl,aA,h.words,b,fun i hi=>aA⟩,aA⟩
 refine⟨some ⟨g,0,none⟩,cap,rfl,⟨rfl,by unfold maxLen at hm;omega,h.words,b,fun i hi=>?_⟩,hle⟩;obtain⟨m,n,r⟩:=tT l i hi;have j:l.length * 3≤(cI l).length:=by rw[gI];exact QE _
 refine⟨g,0,rfl,(Array.getElem?_eq_some_iff.1 hg).1,?_,?_,?_⟩
 ·rw[QF,h.row.cellAt _ aA];exact m
 ·rw[QF,h.row.cellAt _ aA];exact n
 rw[QF,h.row.cellAt _ aA];exact r
instance:DecidableEq Ent:=fun a b=>by
 obtain⟨x,y,z⟩:=a;obtain⟨x',y',z'⟩:=b;by_cases h:x=x'∧y=y'∧z=z'
 ·exact isTrue (by obtain⟨rfl,rfl,rfl⟩:=h;rfl)
 exact isFalse (by intro e;cases e;exact h ⟨rfl,rfl,rfl⟩)
abbrev kO (p:EV):Value:=.agg #[.int .u64 p.1.rep,.int .u64 p.1.mx,p.2]
theorem Rg(p q:EV)(w:World)(h:HolesAt w p)(u:HolesAt w q) :
  Calls prog 85 #[kO p,kO q] w fun e w'=>e=.returned (.bool (decide (p.1=q.1)))∧Below w.heap.size w w':=by
 obtain⟨⟨x,y,z⟩,hv⟩:=p;obtain⟨⟨x',s,z'⟩,D⟩:=q;obtain⟨a,cap,A,h1,h2⟩:=h.at';obtain⟨E,m,n,b,j⟩:=u.at';simp only at A n h1 b h2 j;subst A;subst n;unfold kO;simp only;by_cases g1:x=x'
 ·by_cases g2:y=s
  ·subst g1;subst g2;have B:=aI (fun W (r:Below w.heap.size w W)=>Fg a E z.length cap z'.length m z z' W (h1.below r) (b.below r));have l:=aI (show qB z z'=decide ((⟨x,y,z⟩:Ent)=⟨x,y,z'⟩) by unfold qB;simp);clear h u h1 b h2 j;go_enter func85,ntmps85;go_wp2_with fail;refine(B _ (aJ (aJ (PC _ _) _) _)).mono ?_;rintro e H ⟨rfl,r⟩;have C:=aI (aN (aJ (aJ (PC _ _) _) _) r);clear r;go_wp2;go_ret;refine⟨?_,C⟩;rw[← l.out]
   cases qB z z'<;>rfl
  have F:(y == s)=false:=by simpa using g2
  have l:=aI (show decide ((⟨x,y,z⟩:Ent)=⟨x',s,z'⟩)=false by simp[g2]);subst g1;clear h u h1 b h2 j g2;go_enter func85,ntmps85;go_wp2;go_ret;exact⟨by rw[l.out]<;>rfl,aJ (aJ (PC _ _) _) _⟩
 have G:(x == x')=false:=by simpa using g1
 have l:=aI (show decide ((⟨x,y,z⟩:Ent)=⟨x',s,z'⟩)=false by simp[g1]);clear h u h1 b h2 j g1;go_enter func85,ntmps85;go_wp2;go_ret;exact⟨by rw[l.out]<;>rfl,aJ (aJ (PC _ _) _) _⟩
def wS (l l':List EV):Bool:=decide (l.map (·.1)=l'.map (·.1))
theorem Wv{l b:List EV}(j:l.length=b.length)(h:∀i,i<l.length→(l.getD i EV.z).1=(b.getD i EV.z).1):l.map (·.1)=b.map (·.1):=by
 refine List.ext_getElem (by simpa using j) fun i h1 h2=>?_;simp only[PI]at h1 h2;have:=h i h1;simpa[PF,PE h1,PE h2]using this
theorem AI{l b:List EV}(h:l.map (·.1)=b.map (·.1))(i:Nat):(l.getD i EV.z).1=(b.getD i EV.z).1:=by
 have e:(l.map (·.1))[i]?=(b.map (·.1))[i]?:=by rw[h]
 simp only[PT]at e;simp only[PF]
 cases h1:l[i]?<;>cases h2:b[i]?<;>simp_all
structure Two (W0:World) (b o b' o':Nat) (x y:Int) (v:Value) (x' y':Int) (v':Value) (W:World):Prop where
 a0:W.cell? ⟨b,o,none⟩=some (.int .u64 x)
 a1:W.cell? ⟨b,o+1,none⟩=some (.int .u64 y)
 a2:W.cell? ⟨b,o+2,none⟩=some v
 b0:W.cell? ⟨b',o',none⟩=some (.int .u64 x')
 b1:W.cell? ⟨b',o'+1,none⟩=some (.int .u64 y')
 b2:W.cell? ⟨b',o'+2,none⟩=some v'
 bl:Below W0.heap.size W0 W
theorem Two.below{W0 W W':World}{b o l m:Nat}{x y x' n:Int}{v p:Value}(h:Two W0 b o l m x y v x' n p W)(j:Below W.heap.size W W'):Two W0 b o l m x y v x' n p W':=
 ⟨eV j h.a0,eV j h.a1,eV j h.a2,eV j h.b0,eV j h.b1,eV j h.b2,aN h.bl j⟩
theorem Two.drew{W0 W:World}{b o j l:Nat}{x y x' m:Int}{v n:Value}(h:Two W0 b o j l x y v x' m n W):Two W0 b o j l x y v x' m n W.drew:=h.below (aS (PC _ _))
theorem Oj(a a':Option Addr)(len cap n C:Nat)(l m:List EV)(w:World)(h:EntsAt w a len l)(h':EntsAt w a' n m) :
  Calls prog 41 #[.slice a len cap,.slice a' n C] w fun e w'=>e=.returned (.bool (wS l m))∧Below w.heap.size w w':=by
 have R:prog.follows .mixedOrders=true:=aC;have hm:=h.most;have A3:=h'.most;have hl:=aI h.length;have T:=aI h'.length;have H:=aI h;have H':=aI h';clear h h';by_cases hn:len=n
 ·subst hn;go_enter func41,ntmps41;go_wp2;go_loopw [5] (fun c wr=>∃k:Nat,k≤len∧c=.int .i64 k∧(∀i,i<k→(l.getD i EV.z).1=(m.getD i EV.z).1)∧Below w.heap.size w wr)
   (fun c _=>len-(intOf c).toNat)
  case atStart=>exact⟨0,QG _,rfl,fun i hi=>absurd hi aA,PC _ _⟩
  obtain⟨k,hk,rfl,V,F⟩:=hrel;have HN:=aI V;have HB:=aI F;clear V;by_cases hlt:k<len
  ·obtain⟨b,off,rfl,A5,I,J,L⟩:=(H.below F).cells k hlt;obtain⟨Q,j,rfl,A2,M,N,O⟩:=(H'.below F).cells k hlt;have i0:(0:Int)≤(k:Int):=aA;have i1:(k:Int)<(len:Int):=aA;have D:=aI (fun W (hW:Below wr.heap.size wr W)=>Rg (l.getD k EV.z) (m.getD k EV.z) W (((H.below F).below hW).holes _ (H.mem hlt)) (((H'.below F).below hW).holes _ (H'.mem hlt)));unfold kO at D;have TW:=aI (Two.mk (W0:=wr) I J L M N O (PC _ _));have NE:=aI (fun(A1:(l.getD k EV.z).1≠(m.getD k EV.z).1)=>show wS l m=false by
    unfold wS;exact decide_eq_false fun e=>A1 (AI e k))
   by_cases g:(l.getD k EV.z).1=(m.getD k EV.z).1
   ·rw[show decide ((l.getD k EV.z).1=(m.getD k EV.z).1)=true from decide_eq_true g]at D;have G:=aI g;obtain⟨x,Y⟩:=aG ((l.getD k EV.z).1.rep);obtain⟨y,Z⟩:=aG ((l.getD k EV.z).1.mx);obtain⟨hv,ev⟩:=aG ((l.getD k EV.z).2);obtain⟨x',r⟩:=aG ((m.getD k EV.z).1.rep);obtain⟨y',s⟩:=aG ((m.getD k EV.z).1.mx);obtain⟨u,A⟩:=aG ((m.getD k EV.z).2);rw[Y,Z,ev,r,s,A]at D TW;clear Y Z ev r s A I J L M N O g NE F;go_wp2_with fail;refine wp_region_held_drew (S:=Two wr b (off+k * 3) Q (j+k * 3) x y hv x' y' u) R TW.drew (fun p=>?_);refine aP 0 17 (.slice (some ⟨b,off,none⟩) len cap) ?_;refine aP 1 18 (.int .i64 k) ?_;refine aP 2 19 (.pointer (some ⟨b,off+k * 3,none⟩)) ?_;refine dL 3 20 (.agg #[.int .u64 x,.int .u64 y,hv]) ?_ ?_
    ·intro X P;obtain⟨d0,d1,d2,d3,d4,d5,d6⟩:=P;go_simp
    refine aP 4 21 (.slice (some ⟨Q,j,none⟩) len C) ?_;refine aP 5 22 (.int .i64 k) ?_;refine aP 6 23 (.pointer (some ⟨Q,j+k * 3,none⟩)) ?_;refine dL 7 24 (.agg #[.int .u64 x',.int .u64 y',u]) ?_ ?_
    ·intro X P;obtain⟨d0,d1,d2,d3,d4,d5,d6⟩:=P;go_simp
    refine cW 8 fun K hK=>?_;go_simp;refine(D _ p.bl).mono ?_;rintro e wq ⟨rfl,B⟩;have p:=p.below B;clear B;go_simp;refine hK _ _ p (fun _=>?_);clear hK K;refine aP 9 26 (.bool false) ?_;refine iM ?_;have BB:=aI (aN HB p.bl);clear p;go_wp2;go_roundw
    case rel=>
     refine⟨k+1,aA,by go_num,fun i hi=>?_,BB⟩;by_cases e:i=k
     ·subst e;exact G
     exact HN i aA
    simp[intOf];omega
   rw[show decide ((l.getD k EV.z).1=(m.getD k EV.z).1)=false from decide_eq_false g]at D;have E:=aI (NE g);obtain⟨x,Y⟩:=aG ((l.getD k EV.z).1.rep);obtain⟨y,Z⟩:=aG ((l.getD k EV.z).1.mx);obtain⟨hv,ev⟩:=aG ((l.getD k EV.z).2);obtain⟨x',r⟩:=aG ((m.getD k EV.z).1.rep);obtain⟨y',s⟩:=aG ((m.getD k EV.z).1.mx);obtain⟨u,A⟩:=aG ((m.getD k EV.z).2);rw[Y,Z,ev,r,s,A]at D TW;clear Y Z ev r s A I J L M N O g NE F;go_wp2_with fail;refine wp_region_held_drew (S:=Two wr b (off+k * 3) Q (j+k * 3) x y hv x' y' u) R TW.drew (fun p=>?_);refine aP 0 17 (.slice (some ⟨b,off,none⟩) len cap) ?_;refine aP 1 18 (.int .i64 k) ?_;refine aP 2 19 (.pointer (some ⟨b,off+k * 3,none⟩)) ?_;refine dL 3 20 (.agg #[.int .u64 x,.int .u64 y,hv]) ?_ ?_
   ·intro X P;obtain⟨d0,d1,d2,d3,d4,d5,d6⟩:=P;go_simp
   refine aP 4 21 (.slice (some ⟨Q,j,none⟩) len C) ?_;refine aP 5 22 (.int .i64 k) ?_;refine aP 6 23 (.pointer (some ⟨Q,j+k * 3,none⟩)) ?_;refine dL 7 24 (.agg #[.int .u64 x',.int .u64 y',u]) ?_ ?_
   ·intro X P;obtain⟨d0,d1,d2,d3,d4,d5,d6⟩:=P;go_simp
   refine cW 8 fun K hK=>?_;go_simp;refine(D _ p.bl).mono ?_;rintro e wq ⟨rfl,B⟩;have p:=p.below B;clear B;go_simp;refine hK _ _ p (fun _=>?_);clear hK K;refine aP 9 26 (.bool true) ?_;refine iM ?_;have BB:=aI (aN HB p.bl);clear p;go_wp2;go_ret;exact⟨by rw[E.out]<;>rfl,BB⟩
  have A0:k=len:=aA;have U:=aI (show wS l m=true from decide_eq_true (Wv (by rw[hl.out,T.out]) (fun i hi=>HN i (by rw[hl.out]at hi;omega))));subst A0;go_wp2;go_ret;exact⟨by rw[U.out]<;>rfl,HB⟩
 have A4:¬(len:Int)=(n:Int):=aA;have E:=aI (show wS l m=false from decide_eq_false fun e=>hn (by have:=congrArg List.length e;simp only[PI]at this;rw[← hl.out,← T.out];exact this));go_enter func41,ntmps41;go_wp2;go_ret;exact⟨by rw[E.out]<;>rfl,PC _ _⟩
end Go.Proofs.YtbkkolfpegplgaaGreatDoor
namespace Go.Proofs.YtbkkolfpegplgaaGreatDoor
def Ent.z:Ent:=⟨0,0,[]⟩
def kU (es:List Ent) (k:Nat):Int:=if k=0 then(es.getD 0 Ent.z).rep else(es.getD k Ent.z).rep-(es.getD (k-1) Ent.z).rep-1
def oJ (p:Int) (e:Ent):List Int:=p :: e.mx :: (e.hs.length:Int) :: gV e.hs 1 e.hs.length
def bI (es:List Ent):Nat→List Int
 | 0=>[(es.length:Int)]
 | k+1=>bI es k ++ oJ (kU es k) (es.getD k Ent.z)
def bX (es:List Ent):List Int:=bI es es.length
def bL (xs:List Int):List Int:=xs.flatMap (vb 10)
theorem Qs:bL []=[]:=rfl
theorem sD(xs ys:List Int):bL (xs ++ ys)=bL xs ++ bL ys:=by unfold bL;rw[PM]
theorem rA(x:Int)(xs:List Int):bL (x :: xs)=vb 10 x ++ bL xs:=rfl
theorem dY(xs:List Int)(x:Int):bL (xs ++ [x])=bL xs ++ vb 10 x:=by rw[sD,rA,Qs,PQ]
theorem dI(xs:List Int):(bL xs).length≤10 * xs.length:=by
 induction xs with
 | nil=>simp[bL]
 | cons x xs ih=>rw[rA,PG];have:=jF 10 x;simp only[PH];omega
theorem uT(xs:List Int):xs.length≤(bL xs).length:=by
 induction xs with
 | nil=>simp[bL]
 | cons x xs ih=>rw[rA,PG];have:=Cd 10 x aA;simp only[PH];omega
theorem lF(p:Int)(e:Ent):(oJ p e).length=3+2 * e.hs.length:=by unfold oJ;simp only[PH,gN];omega
theorem uN(es:List Ent):∀k j,(bI es k).length≤(bI es (k+j)).length
 | k,0=>QE _
 | k,j+1=>by
   have:=uN es k j;rw[← Nat.add_assoc,show bI es (k+j+1)=bI es (k+j) ++ oJ (kU es (k+j)) (es.getD (k+j) Ent.z)from rfl,PG];omega
theorem Af(es:List Ent){k:Nat}(h:k≤es.length):(bI es k).length≤(bX es).length:=by
 have:=uN es k (es.length-k);rwa [show k+(es.length-k)=es.length by omega]at this
theorem cF(l:List EV)(i:Nat):(l.map (·.1)).getD i Ent.z=(l.getD i EV.z).1:=by
 simp only[PF,PT]
 cases l[i]?<;>rfl
structure EntC (e:Ent):Prop where
 cor:cL e.hs
 top:∀i,i<e.hs.length→Hi e.hs i<e.mx
structure CanV (es:List Ent):Prop where
 ents:∀i,i<es.length→EntC (es.getD i Ent.z)
 asc:∀i,0<i→i<es.length→(es.getD (i-1) Ent.z).rep<(es.getD i Ent.z).rep
theorem tR{zs:List Iv}(h:cL zs):ApTo zs 1 zs.length:=fun i hi=>⟨(h i hi).1,fun h0=>by have:=(h i hi).2 h0;omega⟩
theorem fL{es:List Ent}{i:Nat}(h:i<es.length):es.getD i Ent.z∈es:=by
 have e:es.getD i Ent.z=es[i]:=by simp[PF,PE h]
 rw[e];exact PX _
theorem zY{es:List Ent}(l:CanV es)(b:∀e∈es,EntW e){k:Nat}(j:k<es.length):aL (kU es k):=by
 unfold kU;by_cases h:k=0
 ·rw[if_pos h];subst h;exact(b _ (fL j)).rep
 rw[if_neg h];have h1:=l.asc k aA j;have h2:=(b _ (fL j)).rep;have h3:=(b _ (fL (show k-1<es.length by omega))).rep;exact⟨aA,by have:=h2.2;have:=h3.1;omega⟩
theorem IH{zs:List Iv}(h:∀z∈zs,aL z.1∧aL z.2){i:Nat}(hi:i<zs.length):aL (Lo zs i)∧aL (Hi zs i):=by
 have e:zs.getD i (0,0)=zs[i]:=by simp[PF,PE hi]
 unfold Lo Hi;rw[e];exact h _ (PX _)
end Go.Proofs.YtbkkolfpegplgaaGreatDoor
namespace Go.Proofs.YtbkkolfpegplgaaGreatDoor
open Go Go.RowKit
def mU (P:Prop) (e:Ending):Prop:=∃b,e=.returned (.bool b)∧(b=true→P)
theorem oR(P:Prop):mU P (.returned (.bool false)):=⟨false,rfl,fun h=>by cases h⟩
theorem Dy{P:Prop}(h:P):mU P (.returned (.bool true)):=⟨true,rfl,fun _=>h⟩
def FewV (es:List Ent):Prop:=es.length≤20∧∀i,i<es.length→(es.getD i Ent.z).hs.length≤30
theorem AC(a:Option Addr)(len cap:Nat)(l:List EV)(w:World)(h:EntsAt w a len l) :
  Calls prog 70 #[.slice a len cap] w fun e w'=>mU (FewV (l.map (·.1))) e∧Below w.heap.size w w':=by
 have H:=aI h;have B:=aI h.length;have I:=h.most;clear h;go_enter func70,ntmps70;go_wp2;go_loopw [3] (fun c wr=>∃k:Nat,k≤len∧c=.int .i64 k∧(∀i,i<k→(l.getD i EV.z).1.hs.length≤30)∧Below w.heap.size w wr)
  (fun c _=>len-(intOf c).toNat)
 case atStart=>exact⟨0,QG _,rfl,fun i hi=>absurd hi aA,PC _ _⟩
 obtain⟨k,L,rfl,j,u⟩:=hrel;have C:=aI j;have r:=aI u;clear j;have J:(0:Int)≤(k:Int):=aA;by_cases hlt:k<len
 ·obtain⟨b,off,rfl,G,y,A,m⟩:=(H.below u).cells k hlt;obtain⟨M,D,E,_,_⟩:=(H.holes _ (H.mem hlt)).at';have K:(k:Int)<(len:Int):=aA;rw[E]at m;obtain⟨n,en⟩:=aG ((l.getD k EV.z).1.hs.length);rw[en]at m;have F:=aI en;clear en E y A u;by_cases hn:30<(n:Int)
  ·go_wp2;go_ret;exact⟨oR _,r⟩
  have s:=aI (show ∀i,i<k+1→(l.getD i EV.z).1.hs.length≤30 from fun i hi=>by
   by_cases e:i=k
   ·subst e;rw[F.out];omega
   exact C i aA)
  go_wp2;go_roundw
  case rel=>exact⟨k+1,aA,by go_num,s,r⟩
  simp[intOf];omega
 obtain rfl:k=len:=aA;have s:=aI (fun(p:k≤20)=>show FewV (l.map (·.1))from⟨by rw[PI,B.out];exact p,fun i hi=>by
  rw[cF];exact C i (by rw[PI,B.out]at hi;exact hi)⟩)
 by_cases p:(k:Int)≤20
 ·go_wp2;go_ret;exact⟨Dy (s aA),r⟩
 go_wp2;go_ret;exact⟨oR _,r⟩
def yX (P:Prop) (e:Ending):Prop:=∃c i:Int,e=.returned (.tuple #[.int .i64 c,.int .i64 i])∧(c=0→P)
def lX (e:Ent):Prop:=cL e.hs∧∀i,i<e.hs.length→Hi e.hs i≤e.mx
theorem Fu(p:EV)(w:World)(h:HolesAt w p) :
  Calls prog 175 #[kO p] w fun e w'=>yX (lX p.1) e∧Below w.heap.size w w':=by
 obtain⟨⟨x,y,z⟩,hv⟩:=p;obtain⟨a,cap,O,h1,h2⟩:=h.at';simp only at O h1 h2;subst O;unfold kO;simp only;have H:=aI h1;have j:=h1.most;have J:=aI (fun W (s:Below w.heap.size w W)=>Bm a z.length cap z W (h1.below s));obtain⟨n,en⟩:=aG z.length;rw[en]at J j H ⊢;have P:=aI en;clear h h1 h2 en;go_enter func175,ntmps175;go_wp2_with fail;refine(J _ (aJ (PC _ _) _)).mono ?_;rintro e F ⟨⟨c,i,rfl,l⟩,m⟩;have K:=aI (aN (aJ (PC w.heap.size w) _) m);have L:F.heap[w.heap.size]?=some (.cells #[.int .u64 x,.int .u64 y,.slice a n cap] 96 (0,0)):=(m.block _ aD).trans (aK _ _ rfl);have M:=aI L;clear m L;by_cases hc:c=0
 ·subst hc;have A:=aI (show cL z from by
   rcases l with⟨_,h⟩ | ⟨h,_⟩
   ·exact h
   rcases h with h | h<;>cases h)
  clear l;go_wp2;go_loopw [6] (fun c wr=>∃k:Nat,k≤n∧c=.int .i64 k∧(∀i,i<k→Hi z i≤y)∧Below F.heap.size F wr)
   (fun c _=>n-(intOf c).toNat)
  case atStart=>exact⟨0,QG _,rfl,fun i hi=>absurd hi aA,PC _ _⟩
  obtain⟨k,Z,rfl,u,s⟩:=hrel;have N:=aI u;have B:=aI (aN K s);have C:=aI s;have D:=(s.block _ (aO M)).trans M;have U:wr.cell? ⟨w.heap.size,1,none⟩=some (.int .u64 y):=by simp[PD,D]
  have V:wr.cell? ⟨w.heap.size,2,none⟩=some (.slice a n cap):=by simp[PD,D]
  clear u D;have X:(0:Int)≤(k:Int):=aA;by_cases hlt:k<n
  ·obtain⟨b,off,rfl,S,G,I⟩:=(H.below B).cells k hlt;have Y:(k:Int)<(n:Int):=aA;obtain⟨hi,r⟩:=aG (Hi z k);rw[r]at I;have E:=aI r;clear r G s;by_cases hgt:y<hi
   ·go_wp2_with fail;go_quiet (fail);go_wp2;go_ret2;exact⟨⟨4,k,rfl,fun h=>by cases h⟩,aU B _⟩
   have Q:=aI (show ∀i,i<k+1→Hi z i≤y from fun i T=>by
    by_cases e:i=k
    ·subst e;rw[E.out];omega
    exact N i aA)
   go_wp2_with fail;go_quiet (fail);go_wp2;go_roundw
   case rel=>exact⟨k+1,aA,by go_num,Q,below_drewN C _⟩
   simp[intOf];omega
  obtain rfl:k=n:=aA;have R:=aI (show lX ⟨x,y,z⟩from⟨A,fun i hi=>N i (by simp only at hi;rw[P.out]at hi;exact hi)⟩);go_wp2;go_ret2;exact⟨⟨0,-1,rfl,fun _=>R⟩,B⟩
 have q:(c != 0)=true:=by simpa using hc
 have A:=aI hc;clear l hc;go_wp2;go_ret2;exact⟨⟨c,i,rfl,fun h=>absurd h A⟩,K⟩
def OO (es:List Ent):Prop:=∀i,0<i→i<es.length→(es.getD (i-1) Ent.z).rep<(es.getD i Ent.z).rep
def AscTo (l:List EV) (k:Nat):Prop:=∀i,0<i→i<k→(l.getD (i-1) EV.z).1.rep<(l.getD i EV.z).1.rep
theorem AscTo.succ{l:List EV}{k:Nat}(h:AscTo l k)(h1:0<k→(l.getD (k-1) EV.z).1.rep<(l.getD k EV.z).1.rep):AscTo l (k+1):=fun i h0 hi=>by
 by_cases e:i=k
 ·subst e;exact h1 h0
 exact h i h0 aA
end Go.Proofs.YtbkkolfpegplgaaGreatDoor
namespace Go.Proofs.YtbkkolfpegplgaaGreatDoor
theorem fJ{α:Type}{lt:α→α→Prop}(j:∀a,¬lt a a)(p:∀{a b c},lt a b→lt b c→lt a c) :
  ∀{l n:List α},l.Pairwise lt→n.Pairwise lt→(∀x,x∈l↔x∈n)→l=n
 | [],[],_,_,_=>rfl
 | [],y :: ys,_,_,h=>absurd ((h y).2 (by simp)) (by simp)
 | x :: xs,[],_,_,h=>absurd ((h x).1 (by simp)) (by simp)
 | x :: xs,y :: ys,h1,h2,h=>by
   obtain⟨a1,a2⟩:=List.pairwise_cons.1 h1;obtain⟨b1,b2⟩:=List.pairwise_cons.1 h2;have e:x=y:=by
    rcases List.mem_cons.1 ((h x).1 aD)with g | g
    ·exact g
    rcases List.mem_cons.1 ((h y).2 aD)with g' | g'
    ·exact g'.symm
    exact absurd (p (a1 y g') (b1 x g)) (j x)
   subst e;congr 1
   refine fJ j p a2 b2 fun z=>?_;constructor
   ·intro m;rcases List.mem_cons.1 ((h z).1 (by simp[m]))with g | g
    ·subst g;exact absurd (a1 z m) (j z)
    exact g
   intro m;rcases List.mem_cons.1 ((h z).2 (by simp[m]))with g | g
   ·subst g;exact absurd (b1 z m) (j z)
   exact g
def rH (e:Ent) (c:Int):Prop:=0≤c∧c≤e.mx∧¬aV e.hs c
instance (e:Ent) (c:Int):Decidable (rH e c):=by unfold rH;infer_instance
theorem EntC.lt{e:Ent}(h:EntC e){c:Int}(b:aV e.hs c):c<e.mx:=by
 obtain⟨i,hi,h1,h2⟩:=fU.1 b;have:=h.2 i hi;omega
theorem EntC.top'{e:Ent}(h:EntC e)(j:EntW e):rH e e.mx:=⟨j.mx.1,Int.le_refl _,fun b=>by have:=h.lt b;omega⟩
theorem EntW.nonneg{e:Ent}(j:EntW e){c:Int}(l:aV e.hs c):0≤c:=by
 obtain⟨z,b,h1,_⟩:=l;have:=(j.hs z b).1.1;omega
theorem yK{e e':Ent}(h:EntC e)(p:EntC e')(y:EntW e)(l:EntW e')(z:e.rep=e'.rep)(n:∀c,rH e c↔rH e' c):e=e':=by
 have h1:=((n e.mx).1 (h.top' y)).2.1;have h2:=((n e'.mx).2 (p.top' l)).2.1;have u:e.mx=e'.mx:=aA;have hs:e.hs=e'.hs:=by
  refine rC h.1 p.1 fun x=>?_;constructor
  ·intro j;have a:=y.nonneg j;have b:=h.lt j;by_cases g:aV e'.hs x
   ·exact g
   exact absurd j ((n x).2 ⟨a,aA,g⟩).2.2
  intro j;have a:=l.nonneg j;have b:=p.lt j;by_cases g:aV e.hs x
  ·exact g
  exact absurd j ((n x).1 ⟨a,aA,g⟩).2.2
 obtain⟨r,m,s⟩:=e;obtain⟨A,m',s'⟩:=e';simp only at z u hs;subst z u hs;rfl
def dN (es:List Ent) (r c:Int):Prop:=∃e∈es,e.rep=r∧rH e c
instance (es:List Ent) (r c:Int):Decidable (dN es r c):=by unfold dN;infer_instance
theorem jN(r c:Int):¬dN [] r c:=fun⟨_,h,_⟩=>by cases h
theorem Vt{e:Ent}{es:List Ent}{r c:Int}:dN (e :: es) r c↔(e.rep=r∧rH e c)∨dN es r c:=by
 constructor
 ·rintro⟨y,b,h⟩;rcases List.mem_cons.1 b with rfl | b
  ·exact .inl h
  exact .inr ⟨y,b,h⟩
 rintro(h | ⟨y,b,h⟩)
 ·exact⟨e,aD,h⟩
 exact⟨y,by simp[b],h⟩
theorem xX{e:Ent}{es:List Ent}{r c:Int}:dN (es ++ [e]) r c↔dN es r c∨(e.rep=r∧rH e c):=by
 constructor
 ·rintro⟨y,b,h⟩;rcases List.mem_append.1 b with b | b
  ·exact .inl ⟨y,b,h⟩
  obtain rfl:y=e:=by simpa using b
  exact .inr h
 rintro(⟨y,b,h⟩ | h)
 ·exact⟨y,by simp[b],h⟩
 exact⟨e,aD,h⟩
structure CanW (es:List Ent):Prop where
 can:∀e∈es,EntC e
 words:∀e∈es,EntW e
 asc:es.Pairwise (fun a b=>a.rep<b.rep)
theorem pJ(e:Ent)(es:List Ent)(i:Nat):(e :: es).getD (i+1) Ent.z=es.getD i Ent.z:=rfl
theorem yR:∀{es:List Ent},(∀i,0<i→i<es.length→(es.getD (i-1) Ent.z).rep<(es.getD i Ent.z).rep)→es.Pairwise (fun a b=>a.rep<b.rep)
 | [],_=>List.Pairwise.nil
 | [e],_=>by simp
 | e :: f :: es,h=>by
   have m:(f :: es).Pairwise (fun a b=>a.rep<b.rep):=yR fun i h0 hi=>by
    have:=h (i+1) aA (by simpa using hi);obtain⟨j,rfl⟩:∃j,i=j+1:=⟨i-1,aA⟩;simpa[pJ]using this
   refine List.pairwise_cons.2 ⟨fun b l=>?_,m⟩;have h1:e.rep<f.rep:=by simpa[pJ]using h 1 aA aD
   rcases List.mem_cons.1 l with rfl | l
   ·exact h1
   have:=(List.pairwise_cons.1 m).1 b l;omega
theorem Ge:∀{es:List Ent},es.Pairwise (fun a b=>a.rep<b.rep)→∀i,0<i→i<es.length→(es.getD (i-1) Ent.z).rep<(es.getD i Ent.z).rep
 | [],_,_,_,hi=>absurd hi (by simp)
 | e :: es,h,i,h0,hi=>by
   obtain⟨h1,h2⟩:=List.pairwise_cons.1 h;obtain⟨j,rfl⟩:∃j,i=j+1:=⟨i-1,aA⟩;rw[QI,pJ];have l:j<es.length:=by simpa using hi
   cases j with
   | zero=>exact h1 _ (fL l)
   | succ k=>
     rw[pJ];have:=Ge h2 (k+1) aA l;rwa [QI]at this
theorem CanW.v{es:List Ent}(h:CanW es):CanV es:=⟨fun _ hi=>h.can _ (fL hi),fun i h0 hi=>Ge h.asc i h0 hi⟩
theorem CanW.of{es:List Ent}(h:CanV es)(m:∀e∈es,EntW e):CanW es:=
 ⟨fun e l=>by
  obtain⟨i,hi,j⟩:=List.mem_iff_getElem.1 l;have:=h.ents i hi;have b:es.getD i Ent.z=e:=by simp[PF,PE hi,j]
  rwa [b]at this,m,yR h.asc⟩
theorem CanW.nil:CanW []:=⟨aD,aD,List.Pairwise.nil⟩
theorem CanW.snoc{es:List Ent}{e:Ent}(h:CanW es)(n:EntC e)(p:EntW e)(r:∀f∈es,f.rep<e.rep):CanW (es ++ [e]):=
 ⟨fun f j=>by
  rcases List.mem_append.1 j with j | j
  ·exact h.can f j
  ·obtain rfl:f=e:=by simpa using j
   exact n,fun f j=>by
  rcases List.mem_append.1 j with j | j
  ·exact h.words f j
  obtain rfl:f=e:=by simpa using j
  exact p,List.pairwise_append.2 ⟨h.asc,aD,fun a l b m=>by
   obtain rfl:b=e:=by simpa using m
   exact r a l⟩⟩
theorem CanW.known{es:List Ent}(h:CanW es){e:Ent}(l:e∈es){c:Int}:dN es e.rep c↔rH e c:=by
 constructor
 ·rintro⟨f,m,p,b⟩;have:f=e:=by
   have n:=h.asc;clear b;induction es with
   | nil=>cases l
   | cons x xs ih=>
     obtain⟨h1,h2⟩:=List.pairwise_cons.1 n;rcases List.mem_cons.1 l with rfl | he'
     ·rcases List.mem_cons.1 m with rfl | hf'
      ·rfl
      have:=h1 f hf';omega
     rcases List.mem_cons.1 m with rfl | hf'
     ·have:=h1 e he';omega
     exact ih ⟨fun y j=>h.can y (by simp[j]),fun y j=>h.words y (by simp[j]),h2⟩ he' hf' h2
  rw[← this];exact b
 exact fun b=>⟨e,l,rfl,b⟩
theorem mV{es es':List Ent}(h:CanW es)(u:CanW es')(n:∀r c,dN es r c↔dN es' r c):es=es':=by
 refine fJ (lt:=fun a b:Ent=>a.rep<b.rep) (fun a=>aA) (fun {a b c} h1 h2=>aA) h.asc u.asc ?_;have j:∀{xs ys:List Ent},CanW xs→CanW ys→(∀r c,dN xs r c↔dN ys r c)→∀e,e∈xs→e∈ys:=by
  intro xs ys m s n e l;obtain⟨f,p,y,z⟩:=(n e.rep e.mx).1 ⟨e,l,rfl,(m.can e l).top' (m.words e l)⟩;have:e=f:=yK (m.can e l) (s.can f p) (m.words e l) (s.words f p) y.symm fun c=>by
   rw[← m.known l,← s.known p,n,y]
  rw[this];exact p
 exact fun e=>⟨j h u n e,j u h (fun r c=>(n r c).symm) e⟩
theorem CanW.eq_nil{es:List Ent}(h:CanW es)(b:∀r c,¬dN es r c):es=[]:=
 mV h CanW.nil fun r c=>⟨fun g=>absurd g (b r c),fun g=>absurd g (jN r c)⟩
theorem CanW.ne_nil{es:List Ent}(h:CanW es)(b:es≠[]):∃r c,dN es r c:=by
 cases es with
 | nil=>exact absurd rfl b
 | cons e es=>exact⟨e.rep,e.mx,e,aD,rfl,(h.can e aD).top' (h.words e aD)⟩
def cQ:List Int→List Int→Int
 | [],[]=>0
 | [],_ :: _=>-1
 | _ :: _,[]=>1
 | x :: xs,y :: ys=>if x<y then -1 else if y<x then 1 else cQ xs ys
theorem Bl:∀xs,cQ xs xs=0
 | []=>rfl
 | x :: xs=>by unfold cQ;rw[if_neg (by omega),if_neg (by omega)];exact Bl xs
theorem Dv:∀{xs ys},cQ xs ys=0→xs=ys
 | [],[],_=>rfl
 | [],_ :: _,h=>by cases h
 | _ :: _,[],h=>by cases h
 | x :: xs,y :: ys,h=>by
   unfold cQ at h;by_cases h1:x<y
   ·rw[if_pos h1]at h;cases h
   rw[if_neg h1]at h;by_cases h2:y<x
   ·rw[if_pos h2]at h;cases h
   rw[if_neg h2]at h;have e:x=y:=aA;rw[e,Dv h]
theorem Bj:∀xs ys,cQ ys xs =-cQ xs ys
 | [],[]=>rfl
 | [],_ :: _=>rfl
 | _ :: _,[]=>rfl
 | x :: xs,y :: ys=>by
   unfold cQ;by_cases h1:x<y
   ·rw[if_neg (show ¬y<x by omega),if_pos h1,if_pos h1];rfl
   by_cases h2:y<x
   ·rw[if_pos h2,if_neg h1,if_pos h2]
   rw[if_neg h2,if_neg h1,if_neg h1,if_neg h2];exact Bj xs ys
theorem Oa(xs ys:List Int):cQ xs ys = -1∨cQ xs ys=0∨cQ xs ys=1:=by
 induction xs generalizing ys with
 | nil=>cases ys<;>simp[cQ]
 | cons x xs ih=>
   cases ys with
   | nil=>simp[cQ]
   | cons y ys=>
     unfold cQ;split
     ·simp
     split
     ·simp
     exact ih ys
theorem yP:∀{xs ys zs:List Int},cQ xs ys<0→cQ ys zs<0→cQ xs zs<0
 | [],[],_,h,_=>by cases h
 | [],_ :: _,[],_,h=>by cases h
 | [],_ :: _,_ :: _,_,_=>by show(-1:Int)<0;decide
 | _ :: _,[],_,h,_=>by cases h
 | _ :: _,_ :: _,[],_,h=>by cases h
 | x :: xs,y :: ys,z :: zs,h,h'=>by
   unfold cQ at h h' ⊢;by_cases a:x<y
   ·by_cases b:y<z
    ·rw[if_pos (by omega)];decide
    rw[if_neg b]at h';by_cases c:z<y
    ·rw[if_pos c]at h';omega
    rw[if_pos (by omega)];decide
   rw[if_neg a]at h;by_cases a':y<x
   ·rw[if_pos a']at h;omega
   rw[if_neg a']at h;by_cases b:y<z
   ·rw[if_pos (by omega)];decide
   rw[if_neg b]at h';by_cases c:z<y
   ·rw[if_pos c]at h';omega
   rw[if_neg c]at h';rw[if_neg (by omega),if_neg (by omega)];exact yP h h'
def gQ (e:Ent):List Int:=[e.rep,e.mx,(e.hs.length:Int)] ++ e.hs.flatMap (fun z=>[z.1,z.2])
def bG (es:List Ent):List Int:=(es.length:Int) :: es.flatMap gQ
theorem Hy:∀{zs ys:List Iv} {a b:List Int},zs.length=ys.length→zs.flatMap (fun z=>[z.1,z.2]) ++ a=ys.flatMap (fun z=>[z.1,z.2]) ++ b→zs=ys∧a=b
 | [],[],_,_,_,h=>⟨rfl,h⟩
 | [],_ :: _,_,_,h,_=>by cases h
 | _ :: _,[],_,_,h,_=>by cases h
 | z :: zs,y :: ys,a,b,hl,h=>by
   simp only[PJ,PZ,QA]at h;injection h with h1 h;injection h with h2 h;obtain⟨j,l⟩:=Hy (by simpa using hl) h;exact⟨by rw[Prod.ext h1 h2,j],l⟩
theorem Jb:∀{es b:List Ent},es.length=b.length→es.flatMap gQ=b.flatMap gQ→es=b
 | [],[],_,_=>rfl
 | [],_ :: _,h,_=>by cases h
 | _ :: _,[],h,_=>by cases h
 | e :: es,f :: b,hl,h=>by
   simp only[PJ,gQ,PZ,QA]at h;injection h with h1 h;injection h with h2 h;injection h with h3 h;obtain⟨j,l⟩:=Hy aA h;obtain⟨r,m,s⟩:=e;obtain⟨n,m',s'⟩:=f;simp only at h1 h2 j;subst h1 h2 j;rw[Jb (by simpa using hl) l]
theorem Ja{es fs:List Ent}(h:bG es=bG fs):es=fs:=by
 unfold bG at h;injection h with h1 h2;exact Jb aA h2
def lL (a b:List Ent):Prop:=cQ (bG a) (bG b)<0
theorem Cb(a:List Ent):¬lL a a:=by unfold lL;rw[Bl];omega
theorem jO{a b c:List Ent}(h:lL a b)(j:lL b c):lL a c:=yP h j
structure Frag where
 items:List Iv
 vec:List Ent
def fH (k:List Frag) (x r c:Int):Prop:=∃f∈k,aV f.items x∧dN f.vec r c
theorem Nh(x r c:Int):¬fH [] x r c:=fun⟨_,h,_⟩=>by cases h
structure CanK (k:List Frag):Prop where
 cor:∀f∈k,cL f.items
 some:∀f∈k,f.items≠[]
 vec:∀f∈k,CanW f.vec
 vne:∀f∈k,f.vec≠[]
 asc:k.Pairwise (fun f g=>lL f.vec g.vec)
 apart:k.Pairwise (fun f g=>∀x,¬(aV f.items x∧aV g.items x))
theorem CanK.tail{f:Frag}{k:List Frag}(h:CanK (f :: k)):CanK k:=
 ⟨fun g b=>h.cor g (by simp[b]),fun g b=>h.some g (by simp[b]),fun g b=>h.vec g (by simp[b]),fun g b=>h.vne g (by simp[b]),(List.pairwise_cons.1 h.asc).2,(List.pairwise_cons.1 h.apart).2⟩
theorem CanK.one{k:List Frag}(h:CanK k){f g:Frag}(j:f∈k)(l:g∈k){x:Int}(h1:aV f.items x)(h2:aV g.items x):f=g:=by
 induction k with
 | nil=>cases j
 | cons y ys ih=>
   have b:=(List.pairwise_cons.1 h.apart).1;rcases List.mem_cons.1 j with rfl | hf'
   ·rcases List.mem_cons.1 l with rfl | hg'
    ·rfl
    exact absurd ⟨h1,h2⟩ (b g hg' x)
   rcases List.mem_cons.1 l with rfl | hg'
   ·exact absurd ⟨h2,h1⟩ (b f hf' x)
   exact ih h.tail hf' hg'
theorem CanK.at{k:List Frag}(h:CanK k){f:Frag}(b:f∈k){x:Int}(j:aV f.items x)(r c:Int):fH k x r c↔dN f.vec r c:=by
 constructor
 ·rintro⟨g,l,h1,h2⟩;rw[← h.one l b h1 j];exact h2
 exact fun g=>⟨f,b,j,g⟩
theorem tQ{zs:List Iv}(h:cL zs)(b:zs≠[]):∃x,aV zs x:=by
 cases zs with
 | nil=>exact absurd rfl b
 | cons z zs=>exact⟨z.1,bM.2 (.inl ⟨Int.le_refl _,(h 0 aD).1⟩)⟩
theorem uS{k k':List Frag}(h:CanK k)(K:CanK k')(n:∀x r c,fH k x r c↔fH k' x r c):k=k':=by
 have m:∀{a b:List Frag},CanK a→CanK b→(∀x r c,fH a x r c↔fH b x r c)→∀{f},f∈a→∀{x},aV f.items x→∃g∈b,aV g.items x∧g.vec=f.vec:=by
  intro a b j z n f l x D;obtain⟨r,c,E⟩:=(j.vec f l).ne_nil (j.vne f l);obtain⟨g,u,A,_⟩:=(n x r c).1 ⟨f,l,D,E⟩;refine⟨g,u,A,mV (z.vec g u) (j.vec f l) fun r c=>?_⟩;rw[← z.at u A,← n,j.at l D]
 have same:∀{a b:List Frag},CanK a→CanK b→(∀x r c,fH a x r c↔fH b x r c)→∀f,f∈a→f∈b:=by
  intro a b j z n f l;obtain⟨x,D⟩:=tQ (j.cor f l) (j.some f l);obtain⟨g,u,A,hv⟩:=m j z n l D;have s:∀{c:List Frag},CanK c→∀{p q},p∈c→q∈c→p.vec=q.vec→p=q:=by
   intro c L p q M N C;induction c with
   | nil=>cases M
   | cons y ys ih=>
     have j:=(List.pairwise_cons.1 L.asc).1;rcases List.mem_cons.1 M with rfl | hp'
     ·rcases List.mem_cons.1 N with rfl | hq'
      ·rfl
      have:=j q hq';rw[C]at this;exact absurd this (Cb _)
     rcases List.mem_cons.1 N with rfl | hq'
     ·have:=j p hp';rw[C]at this;exact absurd this (Cb _)
     exact ih L.tail hp' hq'
  have hi:f.items=g.items:=by
   refine rC (j.cor f l) (z.cor g u) fun y=>?_;constructor
   ·intro J;obtain⟨O,F,G,B⟩:=m j z n l J;rw[s z u F (hv.trans B.symm)];exact G
   intro J;obtain⟨P,H,I,B⟩:=m z j (fun x r c=>(n x r c).symm) u J;rw[s j l H (hv.symm.trans B.symm)];exact I
  obtain⟨Q,R⟩:=f;obtain⟨S,T⟩:=g;simp only at hi hv;subst hi hv;exact u
 exact fJ (lt:=fun f g:Frag=>lL f.vec g.vec) (fun a=>Cb _) (fun h1 h2=>jO h1 h2) h.asc K.asc fun f=>⟨same h K n f,same K h (fun x r c=>(n x r c).symm) f⟩
end Go.Proofs.YtbkkolfpegplgaaGreatDoor
namespace Go.Proofs.YtbkkolfpegplgaaGreatDoor
open Go Go.RowKit
theorem FR(q:Nat)(a:Option Addr)(n cap:Nat)(zs:List Iv)(w:World)(m:w.cell? ⟨q,2,none⟩=some (.slice a n cap))(h:Prs w a n zs)(b:cL zs) :
  Calls prog 199 #[.pointer (some ⟨q,0,none⟩)] w fun e w'=>e=.returned .nilIface∧Below w.heap.size w w':=by
 have K:=aI (xE a n cap zs w h b);clear h b;go_enter func199,ntmps199;go_wp2_with fail;refine K.mono ?_;rintro e l ⟨rfl,j⟩;go_wp2;go_ret;exact⟨rfl,j⟩
theorem FT(q:Nat)(a:Option Addr)(n cap:Nat)(zs:List Iv)(y:Int)(w:World)(K:q<w.heap.size)(z:w.cell? ⟨q,1,none⟩=some (.int .u64 y))(P:w.cell? ⟨q,2,none⟩=some (.slice a n cap))(h:Prs w a n zs)(A:∀i,i<n→Hi zs i≤y) :
  Calls prog 198 #[.pointer (some ⟨q,0,none⟩)] w fun e w'=>e=.returned .nilIface∧Below w.heap.size w w':=by
 have L:=h.most;have H:=aI h;have B:=aI A;have C:=aI z;clear h A z;go_enter func198,ntmps198;go_wp2;go_loopw [7] (fun c wr=>∃k:Nat,k≤n∧c=.int .i64 k∧Below w.heap.size w wr) (fun c _=>n-(intOf c).toNat)
 case atStart=>exact⟨0,QG _,rfl,PC _ _⟩
 obtain⟨k,O,rfl,j⟩:=hrel;have s:=aI j;have M:(0:Int)≤(k:Int):=aA;by_cases hlt:k<n
 ·obtain⟨b,off,rfl,J,p,r⟩:=(H.below j).cells k hlt;have u:=B.out k hlt;have N:(k:Int)<(n:Int):=aA;obtain⟨hi,l⟩:=aG (Hi zs k);obtain⟨lo,m⟩:=aG (Lo zs k);rw[l]at r u;rw[m]at p;have D:¬y<hi:=aA;have E:wr.cell? ⟨q,1,none⟩=some (.int .u64 y):=aM j K C;have F:=j.size;have G:q≠wr.heap.size:=aA;have I:(wr.alloc (.cells #[.int .u64 lo,.int .u64 hi] 123)).cell? ⟨q,1,none⟩=some (.int .u64 y):=aM (aJ (PC _ _) _) aA E;clear l m u j;go_wp2;go_roundw
  case rel=>exact⟨k+1,aA,by go_num,aJ s _⟩
  simp[intOf];omega
 obtain rfl:k=n:=aA;go_wp2;go_ret;exact⟨rfl,s⟩
theorem Lb(p:EV)(w:World)(h:HolesAt w p)(N:lX p.1) :
  Calls prog 145 #[kO p] w fun e w'=>e=.returned .nilIface∧Below w.heap.size w w':=by
 obtain⟨⟨x,y,z⟩,hv⟩:=p;obtain⟨a,cap,M,h1,h2⟩:=h.at';simp only at M h1 h2;subst M;unfold kO;simp only;have H:=aI h1;have C:=aI N;obtain⟨n,en⟩:=aG z.length;rw[en]at H ⊢;have O:=aI en;clear h h1 h2 N en;go_enter func145,ntmps145;go_wp2_with fail;obtain⟨j,l⟩:=aG ((w.alloc (.cells #[.int .u64 x,.int .u64 y,.slice a n cap] 96)).alloc (.cells #[.func (.func 199) #[] #[.pointer (some ⟨w.heap.size,0,none⟩)],.func (.func 198) #[] #[.pointer (some ⟨w.heap.size,0,none⟩)]] 258));have D:j.heap[w.heap.size]?=some (.cells #[.int .u64 x,.int .u64 y,.slice a n cap] 96 (0,0)):=by rw[← l];exact aT _ _ aD (aK _ _ rfl)
 have E:j.heap[w.heap.size+1]?=some (.cells #[.func (.func 199) #[] #[.pointer (some ⟨w.heap.size,0,none⟩)],.func (.func 198) #[] #[.pointer (some ⟨w.heap.size,0,none⟩)]] 258 (0,0)):=by rw[← l];exact aK _ _ aD
 have F:Hid (Below w.heap.size w j):=aI (by rw[← l];exact aJ (aJ (PC _ _) _) _);have G:=aI D;have I:=aI E;rw[l];clear l D E;go_loopw [12] (fun c wr=>∃k:Nat,k≤2∧c=.int .i64 k∧Below j.heap.size j wr) (fun c _=>2-(intOf c).toNat)
 case atStart=>exact⟨0,aA,rfl,PC _ _⟩
 obtain⟨k,V,rfl,m⟩:=hrel;have s:=aI m;have r:=(m.block _ (aO G)).trans G;have u:=(m.block _ (aO I)).trans I;have P:wr.cell? ⟨w.heap.size,1,none⟩=some (.int .u64 y):=by simp[PD,r]
 have J:wr.cell? ⟨w.heap.size,2,none⟩=some (.slice a n cap):=by simp[PD,r]
 have T:wr.cell? ⟨w.heap.size+1,0,none⟩=some (.func (.func 199) #[] #[.pointer (some ⟨w.heap.size,0,none⟩)]):=by simp[PD,u]
 have U:wr.cell? ⟨w.heap.size+1,1,none⟩=some (.func (.func 198) #[] #[.pointer (some ⟨w.heap.size,0,none⟩)]):=by simp[PD,u]
 have A:=aI (aO r);have Q:∀args W,(callFunc 199 args).run prog W=.ok (.enter 199 args) W:=fun _ _=>aC;have R:∀args W,(callFunc 198 args).run prog W=.ok (.enter 198 args) W:=fun _ _=>aC;have L:=aI (H.below (aN F m));clear r u m;rcases(show k=0∨k=1∨k=2 by omega)with rfl | rfl | rfl
 ·have K:=aI (FR w.heap.size a n cap z wr J L C.1);go_wp2_with fail;refine K.mono ?_;rintro e S ⟨rfl,b⟩;have B:=aI (aN s b);clear b;go_wp2;go_roundw
  case rel=>exact⟨1,aA,by go_num,B⟩
  simp[intOf]
 ·have K:=aI (FT w.heap.size a n cap z y wr A P J L (fun i hi=>C.2 i (by rw[O.out];exact hi)));go_wp2_with fail;refine K.mono ?_;rintro e S ⟨rfl,b⟩;have B:=aI (aN s b);clear b;go_wp2;go_roundw
  case rel=>exact⟨2,aA,by go_num,B⟩
  simp[intOf]
 go_wp2;go_ret;exact⟨rfl,aN F s⟩
theorem sE(x:Int)(w:World):Calls prog 150 #[.int .u64 x] w fun e w'=>e=.returned (.bool false)∧w=w':=by
 have q:(x != x)=false:=aD;go_enter func150,ntmps150;go_wp2;go_ret;exact⟨rfl,rfl⟩
theorem Lg(x y:Int)(h:y<x)(w:World):Calls prog 92 #[.int .u64 x,.int .u64 y] w fun e w'=>e=.returned (.int .i64 1)∧w=w':=by
 have h2:¬x<y:=aA;go_enter func92,ntmps92;go_wp2_with fail;refine(sE x _).mono ?_;rintro e b ⟨rfl,rfl⟩;go_wp2_with fail;refine(sE y _).mono ?_;rintro e b ⟨rfl,rfl⟩;go_wp2;go_ret;exact⟨rfl,rfl⟩
theorem DW(q x y:Int)(a:Option Addr)(n cap:Nat)(h:q<x)(w:World):Calls prog 146 #[.int .u64 q,.agg #[.int .u64 x,.int .u64 y,.slice a n cap]] w fun e w'=>e=.returned (.int .i64 1)∧Below w.heap.size w w':=by
 have K:=aI (fun W=>Lg x q h W);clear h;go_enter func146,ntmps146;go_wp2_with fail;refine(K _).mono ?_;rintro e b ⟨rfl,rfl⟩;go_wp2;go_ret;exact⟨rfl,aJ (PC _ _) _⟩
structure TwoK (W0:World) (b o c:Nat) (q x y:Int) (hv:Value) (W:World):Prop where
 a0:W.cell? ⟨b,o,none⟩=some (.int .u64 q)
 b0:W.cell? ⟨c,0,none⟩=some (.int .u64 x)
 b1:W.cell? ⟨c,1,none⟩=some (.int .u64 y)
 b2:W.cell? ⟨c,2,none⟩=some hv
 bl:Below W0.heap.size W0 W
theorem TwoK.below{W0 W W':World}{b o c:Nat}{q x y:Int}{hv:Value}(h:TwoK W0 b o c q x y hv W)(j:Below W.heap.size W W'):TwoK W0 b o c q x y hv W':=
 ⟨eV j h.a0,eV j h.b0,eV j h.b1,eV j h.b2,aN h.bl j⟩
theorem TwoK.drew{W0 W:World}{b o c:Nat}{q x y:Int}{hv:Value}(h:TwoK W0 b o c q x y hv W):TwoK W0 b o c q x y hv W.drew:=h.below (aS (PC _ _))
def bY (es:List Ent):Prop:=(∀i,i<es.length→lX (es.getD i Ent.z))∧∀i,0<i→i<es.length→(es.getD (i-1) Ent.z).rep<(es.getD i Ent.z).rep
theorem CanV.right{es:List Ent}(h:CanV es):bY es:=⟨fun i hi=>⟨(h.ents i hi).cor,fun j b=>by have:=(h.ents i hi).top j b;omega⟩,h.asc⟩
theorem Cc(a:Option Addr)(len cap:Nat)(l:List EV)(w:World)(h:EntsAt w a len l)(U:bY (l.map (·.1))) :
  Calls prog 87 #[.slice a len cap] w fun e w'=>e=.returned .nilIface∧Below w.heap.size w w':=by
 have N:prog.follows .mixedOrders=true:=aC;have hm:=h.most;have V:=aI h.length;have H:=aI h;have CE:=aI (fun k (J:k<len)=>show lX (l.getD k EV.z).1 from by rw[← cF];exact U.1 k (by rw[PI,V.out];exact J));have CA:=aI (fun k (h0:0<k) (J:k<len)=>show(l.getD (k-1) EV.z).1.rep<(l.getD k EV.z).1.rep from by rw[← cF,← cF];exact U.2 k h0 (by rw[PI,V.out];exact J));clear h U;go_enter func87,ntmps87;go_wp2;go_loopw [8] (fun c wr=>∃k:Nat,k≤len∧c=.int .i64 k∧Below w.heap.size w wr) (fun c _=>len-(intOf c).toNat)
 case atStart=>exact⟨0,QG _,rfl,PC _ _⟩
 obtain⟨k,J,rfl,r⟩:=hrel;have O:=aI r;have i0:(0:Int)≤(k:Int):=aA;by_cases hlt:k<len
 ·obtain⟨b,off,rfl,A0,C,D,E⟩:=(H.below r).cells k hlt;have s:=CE.out k hlt;have i1:(k:Int)<(len:Int):=aA;have G:=aI (fun W (hW:Below wr.heap.size wr W)=>Lb (l.getD k EV.z) W (((H.below r).below hW).holes _ (H.mem hlt)) s);obtain⟨u,hcap,F,_,_⟩:=((H.holes _ (H.mem hlt))).at';obtain⟨n,en⟩:=aG ((l.getD k EV.z).1.hs.length);rw[en]at F;unfold kO at G;have A:=aI (fun h0=>CA k h0 hlt);obtain⟨x,L⟩:=aG ((l.getD k EV.z).1.rep);obtain⟨y,M⟩:=aG ((l.getD k EV.z).1.mx);rw[L,M,F]at G;rw[L]at C A;rw[M]at D;rw[F]at E;by_cases hk0:k=0
  ·have Y:¬(0:Int)<(k:Int):=aA;have n1:decide ((0:Int)<(k:Int))=false:=decide_eq_false Y;have n2:decide (0<k)=false:=decide_eq_false aA;clear L M F en hk0 r s;go_wp2_with fail;refine(G _ (aJ (PC _ _) _)).mono ?_;rintro e P ⟨rfl,j⟩;have B1:=aI (aN (aJ O _) j);clear j;go_wp2_with fail;go_quiet (fail);go_wp2;go_roundw
   case rel=>exact⟨k+1,aA,by go_num,aU B1 _⟩
   simp[intOf];omega
  obtain⟨b2,off2,Z,_,Q,_,_⟩:=(H.below r).cells (k-1) aA;obtain⟨rfl,rfl⟩:b=b2∧off=off2:=by simpa using Z
  have m:=A.out aA;obtain⟨q,eq⟩:=aG ((l.getD (k-1) EV.z).1.rep);rw[eq]at Q m;have HR:=aI (fun W=>DW q x y u n hcap m W);have Y:(0:Int)<(k:Int):=aA;have n1:(0:Int)≤(k:Int)-1:=aA;have n2:(k:Int)-1<(len:Int):=aA;have n3:IntKind.i64.wrap ((k:Int)-1)=(k:Int)-1:=IntWalk.i64_in _ aA;have n4:((k:Int)-1).toNat=k-1:=aA;have n5:0<k:=aA;have n6:1≤k:=aA;have n7:(1:Int)≤(k:Int):=aA;obtain⟨hv,R⟩:=aH (.slice u n hcap:Value);clear Z L M F en eq hk0 r s m;go_wp2_with fail;refine(G _ (aJ (PC _ _) _)).mono ?_;rintro e P ⟨rfl,j⟩;have p:=aN (aJ (PC wr.heap.size wr) (.cells #[.int .u64 x,.int .u64 y,.slice u n hcap] 96)) j;have I:P.heap[wr.heap.size]?=some (.cells #[.int .u64 x,.int .u64 y,.slice u n hcap] 96 (0,0)):=(j.block _ aD).trans (aK _ _ rfl);have TT:=aI (TwoK.mk (W0:=wr) (b:=b) (o:=off+(k-1) * 3) (c:=wr.heap.size) (q:=q) (x:=x) (y:=y) (hv:=.slice u n hcap) (W:=P) (eV p Q) (by simp[PD,I]) (by simp[PD,I]) (by simp[PD,I]) p);clear j p Q C D E I R hv;go_wp2_with fail;refine wp_region_held_drew (S:=TwoK wr b (off+(k-1) * 3) wr.heap.size q x y (.slice u n hcap)) N TT.drew (fun B=>?_);refine aP 0 21 (.int .i64 k) ?_;refine aP 1 22 (.bool true) ?_;refine aP 2 23 (.bool true) ?_;refine aP 3 24 (.slice (some ⟨b,off,none⟩) len cap) ?_;refine aP 4 25 (.int .i64 k) ?_;refine aP 5 26 (.int .i64 ((k:Int)-1)) ?_;refine aP 6 27 (.pointer (some ⟨b,off+(k-1) * 3,none⟩)) ?_;refine aP 7 28 (.pointer (some ⟨b,off+(k-1) * 3,none⟩)) ?_;refine dL 8 29 (.int .u64 q) ?_ ?_
  ·intro X T;obtain⟨x0,x1,x2,x3,x4⟩:=T;go_simp
  refine dL 9 30 (.agg #[.int .u64 x,.int .u64 y,.slice u n hcap]) ?_ ?_
  ·intro X T;obtain⟨x0,x1,x2,x3,x4⟩:=T;go_simp
  refine cW 10 fun K hK=>?_;go_simp;refine(HR _).mono ?_;rintro e wq ⟨rfl,r⟩;have B:=B.below r;clear r;go_simp;refine hK _ _ B (fun _=>?_);clear hK K;refine aP 11 32 (.bool false) ?_;refine aP 12 33 (.bool false) ?_;refine iM ?_;have BB:=aI (aN O B.bl);clear B;go_wp2;go_roundw
  case rel=>exact⟨k+1,aA,by go_num,BB⟩
  simp[intOf];omega
 obtain rfl:k=len:=aA;go_wp2;go_ret;exact⟨rfl,O⟩
end Go.Proofs.YtbkkolfpegplgaaGreatDoor
namespace Go.Proofs.YtbkkolfpegplgaaGreatDoor
theorem vC(e:Ent):(gQ e).length=3+2 * e.hs.length:=by
 unfold gQ;have:∀zs:List Iv,(zs.flatMap (fun z=>[z.1,z.2])).length=2 * zs.length:=by
  intro zs;induction zs with
  | nil=>rfl
  | cons z zs ih=>simp only[PJ,PG,PH,QB,ih];omega
 simp only[PG,PH,QB,this]
def fZ (es:List Ent):Nat→Nat
 | 0=>1
 | k+1=>fZ es k+3+2 * (es.getD k Ent.z).hs.length
theorem Ia{es:List Ent}{k:Nat}(b:k<es.length):es.take (k+1)=es.take k ++ [es.getD k Ent.z]:=by
 rw[List.take_succ_eq_append_getElem b];simp[PF,PE b]
theorem Db(es:List Ent):∀k,k≤es.length→fZ es k=1+((es.take k).flatMap gQ).length
 | 0,_=>by simp[fZ]
 | k+1,h=>by
   rw[fZ,Db es k (by omega),Ia (by omega),PM,PG,PJ,PY,PQ,vC];omega
theorem vB(es:List Ent):(bG es).length=fZ es es.length:=by
 rw[Db es _ (QE _),List.take_length];unfold bG;simp only[PH];omega
theorem sP{es:List Ent}{k i:Nat}(l:k<es.length)(hi:i<3+2 * (es.getD k Ent.z).hs.length):(bG es).getD (fZ es k+i) 0=(gQ (es.getD k Ent.z)).getD i 0:=by
 have b:es.flatMap gQ=(es.take k).flatMap gQ ++ (gQ (es.getD k Ent.z) ++ (es.drop (k+1)).flatMap gQ):=by
  have j:es=es.take (k+1) ++ es.drop (k+1):=(List.take_append_drop _ _).symm;conv=>lhs;rw[j];rw[Ia l,PM,PM,PJ,PY,PQ,PO]
 unfold bG;rw[Db es k aA,b];simp only[PF];rw[show 1+((es.take k).flatMap gQ).length+i=(((es.take k).flatMap gQ).length+i)+1 by omega,List.getElem?_cons_succ,PS aA,Nat.add_sub_cancel_left,PN (by rw[vC];exact hi)]
theorem Ns:∀(zs:List Iv) (j:Nat),j<zs.length→(zs.flatMap (fun z=>[z.1,z.2])).getD (2 * j) 0=Lo zs j∧(zs.flatMap (fun z=>[z.1,z.2])).getD (2 * j+1) 0=Hi zs j
 | [],j,h=>by simp at h
 | z :: zs,0,_=>⟨rfl,rfl⟩
 | z :: zs,j+1,h=>by
   have b:=Ns zs j (by simpa using h);rw[Nc,Nq,← b.1,← b.2];rw[show 2 * (j+1)=2 * j+1+1 by omega];exact⟨rfl,rfl⟩
theorem BF(e:Ent)(j:Nat)(h:j<e.hs.length):(gQ e).getD (3+2 * j) 0=Lo e.hs j∧(gQ e).getD (4+2 * j) 0=Hi e.hs j:=by
 have:=Ns e.hs j h;rw[← this.1,← this.2,show 3+2 * j=2 * j+1+1+1 by omega,show 4+2 * j=2 * j+1+1+1+1 by omega];exact⟨rfl,rfl⟩
theorem Zi{es:List Ent}{k i:Nat}(l:k<es.length)(hi:i<3+2 * (es.getD k Ent.z).hs.length):fZ es k+i<(bG es).length:=by
 rw[vB];have b:∀j d,fZ es j≤fZ es (j+d):=by
  intro j d;induction d with
  | zero=>exact QE _
  | succ d ih=>rw[← Nat.add_assoc,fZ];omega
 have:=b (k+1) (es.length-(k+1));rw[show k+1+(es.length-(k+1))=es.length by omega,fZ]at this;omega
theorem Tf(pre post:List Int)(x:Int)(b:aL x):∃K,K+1=(vb 10 x).length∧qG (pre ++ vb 10 x ++ post) pre.length K∧dQ K (aW (pre ++ vb 10 x ++ post) (pre.length+K))=1∧kR (pre ++ vb 10 x ++ post) pre.length (K+1)=x:=by
 obtain⟨K,h1,h2,h3,h4⟩:=Fs (pre ++ vb 10 x ++ post) pre.length 10 x 0 b.1 (by have:=b.2;omega) aA aA (by rw[GK];have:=b.2;omega) (.inl rfl)
  (fun j l=>by
    have e:(pre ++ vb 10 x ++ post)[pre.length+(0+j)]?=(vb 10 x)[j]?:=by
     rw[PO,PS aA,show pre.length+(0+j)-pre.length=j by omega,PN l]
    simp only[aW,PF,e]) aD (fun i hi=>absurd hi aA) (Int.le_refl _) (show(0:Int)<1 by decide)
 refine⟨K,aA,h2,h3,?_⟩;rw[h4,GK];show 0+x * 1=x;omega
theorem GS(pre post:List Int)(x:Int)(l:aL x):Rd (pre ++ vb 10 x ++ post) pre.length (.ok (x,pre.length+(vb 10 x).length)):=by
 obtain⟨K,h1,h2,h3,h4⟩:=Tf pre post x l;have:=Rd.ok (zs:=pre ++ vb 10 x ++ post) (a:=pre.length) K aA (by have:=h2.lt;omega) (by simpa using h2) (by simpa using h3);have b:kR (pre ++ vb 10 x ++ post) ((pre.length:Int).toNat) (K+1)=x:=by simpa using h4
 rw[b]at this;have j:((pre.length:Int)+((K:Int)+1))=pre.length+(vb 10 x).length:=aA;rw[j]at this;exact this
def GP (lm:cD) (len:Int):List Int→St→Int→Except (Int×Int) ((List Ent×Int) ⊕ (St×Int))
 | [],s,a=>.ok (.inr (s,a))
 | x :: xs,s,a=>
   match bU lm s x (len-(a+(vb 10 x).length))with
   | .error c=>.error (c,a)
   | .ok s'=>if s'.ph.isFin then .ok (.inl (s'.es,a+(vb 10 x).length))else GP lm len xs s' (a+(vb 10 x).length)
def NR (s:St) (a:Int):Except (Int×Int) ((List Ent×Int) ⊕ (St×Int)):=if s.ph.isFin then .ok (.inl (s.es,a))else .ok (.inr (s,a))
def FK (es:List Ent) (cur:Ent) (ents:Int):St:=if 0<ents-1 then⟨.rep,es ++ [cur],cur,ents-1,0⟩else⟨.fin,es ++ [cur],cur,ents-1,0⟩
theorem Qw(p:Ph)(es:List Ent)(cur:Ent)(ents:Int):dJ ⟨p,es,cur,ents,0⟩=FK es cur ents:=by
 unfold dJ FK;simp only;rw[if_neg aB]
theorem Wa(p:Ph)(es:List Ent)(cur:Ent)(ents h:Int)(h0:0<h):dJ ⟨p,es,cur,ents,h⟩=⟨.lo,es,cur,ents,h-1⟩:=by
 unfold dJ;simp only;rw[if_pos h0]
theorem He{zs:List Iv}{j:Nat}(h0:0<j)(h:j≤zs.length):dW (zs.take j)=Hi zs (j-1):=by
 unfold dW Hi;rw[PU,Nat.min_eq_left h];simp only[PF];rw[List.getElem?_take_of_lt aA]
end Go.Proofs.YtbkkolfpegplgaaGreatDoor
namespace Go.Proofs.YtbkkolfpegplgaaGreatDoor
open Go Go.RowKit
theorem iY(zs:List Int)(a i:Nat):aW (zs.drop a) (0+i)=aW zs (a+i):=by
 simp only[aW,PF,List.getElem?_drop,QF]
theorem Iy(zs:List Int)(a:Nat):∀k,kR (zs.drop a) 0 k=kR zs a k
 | 0=>rfl
 | k+1=>by rw[tW,tW,Iy zs a k,iY]
theorem Yz{zs:List Int}{a x n:Int}(j:∀i,0≤aW zs i∧aW zs i≤255)(h:Rd zs a (.ok (x,n))):vb 10 x=(zs.drop a.toNat).take (n-a).toNat∧((vb 10 x).length:Int)=n-a:=by
 cases h with
 | ok K h0 h1 hs hp=>
   have b:qG (zs.drop a.toNat) 0 K:=⟨by have:=hs.lt;rw[PV];omega,fun i hi=>by rw[iY];exact hs.opens i hi,by rw[iY];exact hs.stop⟩;have ho:=Kb (zs.drop a.toNat) (fun i=>by have:=iY zs a.toNat i;rw[QF]at this;rw[this];exact j _) K b (by rw[iY];exact hp);rw[Iy]at ho;have l:=hs.lt;refine⟨by rw[ho.2];congr 1;omega,?_⟩;rw[ho.2,PU,PV];omega
end Go.Proofs.YtbkkolfpegplgaaGreatDoor
namespace Go.Proofs.YtbkkolfpegplgaaGreatDoor
def cZ (c:Int) (es:List Ent):Nat→List Int
 | 0=>[c]
 | k+1=>cZ c es k ++ oJ (kU es k) (es.getD k Ent.z)
theorem xR(es:List Ent):∀k,cZ es.length es k=bI es k
 | 0=>rfl
 | k+1=>by show cZ es.length es k ++ _=bI es k ++ _;rw[xR es k]
theorem iF(es:List Ent)(e:Ent){k:Nat}(h:k<es.length):(es ++ [e]).getD k Ent.z=es.getD k Ent.z:=by
 simp only[PF];rw[PN h]
theorem sM(es:List Ent)(e:Ent):(es ++ [e]).getD es.length Ent.z=e:=by
 simp[PF]
theorem Ug(es:List Ent)(e:Ent){k:Nat}(h:k<es.length):kU (es ++ [e]) k=kU es k:=by
 unfold kU;by_cases h0:k=0
 ·subst h0;rw[if_pos rfl,if_pos rfl,iF es e h]
 rw[if_neg h0,if_neg h0,iF es e h,iF es e aA]
def nN (es:List Ent) (r:Int):Int:=if es=[] then r else r-dR es-1
theorem oK{es:List Ent}:dR es=(es.getD (es.length-1) Ent.z).rep:=rfl
theorem Uh(es:List Ent)(e:Ent):kU (es ++ [e]) es.length=nN es e.rep:=by
 unfold kU nN;by_cases h:es=[]
 ·subst h;rfl
 have b:0<es.length:=List.length_pos_iff.2 h;rw[if_neg aA,if_neg h,sM,iF es e aA,oK]
theorem Ag(c:Int)(es:List Ent)(e:Ent):∀k,k≤es.length→cZ c (es ++ [e]) k=cZ c es k
 | 0,_=>rfl
 | k+1,h=>by
   show cZ c (es ++ [e]) k ++ oJ (kU (es ++ [e]) k) ((es ++ [e]).getD k Ent.z)=cZ c es k ++ _;rw[Ag c es e k (by omega),Ug es e (by omega),iF es e (by omega)]
theorem Kc(c:Int)(es:List Ent)(e:Ent):cZ c (es ++ [e]) (es ++ [e]).length=cZ c es es.length ++ oJ (nN es e.rep) e:=by
 rw[show(es ++ [e]).length=es.length+1 by simp];show cZ c (es ++ [e]) es.length ++ oJ (kU (es ++ [e]) es.length) ((es ++ [e]).getD es.length Ent.z)=_;rw[Ag c es e _ (QE _),Uh,sM]
def Do (hs:List Iv) (l:Int):Int:=if hs=[] then l else l-dW hs-2
theorem kF(hs:List Iv)(z:Iv){k:Nat}(h:k<hs.length):Lo (hs ++ [z]) k=Lo hs k∧Hi (hs ++ [z]) k=Hi hs k:=by
 unfold Lo Hi;rw[tL,if_pos h];exact⟨rfl,rfl⟩
theorem tK(hs:List Iv)(z:Iv):Lo (hs ++ [z]) hs.length=z.1∧Hi (hs ++ [z]) hs.length=z.2:=by
 unfold Lo Hi;rw[tL,if_neg aA,if_pos rfl];exact⟨rfl,rfl⟩
theorem Wi(hs:List Iv)(z:Iv){k:Nat}(h:k<hs.length):iL (hs ++ [z]) 1 k=iL hs 1 k:=by
 unfold iL;by_cases h0:k=0
 ·subst h0;rw[if_pos rfl,if_pos rfl,(kF hs z h).1]
 rw[if_neg h0,if_neg h0,(kF hs z h).1,(kF hs z aA).2]
theorem Wj(hs:List Iv)(z:Iv):iL (hs ++ [z]) 1 hs.length=Do hs z.1:=by
 unfold iL Do;by_cases h:hs=[]
 ·subst h;rfl
 have b:0<hs.length:=List.length_pos_iff.2 h;rw[if_neg aA,if_neg h,(tK hs z).1,(kF hs z aA).2];unfold dW;omega
theorem Nv(hs:List Iv)(z:Iv):∀k,k≤hs.length→gV (hs ++ [z]) 1 k=gV hs 1 k
 | 0,_=>rfl
 | k+1,h=>by
   show gV (hs ++ [z]) 1 k ++ [iL (hs ++ [z]) 1 k,Hi (hs ++ [z]) k-Lo (hs ++ [z]) k]=gV hs 1 k ++ _;rw[Nv hs z k (by omega),Wi hs z (by omega),(kF hs z (by omega)).1,(kF hs z (by omega)).2]
theorem Xb(hs:List Iv)(z:Iv):gV (hs ++ [z]) 1 (hs ++ [z]).length=gV hs 1 hs.length ++ [Do hs z.1,z.2-z.1]:=by
 rw[show(hs ++ [z]).length=hs.length+1 by simp];show gV (hs ++ [z]) 1 hs.length ++ [iL (hs ++ [z]) 1 hs.length,Hi (hs ++ [z]) hs.length-Lo (hs ++ [z]) hs.length]=_;rw[Nv hs z _ (QE _),Wj,(tK hs z).1,(tK hs z).2]
def Je (s:St):List Int:=
 match s.ph with
 | .count=>[]
 | .rep=>cZ (s.es.length+s.ents) s.es s.es.length
 | .fin=>cZ (s.es.length+s.ents) s.es s.es.length
 | .top=>cZ (s.es.length+s.ents) s.es s.es.length ++ [nN s.es s.cur.rep]
 | .op=>cZ (s.es.length+s.ents) s.es s.es.length ++ [nN s.es s.cur.rep,s.cur.mx]
 | .lo=>cZ (s.es.length+s.ents) s.es s.es.length ++ [nN s.es s.cur.rep,s.cur.mx,s.cur.hs.length+s.hls+1] ++ gV s.cur.hs 1 s.cur.hs.length
 | .hi l=>cZ (s.es.length+s.ents) s.es s.es.length ++ [nN s.es s.cur.rep,s.cur.mx,s.cur.hs.length+s.hls+1] ++ gV s.cur.hs 1 s.cur.hs.length ++ [Do s.cur.hs l]
def Xx (es:List Ent) (e:Ent):Prop:=es=[]∨dR es<e.rep
structure Ea (s:St):Prop where
 can:CanV s.es
 ents:s.ph=.count∨(s.ph=.fin∧s.ents=0)∨(s.ph≠.fin∧0<s.ents)
 hls:0≤s.hls
 zero:s.ph=.count→s.es=[]
 fits:s.ph=.top∨s.ph=.op∨s.ph=.lo∨(∃l,s.ph=.hi l)→Xx s.es s.cur
 fresh:s.ph=.top∨s.ph=.op→s.cur.hs=[]
 cur:s.ph=.lo∨(∃l,s.ph=.hi l)→EntC s.cur
 lo:∀l,s.ph=.hi l→s.cur.hs=[]∨dW s.cur.hs+1<l
theorem Ob:CanV []:=⟨fun i h=>absurd h aD,fun i _ h=>absurd h aD⟩
theorem Iq{es:List Ent}{e:Ent}(h:CanV es)(j:EntC e)(b:Xx es e):CanV (es ++ [e]):=by
 refine⟨fun i hi=>?_,fun i h0 hi=>?_⟩
 ·by_cases hl:i<es.length
  ·rw[iF es e hl];exact h.ents i hl
  obtain rfl:i=es.length:=by simp at hi;omega
  rw[sM];exact j
 by_cases hl:i<es.length
 ·rw[iF es e hl,iF es e aA];exact h.asc i h0 hl
 obtain rfl:i=es.length:=by simp at hi;omega
 rw[sM,iF es e aA];rcases b with rfl | b
 ·simp at h0
 rw[oK]at b;exact b
theorem Ww(r m:Int):EntC ⟨r,m,[]⟩:=⟨fun i h=>absurd h aD,fun i h=>absurd h aD⟩
theorem Ri{e:Ent}{l h:Int}(j:EntC e)(b:e.hs=[]∨dW e.hs+1<l)(h1:l≤h)(h2:h<e.mx):EntC ⟨e.rep,e.mx,e.hs ++ [(l,h)]⟩:=by
 have m:(e.hs ++ [(l,h)]).length=e.hs.length+1:=aD;refine⟨fun i hi=>?_,fun i hi=>?_⟩
 ·simp only at hi ⊢;by_cases hk:i<e.hs.length
  ·rw[(kF _ _ hk).1,(kF _ _ hk).2];refine⟨(j.cor i hk).1,fun h0=>?_⟩;rw[(kF _ _ (show i-1<e.hs.length by omega)).2];exact(j.cor i hk).2 h0
  obtain rfl:i=e.hs.length:=aA;rw[(tK _ _).1,(tK _ _).2];refine⟨h1,fun h0=>?_⟩;rw[(kF _ _ (show e.hs.length-1<e.hs.length by omega)).2];rcases b with b | b
  ·rw[b]at h0;simp at h0
  exact b
 simp only at hi ⊢;by_cases hk:i<e.hs.length
 ·rw[(kF _ _ hk).2];exact j.top i hk
 obtain rfl:i=e.hs.length:=aA;rw[(tK _ _).2];exact h2
theorem Ke(p:Int)(e:Ent):oJ p e=[p,e.mx,(e.hs.length:Int)] ++ gV e.hs 1 e.hs.length:=rfl
theorem Hq{q:Ph}{es:List Ent}{cur:Ent}{ents h:Int}(b:CanV es)(p:0<ents)(r:0≤h)(j:Xx es cur)(m:EntC cur) :
  Ea (dJ ⟨q,es,cur,ents,h⟩)∧Je (dJ ⟨q,es,cur,ents,h⟩)=cZ (es.length+ents) es es.length ++ [nN es cur.rep,cur.mx,cur.hs.length+h] ++ gV cur.hs 1 cur.hs.length:=by
 by_cases g:0<h
 ·rw[Wa q es cur ents h g];refine⟨⟨b,.inr (.inr ⟨fun e=>(by cases e),p⟩),(show 0≤h-1 by omega),fun e=>(by cases e),fun _=>j,fun e=>(by rcases e with e | e<;>cases e),fun _=>m,fun l e=>(by cases e)⟩,?_⟩;show _ ++ [_,_,(cur.hs.length:Int)+(h-1)+1] ++ _=_;rw[show(cur.hs.length:Int)+(h-1)+1=cur.hs.length+h by omega]
 obtain rfl:h=0:=aA;rw[Qw q es cur ents];unfold FK;have en:cZ (es.length+ents) es es.length ++ [nN es cur.rep,cur.mx,cur.hs.length+0] ++ gV cur.hs 1 cur.hs.length=cZ (es.length+ents) (es ++ [cur]) (es ++ [cur]).length:=by
  rw[Kc,Ke,Int.add_zero,PO]
 rw[en];have n:((es ++ [cur]).length:Int)+(ents-1)=es.length+ents:=by simp;omega
 by_cases g2:0<ents-1
 ·rw[if_pos g2];refine⟨⟨Iq b m j,.inr (.inr ⟨fun e=>(by cases e),g2⟩),(show(0:Int)≤0 by decide),fun e=>(by cases e),fun e=>(by rcases e with e | e | e | ⟨l,e⟩<;>cases e),fun e=>(by rcases e with e | e<;>cases e),fun e=>(by rcases e with e | ⟨l,e⟩<;>cases e),fun l e=>(by cases e)⟩,?_⟩;show cZ (((es ++ [cur]).length:Int)+(ents-1)) (es ++ [cur]) (es ++ [cur]).length=_;rw[n]
 rw[if_neg g2];refine⟨⟨Iq b m j,.inr (.inl ⟨rfl,show ents-1=0 by omega⟩),(show(0:Int)≤0 by decide),fun e=>(by cases e),fun e=>(by rcases e with e | e | e | ⟨l,e⟩<;>cases e),fun e=>(by rcases e with e | e<;>cases e),fun e=>(by rcases e with e | ⟨l,e⟩<;>cases e),fun l e=>(by cases e)⟩,?_⟩;show cZ (((es ++ [cur]).length:Int)+(ents-1)) (es ++ [cur]) (es ++ [cur]).length=_;rw[n]
theorem zT{lm:cD}{s s':St}{x r:Int}(H:Ea s)(I:aL x)(G:s.ph≠.fin)(h:bU lm s x r=.ok s'):Ea s'∧Je s'=Je s ++ [x]:=by
 obtain⟨ph,es,cur,ents,hls⟩:=s;obtain⟨m,p,n,E,u,B,y,F⟩:=H;simp only at m p n E u B y F G;have z:=I.1
 cases ph with
 | count=>
   obtain rfl:=E rfl;have e:bU lm ⟨.count,[],cur,ents,hls⟩ x r=if bS x lm.en r≠0 then .error (bS x lm.en r)else if x=0 then .error 9 else .ok ⟨.rep,[],cur,x,hls⟩:=rfl;rw[e]at h;split at h
   ·cases h
   split at h
   ·cases h
   cases h
   refine⟨⟨Ob,.inr (.inr ⟨fun e=>(by cases e),(show 0<x by omega)⟩),n,fun e=>(by cases e),fun e=>(by rcases e with e | e | e | ⟨l,e⟩<;>cases e),fun e=>(by rcases e with e | e<;>cases e),fun e=>(by rcases e with e | ⟨l,e⟩<;>cases e),fun l e=>(by cases e)⟩,?_⟩;show [((([]:List Ent).length:Nat):Int)+x]=[] ++ [x];simp
 | rep=>
   have j:0<ents:=by rcases p with e | ⟨e,_⟩ | ⟨_,e⟩<;>first | cases e | exact e
   have e:bU lm ⟨.rep,es,cur,ents,hls⟩ x r=if es=[] then .ok ⟨.top,es,⟨x,0,[]⟩,ents,hls⟩else if dR es+1+x<18446744073709551616 then .ok ⟨.top,es,⟨dR es+1+x,0,[]⟩,ents,hls⟩else .error 8:=rfl;rw[e]at h;split at h
   ·rename_i h0
    cases h
    refine⟨⟨m,.inr (.inr ⟨fun e=>(by cases e),j⟩),n,fun e=>(by cases e),fun _=>.inl h0,fun _=>rfl,fun e=>(by rcases e with e | ⟨l,e⟩<;>cases e),fun l e=>(by cases e)⟩,?_⟩;show _ ++ [nN es x]=_ ++ [x];unfold nN;rw[if_pos h0];rfl
   rename_i h0;split at h
   ·cases h;refine⟨⟨m,.inr (.inr ⟨fun e=>(by cases e),j⟩),n,fun e=>(by cases e),fun _=>.inr (show dR es<dR es+1+x by omega),fun _=>rfl,fun e=>(by rcases e with e | ⟨l,e⟩<;>cases e),fun l e=>(by cases e)⟩,?_⟩;show _ ++ [nN es (dR es+1+x)]=_ ++ [x];unfold nN;rw[if_neg h0,show dR es+1+x-dR es-1=x by omega];rfl
   cases h
 | top=>
   have j:0<ents:=by rcases p with e | ⟨e,_⟩ | ⟨_,e⟩<;>first | cases e | exact e
   have e:bU lm ⟨.top,es,cur,ents,hls⟩ x r=.ok ⟨.op,es,⟨cur.rep,x,cur.hs⟩,ents,hls⟩:=rfl;rw[e]at h
   cases h
   refine⟨⟨m,.inr (.inr ⟨fun e=>(by cases e),j⟩),n,fun e=>(by cases e),fun _=>u (.inl rfl),fun _=>B (.inl rfl),fun e=>(by rcases e with e | ⟨l,e⟩<;>cases e),fun l e=>(by cases e)⟩,?_⟩;show cZ _ es _ ++ [nN es cur.rep,x]=(cZ _ es _ ++ [nN es cur.rep]) ++ [x];simp
 | op=>
   have j:0<ents:=by rcases p with e | ⟨e,_⟩ | ⟨_,e⟩<;>first | cases e | exact e
   have e:bU lm ⟨.op,es,cur,ents,hls⟩ x r=if bS x lm.ho r≠0 then .error (bS x lm.ho r)else .ok (dJ ⟨.op,es,cur,ents,x⟩):=rfl;rw[e]at h;split at h
   ·cases h
   cases h
   have h0:=B (.inr rfl);have A:EntC cur:=by
    obtain⟨a,b,c⟩:=cur;simp only at h0;subst h0;exact Ww a b
   obtain⟨C,D⟩:=Hq (q:=.op) (h:=x) m j z (u (.inr (.inl rfl))) A;refine⟨C,?_⟩;rw[D,h0];show cZ _ es _ ++ [nN es cur.rep,cur.mx,((0:Nat):Int)+x] ++ []=(cZ _ es _ ++ [nN es cur.rep,cur.mx]) ++ [x];simp
 | lo=>
   have j:0<ents:=by rcases p with e | ⟨e,_⟩ | ⟨_,e⟩<;>first | cases e | exact e
   have e:bU lm ⟨.lo,es,cur,ents,hls⟩ x r=if cur.hs=[] then .ok ⟨.hi x,es,cur,ents,hls⟩else if dW cur.hs+1+1+x<18446744073709551616 then .ok ⟨.hi (dW cur.hs+1+1+x),es,cur,ents,hls⟩else .error 8:=rfl;rw[e]at h;split at h
   ·rename_i h0
    cases h
    refine⟨⟨m,.inr (.inr ⟨fun e=>(by cases e),j⟩),n,fun e=>(by cases e),fun _=>u (.inr (.inr (.inl rfl))),fun e=>(by rcases e with e | e<;>cases e),fun _=>y (.inl rfl),fun l e=>.inl h0⟩,?_⟩;show _ ++ [Do cur.hs x]=_ ++ [x];unfold Do;rw[if_pos h0];rfl
   rename_i h0;split at h
   ·cases h;refine⟨⟨m,.inr (.inr ⟨fun e=>(by cases e),j⟩),n,fun e=>(by cases e),fun _=>u (.inr (.inr (.inl rfl))),fun e=>(by rcases e with e | e<;>cases e),fun _=>y (.inl rfl),fun l e=>?_⟩,?_⟩
    ·injection e with e;right
     show dW cur.hs+1<l;omega
    show _ ++ [Do cur.hs (dW cur.hs+1+1+x)]=_ ++ [x];unfold Do;rw[if_neg h0,show dW cur.hs+1+1+x-dW cur.hs-2=x by omega];rfl
   cases h
 | hi l=>
   have j:0<ents:=by rcases p with e | ⟨e,_⟩ | ⟨_,e⟩<;>first | cases e | exact e
   have e:bU lm ⟨.hi l,es,cur,ents,hls⟩ x r=if l+x<18446744073709551616∧l+x<cur.mx then .ok (dJ ⟨.hi l,es,⟨cur.rep,cur.mx,cur.hs ++ [(l,l+x)]⟩,ents,hls⟩)else .error 8:=rfl;rw[e]at h;split at h
   ·rename_i h0
    cases h
    have A:=Ri (y (.inr ⟨l,rfl⟩)) (F l rfl) (show l≤l+x by omega) h0.2;obtain⟨C,D⟩:=Hq (q:=.hi l) (h:=hls) (cur:=⟨cur.rep,cur.mx,cur.hs ++ [(l,l+x)]⟩) m j n (u (.inr (.inr (.inr ⟨l,rfl⟩)))) A;refine⟨C,?_⟩;rw[D];show cZ _ es _ ++ [nN es cur.rep,cur.mx,(((cur.hs ++ [(l,l+x)]).length:Nat):Int)+hls] ++ gV (cur.hs ++ [(l,l+x)]) 1 (cur.hs ++ [(l,l+x)]).length=(cZ _ es _ ++ [nN es cur.rep,cur.mx,(cur.hs.length:Int)+hls+1] ++ gV cur.hs 1 cur.hs.length ++ [Do cur.hs l]) ++ [x];rw[Xb,show(((cur.hs ++ [(l,l+x)]).length:Nat):Int)+hls=(cur.hs.length:Int)+hls+1 by simp;omega,show(l,l+x).2-(l,l+x).1=x by simp only;omega];simp
   cases h
 | fin=>exact absurd rfl G
theorem Ym{s:St}(h:s.ph=.fin)(b:Ea s):Je s=bX s.es:=by
 obtain⟨ph,es,cur,ents,hls⟩:=s;simp only at h;subst h;obtain rfl:ents=0:=by
  rcases b.ents with e | ⟨_,e⟩ | ⟨e,_⟩
  ·cases e
  ·exact e
  exact absurd rfl e
 show cZ ((es.length:Int)+0) es es.length=bI es es.length;rw[Int.add_zero,xR]
theorem FD{s:St}{x r:Int}{lm:cD}{s':St}(m:s.ph≠.fin)(h:bU lm s x r=.ok s')(hs:s'.ph=.fin):s'.es≠[]:=by
 obtain⟨ph,es,cur,ents,hls⟩:=s;have j:∀q es cur ents h,(dJ ⟨q,es,cur,ents,h⟩).ph=.fin→(dJ ⟨q,es,cur,ents,h⟩).es≠[]:=by
  intro q es cur ents h b;unfold dJ at b ⊢;simp only at b ⊢;split at b
  ·cases b
  rename_i g;rw[if_neg g];split at b
  ·cases b
  rename_i l;rw[if_neg l];simp
 unfold bU at h
 cases ph<;>simp only at h
 all_goals(repeat' split at h)<;>cases h
 all_goals first
  | (cases hs;done)
  | exact j _ _ _ _ _ hs
  | exact absurd rfl m
theorem Tm:Ea tZ:=⟨Ob,.inl rfl,aB,fun _=>rfl,fun e=>(by rcases e with e | e | e | ⟨l,e⟩<;>cases e),fun e=>(by rcases e with e | e<;>cases e),fun e=>(by rcases e with e | ⟨l,e⟩<;>cases e),fun l e=>(by cases e)⟩
end Go.Proofs.YtbkkolfpegplgaaGreatDoor
