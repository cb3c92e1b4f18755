/- pack's Reader: the state hi. pack's Reader: Put in any state. pack.Read. A vector that can be read; the reference's Same of entries and of vectors. The numbers and the bytes of a vector; canonical vectors. No program in sight. The reference's Few and Canonical of a vector. The reference's Canonical of a vector. Vectors and knowledge as sets of versions; what is canonical is known by its set. No program in sight. Package entry over a canonical entry: no error, canonical. Package vector over a canonical vector: canonical. Where the numbers of an entry lie among those of its vector. No program in sight. Numbers one by one: what a list of numbers does to the Reader's state, and what their bytes are read as. No program in sight. The numbers of a canonical vector, one by one, are that vector; cut off, they are too short. No program in sight. A number that was read has the bytes that were read. No program in sight. What is read as a vector has the bytes of that vector, which is canonical. No program in sight. -/
import Derived.Test.YtbkkolfpegplgaaGreatDoorS3G8
import Derived.Test.YtbkkolfpegplgaaGreatDoorS3G11
import Derived.Test.YtbkkolfpegplgaaGreatDoorS3G12
import Derived.Test.YtbkkolfpegplgaaGreatDoorS3G16
import Derived.Test.YtbkkolfpegplgaaGreatDoorS3G6
import Derived.Test.YtbkkolfpegplgaaGreatDoorS3G17
import Derived.Test.YtbkkolfpegplgaaGreatDoorS3G1
import Derived.Test.YtbkkolfpegplgaaGreatDoorS3G9
import Derived.Test.YtbkkolfpegplgaaGreatDoorS3G43
import Derived.BigQuiet
import Derived.Deep.QuietTactic
set_option maxHeartbeats 8000000
set_option maxRecDepth 100000
set_option linter.unusedSimpArgs false
namespace Go.Proofs.YtbkkolfpegplgaaGreatDoor
open Go Go.RowKit
theorem row_kept{X Y:World}{b:Nat}{o:Obj}(hb:Below X.heap.size X Y)(h:X.heap[b]?=some o):Y.heap[b]?=some o:=(hb.block _ (zh h)).trans h
structure HiT (r:Nat) (lm:Lim) (fn v:Value) (ents hls:Int) (cp:Value) (b8:Nat) (lo hi:Int) (W:World):Prop where
 rd:RdR W r lm fn .nilIface v ents hls cp
 s0:W.cell? ⟨b8,0,none⟩=some (.int .u64 lo)
 s1:W.cell? ⟨b8,1,none⟩=some (.int .u64 hi)
theorem z1h{X Y:World}{b i:Nat}{v:Value}(hb:Below X.heap.size X Y)(hc:X.cell? ⟨b,i,none⟩=some v):Y.cell? ⟨b,i,none⟩=some v:=zg hb (block_lt_of_cell hc) hc
theorem HiT.below{r:Nat}{lm:Lim}{fn v:Value}{ents hls:Int}{cp:Value}{b8:Nat}{lo hi:Int}{W W':World}(h:HiT r lm fn v ents hls cp b8 lo hi W)(hb:Below W.heap.size W W'):HiT r lm fn v ents hls cp b8 lo hi W':=
 ⟨h.rd.below hb,z1h hb h.s0,z1h hb h.s1⟩
theorem HiT.drew{r:Nat}{lm:Lim}{fn v:Value}{ents hls:Int}{cp:Value}{b8:Nat}{lo hi:Int}{W:World}(h:HiT r lm fn v ents hls cp b8 lo hi W):HiT r lm fn v ents hls cp b8 lo hi W.drew:=h.below (z1q (Below.refl _ _))
theorem HiT.alloc{r:Nat}{lm:Lim}{fn v:Value}{ents hls:Int}{cp:Value}{b8:Nat}{lo hi:Int}{W:World}(h:HiT r lm fn v ents hls cp b8 lo hi W)(o:Obj):HiT r lm fn v ents hls cp b8 lo hi (W.alloc o):=h.below (zc (Below.refl _ _) _)
theorem HiT.new8{r:Nat}{lm:Lim}{fn v:Value}{ents hls:Int}{cp:Value}{b8:Nat}{lo hi:Int}{W:World}(_:HiT r lm fn v ents hls cp b8 lo hi W):(W.alloc (.cells #[.int .u64 lo,.int .u64 hi] 123)).heap[W.heap.size]?=some (.cells #[.int .u64 lo,.int .u64 hi] 123 (0,0)):=ze _ _ rfl
theorem hnew2{w:World}{b:Nat}{x y:Value}{t:TypeId}(h:w.heap[b]?=some (.cells #[x,y] t (0,0))):∀j u,[x,y][j]?=some u→w.cell? ((⟨b,0,none⟩:Addr).add j)=some u:=by
 have ea:∀j,(⟨b,0,none⟩:Addr).add j=⟨b,0+j,none⟩:=by
  intro j;unfold Addr.add;split<;>simp_all
 intro j u hj;rw[ea];match j,hj with
 | 0,hj=>simp at hj;subst hj;simp[World.cell?,h]
 | 1,hj=>simp at hj;subst hj;simp[World.cell?,h]
theorem info_ival:(Tryz.prog.info? 123).map (fun i=>(i.zero,i.size,i.bytes))=some (some (.agg #[.int .u64 0,.int .u64 0]),2,16):=by kernel_rfl
structure HiH (W0:World) (r:Nat) (lm:Lim) (fn v:Value) (ents hls:Int) (cp:Value) (b8:Nat) (lo hi:Int) (g o:Nat) (mx:Int) (W:World):Prop where
 rd:RdR W r lm fn .nilIface v ents hls cp
 s0:W.cell? ⟨b8,0,none⟩=some (.int .u64 lo)
 s1:W.cell? ⟨b8,1,none⟩=some (.int .u64 hi)
 cm:W.cell? ⟨g,o,none⟩=some (.int .u64 mx)
 bl:Below W0.heap.size W0 W
theorem HiH.below{W0:World}{r:Nat}{lm:Lim}{fn v:Value}{ents hls:Int}{cp:Value}{b8:Nat}{lo hi:Int}{g o:Nat}{mx:Int}{W W':World}(h:HiH W0 r lm fn v ents hls cp b8 lo hi g o mx W)(hb:Below W.heap.size W W'):HiH W0 r lm fn v ents hls cp b8 lo hi g o mx W':=
 ⟨h.rd.below hb,z1h hb h.s0,z1h hb h.s1,z1h hb h.cm,zf h.bl hb⟩
theorem HiH.drew{W0:World}{r:Nat}{lm:Lim}{fn v:Value}{ents hls:Int}{cp:Value}{b8:Nat}{lo hi:Int}{g o:Nat}{mx:Int}{W:World}(h:HiH W0 r lm fn v ents hls cp b8 lo hi g o mx W):HiH W0 r lm fn v ents hls cp b8 lo hi g o mx W.drew:=h.below (z1q (Below.refl _ _))
theorem row_hv{w:World}{base B g cap:Nat}{hv:Value}{l:List EV}{e:Ent}(h:RowC w base (.slice (some ⟨g,0,none⟩) (l.length+1) cap) l e B hv):w.cell? ⟨g,l.length * 3+2,none⟩=some hv:=by
 obtain⟨g',cap',e1,_,_,_,_,_,_,_,c2⟩:=z1c h;simp at e1
 obtain⟨rfl,_⟩:=e1;exact c2
theorem lastHi_snoc(zs:List Iv)(x y:Int):lastHi (zs ++ [(x,y)])=y:=by
 unfold lastHi Hi;rw[getD_snoc];simp
theorem hi_push{W w3:World}{base r g cap B p b8:Nat}{lm:Lim}{fn cp hv hv':Value}{ents hls lo hi clo llo lhi x y:Int}{sm:Bool}{f:FuncId}{l:List EV}{cur:Ent}
  (hbr:base≤r) (hT:HiT r lm fn (.slice (some ⟨g,0,none⟩) (l.length+1) cap) ents hls cp b8 x y W) (hC:RowC W base (.slice (some ⟨g,0,none⟩) (l.length+1) cap) l cur B hv)
  (hK:CurOk W base cp { cur with hs:=cur.hs ++ [(lo,hi)] } none p clo llo lhi sm f) (h1:Word lo) (h2:Word hi) (h8:∀k,hv.ownBlock=some k→k≠b8) (ng:g≠b8)
  (hown:w3.ownsRow B 123 2 hv' (cur.hs.length+1) (cellsL cur.hs ++ [.int .u64 lo,.int .u64 hi])) (hg:W.grownBy w3 hv.ownBlock) :
  (HiT r lm fn (.slice (some ⟨g,0,none⟩) (l.length+1) cap) ents hls cp b8 x y w3∧w3.cell? ⟨g,l.length * 3+2,none⟩=some hv∧∀j,w3.frozen? ⟨g,j,none⟩=false) ∧
  HiT r lm fn (.slice (some ⟨g,0,none⟩) (l.length+1) cap) ents hls cp b8 x y (w3.setCell ⟨g,l.length * 3+2,none⟩ hv') ∧
  RowC (w3.setCell ⟨g,l.length * 3+2,none⟩ hv') base (.slice (some ⟨g,0,none⟩) (l.length+1) cap) l { cur with hs:=cur.hs ++ [(lo,hi)] } B hv' ∧
  CurOk (w3.setCell ⟨g,l.length * 3+2,none⟩ hv') base cp { cur with hs:=cur.hs ++ [(lo,hi)] } none p clo llo lhi sm f∧Below base W (w3.setCell ⟨g,l.length * 3+2,none⟩ hv'):=by
 have hR:=hT.rd;have hlt:=hR.lt;obtain⟨g',cap',e1,hbg,hgl,hty,_,_,_,_,cH⟩:=z1c hC;simp at e1
 obtain⟨rfl,rfl⟩:=e1;have o1:Only (fun b=>hv.ownBlock=some b) W w3:=z2o hg;have th:∀k,hv.ownBlock=some k→Typed W 123 k:=fun k hk=>zj hC.own.row hk;have nr:¬hv.ownBlock=some r:=fun hk=>hR.typed.ne (th _ hk) (by decide) rfl;have ngb:¬hv.ownBlock=some g:=fun hk=>hty.ne (th _ hk) (by decide) rfl;have np:¬hv.ownBlock=some p:=fun hk=>hK.typed.ne (th _ hk) (by decide) rfl;have n8:¬hv.ownBlock=some b8:=fun hk=>h8 _ hk rfl;have hT3:HiT r lm fn (.slice (some ⟨g,0,none⟩) (l.length+1) cap) ents hls cp b8 x y w3:=⟨hR.only o1 nr,o1.cell n8 hT.s0,o1.cell n8 hT.s1⟩;have hty3:Typed w3 96 g:=by obtain⟨cs,e⟩:=hty;exact⟨cs,o1.obj ngb e⟩
 have hR3:=hT3.rd;have hK3:=hK.only o1 np;have o2:Only (fun b=>b=g) w3 (w3.setCell ⟨g,l.length * 3+2,none⟩ hv'):=(Only.refl (fun b=>b=g) w3).setCell (p:=⟨g,l.length * 3+2,none⟩) (.inl rfl) _;have hrow3:=zo hC.row o1 (fun k hk hy=>by simp[Value.ownBlock]at hk;subst hk;exact ngb hy);have hs:=hrow3.stored (l.length * 3+2) hv';rw[cellsE_hv l cur hv hv' (cur.hs ++ [(lo,hi)])]at hs;have nrg:¬r=g:=fun e=>hR.typed.ne hty (by decide) e;have n8g:¬b8=g:=fun e=>ng e.symm;refine⟨⟨hT3,o1.cell ngb cH,hrow3.frozenAt⟩,⟨hR3.only o2 nrg,o2.cell n8g hT3.s0,o2.cell n8g hT3.s1⟩,⟨hs.1,hC.le,Nat.le_trans hC.lt (Nat.le_trans o1.size o2.size),fun q hq=>?_,hC.words,⟨?_,?_⟩,⟨hC.word.rep,hC.word.mx,?_⟩⟩,hK3.only o2 (fun e=>hK.typed.ne hty (by decide) e),?_⟩
 ·refine((hC.fins q hq).only o1 fun k hk=>.inl (hC.own.row.lt k hk).1).only o2 fun k hk=>.inr ?_
  subst hk;exact hty3.not (by decide)
 ·have hrow:w3.ownsRow B 123 2 hv' (cur.hs ++ [(lo,hi)]).length (cellsL (cur.hs ++ [(lo,hi)])):=by
   rw[z4l]at hown;simpa using hown
  exact zo hrow o2 (fun k hk hy=>by subst hy;exact hty3.ne (zj hrow hk) (by decide) rfl)
 ·intro z hz
  rcases List.mem_append.1 hz with hz | hz
  ·exact hC.own.words z hz
  ·obtain rfl:z=(lo,hi):=by simpa using hz
   exact⟨h1,h2⟩
 ·intro z hz
  rcases List.mem_append.1 hz with hz | hz
  ·exact hC.word.hs z hz
  ·obtain rfl:z=(lo,hi):=by simpa using hz
   exact⟨h1,h2⟩
 ·have hle:base≤W.heap.size:=by have:=hC.le;have:=hC.lt;omega
  refine(o1.below hle fun k hk=>Nat.le_trans hC.le (hC.own.row.lt k hk).1).trans (o2.below (Nat.le_trans hle o1.size) fun k hk=>by subst hk;exact hbg)
theorem hi_over(lm:Lim)(base r p:Nat)(fn v cp:Value)(cur:Ent)(ents hls x rest lo llo lhi:Int)(sm:Bool)(f:FuncId)(w:World)(hR:RdR w r lm fn .nilIface v ents hls cp)(hK:CurOk w base cp cur (some lo) p lo llo lhi sm f)(hl:Word lo)(hx:Word x)(hs:¬lo+x<18446744073709551616) :
  Calls Tryz.prog 274 #[.pointer (some ⟨r,0,none⟩),.int .u64 x,.int .i64 rest] w fun e w'=>e=.returned (.tuple #[.nilFunc,.iface 42 (.int .i64 8)])∧Below w.heap.size w w':=by
 have hmx:Tryz.prog.follows .mixedOrders=true:=by kernel_rfl
 have hcp:=hK.ptr;subst hcp;have c10:=hR.c10;have KH:=z7 (hi_no p x 1 lo llo lhi sm f w hK.cur hl hx hs);clear hR hK hl hx hs;go_enter Tryz.func274,Tryz.ntmps274
 go_wp2_with fail
 refine KH.out.mono ?_;rintro e w1 ⟨rfl,b1⟩;have B2:=z7 (zc b1 (.cells #[.int .u64 0,.int .u64 0] 123));clear b1;go_wp2_with fail
 refine wp_region_held_drew (S:=Below w.heap.size w) hmx (z1q B2.out) (fun hS=>?_);refine tkd (i:=0) (d:=some 19) (v:=(.bool false)) (hy:=.inl ⟨by rfl,?_⟩) (h:=?_)
 ·intro X hX;go_simp
 refine tkd (i:=1) (d:=some 20) (v:=(.bool true)) (hy:=.inl ⟨by rfl,?_⟩) (h:=?_)
 ·intro X hX;go_simp
 refine tkd (i:=2) (d:=some 21) (v:=(.bool true)) (hy:=.inl ⟨by rfl,?_⟩) (h:=?_)
 ·intro X hX;go_simp
 refine tkd (i:=3) (d:=some 22) (v:=undef) (hy:=.inr ⟨by rfl,rfl⟩) (h:=?_);refine tkd (i:=4) (d:=some 23) (v:=undef) (hy:=.inr ⟨by rfl,rfl⟩) (h:=?_);refine tkd (i:=5) (d:=some 24) (v:=undef) (hy:=.inr ⟨by rfl,rfl⟩) (h:=?_);refine tkd (i:=6) (d:=some 25) (v:=undef) (hy:=.inr ⟨by rfl,rfl⟩) (h:=?_);refine tkd (i:=7) (d:=some 26) (v:=undef) (hy:=.inr ⟨by rfl,rfl⟩) (h:=?_);refine tkd (i:=8) (d:=some 27) (v:=undef) (hy:=.inr ⟨by rfl,rfl⟩) (h:=?_);refine tkd (i:=9) (d:=some 28) (v:=undef) (hy:=.inr ⟨by rfl,rfl⟩) (h:=?_);refine tkd (i:=10) (d:=some 29) (v:=undef) (hy:=.inr ⟨by rfl,rfl⟩) (h:=?_);refine tkd (i:=11) (d:=some 30) (v:=(.bool true)) (hy:=.inl ⟨by rfl,?_⟩) (h:=?_)
 ·intro X hX;go_simp
 refine wpAnyH_done (by kernel_rfl) ?_ _;go_wp2
 go_ret2
 exact⟨rfl,hS⟩
theorem hi_large(lm:Lim)(base r p g cap B:Nat)(fn cp hv:Value)(l:List EV)(cur:Ent)(ents hls x rest lo llo lhi:Int)(sm:Bool)(f:FuncId)(w:World)(hbr:base≤r)(hR:RdR w r lm fn .nilIface (.slice (some ⟨g,0,none⟩) (l.length+1) cap) ents hls cp)
  (hC:RowC w base (.slice (some ⟨g,0,none⟩) (l.length+1) cap) l cur B hv) (hK:CurOk w base cp cur (some lo) p lo llo lhi sm f) (hl:Word lo) (hx:Word x) (hs:lo+x<18446744073709551616) (hm:cur.mx≤lo+x) :
  Calls Tryz.prog 274 #[.pointer (some ⟨r,0,none⟩),.int .u64 x,.int .i64 rest] w fun e w'=>e=.returned (.tuple #[.nilFunc,.iface 42 (.int .i64 8)])∧Below base w w'∧RdR w' r lm fn .nilIface (.slice (some ⟨g,0,none⟩) (l.length+1) cap) ents hls cp:=by
 have hmx:Tryz.prog.follows .mixedOrders=true:=by kernel_rfl
 have hcp:=hK.ptr;subst hcp;have c10:=hR.c10;have KH:=z7 (hi_yes p x 1 lo llo lhi sm f w hK.cur hl hx hs);have hgl:g<w.heap.size:=(z1c hC).elim fun g' h=>h.elim fun cap' h=>by obtain⟨e1,_,h2,_⟩:=h;simp at e1;obtain⟨rfl,_⟩:=e1;exact h2
 have hty:Typed w 96 g:=(z1c hC).elim fun g' h=>h.elim fun cap' h=>by obtain⟨e1,_,_,h2,_⟩:=h;simp at e1;obtain⟨rfl,_⟩:=e1;exact h2
 have hlen:l.length+1≤9223372036854775807:=(z1c hC).elim fun g' h=>h.elim fun cap' h=>h.2.2.2.2.1;have cM:w.cell? ⟨g,l.length * 3+1,none⟩=some (.int .u64 cur.mx):=(z1c hC).elim fun g' h=>h.elim fun cap' h=>by obtain⟨e1,_,_,_,_,_,_,h2,_⟩:=h;simp at e1;obtain⟨rfl,_⟩:=e1;exact h2
 have KE:=z7 (fun(W:World) (hW:RdR W r lm fn .nilIface (.slice (some ⟨g,0,none⟩) (l.length+1) cap) ents hls (.pointer (some ⟨p,0,none⟩)))=>entry_any lm r g l.length cap fn .nilIface (.pointer (some ⟨p,0,none⟩)) ents hls W hW hlen);obtain⟨hi,ehi⟩:∃y,y=lo+x:=⟨_,rfl⟩;have hhi:Word hi:=by have:=hl.1;have:=hx.1;rw[ehi];exact⟨by omega,hs⟩
 rw[← ehi]at KH;rw[← ehi]at hm;have HR:=z7 hR;have HC:=z7 hC;have HK:=z7 hK;have HTY:=z7 hty;have CM:=z7 cM;obtain⟨mx,emx⟩:∃mx,cur.mx=mx:=⟨_,rfl⟩;rw[emx]at CM hm;clear hR hC hK hl hx hs hty cM ehi hhi emx;go_enter Tryz.func274,Tryz.ntmps274
 go_wp2_with fail
 refine KH.out.mono ?_;rintro e w1 ⟨rfl,hcu,ho⟩;have tp:=HK.out.typed;have hR1:=HR.out.only ho (fun e=>HR.out.typed.ne tp (by decide) e);have hty1:Typed w1 96 g:=by obtain⟨cs,e⟩:=HTY.out;exact⟨cs,ho.obj (fun e=>HTY.out.ne tp (by decide) e) e⟩
 have hgp:¬g=p:=fun e=>HTY.out.ne tp (by decide) e;have hm1:∀k,k=p→¬Typed w 96 k∧¬Typed w 123 k:=fun k hk=>by subst hk;exact⟨tp.not (by decide),tp.not (by decide)⟩
 have C1:=z7 (HC.out.only ho hm1);have B1:=z7 (ho.below (n:=base) (by have:=HR.out.lt;omega) (fun k hk=>by subst hk;exact HK.out.le));have cM1:=ho.cell hgp CM.out;have hr1:=hR1.lt;have hS0:HiH w1 r lm fn (.slice (some ⟨g,0,none⟩) (l.length+1) cap) ents hls (.pointer (some ⟨p,0,none⟩)) w1.heap.size lo hi g (l.length * 3+1) mx (w1.alloc (.cells #[.int .u64 lo,.int .u64 hi] 123)):=
  ⟨hR1.below (zc (Below.refl _ _) _),by simp,by simp,z1h (zc (Below.refl _ _) _) cM1,zc (Below.refl _ _) _⟩
 obtain⟨b8,eb8⟩:∃b,w1.heap.size=b:=⟨_,rfl⟩;rw[eb8]at hS0;have HW1:=z7 hr1;clear hcu ho tp hR1 hty1 hgp hm1 cM1 c10 hr1;go_wp2_with fail
 refine wp_region_held_drew (S:=HiH w1 r lm fn (.slice (some ⟨g,0,none⟩) (l.length+1) cap) ents hls (.pointer (some ⟨p,0,none⟩)) b8 lo hi g (l.length * 3+1) mx) hmx hS0.drew (fun hS=>?_);refine tkd (i:=0) (d:=some 19) (v:=(.bool true)) (hy:=.inl ⟨by rfl,?_⟩) (h:=?_)
 ·intro X hX;go_simp
 refine tkd (i:=1) (d:=some 20) (v:=(.bool false)) (hy:=.inl ⟨by rfl,?_⟩) (h:=?_)
 ·intro X hX;go_simp
 refine tkd (i:=2) (d:=some 21) (v:=(.bool false)) (hy:=.inl ⟨by rfl,?_⟩) (h:=?_)
 ·intro X hX;go_simp
 refine tkd (i:=3) (d:=some 22) (v:=(.pointer (some ⟨b8,1,none⟩))) (hy:=.inl ⟨by rfl,?_⟩) (h:=?_)
 ·intro X hX;go_simp
 refine tkd (i:=4) (d:=some 23) (v:=(.int .u64 hi)) (hy:=.inl ⟨by rfl,?_⟩) (h:=?_)
 ·intro X hX;obtain⟨d0,d1,d2,d3,d4⟩:=hX;go_simp
 refine tkd (i:=5) (d:=some 24) (v:=(.pointer (some ⟨r,0,none⟩))) (hy:=.inl ⟨by rfl,?_⟩) (h:=?_)
 ·intro X hX;go_simp
 refine wpAnyH_ready (rs:=[6]) (by kernel_rfl) (by simp) ?_;refine AllReadyH.cons (o:=_) rfl (fun K hK=>?_) AllReadyH.nil;go_simp
 refine(KE.out _ hS.rd).mono ?_;rintro e wq ⟨rfl,hb⟩;have hS:=hS.below hb;clear hb;go_simp
 refine hK.out _ _ hS (fun _=>?_);clear hK K;refine tkd (i:=7) (d:=some 26) (v:=(.pointer (some ⟨g,l.length * 3,none⟩))) (hy:=.inl ⟨by rfl,?_⟩) (h:=?_)
 ·intro X hX;go_simp
 refine tkd (i:=8) (d:=some 27) (v:=(.pointer (some ⟨g,l.length * 3+1,none⟩))) (hy:=.inl ⟨by rfl,?_⟩) (h:=?_)
 ·intro X hX;go_simp
 refine tkd (i:=9) (d:=some 28) (v:=(.int .u64 mx)) (hy:=.inl ⟨by rfl,?_⟩) (h:=?_)
 ·intro X hX;obtain⟨d0,d1,d2,d3,d4⟩:=hX;go_simp
 refine tkd (i:=10) (d:=some 29) (v:=(.bool true)) (hy:=.inl ⟨by rfl,?_⟩) (h:=?_)
 ·intro X hX;go_simp
 refine tkd (i:=11) (d:=some 30) (v:=(.bool true)) (hy:=.inl ⟨by rfl,?_⟩) (h:=?_)
 ·intro X hX;go_simp
 refine wpAnyH_done (by kernel_rfl) ?_ _;go_wp2
 go_ret2
 exact⟨rfl,B1.out.trans (zq hS.bl (by have:=HW1.out;omega)),hS.rd⟩
theorem hi_good(lm:Lim)(base r p g cap B:Nat)(fn cp hv:Value)(l:List EV)(cur:Ent)(ents hls x rest lo llo lhi:Int)(sm:Bool)(f:FuncId)(w:World)(hbr:base≤r)(hR:RdR w r lm fn .nilIface (.slice (some ⟨g,0,none⟩) (l.length+1) cap) ents hls cp)
  (hC:RowC w base (.slice (some ⟨g,0,none⟩) (l.length+1) cap) l cur B hv) (hK:CurOk w base cp cur (some lo) p lo llo lhi sm f) (hl:Word lo) (hx:Word x) (hs:lo+x<18446744073709551616) (hm:lo+x<cur.mx) (hlm:cur.hs.length≤4000000000) (he:0<ents∧ents<18446744073709551616) (hh:0≤hls∧hls<18446744073709551616) :
  Calls Tryz.prog 274 #[.pointer (some ⟨r,0,none⟩),.int .u64 x,.int .i64 rest] w fun e w'=>e=.returned (.tuple #[(holeS ⟨.lo,l.map (·.1),{ cur with hs:=cur.hs ++ [(lo,lo+x)] },ents,hls⟩).ph.fn r,.nilIface])∧Below base w w'∧MemF w' base r lm fn .nilIface (holeS ⟨.lo,l.map (·.1),{ cur with hs:=cur.hs ++ [(lo,lo+x)] },ents,hls⟩):=by
 have hmx:Tryz.prog.follows .mixedOrders=true:=by kernel_rfl
 have hcp:=hK.ptr;subst hcp;have c10:=hR.c10;have KH:=z7 (hi_yes p x 1 lo llo lhi sm f w hK.cur hl hx hs);have hgl:g<w.heap.size:=(z1c hC).elim fun g' h=>h.elim fun cap' h=>by obtain⟨e1,_,h2,_⟩:=h;simp at e1;obtain⟨rfl,_⟩:=e1;exact h2
 have hty:Typed w 96 g:=(z1c hC).elim fun g' h=>h.elim fun cap' h=>by obtain⟨e1,_,_,h2,_⟩:=h;simp at e1;obtain⟨rfl,_⟩:=e1;exact h2
 have hlen:l.length+1≤9223372036854775807:=(z1c hC).elim fun g' h=>h.elim fun cap' h=>h.2.2.2.2.1;have cM:w.cell? ⟨g,l.length * 3+1,none⟩=some (.int .u64 cur.mx):=(z1c hC).elim fun g' h=>h.elim fun cap' h=>by obtain⟨e1,_,_,_,_,_,_,h2,_⟩:=h;simp at e1;obtain⟨rfl,_⟩:=e1;exact h2
 have KE:=z7 (fun(W:World) (hW:RdR W r lm fn .nilIface (.slice (some ⟨g,0,none⟩) (l.length+1) cap) ents hls (.pointer (some ⟨p,0,none⟩)))=>entry_any lm r g l.length cap fn .nilIface (.pointer (some ⟨p,0,none⟩)) ents hls W hW hlen);obtain⟨hi,ehi⟩:∃y,y=lo+x:=⟨_,rfl⟩;have hhi:Word hi:=by have:=hl.1;have:=hx.1;rw[ehi];exact⟨by omega,hs⟩
 rw[← ehi]at KH;rw[← ehi]at hm ⊢;obtain⟨i0,hi0,hz0,hz1,hz2⟩:=info_parts info_ival;have HR:=z7 hR;have HC:=z7 hC;have HK:=z7 hK;have HTY:=z7 hty;have CM:=z7 cM;have WLO:=z7 hl;have WHI:=z7 hhi;obtain⟨mx,emx⟩:∃mx,cur.mx=mx:=⟨_,rfl⟩;rw[emx]at CM hm;clear hR hC hK hl hx hs hty cM ehi hhi emx;have hm':¬mx≤hi:=by omega
 go_enter Tryz.func274,Tryz.ntmps274
 go_wp2_with fail
 refine KH.out.mono ?_;rintro e w1 ⟨rfl,hcu,ho⟩;have tp:=HK.out.typed;have hR1:=HR.out.only ho (fun e=>HR.out.typed.ne tp (by decide) e);have hty1:Typed w1 96 g:=by obtain⟨cs,e⟩:=HTY.out;exact⟨cs,ho.obj (fun e=>HTY.out.ne tp (by decide) e) e⟩
 have hgp:¬g=p:=fun e=>HTY.out.ne tp (by decide) e;have hm1:∀k,k=p→¬Typed w 96 k∧¬Typed w 123 k:=fun k hk=>by subst hk;exact⟨tp.not (by decide),tp.not (by decide)⟩
 have C1:=z7 (HC.out.only ho hm1);have B1:=z7 (ho.below (n:=base) (by have:=HR.out.lt;omega) (fun k hk=>by subst hk;exact HK.out.le));have cM1:=ho.cell hgp CM.out;have hr1:=hR1.lt;have hS0:HiH w1 r lm fn (.slice (some ⟨g,0,none⟩) (l.length+1) cap) ents hls (.pointer (some ⟨p,0,none⟩)) w1.heap.size lo hi g (l.length * 3+1) mx (w1.alloc (.cells #[.int .u64 lo,.int .u64 hi] 123)):=
  ⟨hR1.below (zc (Below.refl _ _) _),by simp,by simp,z1h (zc (Below.refl _ _) _) cM1,zc (Below.refl _ _) _⟩
 have K1:CurOk w1 base (.pointer (some ⟨p,0,none⟩)) { cur with hs:=cur.hs ++ [(lo,hi)] } none p lo lo hi true 245:=⟨rfl,HK.out.le,hcu,fun y hy=>(by cases hy),.inr ⟨by simp,rfl,(lastHi_snoc _ _ _).symm,WHI.out⟩⟩;have HCC:=z7 (fun(W:World) (hb:Below w1.heap.size w1 W)=>And.intro (C1.out.only (may:=fun _=>False) (Only.of_below hb) (fun _ hk=>hk.elim)) (K1.only (may:=fun _=>False) (Only.of_below hb) (fun hk=>hk)));have N8:=z7 (fun k (hk:hv.ownBlock=some k)=>Nat.ne_of_lt (C1.out.own.row.lt k hk).2);have NG:=z7 (Nat.ne_of_lt (Nat.lt_of_lt_of_le hgl ho.size));have LTB:=z7 C1.out.lt;have LTW:=z7 (show base≤w1.heap.size from Nat.le_trans C1.out.le C1.out.lt);obtain⟨b8,eb8⟩:∃b,w1.heap.size=b:=⟨_,rfl⟩;rw[eb8]at hS0 N8 NG;clear hcu ho tp hR1 hty1 hgp hm1 cM1 c10 hr1 hgl K1;go_wp2_with fail
 refine wp_region_held_drew (S:=HiH w1 r lm fn (.slice (some ⟨g,0,none⟩) (l.length+1) cap) ents hls (.pointer (some ⟨p,0,none⟩)) b8 lo hi g (l.length * 3+1) mx) hmx hS0.drew (fun hS=>?_);refine tkd (i:=0) (d:=some 19) (v:=(.bool true)) (hy:=.inl ⟨by rfl,?_⟩) (h:=?_)
 ·intro X hX;go_simp
 refine tkd (i:=1) (d:=some 20) (v:=(.bool false)) (hy:=.inl ⟨by rfl,?_⟩) (h:=?_)
 ·intro X hX;go_simp
 refine tkd (i:=2) (d:=some 21) (v:=(.bool false)) (hy:=.inl ⟨by rfl,?_⟩) (h:=?_)
 ·intro X hX;go_simp
 refine tkd (i:=3) (d:=some 22) (v:=(.pointer (some ⟨b8,1,none⟩))) (hy:=.inl ⟨by rfl,?_⟩) (h:=?_)
 ·intro X hX;go_simp
 refine tkd (i:=4) (d:=some 23) (v:=(.int .u64 hi)) (hy:=.inl ⟨by rfl,?_⟩) (h:=?_)
 ·intro X hX;obtain⟨d0,d1,d2,d3,d4⟩:=hX;go_simp
 refine tkd (i:=5) (d:=some 24) (v:=(.pointer (some ⟨r,0,none⟩))) (hy:=.inl ⟨by rfl,?_⟩) (h:=?_)
 ·intro X hX;go_simp
 refine wpAnyH_ready (rs:=[6]) (by kernel_rfl) (by simp) ?_;refine AllReadyH.cons (o:=_) rfl (fun K hK=>?_) AllReadyH.nil;go_simp
 refine(KE.out _ hS.rd).mono ?_;rintro e wq ⟨rfl,hb⟩;have hS:=hS.below hb;clear hb;go_simp
 refine hK.out _ _ hS (fun _=>?_);clear hK K;refine tkd (i:=7) (d:=some 26) (v:=(.pointer (some ⟨g,l.length * 3,none⟩))) (hy:=.inl ⟨by rfl,?_⟩) (h:=?_)
 ·intro X hX;go_simp
 refine tkd (i:=8) (d:=some 27) (v:=(.pointer (some ⟨g,l.length * 3+1,none⟩))) (hy:=.inl ⟨by rfl,?_⟩) (h:=?_)
 ·intro X hX;go_simp
 refine tkd (i:=9) (d:=some 28) (v:=(.int .u64 mx)) (hy:=.inl ⟨by rfl,?_⟩) (h:=?_)
 ·intro X hX;obtain⟨d0,d1,d2,d3,d4⟩:=hX;go_simp
 refine tkd (i:=10) (d:=some 29) (v:=(.bool false)) (hy:=.inl ⟨by rfl,?_⟩) (h:=?_)
 ·intro X hX;go_simp
 refine tkd (i:=11) (d:=some 30) (v:=(.bool false)) (hy:=.inl ⟨by rfl,?_⟩) (h:=?_)
 ·intro X hX;go_simp
 refine wpAnyH_done (by kernel_rfl) ?_ _;have hT0:HiT r lm fn (.slice (some ⟨g,0,none⟩) (l.length+1) cap) ents hls (.pointer (some ⟨p,0,none⟩)) b8 lo hi _:=⟨hS.rd,hS.s0,hS.s1⟩;have HB0:=z7 (z1q hS.bl);clear hS hS0;go_wp2_with fail
 refine wp_region_held_drew (S:=HiT r lm fn (.slice (some ⟨g,0,none⟩) (l.length+1) cap) ents hls (.pointer (some ⟨p,0,none⟩)) b8 lo hi) hmx hT0.drew (fun hS=>?_);have hB:=HB0.out;refine tkd (i:=0) (d:=some 32) (v:=(.pointer (some ⟨r,0,none⟩))) (hy:=.inl ⟨by rfl,?_⟩) (h:=?_)
 ·intro X hX;go_simp
 refine tkd (i:=2) (d:=some 34) (v:=(.pointer (some ⟨r,0,none⟩))) (hy:=.inl ⟨by rfl,?_⟩) (h:=?_)
 ·intro X hX;go_simp
 refine tkd (i:=7) (d:=some 39) (v:=(.agg #[.int .u64 lo,.int .u64 hi])) (hy:=.inl ⟨by rfl,?_⟩) (h:=?_)
 ·intro X hX;obtain⟨d0,d1,d2⟩:=hX;go_simp
 refine wpAnyH_ready (rs:=[1,8]) (by kernel_rfl) (by simp) ?_;refine AllReadyH.cons (o:=_) rfl (fun K hK=>?_) (AllReadyH.cons (o:=_) rfl (fun K hK=>?_) AllReadyH.nil)
 ·skip
  go_simp
  refine(KE.out _ hS.rd).mono ?_;rintro e wq ⟨rfl,hb⟩;have hS:=hS.below hb;have hB:=zf hB hb;clear hb;go_simp
  refine hK.out _ _ hS (fun _=>?_);clear hK K;refine wpAnyH_ready (rs:=[3,8]) (by kernel_rfl) (by simp) ?_;refine AllReadyH.cons (o:=_) rfl (fun K hK=>?_) (AllReadyH.cons (o:=_) rfl (fun K hK=>?_) AllReadyH.nil)
  ·skip
   go_simp
   refine(KE.out _ hS.rd).mono ?_;rintro e wq ⟨rfl,hb⟩;have hS:=hS.below hb;have hB:=zf hB hb;clear hb;go_simp
   refine hK.out _ _ hS (fun _=>?_);clear hK K;refine tkd (i:=4) (d:=some 36) (v:=(.pointer (some ⟨g,l.length * 3,none⟩))) (hy:=.inl ⟨by rfl,?_⟩) (h:=?_)
   ·intro X hX;go_simp
   refine tkd (i:=5) (d:=some 37) (v:=(.pointer (some ⟨g,l.length * 3+2,none⟩))) (hy:=.inl ⟨by rfl,?_⟩) (h:=?_)
   ·intro X hX;go_simp
   refine wpAnyH_ready (rs:=[6,8]) (by kernel_rfl) (by simp) ?_;refine AllReadyH.cons (o:=_) rfl (fun K hK=>?_) (AllReadyH.cons (o:=_) rfl (fun K hK=>?_) AllReadyH.nil)
   ·skip
    have cH:=row_hv (HCC.out _ hB).1;go_simp
    refine hK.out _ _ hS (fun _=>?_);clear hK K cH;refine wpAnyH_ready (rs:=[8]) (by kernel_rfl) (by simp) ?_;refine AllReadyH.cons (o:=_) rfl (fun K hK=>?_) AllReadyH.nil;go_simp
    refine hK.out _ _ (hS.alloc _) (fun _=>?_);clear hK K;have R8:=hS.new8;have hB:=zc hB (.cells #[.int .u64 lo,.int .u64 hi] 123);have hS:=hS.alloc (.cells #[.int .u64 lo,.int .u64 hi] 123);refine wpAnyH_ready (rs:=[9]) (by kernel_rfl) (by simp) ?_;refine AllReadyH.cons (o:=_) rfl (fun K hK=>?_) AllReadyH.nil;rw[if_pos (by rfl)];refine wp_append_own _ (.tmp 38) (.tmp 40) 56 rfl B 123 i0 (.agg #[.int .u64 0,.int .u64 0]) 2 16 Tryz.underlying56 hi0 hz0 hz1 hz2 rfl (by decide) _ _ _ rfl (HCC.out _ hB).1.own.row ⟨_,0,none⟩ 1 1 [.int .u64 lo,.int .u64 hi] rfl rfl (hnew2 R8) (by intro u hu;simp at hu;rcases hu with rfl | rfl<;>rfl) (by unfold maxLen;omega) (by omega) (by have:=hB.size;have:=LTB.out;omega) ?_;intro hv' w3 hown hgrow _;obtain⟨a',cap',rfl,_⟩:=zl hown;have P:=z7 (hi_push hbr hS (HCC.out _ hB).1 (HCC.out _ hB).2 WLO.out WHI.out N8.out NG.out hown hgrow);have PB:=z7 (B1.out.trans ((zq hB LTW.out).trans P.out.2.2.2.2));clear hown hgrow hB R8;refine hK.out _ _ P.out.1.1 (fun _=>?_);clear hK K hS;have hS:=P.out.1.1;refine tkd (i:=10) (d:=some 42) (v:=(.pointer (some ⟨g,l.length * 3,none⟩))) (hy:=.inl ⟨by rfl,?_⟩) (h:=?_)
    ·intro X hX;go_simp
    refine tkd (i:=11) (d:=some 43) (v:=(.pointer (some ⟨g,l.length * 3+2,none⟩))) (hy:=.inl ⟨by rfl,?_⟩) (h:=?_)
    ·intro X hX;go_simp
    clear hS;have gH:=P.out.1.2.1;have fG:=P.out.1.2.2;refine wpAnyH_ready (rs:=[12]) (by kernel_rfl) (by simp) ?_;refine AllReadyH.cons (o:=_) rfl (fun K hK=>?_) AllReadyH.nil;go_simp
    refine hK.out _ _ P.out.2.1 (fun _=>?_);clear hK K gH fG;refine wpAnyH_done (by kernel_rfl) ?_ _;have hR3:=P.out.2.1.rd;have KH:=z7 (z4o lm r fn .nilIface _ _ ents hls _ hR3 he hh);have D:=z7 (fun w2 h1 h2=>z3r (w2:=w2) (ph:=.lo) (lm:=lm) (fn:=fn) (ents:=ents) (hls:=hls) hbr hR3.typed rfl P.out.2.2.1 P.out.2.2.2.1 h1 h2);have HL3:=z7 (show base≤_ from Nat.le_trans hbr (Nat.le_of_lt hR3.lt));rw[← hole_fn r .lo (l.map (·.1)) { cur with hs:=cur.hs ++ [(lo,hi)] } ents hls]at KH;obtain⟨fv,efv⟩:∃fv,(holeS ⟨.lo,l.map (·.1),{ cur with hs:=cur.hs ++ [(lo,hi)] },ents,hls⟩).ph.fn r=fv:=⟨_,rfl⟩;rw[efv]at KH;have EFV:=z7 efv;clear hR3 efv;go_wp2_with fail
    refine KH.out.mono ?_;rintro e w5 ⟨rfl,hR5,ho5⟩;have hM:=z7 (D.out w5 hR5 ho5);have hB5:=z7 (PB.out.trans (ho5.below HL3.out (fun k hk=>by subst hk;exact hbr)));clear hR5 ho5;go_wp2
    go_ret2
    exact⟨by rw[EFV.out]<;>rfl,hB5.out,hM.out⟩
   ·skip
    go_simp
    refine hK.out _ _ (hS.alloc _) (fun _=>?_);clear hK K;have R8:=hS.new8;have hB:=zc hB (.cells #[.int .u64 lo,.int .u64 hi] 123);have hS:=hS.alloc (.cells #[.int .u64 lo,.int .u64 hi] 123);refine wpAnyH_ready (rs:=[6]) (by kernel_rfl) (by simp) ?_;refine AllReadyH.cons (o:=_) rfl (fun K hK=>?_) AllReadyH.nil;have cH:=row_hv (HCC.out _ hB).1;go_simp
    refine hK.out _ _ hS (fun _=>?_);clear hK K cH;refine wpAnyH_ready (rs:=[9]) (by kernel_rfl) (by simp) ?_;refine AllReadyH.cons (o:=_) rfl (fun K hK=>?_) AllReadyH.nil;rw[if_pos (by rfl)];refine wp_append_own _ (.tmp 38) (.tmp 40) 56 rfl B 123 i0 (.agg #[.int .u64 0,.int .u64 0]) 2 16 Tryz.underlying56 hi0 hz0 hz1 hz2 rfl (by decide) _ _ _ rfl (HCC.out _ hB).1.own.row ⟨_,0,none⟩ 1 1 [.int .u64 lo,.int .u64 hi] rfl rfl (hnew2 R8) (by intro u hu;simp at hu;rcases hu with rfl | rfl<;>rfl) (by unfold maxLen;omega) (by omega) (by have:=hB.size;have:=LTB.out;omega) ?_;intro hv' w3 hown hgrow _;obtain⟨a',cap',rfl,_⟩:=zl hown;have P:=z7 (hi_push hbr hS (HCC.out _ hB).1 (HCC.out _ hB).2 WLO.out WHI.out N8.out NG.out hown hgrow);have PB:=z7 (B1.out.trans ((zq hB LTW.out).trans P.out.2.2.2.2));clear hown hgrow hB R8;refine hK.out _ _ P.out.1.1 (fun _=>?_);clear hK K hS;have hS:=P.out.1.1;refine tkd (i:=10) (d:=some 42) (v:=(.pointer (some ⟨g,l.length * 3,none⟩))) (hy:=.inl ⟨by rfl,?_⟩) (h:=?_)
    ·intro X hX;go_simp
    refine tkd (i:=11) (d:=some 43) (v:=(.pointer (some ⟨g,l.length * 3+2,none⟩))) (hy:=.inl ⟨by rfl,?_⟩) (h:=?_)
    ·intro X hX;go_simp
    clear hS;have gH:=P.out.1.2.1;have fG:=P.out.1.2.2;refine wpAnyH_ready (rs:=[12]) (by kernel_rfl) (by simp) ?_;refine AllReadyH.cons (o:=_) rfl (fun K hK=>?_) AllReadyH.nil;go_simp
    refine hK.out _ _ P.out.2.1 (fun _=>?_);clear hK K gH fG;refine wpAnyH_done (by kernel_rfl) ?_ _;have hR3:=P.out.2.1.rd;have KH:=z7 (z4o lm r fn .nilIface _ _ ents hls _ hR3 he hh);have D:=z7 (fun w2 h1 h2=>z3r (w2:=w2) (ph:=.lo) (lm:=lm) (fn:=fn) (ents:=ents) (hls:=hls) hbr hR3.typed rfl P.out.2.2.1 P.out.2.2.2.1 h1 h2);have HL3:=z7 (show base≤_ from Nat.le_trans hbr (Nat.le_of_lt hR3.lt));rw[← hole_fn r .lo (l.map (·.1)) { cur with hs:=cur.hs ++ [(lo,hi)] } ents hls]at KH;obtain⟨fv,efv⟩:∃fv,(holeS ⟨.lo,l.map (·.1),{ cur with hs:=cur.hs ++ [(lo,hi)] },ents,hls⟩).ph.fn r=fv:=⟨_,rfl⟩;rw[efv]at KH;have EFV:=z7 efv;clear hR3 efv;go_wp2_with fail
    refine KH.out.mono ?_;rintro e w5 ⟨rfl,hR5,ho5⟩;have hM:=z7 (D.out w5 hR5 ho5);have hB5:=z7 (PB.out.trans (ho5.below HL3.out (fun k hk=>by subst hk;exact hbr)));clear hR5 ho5;go_wp2
    go_ret2
    exact⟨by rw[EFV.out]<;>rfl,hB5.out,hM.out⟩
  ·skip
   go_simp
   refine hK.out _ _ (hS.alloc _) (fun _=>?_);clear hK K;have R8:=hS.new8;have hB:=zc hB (.cells #[.int .u64 lo,.int .u64 hi] 123);have hS:=hS.alloc (.cells #[.int .u64 lo,.int .u64 hi] 123);refine wpAnyH_ready (rs:=[3]) (by kernel_rfl) (by simp) ?_;refine AllReadyH.cons (o:=_) rfl (fun K hK=>?_) AllReadyH.nil;go_simp
   refine(KE.out _ hS.rd).mono ?_;rintro e wq ⟨rfl,hb⟩;have hS:=hS.below hb;have hB:=zf hB hb;have R8:=row_kept hb R8;clear hb;go_simp
   refine hK.out _ _ hS (fun _=>?_);clear hK K;refine tkd (i:=4) (d:=some 36) (v:=(.pointer (some ⟨g,l.length * 3,none⟩))) (hy:=.inl ⟨by rfl,?_⟩) (h:=?_)
   ·intro X hX;go_simp
   refine tkd (i:=5) (d:=some 37) (v:=(.pointer (some ⟨g,l.length * 3+2,none⟩))) (hy:=.inl ⟨by rfl,?_⟩) (h:=?_)
   ·intro X hX;go_simp
   refine wpAnyH_ready (rs:=[6]) (by kernel_rfl) (by simp) ?_;refine AllReadyH.cons (o:=_) rfl (fun K hK=>?_) AllReadyH.nil;have cH:=row_hv (HCC.out _ hB).1;go_simp
   refine hK.out _ _ hS (fun _=>?_);clear hK K cH;refine wpAnyH_ready (rs:=[9]) (by kernel_rfl) (by simp) ?_;refine AllReadyH.cons (o:=_) rfl (fun K hK=>?_) AllReadyH.nil;rw[if_pos (by rfl)];refine wp_append_own _ (.tmp 38) (.tmp 40) 56 rfl B 123 i0 (.agg #[.int .u64 0,.int .u64 0]) 2 16 Tryz.underlying56 hi0 hz0 hz1 hz2 rfl (by decide) _ _ _ rfl (HCC.out _ hB).1.own.row ⟨_,0,none⟩ 1 1 [.int .u64 lo,.int .u64 hi] rfl rfl (hnew2 R8) (by intro u hu;simp at hu;rcases hu with rfl | rfl<;>rfl) (by unfold maxLen;omega) (by omega) (by have:=hB.size;have:=LTB.out;omega) ?_;intro hv' w3 hown hgrow _;obtain⟨a',cap',rfl,_⟩:=zl hown;have P:=z7 (hi_push hbr hS (HCC.out _ hB).1 (HCC.out _ hB).2 WLO.out WHI.out N8.out NG.out hown hgrow);have PB:=z7 (B1.out.trans ((zq hB LTW.out).trans P.out.2.2.2.2));clear hown hgrow hB R8;refine hK.out _ _ P.out.1.1 (fun _=>?_);clear hK K hS;have hS:=P.out.1.1;refine tkd (i:=10) (d:=some 42) (v:=(.pointer (some ⟨g,l.length * 3,none⟩))) (hy:=.inl ⟨by rfl,?_⟩) (h:=?_)
   ·intro X hX;go_simp
   refine tkd (i:=11) (d:=some 43) (v:=(.pointer (some ⟨g,l.length * 3+2,none⟩))) (hy:=.inl ⟨by rfl,?_⟩) (h:=?_)
   ·intro X hX;go_simp
   clear hS;have gH:=P.out.1.2.1;have fG:=P.out.1.2.2;refine wpAnyH_ready (rs:=[12]) (by kernel_rfl) (by simp) ?_;refine AllReadyH.cons (o:=_) rfl (fun K hK=>?_) AllReadyH.nil;go_simp
   refine hK.out _ _ P.out.2.1 (fun _=>?_);clear hK K gH fG;refine wpAnyH_done (by kernel_rfl) ?_ _;have hR3:=P.out.2.1.rd;have KH:=z7 (z4o lm r fn .nilIface _ _ ents hls _ hR3 he hh);have D:=z7 (fun w2 h1 h2=>z3r (w2:=w2) (ph:=.lo) (lm:=lm) (fn:=fn) (ents:=ents) (hls:=hls) hbr hR3.typed rfl P.out.2.2.1 P.out.2.2.2.1 h1 h2);have HL3:=z7 (show base≤_ from Nat.le_trans hbr (Nat.le_of_lt hR3.lt));rw[← hole_fn r .lo (l.map (·.1)) { cur with hs:=cur.hs ++ [(lo,hi)] } ents hls]at KH;obtain⟨fv,efv⟩:∃fv,(holeS ⟨.lo,l.map (·.1),{ cur with hs:=cur.hs ++ [(lo,hi)] },ents,hls⟩).ph.fn r=fv:=⟨_,rfl⟩;rw[efv]at KH;have EFV:=z7 efv;clear hR3 efv;go_wp2_with fail
   refine KH.out.mono ?_;rintro e w5 ⟨rfl,hR5,ho5⟩;have hM:=z7 (D.out w5 hR5 ho5);have hB5:=z7 (PB.out.trans (ho5.below HL3.out (fun k hk=>by subst hk;exact hbr)));clear hR5 ho5;go_wp2
   go_ret2
   exact⟨by rw[EFV.out]<;>rfl,hB5.out,hM.out⟩
 ·skip
  go_simp
  refine hK.out _ _ (hS.alloc _) (fun _=>?_);clear hK K;have R8:=hS.new8;have hB:=zc hB (.cells #[.int .u64 lo,.int .u64 hi] 123);have hS:=hS.alloc (.cells #[.int .u64 lo,.int .u64 hi] 123);refine wpAnyH_ready (rs:=[1]) (by kernel_rfl) (by simp) ?_;refine AllReadyH.cons (o:=_) rfl (fun K hK=>?_) AllReadyH.nil;go_simp
  refine(KE.out _ hS.rd).mono ?_;rintro e wq ⟨rfl,hb⟩;have hS:=hS.below hb;have hB:=zf hB hb;have R8:=row_kept hb R8;clear hb;go_simp
  refine hK.out _ _ hS (fun _=>?_);clear hK K;refine wpAnyH_ready (rs:=[3]) (by kernel_rfl) (by simp) ?_;refine AllReadyH.cons (o:=_) rfl (fun K hK=>?_) AllReadyH.nil;go_simp
  refine(KE.out _ hS.rd).mono ?_;rintro e wq ⟨rfl,hb⟩;have hS:=hS.below hb;have hB:=zf hB hb;have R8:=row_kept hb R8;clear hb;go_simp
  refine hK.out _ _ hS (fun _=>?_);clear hK K;refine tkd (i:=4) (d:=some 36) (v:=(.pointer (some ⟨g,l.length * 3,none⟩))) (hy:=.inl ⟨by rfl,?_⟩) (h:=?_)
  ·intro X hX;go_simp
  refine tkd (i:=5) (d:=some 37) (v:=(.pointer (some ⟨g,l.length * 3+2,none⟩))) (hy:=.inl ⟨by rfl,?_⟩) (h:=?_)
  ·intro X hX;go_simp
  refine wpAnyH_ready (rs:=[6]) (by kernel_rfl) (by simp) ?_;refine AllReadyH.cons (o:=_) rfl (fun K hK=>?_) AllReadyH.nil;have cH:=row_hv (HCC.out _ hB).1;go_simp
  refine hK.out _ _ hS (fun _=>?_);clear hK K cH;refine wpAnyH_ready (rs:=[9]) (by kernel_rfl) (by simp) ?_;refine AllReadyH.cons (o:=_) rfl (fun K hK=>?_) AllReadyH.nil;rw[if_pos (by rfl)];refine wp_append_own _ (.tmp 38) (.tmp 40) 56 rfl B 123 i0 (.agg #[.int .u64 0,.int .u64 0]) 2 16 Tryz.underlying56 hi0 hz0 hz1 hz2 rfl (by decide) _ _ _ rfl (HCC.out _ hB).1.own.row ⟨_,0,none⟩ 1 1 [.int .u64 lo,.int .u64 hi] rfl rfl (hnew2 R8) (by intro u hu;simp at hu;rcases hu with rfl | rfl<;>rfl) (by unfold maxLen;omega) (by omega) (by have:=hB.size;have:=LTB.out;omega) ?_;intro hv' w3 hown hgrow _;obtain⟨a',cap',rfl,_⟩:=zl hown;have P:=z7 (hi_push hbr hS (HCC.out _ hB).1 (HCC.out _ hB).2 WLO.out WHI.out N8.out NG.out hown hgrow);have PB:=z7 (B1.out.trans ((zq hB LTW.out).trans P.out.2.2.2.2));clear hown hgrow hB R8;refine hK.out _ _ P.out.1.1 (fun _=>?_);clear hK K hS;have hS:=P.out.1.1;refine tkd (i:=10) (d:=some 42) (v:=(.pointer (some ⟨g,l.length * 3,none⟩))) (hy:=.inl ⟨by rfl,?_⟩) (h:=?_)
  ·intro X hX;go_simp
  refine tkd (i:=11) (d:=some 43) (v:=(.pointer (some ⟨g,l.length * 3+2,none⟩))) (hy:=.inl ⟨by rfl,?_⟩) (h:=?_)
  ·intro X hX;go_simp
  clear hS;have gH:=P.out.1.2.1;have fG:=P.out.1.2.2;refine wpAnyH_ready (rs:=[12]) (by kernel_rfl) (by simp) ?_;refine AllReadyH.cons (o:=_) rfl (fun K hK=>?_) AllReadyH.nil;go_simp
  refine hK.out _ _ P.out.2.1 (fun _=>?_);clear hK K gH fG;refine wpAnyH_done (by kernel_rfl) ?_ _;have hR3:=P.out.2.1.rd;have KH:=z7 (z4o lm r fn .nilIface _ _ ents hls _ hR3 he hh);have D:=z7 (fun w2 h1 h2=>z3r (w2:=w2) (ph:=.lo) (lm:=lm) (fn:=fn) (ents:=ents) (hls:=hls) hbr hR3.typed rfl P.out.2.2.1 P.out.2.2.2.1 h1 h2);have HL3:=z7 (show base≤_ from Nat.le_trans hbr (Nat.le_of_lt hR3.lt));rw[← hole_fn r .lo (l.map (·.1)) { cur with hs:=cur.hs ++ [(lo,hi)] } ents hls]at KH;obtain⟨fv,efv⟩:∃fv,(holeS ⟨.lo,l.map (·.1),{ cur with hs:=cur.hs ++ [(lo,hi)] },ents,hls⟩).ph.fn r=fv:=⟨_,rfl⟩;rw[efv]at KH;have EFV:=z7 efv;clear hR3 efv;go_wp2_with fail
  refine KH.out.mono ?_;rintro e w5 ⟨rfl,hR5,ho5⟩;have hM:=z7 (D.out w5 hR5 ho5);have hB5:=z7 (PB.out.trans (ho5.below HL3.out (fun k hk=>by subst hk;exact hbr)));clear hR5 ho5;go_wp2
  go_ret2
  exact⟨by rw[EFV.out]<;>rfl,hB5.out,hM.out⟩
theorem hi_any(lm:Lim)(base r:Nat)(lo:Int)(fn:Value)(s:St)(x rest:Int)(w:World)(h:MemF w base r lm fn .nilIface s)(hp:s.ph=.hi lo)(hx:Word x)(he:0<s.ents∧s.ents<18446744073709551616)(hh:0≤s.hls∧s.hls<18446744073709551616)(hm:s.cur.hs.length≤4000000000) :
  Calls Tryz.prog 274 #[.pointer (some ⟨r,0,none⟩),.int .u64 x,.int .i64 rest] w fun e w'=>StepPost lm base r fn (stepS lm s x rest) w e w':=by
 obtain⟨ph,es,cur,ents,hls⟩:=s;obtain rfl:ph=.hi lo:=hp;obtain⟨hbr,v,cp,hR,l,B,hv,p,lo',llo,lhi,sm,f,hes,hC,hK⟩:=h;have hes':l.map (·.1)=es:=hes;subst hes';obtain⟨e1,hl⟩:=hK.opn lo rfl;subst e1;have e0:stepS lm ⟨.hi lo',l.map (·.1),cur,ents,hls⟩ x rest=if lo'+x<18446744073709551616∧lo'+x<cur.mx then .ok (holeS ⟨.hi lo',l.map (·.1),{ cur with hs:=cur.hs ++ [(lo',lo'+x)] },ents,hls⟩)else .error 8:=rfl;have eh:holeS ⟨.hi lo',l.map (·.1),{ cur with hs:=cur.hs ++ [(lo',lo'+x)] },ents,hls⟩=holeS ⟨.lo,l.map (·.1),{ cur with hs:=cur.hs ++ [(lo',lo'+x)] },ents,hls⟩:=by unfold holeS;rfl
 obtain⟨g,cap,rfl,_⟩:=z1c hC;by_cases hs:lo'+x<18446744073709551616
 ·by_cases hq:lo'+x<cur.mx
  ·refine(hi_good lm base r p g cap B fn cp hv l cur ents hls x rest lo' llo lhi sm f w hbr hR hC hK hl hx hs hq hm he hh).mono ?_
   rintro e w' ⟨h1,hb,hM⟩;exact .ok ((e0.trans (if_pos ⟨hs,hq⟩)).trans (by rw[eh])) hb h1 hM
  ·refine(hi_large lm base r p g cap B fn cp hv l cur ents hls x rest lo' llo lhi sm f w hbr hR hC hK hl hx hs (by omega)).mono ?_
   rintro e w' ⟨h1,hb,hr⟩;exact .err (e0.trans (if_neg (fun h=>hq h.2))) hb h1 _ _ _ _ hr
 ·refine(hi_over lm base r p fn _ cp cur ents hls x rest lo' llo lhi sm f w hR hK hl hx hs).mono ?_
  rintro e w' ⟨h1,hb⟩;exact .err (e0.trans (if_neg (fun h=>hs h.1))) (zq hb (by have:=hR.lt;omega)) h1 _ _ _ _ (hR.below hb)
structure StI (s:St) (a:Int):Prop where
 ph:s.ph≠.fin
 ents:s.ph=.count∨(0<s.ents∧s.ents<18446744073709551616)
 hls:0≤s.hls∧s.hls<18446744073709551616
 es:(s.es.length:Int)≤a
 hs:(s.cur.hs.length:Int)≤a
theorem stI_0(a:Int)(ha:0≤a):StI St0 a:=⟨(by simp[St0]),.inl rfl,by decide,by simpa[St0]using ha,by simpa[St0]using ha⟩
theorem limitC_err{x l n c:Int}(h:limitC x l n=c)(hc:c≠0):c=5∨c=7:=by
 have:=limitC_or x l n;omega
theorem step_err{lm:Lim}{s:St}{x rest c:Int}(h:stepS lm s x rest=.error c):c=5∨c=7∨c=8∨c=9:=by
 obtain⟨ph,es,cur,ents,hls⟩:=s;unfold stepS at h
 cases ph<;>simp only at h
 all_goals(repeat' split at h)<;>cases h
 all_goals first
  | (right;right;left;rfl)
  | (right;right;right;rfl)
  | (rename_i hh;rcases limitC_err rfl hh with g | g<;>omega)
theorem holeS_inv{s:St}{a n:Int}(he:0<s.ents∧s.ents<18446744073709551616)(hh:0≤s.hls∧s.hls<18446744073709551616)(h1:(s.es.length:Int)≤a)(h2:(s.cur.hs.length:Int)≤n)(ha:a<n)(hf:(holeS s).ph≠.fin):StI (holeS s) n:=by
 obtain⟨ph,es,cur,ents,hls⟩:=s;simp only at he hh h1 h2;unfold holeS at hf ⊢;simp only at hf ⊢;by_cases g:0<hls
 ·rw[if_pos g]at hf ⊢
  exact⟨hf,.inr he,by simp only;omega,by simp only;omega,h2⟩
 ·rw[if_neg g]at hf ⊢
  by_cases g2:0<ents-1
  ·rw[if_pos g2]at hf ⊢
   exact⟨hf,.inr (by simp only;omega),hh,by simp;omega,h2⟩
  ·rw[if_neg g2]at hf
   exact absurd rfl hf
theorem step_inv{lm:Lim}{s s':St}{x rest a n:Int}(h:stepS lm s x rest=.ok s')(hI:StI s a)(hx:Word x)(ha:a<n)(hf:s'.ph≠.fin):StI s' n:=by
 have hx1:=hx.1;have hx2:=hx.2;obtain⟨p1,p2,p3,p4,p5⟩:=hI;obtain⟨ph,es,cur,ents,hls⟩:=s;simp only at p1 p2 p3 p4 p5;unfold stepS at h
 cases ph with
 | count=>
   simp only at h;split at h
   ·cases h
   ·split at h
    ·cases h
    ·cases h
     exact⟨hf,.inr (by simp only;omega),p3,by simp only;omega,by simp only;omega⟩
 | rep=>
   simp only at h;have he:=p2.resolve_left (by simp);split at h
   ·cases h;exact⟨hf,.inr he,p3,by simp only;omega,by simp;omega⟩
   ·split at h
    ·cases h;exact⟨hf,.inr he,p3,by simp only;omega,by simp;omega⟩
    ·cases h
 | top=>
   simp only at h;have he:=p2.resolve_left (by simp)
   cases h
   exact⟨hf,.inr he,p3,by simp only;omega,by simp only;omega⟩
 | op=>
   simp only at h;have he:=p2.resolve_left (by simp);split at h
   ·cases h
   ·cases h
    exact holeS_inv he ⟨hx1,hx2⟩ p4 (by simp only;omega) ha hf
 | lo=>
   simp only at h;have he:=p2.resolve_left (by simp);split at h
   ·cases h;exact⟨hf,.inr he,p3,by simp only;omega,by simp only;omega⟩
   ·split at h
    ·cases h;exact⟨hf,.inr he,p3,by simp only;omega,by simp only;omega⟩
    ·cases h
 | hi l=>
   simp only at h;have he:=p2.resolve_left (by simp);split at h
   ·cases h
    exact holeS_inv he p3 p4 (by simp;omega) ha hf
   ·cases h
 | fin=>exact absurd rfl p1
structure PutPost (lm:Lim) (base r:Nat) (o:Except Int St) (w:World) (e:Ending) (w':World):Prop where
 below:Below base w w'
 bad:∀c,o=.error c→e=.returned (.tuple #[.bool true,.iface 42 (.int .i64 c)])∧∃v cp en hl,RdR w' r lm .nilFunc (.iface 42 (.int .i64 c)) v en hl cp
 good:∀s',o=.ok s'→e=.returned (.tuple #[.bool s'.ph.isFin,.nilIface])∧MemF w' base r lm (s'.ph.fn r) .nilIface s'
theorem fin_is{p:Ph}(h:p.isFin=true):p=.fin:=by cases p<;>simp_all [Ph.isFin]
def Ph.fid:Ph→FuncId
 | .count=>243
 | .rep=>262
 | .top=>268
 | .op=>271
 | .lo=>273
 | .hi _=>274
 | .fin=>274
theorem fn_fid{p:Ph}(r:Nat)(h:p.isFin=false):p.fn r=fnV r p.fid:=by cases p<;>first | rfl | cases h
theorem fn_fin{p:Ph}(r:Nat)(h:p.isFin=true):p.fn r=.nilFunc:=by rw[fin_is h];rfl
theorem z33{lm:Lim}{base r:Nat}{s:St}{x rest:Int}{w:World}{F:FuncId}(hfn:s.ph.fn r=fnV r F)(hF:Enters F)(h:MemF w base r lm (s.ph.fn r) .nilIface s)
  (KF:Calls Tryz.prog F #[.pointer (some ⟨r,0,none⟩),.int .u64 x,.int .i64 rest] w fun e w'=>StepPost lm base r (s.ph.fn r) (stepS lm s x rest) w e w') :
  Calls Tryz.prog 210 #[.pointer (some ⟨r,0,none⟩),.int .u64 x,.int .i64 rest] w fun e w'=>PutPost lm base r (stepS lm s x rest) w e w':=by
 obtain⟨hbr,v,cp,hR,_⟩:=h;rw[hfn]at hR KF;have bel:∀{w1 w':World} {x y:Value},Below base w w1→Below ((w1.setCell ⟨r,5,none⟩ x).setCell ⟨r,6,none⟩ y).heap.size ((w1.setCell ⟨r,5,none⟩ x).setCell ⟨r,6,none⟩ y) w'→Below base w w':=by
  intro w1 w' x y h1 h2;have h3:Below base w ((w1.setCell ⟨r,5,none⟩ x).setCell ⟨r,6,none⟩ y):=(h1.setCell (p:=⟨r,5,none⟩) hbr _).setCell (p:=⟨r,6,none⟩) hbr _;have:=hR.lt;have:=h3.size;exact h3.trans (zq h2 (by omega))
 cases ho:stepS lm s x rest with
 | error c=>
   have hc:c≠0:=by rcases step_err ho with g | g | g | g<;>omega
   have ec:errE c=.iface 42 (.int .i64 c):=by unfold errE;rw[if_neg hc]
   rw[ho]at KF;refine(rput_err lm r F c x rest v cp s.ents s.hls (fun w1=>Below base w w1∧∃v cp en hl,RdR w1 r lm (fnV r F) .nilIface v en hl cp) w hR (KF.mono fun e w1 hp=>?_) (fun w1 h1=>h1.2) hF).mono ?_
   ·obtain⟨he,hr⟩:=hp.bad c rfl
    rw[ec]at he;exact⟨he,hp.below,hr⟩
   ·rintro e w' ⟨rfl,w1,⟨hb,v1,cp1,en1,hl1,hr⟩,hb'⟩
    exact⟨bel hb hb',fun c' hc'=>(by cases hc';exact⟨rfl,v1,cp1,en1,hl1,((hr.s5 _).s6 _).below hb'⟩),fun s' hs'=>(by cases hs')⟩
 | ok s'=>
   rw[ho]at KF
   cases hf:s'.ph.isFin with
   | true=>
     refine(rput_fin lm r F x rest v cp s.ents s.hls (fun w1=>Below base w w1∧MemF w1 base r lm (fnV r F) .nilIface s') w hR (KF.mono fun e w1 hp=>?_) (fun w1 h1=>?_) hF).mono ?_
     ·obtain⟨he,hr⟩:=hp.good s' rfl
      rw[fn_fin r hf]at he;exact⟨he,hp.below,hr⟩
     ·obtain⟨_,_,v1,cp1,hr,_⟩:=h1
      exact⟨v1,cp1,_,_,hr⟩
     ·rintro e w' ⟨rfl,w1,⟨hb,hm⟩,hb'⟩
      refine⟨bel hb hb',fun c' hc'=>(by cases hc'),fun s'' hs'=>?_⟩
      cases hs'
      rw[hf,fn_fin r hf];exact⟨rfl,(hm.store _ _).below hb'⟩
   | false=>
     refine(rput_next lm r F s'.ph.fid x rest v cp s.ents s.hls (fun w1=>Below base w w1∧MemF w1 base r lm (fnV r F) .nilIface s') w hR (KF.mono fun e w1 hp=>?_) (fun w1 h1=>?_) hF).mono ?_
     ·obtain⟨he,hr⟩:=hp.good s' rfl
      rw[fn_fid r hf]at he;exact⟨he,hp.below,hr⟩
     ·obtain⟨_,_,v1,cp1,hr,_⟩:=h1
      exact⟨v1,cp1,_,_,hr⟩
     ·rintro e w' ⟨rfl,w1,⟨hb,hm⟩,hb'⟩
      refine⟨bel hb hb',fun c' hc'=>(by cases hc'),fun s'' hs'=>?_⟩
      cases hs'
      rw[hf,fn_fid r hf];exact⟨rfl,(hm.store _ _).below hb'⟩
theorem rput_any(lm:Lim)(hlm:LimW lm)(base r:Nat)(s:St)(x rest a:Int)(w:World)(h:MemF w base r lm (s.ph.fn r) .nilIface s)(hI:StI s a)(ha:a≤4000000000)(hx:Word x)(hr:-9223372036854775808≤rest∧rest≤9223372036854775807) :
  Calls Tryz.prog 210 #[.pointer (some ⟨r,0,none⟩),.int .u64 x,.int .i64 rest] w fun e w'=>PutPost lm base r (stepS lm s x rest) w e w':=by
 have he:s.es.length≤4000000000:=by have:=hI.es;omega
 have hh:s.cur.hs.length≤4000000000:=by have:=hI.hs;omega
 cases hp:s.ph with
 | count=>exact z33 (F:=243) (by rw[hp];rfl) ent0 h (count_any lm hlm base r _ s x rest w h hp hx hr)
 | rep=>exact z33 (F:=262) (by rw[hp];rfl) ent1 h (rep_any lm base r _ s x rest w h hp hx he)
 | top=>exact z33 (F:=268) (by rw[hp];rfl) ent2 h (top_any lm base r _ s x rest w h hp hx)
 | op=>exact z33 (F:=271) (by rw[hp];rfl) ent3 h (open_any lm hlm base r _ s x rest w h hp hx hr (hI.ents.resolve_left (by rw[hp];simp)))
 | lo=>exact z33 (F:=273) (by rw[hp];rfl) ent4 h (lo_any lm base r _ s x rest w h hp hx)
 | hi l=>exact z33 (F:=274) (by rw[hp];rfl) ent5 h (hi_any lm base r l _ s x rest w h hp hx (hI.ents.resolve_left (by rw[hp];simp)) hI.hls hh)
 | fin=>exact absurd hp hI.ph
def readR (base:Nat) (o:Except (Int×Int) (List Ent×Int)) (e:Ending) (w':World):Prop:=
 match o with
 | .error (c,a)=>e=.returned (.tuple #[.slice none 0 0,.int .i64 0,.iface 107 (.agg #[.int .i64 c,.int .i64 a])])
 | .ok (es,n)=>∃v l,e=.returned (.tuple #[v,.int .i64 n,.nilIface])∧l.map (·.1)=es∧RowF w' base v l
theorem RowF.below{w w':World}{base:Nat}{v:Value}{l:List EV}(h:RowF w base v l)(hb:Below w.heap.size w w'):RowF w' base v l:=
 h.only (may:=fun _=>False) (Only.of_below hb) fun _ hk=>hk.elim
structure HolesAt (w:World) (p:EV):Prop where
 at':∃a cap,p.2=.slice a p.1.hs.length cap∧Prs w a p.1.hs.length p.1.hs∧p.1.hs.length≤cap
theorem HolesAt.below{w w':World}{p:EV}(h:HolesAt w p)(hb:Below w.heap.size w w'):HolesAt w' p:=by
 obtain⟨a,cap,h1,h2,h3⟩:=h.at';exact⟨a,cap,h1,h2.below hb,h3⟩
structure EntsAt (w:World) (a:Option Addr) (len:Nat) (l:List EV):Prop where
 length:l.length=len
 most:len≤9223372036854775807
 words:∀p∈l,EntW p.1
 holes:∀p∈l,HolesAt w p
 cells:∀i,i<len→∃b off,a=some ⟨b,off,none⟩∧b<w.heap.size∧w.cell? ⟨b,off+i * 3,none⟩=some (.int .u64 (l.getD i EV.z).1.rep)∧w.cell? ⟨b,off+i * 3+1,none⟩=some (.int .u64 (l.getD i EV.z).1.mx)∧w.cell? ⟨b,off+i * 3+2,none⟩=some (l.getD i EV.z).2
theorem EntsAt.below{w w':World}{a:Option Addr}{len:Nat}{l:List EV}(h:EntsAt w a len l)(hb:Below w.heap.size w w'):EntsAt w' a len l:=
 ⟨h.length,h.most,h.words,fun p hp=>(h.holes p hp).below hb,fun i hi=>by
  obtain⟨b,off,e,hlt,h1,h2,h3⟩:=h.cells i hi;exact⟨b,off,e,Nat.lt_of_lt_of_le hlt hb.size,zg hb hlt h1,zg hb hlt h2,zg hb hlt h3⟩⟩
theorem EntsAt.mem{w:World}{a:Option Addr}{len:Nat}{l:List EV}(h:EntsAt w a len l){i:Nat}(hi:i<len):l.getD i EV.z∈l:=getD_mem (by have:=h.length;omega)
theorem RowF.ents{w:World}{base:Nat}{v:Value}{l:List EV}(h:RowF w base v l):∃a cap,v=.slice a l.length cap∧EntsAt w a l.length l∧l.length≤cap:=by
 have hh:∀p∈l,HolesAt w p:=fun p hp=>by
  obtain⟨a,cap,h1,h2,h3,_⟩:=h.fins p hp;exact⟨a,cap,h1,h2,h3⟩
 rcases h.row.2 with⟨rfl,hn⟩ | ⟨g,cap,cur,rfl,hbg,hg,hle,hm,hs,ht⟩
 ·exact⟨none,0,by rw[hn],⟨rfl,by omega,h.words,hh,fun i hi=>by omega⟩,by omega⟩
 ·refine⟨some ⟨g,0,none⟩,cap,rfl,⟨rfl,by unfold maxLen at hm;omega,h.words,hh,fun i hi=>?_⟩,hle⟩
  obtain⟨c0,c1,c2⟩:=cellsE_at l i hi;have hsz:l.length * 3≤(cellsE l).length:=by rw[z24];exact Nat.le_refl _
  refine⟨g,0,rfl,(Array.getElem?_eq_some_iff.1 hg).1,?_,?_,?_⟩
  ·rw[Nat.zero_add,h.row.cellAt _ (by omega)];exact c0
  ·rw[Nat.zero_add,h.row.cellAt _ (by omega)];exact c1
  ·rw[Nat.zero_add,h.row.cellAt _ (by omega)];exact c2
/-! ### Same of entries -/
instance:DecidableEq Ent:=fun a b=>by
 obtain⟨x,y,z⟩:=a;obtain⟨x',y',z'⟩:=b;by_cases h:x=x'∧y=y'∧z=z'
 ·exact isTrue (by obtain⟨rfl,rfl,rfl⟩:=h;rfl)
 ·exact isFalse (by intro e;cases e;exact h ⟨rfl,rfl,rfl⟩)
abbrev aggE (p:EV):Value:=.agg #[.int .u64 p.1.rep,.int .u64 p.1.mx,p.2]
theorem esame_any(p q:EV)(w:World)(h:HolesAt w p)(h':HolesAt w q) :
  Calls Tryz.prog 85 #[aggE p,aggE q] w fun e w'=>e=.returned (.bool (decide (p.1=q.1)))∧Below w.heap.size w w':=by
 obtain⟨⟨x,y,z⟩,hv⟩:=p;obtain⟨⟨x',y',z'⟩,hv'⟩:=q;obtain⟨a,cap,e1,h1,h2⟩:=h.at';obtain⟨a',cap',e1',h1',h2'⟩:=h'.at';simp only at e1 e1' h1 h1' h2 h2';subst e1;subst e1';unfold aggE;simp only;by_cases g1:x=x'
 ·by_cases g2:y=y'
  ·subst g1;subst g2
   have KS:=z7 (fun W (hb:Below w.heap.size w W)=>same_any a a' z.length cap z'.length cap' z z' W (h1.below hb) (h1'.below hb));have ER:=z7 (show sameL z z'=decide ((⟨x,y,z⟩:Ent)=⟨x,y,z'⟩) by unfold sameL;simp);clear h h' h1 h1' h2 h2';go_enter Tryz.func85,Tryz.ntmps85
   go_wp2_with fail
   refine(KS.out _ (zc (zc (Below.refl _ _) _) _)).mono ?_;rintro e w1 ⟨rfl,hb⟩;have B1:=z7 (zf (zc (zc (Below.refl _ _) _) _) hb);clear hb;go_wp2
   go_ret
   refine⟨?_,B1.out⟩;rw[← ER.out]
   cases sameL z z'<;>rfl
  ·have f2:(y == y')=false:=by simpa using g2
   have ER:=z7 (show decide ((⟨x,y,z⟩:Ent)=⟨x',y',z'⟩)=false by simp[g2]);subst g1;clear h h' h1 h1' h2 h2' g2;go_enter Tryz.func85,Tryz.ntmps85
   go_wp2
   go_ret
   exact⟨by rw[ER.out]<;>rfl,zc (zc (Below.refl _ _) _) _⟩
 ·have f1:(x == x')=false:=by simpa using g1
  have ER:=z7 (show decide ((⟨x,y,z⟩:Ent)=⟨x',y',z'⟩)=false by simp[g1]);clear h h' h1 h1' h2 h2' g1;go_enter Tryz.func85,Tryz.ntmps85
  go_wp2
  go_ret
  exact⟨by rw[ER.out]<;>rfl,zc (zc (Below.refl _ _) _) _⟩
/-! ### Same of vectors -/
def sameV (l l':List EV):Bool:=decide (l.map (·.1)=l'.map (·.1))
theorem ents_ext{l l':List EV}(hl:l.length=l'.length)(h:∀i,i<l.length→(l.getD i EV.z).1=(l'.getD i EV.z).1):l.map (·.1)=l'.map (·.1):=by
 refine List.ext_getElem (by simpa using hl) fun i h1 h2=>?_;simp only[List.length_map]at h1 h2;have:=h i h1;simpa[List.getD,List.getElem?_eq_getElem h1,List.getElem?_eq_getElem h2]using this
theorem ents_at{l l':List EV}(h:l.map (·.1)=l'.map (·.1))(i:Nat):(l.getD i EV.z).1=(l'.getD i EV.z).1:=by
 have e:(l.map (·.1))[i]?=(l'.map (·.1))[i]?:=by rw[h]
 simp only[List.getElem?_map]at e;simp only[List.getD]
 cases h1:l[i]?<;>cases h2:l'[i]?<;>simp_all
structure Two (W0:World) (b o b' o':Nat) (x y:Int) (v:Value) (x' y':Int) (v':Value) (W:World):Prop where
 a0:W.cell? ⟨b,o,none⟩=some (.int .u64 x)
 a1:W.cell? ⟨b,o+1,none⟩=some (.int .u64 y)
 a2:W.cell? ⟨b,o+2,none⟩=some v
 b0:W.cell? ⟨b',o',none⟩=some (.int .u64 x')
 b1:W.cell? ⟨b',o'+1,none⟩=some (.int .u64 y')
 b2:W.cell? ⟨b',o'+2,none⟩=some v'
 bl:Below W0.heap.size W0 W
theorem Two.below{W0 W W':World}{b o b' o':Nat}{x y x' y':Int}{v v':Value}(h:Two W0 b o b' o' x y v x' y' v' W)(hb:Below W.heap.size W W'):Two W0 b o b' o' x y v x' y' v' W':=
 ⟨z1h hb h.a0,z1h hb h.a1,z1h hb h.a2,z1h hb h.b0,z1h hb h.b1,z1h hb h.b2,zf h.bl hb⟩
theorem Two.drew{W0 W:World}{b o b' o':Nat}{x y x' y':Int}{v v':Value}(h:Two W0 b o b' o' x y v x' y' v' W):Two W0 b o b' o' x y v x' y' v' W.drew:=h.below (z1q (Below.refl _ _))
theorem vsame_any(a a':Option Addr)(len cap len' cap':Nat)(l l':List EV)(w:World)(h:EntsAt w a len l)(h':EntsAt w a' len' l') :
  Calls Tryz.prog 41 #[.slice a len cap,.slice a' len' cap'] w fun e w'=>e=.returned (.bool (sameV l l'))∧Below w.heap.size w w':=by
 have hmx:Tryz.prog.follows .mixedOrders=true:=by kernel_rfl
 have hm:=h.most;have hm':=h'.most;have hl:=z7 h.length;have hl':=z7 h'.length;have H:=z7 h;have H':=z7 h';clear h h';by_cases hn:len=len'
 ·subst hn
  go_enter Tryz.func41,Tryz.ntmps41
  go_wp2
  go_loopw [5] (fun c wr=>∃k:Nat,k≤len∧c=.int .i64 k∧(∀i,i<k→(l.getD i EV.z).1=(l'.getD i EV.z).1)∧Below w.heap.size w wr)
   (fun c _=>len-(intOf c).toNat)
  case atStart=>exact⟨0,Nat.zero_le _,rfl,fun i hi=>absurd hi (by omega),Below.refl _ _⟩
  case round=>
   obtain⟨k,hk,rfl,hno,hb⟩:=hrel;have HN:=z7 hno;have HB:=z7 hb;clear hno;by_cases hlt:k<len
   ·obtain⟨b,off,rfl,hbl,hc1,hc2,hc3⟩:=(H.out.below hb).cells k hlt
    obtain⟨b',off',rfl,hbl',hd1,hd2,hd3⟩:=(H'.out.below hb).cells k hlt;have i0:(0:Int)≤(k:Int):=by omega
    have i1:(k:Int)<(len:Int):=by omega
    have KE:=z7 (fun W (hW:Below wr.heap.size wr W)=>esame_any (l.getD k EV.z) (l'.getD k EV.z) W (((H.out.below hb).below hW).holes _ (H.out.mem hlt)) (((H'.out.below hb).below hW).holes _ (H'.out.mem hlt)));unfold aggE at KE;have TW:=z7 (Two.mk (W0:=wr) hc1 hc2 hc3 hd1 hd2 hd3 (Below.refl _ _));have NE:=z7 (fun(hne:(l.getD k EV.z).1≠(l'.getD k EV.z).1)=>show sameV l l'=false by
     unfold sameV;exact decide_eq_false fun e=>hne (ents_at e k))
    by_cases g:(l.getD k EV.z).1=(l'.getD k EV.z).1
    ·rw[show decide ((l.getD k EV.z).1=(l'.getD k EV.z).1)=true from decide_eq_true g]at KE
     have G:=z7 g;obtain⟨x,ex⟩:∃x,(l.getD k EV.z).1.rep=x:=⟨_,rfl⟩;obtain⟨y,ey⟩:∃x,(l.getD k EV.z).1.mx=x:=⟨_,rfl⟩;obtain⟨hv,ev⟩:∃x,(l.getD k EV.z).2=x:=⟨_,rfl⟩;obtain⟨x',ex'⟩:∃x,(l'.getD k EV.z).1.rep=x:=⟨_,rfl⟩;obtain⟨y',ey'⟩:∃x,(l'.getD k EV.z).1.mx=x:=⟨_,rfl⟩;obtain⟨hv',ev'⟩:∃x,(l'.getD k EV.z).2=x:=⟨_,rfl⟩;rw[ex,ey,ev,ex',ey',ev']at KE TW;clear ex ey ev ex' ey' ev' hc1 hc2 hc3 hd1 hd2 hd3 g NE hb;go_wp2_with fail
     refine wp_region_held_drew (S:=Two wr b (off+k * 3) b' (off'+k * 3) x y hv x' y' hv') hmx TW.out.drew (fun hS=>?_);refine tkd (i:=0) (d:=some 17) (v:=(.slice (some ⟨b,off,none⟩) len cap)) (hy:=.inl ⟨by rfl,?_⟩) (h:=?_)
     ·intro X hX;go_simp
     refine tkd (i:=1) (d:=some 18) (v:=(.int .i64 k)) (hy:=.inl ⟨by rfl,?_⟩) (h:=?_)
     ·intro X hX;go_simp
     refine tkd (i:=2) (d:=some 19) (v:=(.pointer (some ⟨b,off+k * 3,none⟩))) (hy:=.inl ⟨by rfl,?_⟩) (h:=?_)
     ·intro X hX;go_simp
     refine tkd (i:=3) (d:=some 20) (v:=(.agg #[.int .u64 x,.int .u64 y,hv])) (hy:=.inl ⟨by rfl,?_⟩) (h:=?_)
     ·intro X hX;obtain⟨d0,d1,d2,d3,d4,d5,d6⟩:=hX;go_simp
     refine tkd (i:=4) (d:=some 21) (v:=(.slice (some ⟨b',off',none⟩) len cap')) (hy:=.inl ⟨by rfl,?_⟩) (h:=?_)
     ·intro X hX;go_simp
     refine tkd (i:=5) (d:=some 22) (v:=(.int .i64 k)) (hy:=.inl ⟨by rfl,?_⟩) (h:=?_)
     ·intro X hX;go_simp
     refine tkd (i:=6) (d:=some 23) (v:=(.pointer (some ⟨b',off'+k * 3,none⟩))) (hy:=.inl ⟨by rfl,?_⟩) (h:=?_)
     ·intro X hX;go_simp
     refine tkd (i:=7) (d:=some 24) (v:=(.agg #[.int .u64 x',.int .u64 y',hv'])) (hy:=.inl ⟨by rfl,?_⟩) (h:=?_)
     ·intro X hX;obtain⟨d0,d1,d2,d3,d4,d5,d6⟩:=hX;go_simp
     refine wpAnyH_ready (rs:=[8]) (by kernel_rfl) (by simp) ?_;refine AllReadyH.cons (o:=_) rfl (fun K hK=>?_) AllReadyH.nil;go_simp
     refine(KE.out _ hS.bl).mono ?_;rintro e wq ⟨rfl,hb1⟩;have hS:=hS.below hb1;clear hb1;go_simp
     refine hK.out _ _ hS (fun _=>?_);clear hK K;refine tkd (i:=9) (d:=some 26) (v:=(.bool false)) (hy:=.inl ⟨by rfl,?_⟩) (h:=?_)
     ·intro X hX;go_simp
     refine wpAnyH_done (by kernel_rfl) ?_ _;have BB:=z7 (zf HB.out hS.bl);clear hS;go_wp2
     go_roundw
     case rel=>
      refine⟨k+1,by omega,by go_num,fun i hi=>?_,BB.out⟩;by_cases e:i=k
      ·subst e;exact G.out
      ·exact HN.out i (by omega)
     case measure=>simp[intOf];omega
    ·rw[show decide ((l.getD k EV.z).1=(l'.getD k EV.z).1)=false from decide_eq_false g]at KE
     have BAD:=z7 (NE.out g);obtain⟨x,ex⟩:∃x,(l.getD k EV.z).1.rep=x:=⟨_,rfl⟩;obtain⟨y,ey⟩:∃x,(l.getD k EV.z).1.mx=x:=⟨_,rfl⟩;obtain⟨hv,ev⟩:∃x,(l.getD k EV.z).2=x:=⟨_,rfl⟩;obtain⟨x',ex'⟩:∃x,(l'.getD k EV.z).1.rep=x:=⟨_,rfl⟩;obtain⟨y',ey'⟩:∃x,(l'.getD k EV.z).1.mx=x:=⟨_,rfl⟩;obtain⟨hv',ev'⟩:∃x,(l'.getD k EV.z).2=x:=⟨_,rfl⟩;rw[ex,ey,ev,ex',ey',ev']at KE TW;clear ex ey ev ex' ey' ev' hc1 hc2 hc3 hd1 hd2 hd3 g NE hb;go_wp2_with fail
     refine wp_region_held_drew (S:=Two wr b (off+k * 3) b' (off'+k * 3) x y hv x' y' hv') hmx TW.out.drew (fun hS=>?_);refine tkd (i:=0) (d:=some 17) (v:=(.slice (some ⟨b,off,none⟩) len cap)) (hy:=.inl ⟨by rfl,?_⟩) (h:=?_)
     ·intro X hX;go_simp
     refine tkd (i:=1) (d:=some 18) (v:=(.int .i64 k)) (hy:=.inl ⟨by rfl,?_⟩) (h:=?_)
     ·intro X hX;go_simp
     refine tkd (i:=2) (d:=some 19) (v:=(.pointer (some ⟨b,off+k * 3,none⟩))) (hy:=.inl ⟨by rfl,?_⟩) (h:=?_)
     ·intro X hX;go_simp
     refine tkd (i:=3) (d:=some 20) (v:=(.agg #[.int .u64 x,.int .u64 y,hv])) (hy:=.inl ⟨by rfl,?_⟩) (h:=?_)
     ·intro X hX;obtain⟨d0,d1,d2,d3,d4,d5,d6⟩:=hX;go_simp
     refine tkd (i:=4) (d:=some 21) (v:=(.slice (some ⟨b',off',none⟩) len cap')) (hy:=.inl ⟨by rfl,?_⟩) (h:=?_)
     ·intro X hX;go_simp
     refine tkd (i:=5) (d:=some 22) (v:=(.int .i64 k)) (hy:=.inl ⟨by rfl,?_⟩) (h:=?_)
     ·intro X hX;go_simp
     refine tkd (i:=6) (d:=some 23) (v:=(.pointer (some ⟨b',off'+k * 3,none⟩))) (hy:=.inl ⟨by rfl,?_⟩) (h:=?_)
     ·intro X hX;go_simp
     refine tkd (i:=7) (d:=some 24) (v:=(.agg #[.int .u64 x',.int .u64 y',hv'])) (hy:=.inl ⟨by rfl,?_⟩) (h:=?_)
     ·intro X hX;obtain⟨d0,d1,d2,d3,d4,d5,d6⟩:=hX;go_simp
     refine wpAnyH_ready (rs:=[8]) (by kernel_rfl) (by simp) ?_;refine AllReadyH.cons (o:=_) rfl (fun K hK=>?_) AllReadyH.nil;go_simp
     refine(KE.out _ hS.bl).mono ?_;rintro e wq ⟨rfl,hb1⟩;have hS:=hS.below hb1;clear hb1;go_simp
     refine hK.out _ _ hS (fun _=>?_);clear hK K;refine tkd (i:=9) (d:=some 26) (v:=(.bool true)) (hy:=.inl ⟨by rfl,?_⟩) (h:=?_)
     ·intro X hX;go_simp
     refine wpAnyH_done (by kernel_rfl) ?_ _;have BB:=z7 (zf HB.out hS.bl);clear hS;go_wp2
     go_ret
     exact⟨by rw[BAD.out]<;>rfl,BB.out⟩
   ·have hk':k=len:=by omega
    have GOOD:=z7 (show sameV l l'=true from decide_eq_true (ents_ext (by rw[hl.out,hl'.out]) (fun i hi=>HN.out i (by rw[hl.out]at hi;omega))));subst hk';go_wp2
    go_ret
    exact⟨by rw[GOOD.out]<;>rfl,HB.out⟩
 ·have hn':¬(len:Int)=(len':Int):=by omega
  have BAD:=z7 (show sameV l l'=false from decide_eq_false fun e=>hn (by have:=congrArg List.length e;simp only[List.length_map]at this;rw[← hl.out,← hl'.out];exact this));go_enter Tryz.func41,Tryz.ntmps41
  go_wp2
  go_ret
  exact⟨by rw[BAD.out]<;>rfl,Below.refl _ _⟩
end Go.Proofs.YtbkkolfpegplgaaGreatDoor
namespace Go.Proofs.YtbkkolfpegplgaaGreatDoor
def Ent.z:Ent:=⟨0,0,[]⟩
def repN (es:List Ent) (k:Nat):Int:=if k=0 then(es.getD 0 Ent.z).rep else(es.getD k Ent.z).rep-(es.getD (k-1) Ent.z).rep-1
def numE (p:Int) (e:Ent):List Int:=p :: e.mx :: (e.hs.length:Int) :: dif e.hs 1 e.hs.length
def numsTo (es:List Ent):Nat→List Int
 | 0=>[(es.length:Int)]
 | k+1=>numsTo es k ++ numE (repN es k) (es.getD k Ent.z)
def numsV (es:List Ent):List Int:=numsTo es es.length
def joinB (xs:List Int):List Int:=xs.flatMap (vb 10)
theorem z21:joinB []=[]:=rfl
theorem zt(xs ys:List Int):joinB (xs ++ ys)=joinB xs ++ joinB ys:=by unfold joinB;rw[List.flatMap_append]
theorem zv(x:Int)(xs:List Int):joinB (x :: xs)=vb 10 x ++ joinB xs:=rfl
theorem z1m(xs:List Int)(x:Int):joinB (xs ++ [x])=joinB xs ++ vb 10 x:=by rw[zt,zv,z21,List.append_nil]
theorem z12(xs:List Int):(joinB xs).length≤10 * xs.length:=by
 induction xs with
 | nil=>simp[joinB]
 | cons x xs ih=>rw[zv,List.length_append];have:=z4a 10 x;simp only[List.length_cons];omega
theorem z2d(xs:List Int):xs.length≤(joinB xs).length:=by
 induction xs with
 | nil=>simp[joinB]
 | cons x xs ih=>rw[zv,List.length_append];have:=vb_len 10 x (by omega);simp only[List.length_cons];omega
theorem z2s(p:Int)(e:Ent):(numE p e).length=3+2 * e.hs.length:=by unfold numE;simp only[List.length_cons,z2k];omega
theorem numsTo_mono(es:List Ent):∀k j,(numsTo es k).length≤(numsTo es (k+j)).length
 | k,0=>Nat.le_refl _
 | k,j+1=>by
   have:=numsTo_mono es k j;rw[← Nat.add_assoc,show numsTo es (k+j+1)=numsTo es (k+j) ++ numE (repN es (k+j)) (es.getD (k+j) Ent.z)from rfl,List.length_append];omega
theorem numsTo_le(es:List Ent){k:Nat}(h:k≤es.length):(numsTo es k).length≤(numsV es).length:=by
 have:=numsTo_mono es k (es.length-k);rwa [show k+(es.length-k)=es.length by omega]at this
theorem z1i(l:List EV)(i:Nat):(l.map (·.1)).getD i Ent.z=(l.getD i EV.z).1:=by
 simp only[List.getD,List.getElem?_map]
 cases l[i]?<;>rfl
structure EntC (e:Ent):Prop where
 cor:Cor e.hs
 top:∀i,i<e.hs.length→Hi e.hs i<e.mx
structure CanV (es:List Ent):Prop where
 ents:∀i,i<es.length→EntC (es.getD i Ent.z)
 asc:∀i,0<i→i<es.length→(es.getD (i-1) Ent.z).rep<(es.getD i Ent.z).rep
theorem cor_apart{zs:List Iv}(h:Cor zs):ApTo zs 1 zs.length:=fun i hi=>⟨(h i hi).1,fun h0=>by have:=(h i hi).2 h0;omega⟩
theorem z15{es:List Ent}{i:Nat}(h:i<es.length):es.getD i Ent.z∈es:=by
 have e:es.getD i Ent.z=es[i]:=by simp[List.getD,List.getElem?_eq_getElem h]
 rw[e];exact List.getElem_mem _
theorem repN_word{es:List Ent}(hc:CanV es)(hw:∀e∈es,EntW e){k:Nat}(hk:k<es.length):Word (repN es k):=by
 unfold repN;by_cases h:k=0
 ·rw[if_pos h];subst h;exact(hw _ (z15 hk)).rep
 ·rw[if_neg h]
  have h1:=hc.asc k (by omega) hk;have h2:=(hw _ (z15 hk)).rep;have h3:=(hw _ (z15 (show k-1<es.length by omega))).rep;exact⟨by omega,by have:=h2.2;have:=h3.1;omega⟩
theorem hs_at{zs:List Iv}(h:∀z∈zs,Word z.1∧Word z.2){i:Nat}(hi:i<zs.length):Word (Lo zs i)∧Word (Hi zs i):=by
 have e:zs.getD i (0,0)=zs[i]:=by simp[List.getD,List.getElem?_eq_getElem hi]
 unfold Lo Hi;rw[e];exact h _ (List.getElem_mem _)
theorem dif_words{zs:List Iv}(hw:∀z∈zs,Word z.1∧Word z.2)(hA:ApTo zs 1 zs.length):∀k,k≤zs.length→∀x∈dif zs 1 k,Word x
 | 0,_=>by intro x hx;simp[dif]at hx
 | k+1,hk=>by
   intro x hx;unfold dif at hx;rcases List.mem_append.1 hx with hx | hx
   ·exact dif_words hw hA k (by omega) x hx
   ·have h1:=hs_at hw (show k<zs.length by omega)
    have h2:=hA k (by omega);simp at hx
    rcases hx with rfl | rfl
    ·unfold gapD
     by_cases e:k=0
     ·rw[if_pos e];subst e;exact h1.1
     ·rw[if_neg e]
      have h3:=hs_at hw (show k-1<zs.length by omega);have h4:=h2.2 (by omega);unfold Word at *;omega
    ·unfold Word at *;omega
theorem numE_words{p:Int}{e:Ent}(hp:Word p)(hw:EntW e)(hc:EntC e)(hn:e.hs.length≤1000000):∀x∈numE p e,Word x:=by
 intro x hx;unfold numE at hx;simp only[List.mem_cons]at hx;rcases hx with rfl | rfl | rfl | hx
 ·exact hp
 ·exact hw.mx
 ·exact⟨by omega,by omega⟩
 ·exact dif_words hw.hs (cor_apart hc.cor) _ (Nat.le_refl _) x hx
theorem numsTo_words{es:List Ent}(hc:CanV es)(hw:∀e∈es,EntW e)(hn:∀e∈es,e.hs.length≤1000000)(hl:es.length≤1000000):∀k,k≤es.length→∀x∈numsTo es k,Word x
 | 0,_=>by
   intro x hx;unfold numsTo at hx;simp at hx
   subst hx;exact⟨by omega,by omega⟩
 | k+1,hk=>by
   intro x hx;unfold numsTo at hx;rcases List.mem_append.1 hx with hx | hx
   ·exact numsTo_words hc hw hn hl k (by omega) x hx
   ·exact numE_words (repN_word hc hw (by omega)) (hw _ (z15 (by omega))) (hc.ents k (by omega)) (hn _ (z15 (by omega))) x hx
end Go.Proofs.YtbkkolfpegplgaaGreatDoor
namespace Go.Proofs.YtbkkolfpegplgaaGreatDoor
open Go Go.RowKit
def BoolPost (P:Prop) (e:Ending):Prop:=∃b,e=.returned (.bool b)∧(b=true→P)
theorem bool_f(P:Prop):BoolPost P (.returned (.bool false)):=⟨false,rfl,fun h=>by cases h⟩
theorem bool_t{P:Prop}(h:P):BoolPost P (.returned (.bool true)):=⟨true,rfl,fun _=>h⟩
def FewV (es:List Ent):Prop:=es.length≤20∧∀i,i<es.length→(es.getD i Ent.z).hs.length≤30
theorem few_any(a:Option Addr)(len cap:Nat)(l:List EV)(w:World)(h:EntsAt w a len l) :
  Calls Tryz.prog 70 #[.slice a len cap] w fun e w'=>BoolPost (FewV (l.map (·.1))) e∧Below w.heap.size w w':=by
 have H:=z7 h;have hl:=z7 h.length;have hm:=h.most;clear h;go_enter Tryz.func70,Tryz.ntmps70
 go_wp2
 go_loopw [3] (fun c wr=>∃k:Nat,k≤len∧c=.int .i64 k∧(∀i,i<k→(l.getD i EV.z).1.hs.length≤30)∧Below w.heap.size w wr)
  (fun c _=>len-(intOf c).toNat)
 case atStart=>exact⟨0,Nat.zero_le _,rfl,fun i hi=>absurd hi (by omega),Below.refl _ _⟩
 case round=>
  obtain⟨k,hk,rfl,hno,hb⟩:=hrel;have HN:=z7 hno;have HB:=z7 hb;clear hno;have i0:(0:Int)≤(k:Int):=by omega
  by_cases hlt:k<len
  ·obtain⟨b,off,rfl,hbl,hc1,hc2,hc3⟩:=(H.out.below hb).cells k hlt
   obtain⟨ha,hcap,eh,_,_⟩:=(H.out.holes _ (H.out.mem hlt)).at';have i1:(k:Int)<(len:Int):=by omega
   rw[eh]at hc3;obtain⟨n,en⟩:∃n,(l.getD k EV.z).1.hs.length=n:=⟨_,rfl⟩;rw[en]at hc3;have EN:=z7 en;clear en eh hc1 hc2 hb;by_cases hn:30<(n:Int)
   ·go_wp2
    go_ret
    exact⟨bool_f _,HB.out⟩
   ·have HS:=z7 (show ∀i,i<k+1→(l.getD i EV.z).1.hs.length≤30 from fun i hi=>by
     by_cases e:i=k
     ·subst e;rw[EN.out];omega
     ·exact HN.out i (by omega))
    go_wp2
    go_roundw
    case rel=>exact⟨k+1,by omega,by go_num,HS.out,HB.out⟩
    case measure=>simp[intOf];omega
  ·obtain rfl:k=len:=by omega
   have HS:=z7 (fun(h20:k≤20)=>show FewV (l.map (·.1))from⟨by rw[List.length_map,hl.out];exact h20,fun i hi=>by
    rw[z1i];exact HN.out i (by rw[List.length_map,hl.out]at hi;exact hi)⟩)
   by_cases h20:(k:Int)≤20
   ·go_wp2
    go_ret
    exact⟨bool_t (HS.out (by omega)),HB.out⟩
   ·go_wp2
    go_ret
    exact⟨bool_f _,HB.out⟩
/-! ### The reference's checks of an entry -/
def CodePost (P:Prop) (e:Ending):Prop:=∃c i:Int,e=.returned (.tuple #[.int .i64 c,.int .i64 i])∧(c=0→P)
def RightE (e:Ent):Prop:=Cor e.hs∧∀i,i<e.hs.length→Hi e.hs i≤e.mx
theorem r7check_any(p:EV)(w:World)(h:HolesAt w p) :
  Calls Tryz.prog 175 #[aggE p] w fun e w'=>CodePost (RightE p.1) e∧Below w.heap.size w w':=by
 obtain⟨⟨x,y,z⟩,hv⟩:=p;obtain⟨a,cap,e1,h1,h2⟩:=h.at';simp only at e1 h1 h2;subst e1;unfold aggE;simp only;have H:=z7 h1;have hmost:=h1.most;have KC:=z7 (fun W (hb:Below w.heap.size w W)=>check_any a z.length cap z W (h1.below hb));obtain⟨n,en⟩:∃n,z.length=n:=⟨_,rfl⟩;rw[en]at KC hmost H ⊢;have EN:=z7 en;clear h h1 h2 en;go_enter Tryz.func175,Tryz.ntmps175
 go_wp2_with fail
 refine(KC.out _ (zc (Below.refl _ _) _)).mono ?_;rintro e w1 ⟨⟨c,i,rfl,hor⟩,hb1⟩;have B1:=z7 (zf (zc (Below.refl w.heap.size w) _) hb1);have R1:w1.heap[w.heap.size]?=some (.cells #[.int .u64 x,.int .u64 y,.slice a n cap] 96 (0,0)):=(hb1.block _ (by simp)).trans (ze _ _ rfl);have HR:=z7 R1;clear hb1 R1;by_cases hc:c=0
 ·subst hc
  have HC:=z7 (show Cor z from by
   rcases hor with⟨_,h⟩ | ⟨h,_⟩
   ·exact h
   ·rcases h with h | h<;>cases h)
  clear hor;go_wp2
  go_loopw [6] (fun c wr=>∃k:Nat,k≤n∧c=.int .i64 k∧(∀i,i<k→Hi z i≤y)∧Below w1.heap.size w1 wr)
   (fun c _=>n-(intOf c).toNat)
  case atStart=>exact⟨0,Nat.zero_le _,rfl,fun i hi=>absurd hi (by omega),Below.refl _ _⟩
  case round=>
   obtain⟨k,hk,rfl,hno,hb⟩:=hrel;have HN:=z7 hno;have HB:=z7 (zf B1.out hb);have HB1:=z7 hb;have R2:=(hb.block _ (zh HR.out)).trans HR.out;have r1:wr.cell? ⟨w.heap.size,1,none⟩=some (.int .u64 y):=by simp[World.cell?,R2]
   have r2:wr.cell? ⟨w.heap.size,2,none⟩=some (.slice a n cap):=by simp[World.cell?,R2]
   clear hno R2;have i0:(0:Int)≤(k:Int):=by omega
   by_cases hlt:k<n
   ·obtain⟨b,off,rfl,hbl,hc1,hc2⟩:=(H.out.below HB.out).cells k hlt
    have i1:(k:Int)<(n:Int):=by omega
    obtain⟨hi,ehi⟩:∃hi,Hi z k=hi:=⟨_,rfl⟩;rw[ehi]at hc2;have EHI:=z7 ehi;clear ehi hc1 hb;by_cases hgt:y<hi
    ·go_wp2_with fail
     go_quiet (fail)
     go_wp2
     go_ret2
     exact⟨⟨4,k,rfl,fun h=>by cases h⟩,zm HB.out _⟩
    ·have HS:=z7 (show ∀i,i<k+1→Hi z i≤y from fun i hi'=>by
      by_cases e:i=k
      ·subst e;rw[EHI.out];omega
      ·exact HN.out i (by omega))
     go_wp2_with fail
     go_quiet (fail)
     go_wp2
     go_roundw
     case rel=>exact⟨k+1,by omega,by go_num,HS.out,below_drewN HB1.out _⟩
     case measure=>simp[intOf];omega
   ·obtain rfl:k=n:=by omega
    have OK:=z7 (show RightE ⟨x,y,z⟩from⟨HC.out,fun i hi=>HN.out i (by simp only at hi;rw[EN.out]at hi;exact hi)⟩);go_wp2
    go_ret2
    exact⟨⟨0,-1,rfl,fun _=>OK.out⟩,HB.out⟩
 ·have q:(c != 0)=true:=by simpa using hc
  have HC:=z7 hc;clear hor hc;go_wp2
  go_ret2
  exact⟨⟨c,i,rfl,fun h=>absurd h HC.out⟩,B1.out⟩
def AscV (es:List Ent):Prop:=∀i,0<i→i<es.length→(es.getD (i-1) Ent.z).rep<(es.getD i Ent.z).rep
def AscTo (l:List EV) (k:Nat):Prop:=∀i,0<i→i<k→(l.getD (i-1) EV.z).1.rep<(l.getD i EV.z).1.rep
theorem AscTo.succ{l:List EV}{k:Nat}(h:AscTo l k)(h1:0<k→(l.getD (k-1) EV.z).1.rep<(l.getD k EV.z).1.rep):AscTo l (k+1):=fun i h0 hi=>by
 by_cases e:i=k
 ·subst e;exact h1 h0
 ·exact h i h0 (by omega)
end Go.Proofs.YtbkkolfpegplgaaGreatDoor
namespace Go.Proofs.YtbkkolfpegplgaaGreatDoor
/-! ### Lists in strictly ascending order -/
theorem z27{α:Type}{lt:α→α→Prop}(irr:∀a,¬lt a a)(tr:∀{a b c},lt a b→lt b c→lt a c) :
  ∀{l l':List α},l.Pairwise lt→l'.Pairwise lt→(∀x,x∈l↔x∈l')→l=l'
 | [],[],_,_,_=>rfl
 | [],y :: ys,_,_,h=>absurd ((h y).2 (by simp)) (by simp)
 | x :: xs,[],_,_,h=>absurd ((h x).1 (by simp)) (by simp)
 | x :: xs,y :: ys,h1,h2,h=>by
   obtain⟨a1,a2⟩:=List.pairwise_cons.1 h1;obtain⟨b1,b2⟩:=List.pairwise_cons.1 h2;have e:x=y:=by
    rcases List.mem_cons.1 ((h x).1 (by simp))with g | g
    ·exact g
    ·rcases List.mem_cons.1 ((h y).2 (by simp))with g' | g'
     ·exact g'.symm
     ·exact absurd (tr (a1 y g') (b1 x g)) (irr x)
   subst e;congr 1
   refine z27 irr tr a2 b2 fun z=>?_;constructor
   ·intro hz
    rcases List.mem_cons.1 ((h z).1 (by simp[hz]))with g | g
    ·subst g;exact absurd (a1 z hz) (irr z)
    ·exact g
   ·intro hz
    rcases List.mem_cons.1 ((h z).2 (by simp[hz]))with g | g
    ·subst g;exact absurd (b1 z hz) (irr z)
    ·exact g
/-! ### Entries -/
def KnE (e:Ent) (c:Int):Prop:=0≤c∧c≤e.mx∧¬InL e.hs c
instance (e:Ent) (c:Int):Decidable (KnE e c):=by unfold KnE;infer_instance
theorem EntC.lt{e:Ent}(h:EntC e){c:Int}(hc:InL e.hs c):c<e.mx:=by
 obtain⟨i,hi,h1,h2⟩:=z2l.1 hc;have:=h.2 i hi;omega
theorem EntC.top'{e:Ent}(h:EntC e)(hw:EntW e):KnE e e.mx:=⟨hw.mx.1,Int.le_refl _,fun hc=>by have:=h.lt hc;omega⟩
theorem EntW.nonneg{e:Ent}(hw:EntW e){c:Int}(hc:InL e.hs c):0≤c:=by
 obtain⟨z,hz,h1,_⟩:=hc;have:=(hw.hs z hz).1.1;omega
theorem ent_unique{e e':Ent}(h:EntC e)(h':EntC e')(hw:EntW e)(hw':EntW e')(hr:e.rep=e'.rep)(hk:∀c,KnE e c↔KnE e' c):e=e':=by
 have h1:=((hk e.mx).1 (h.top' hw)).2.1;have h2:=((hk e'.mx).2 (h'.top' hw')).2.1;have hm:e.mx=e'.mx:=by omega
 have hs:e.hs=e'.hs:=by
  refine cor_unique h.1 h'.1 fun x=>?_;constructor
  ·intro hx
   have a:=hw.nonneg hx;have b:=h.lt hx;by_cases g:InL e'.hs x
   ·exact g
   ·exact absurd hx ((hk x).2 ⟨a,by omega,g⟩).2.2
  ·intro hx
   have a:=hw'.nonneg hx;have b:=h'.lt hx;by_cases g:InL e.hs x
   ·exact g
   ·exact absurd hx ((hk x).1 ⟨a,by omega,g⟩).2.2
 obtain⟨r,m,s⟩:=e;obtain⟨r',m',s'⟩:=e';simp only at hr hm hs;subst hr hm hs;rfl
/-! ### Vectors -/
def KnV (es:List Ent) (r c:Int):Prop:=∃e∈es,e.rep=r∧KnE e c
instance (es:List Ent) (r c:Int):Decidable (KnV es r c):=by unfold KnV;infer_instance
theorem z47(r c:Int):¬KnV [] r c:=fun⟨_,h,_⟩=>by cases h
theorem knV_cons{e:Ent}{es:List Ent}{r c:Int}:KnV (e :: es) r c↔(e.rep=r∧KnE e c)∨KnV es r c:=by
 constructor
 ·rintro⟨y,hy,h⟩
  rcases List.mem_cons.1 hy with rfl | hy
  ·exact .inl h
  ·exact .inr ⟨y,hy,h⟩
 ·rintro(h | ⟨y,hy,h⟩)
  ·exact⟨e,by simp,h⟩
  ·exact⟨y,by simp[hy],h⟩
theorem knV_snoc{e:Ent}{es:List Ent}{r c:Int}:KnV (es ++ [e]) r c↔KnV es r c∨(e.rep=r∧KnE e c):=by
 constructor
 ·rintro⟨y,hy,h⟩
  rcases List.mem_append.1 hy with hy | hy
  ·exact .inl ⟨y,hy,h⟩
  ·obtain rfl:y=e:=by simpa using hy
   exact .inr h
 ·rintro(⟨y,hy,h⟩ | h)
  ·exact⟨y,by simp[hy],h⟩
  ·exact⟨e,by simp,h⟩
structure CanW (es:List Ent):Prop where
 can:∀e∈es,EntC e
 words:∀e∈es,EntW e
 asc:es.Pairwise (fun a b=>a.rep<b.rep)
theorem z4x(e:Ent)(es:List Ent)(i:Nat):(e :: es).getD (i+1) Ent.z=es.getD i Ent.z:=rfl
theorem asc_pair:∀{es:List Ent},(∀i,0<i→i<es.length→(es.getD (i-1) Ent.z).rep<(es.getD i Ent.z).rep)→es.Pairwise (fun a b=>a.rep<b.rep)
 | [],_=>List.Pairwise.nil
 | [e],_=>by simp
 | e :: f :: es,h=>by
   have ih:(f :: es).Pairwise (fun a b=>a.rep<b.rep):=asc_pair fun i h0 hi=>by
    have:=h (i+1) (by omega) (by simpa using hi);obtain⟨j,rfl⟩:∃j,i=j+1:=⟨i-1,by omega⟩;simpa[z4x]using this
   refine List.pairwise_cons.2 ⟨fun b hb=>?_,ih⟩;have h1:e.rep<f.rep:=by simpa[z4x]using h 1 (by omega) (by simp)
   rcases List.mem_cons.1 hb with rfl | hb
   ·exact h1
   ·have:=(List.pairwise_cons.1 ih).1 b hb
    omega
theorem pair_asc:∀{es:List Ent},es.Pairwise (fun a b=>a.rep<b.rep)→∀i,0<i→i<es.length→(es.getD (i-1) Ent.z).rep<(es.getD i Ent.z).rep
 | [],_,_,_,hi=>absurd hi (by simp)
 | e :: es,h,i,h0,hi=>by
   obtain⟨h1,h2⟩:=List.pairwise_cons.1 h;obtain⟨j,rfl⟩:∃j,i=j+1:=⟨i-1,by omega⟩;rw[Nat.add_sub_cancel,z4x];have hj:j<es.length:=by simpa using hi
   cases j with
   | zero=>exact h1 _ (z15 hj)
   | succ k=>
     rw[z4x];have:=pair_asc h2 (k+1) (by omega) hj;rwa [Nat.add_sub_cancel]at this
theorem CanW.v{es:List Ent}(h:CanW es):CanV es:=⟨fun _ hi=>h.can _ (z15 hi),fun i h0 hi=>pair_asc h.asc i h0 hi⟩
theorem CanW.of{es:List Ent}(h:CanV es)(hw:∀e∈es,EntW e):CanW es:=
 ⟨fun e he=>by
  obtain⟨i,hi,e2⟩:=List.mem_iff_getElem.1 he;have:=h.ents i hi;have e3:es.getD i Ent.z=e:=by simp[List.getD,List.getElem?_eq_getElem hi,e2]
  rwa [e3]at this,hw,asc_pair h.asc⟩
theorem CanW.nil:CanW []:=⟨by simp,by simp,List.Pairwise.nil⟩
theorem CanW.snoc{es:List Ent}{e:Ent}(h:CanW es)(hc:EntC e)(hw:EntW e)(hl:∀f∈es,f.rep<e.rep):CanW (es ++ [e]):=
 ⟨fun f hf=>by
  rcases List.mem_append.1 hf with hf | hf
  ·exact h.can f hf
  ·obtain rfl:f=e:=by simpa using hf
   exact hc,fun f hf=>by
  rcases List.mem_append.1 hf with hf | hf
  ·exact h.words f hf
  ·obtain rfl:f=e:=by simpa using hf
   exact hw,List.pairwise_append.2 ⟨h.asc,by simp,fun a ha b hb=>by
    obtain rfl:b=e:=by simpa using hb
    exact hl a ha⟩⟩
theorem CanW.known{es:List Ent}(h:CanW es){e:Ent}(he:e∈es){c:Int}:KnV es e.rep c↔KnE e c:=by
 constructor
 ·rintro⟨f,hf,hr,hk⟩
  have:f=e:=by
   have ha:=h.asc;clear hk;induction es with
   | nil=>cases he
   | cons x xs ih=>
     obtain⟨h1,h2⟩:=List.pairwise_cons.1 ha;rcases List.mem_cons.1 he with rfl | he'
     ·rcases List.mem_cons.1 hf with rfl | hf'
      ·rfl
      ·have:=h1 f hf';omega
     ·rcases List.mem_cons.1 hf with rfl | hf'
      ·have:=h1 e he';omega
      ·exact ih ⟨fun y hy=>h.can y (by simp[hy]),fun y hy=>h.words y (by simp[hy]),h2⟩ he' hf' h2
  rw[← this];exact hk
 ·exact fun hk=>⟨e,he,rfl,hk⟩
theorem vec_unique{es es':List Ent}(h:CanW es)(h':CanW es')(hk:∀r c,KnV es r c↔KnV es' r c):es=es':=by
 refine z27 (lt:=fun a b:Ent=>a.rep<b.rep) (fun a=>by omega) (fun {a b c} h1 h2=>by omega) h.asc h'.asc ?_;have main:∀{xs ys:List Ent},CanW xs→CanW ys→(∀r c,KnV xs r c↔KnV ys r c)→∀e,e∈xs→e∈ys:=by
  intro xs ys hx hy hk e he;obtain⟨f,hf,hr,hm⟩:=(hk e.rep e.mx).1 ⟨e,he,rfl,(hx.can e he).top' (hx.words e he)⟩;have:e=f:=ent_unique (hx.can e he) (hy.can f hf) (hx.words e he) (hy.words f hf) hr.symm fun c=>by
   rw[← hx.known he,← hy.known hf,hk,hr]
  rw[this];exact hf
 exact fun e=>⟨main h h' hk e,main h' h (fun r c=>(hk r c).symm) e⟩
theorem CanW.ne_nil{es:List Ent}(h:CanW es)(hn:es≠[]):∃r c,KnV es r c:=by
 cases es with
 | nil=>exact absurd rfl hn
 | cons e es=>exact⟨e.rep,e.mx,e,by simp,rfl,(h.can e (by simp)).top' (h.words e (by simp))⟩
/-! ### The order of vectors -/
def cmpL:List Int→List Int→Int
 | [],[]=>0
 | [],_ :: _=>-1
 | _ :: _,[]=>1
 | x :: xs,y :: ys=>if x<y then -1 else if y<x then 1 else cmpL xs ys
theorem cmpL_self:∀xs,cmpL xs xs=0
 | []=>rfl
 | x :: xs=>by unfold cmpL;rw[if_neg (by omega),if_neg (by omega)];exact cmpL_self xs
theorem cmpL_eq:∀{xs ys},cmpL xs ys=0→xs=ys
 | [],[],_=>rfl
 | [],_ :: _,h=>by cases h
 | _ :: _,[],h=>by cases h
 | x :: xs,y :: ys,h=>by
   unfold cmpL at h;by_cases h1:x<y
   ·rw[if_pos h1]at h;cases h
   ·rw[if_neg h1]at h
    by_cases h2:y<x
    ·rw[if_pos h2]at h;cases h
    ·rw[if_neg h2]at h
     have e:x=y:=by omega
     rw[e,cmpL_eq h]
theorem cmpL_swap:∀xs ys,cmpL ys xs =-cmpL xs ys
 | [],[]=>rfl
 | [],_ :: _=>rfl
 | _ :: _,[]=>rfl
 | x :: xs,y :: ys=>by
   unfold cmpL;by_cases h1:x<y
   ·rw[if_neg (show ¬y<x by omega),if_pos h1,if_pos h1];rfl
   ·by_cases h2:y<x
    ·rw[if_pos h2,if_neg h1,if_pos h2]
    ·rw[if_neg h2,if_neg h1,if_neg h1,if_neg h2];exact cmpL_swap xs ys
theorem cmpL_or(xs ys:List Int):cmpL xs ys = -1∨cmpL xs ys=0∨cmpL xs ys=1:=by
 induction xs generalizing ys with
 | nil=>cases ys<;>simp[cmpL]
 | cons x xs ih=>
   cases ys with
   | nil=>simp[cmpL]
   | cons y ys=>
     unfold cmpL;split
     ·simp
     ·split
      ·simp
      ·exact ih ys
theorem cmpL_trans:∀{xs ys zs:List Int},cmpL xs ys<0→cmpL ys zs<0→cmpL xs zs<0
 | [],[],_,h,_=>by cases h
 | [],_ :: _,[],_,h=>by cases h
 | [],_ :: _,_ :: _,_,_=>by show(-1:Int)<0;decide
 | _ :: _,[],_,h,_=>by cases h
 | _ :: _,_ :: _,[],_,h=>by cases h
 | x :: xs,y :: ys,z :: zs,h,h'=>by
   unfold cmpL at h h' ⊢;by_cases a:x<y
   ·by_cases b:y<z
    ·rw[if_pos (by omega)];decide
    ·rw[if_neg b]at h'
     by_cases c:z<y
     ·rw[if_pos c]at h';omega
     ·rw[if_pos (by omega)];decide
   ·rw[if_neg a]at h
    by_cases a':y<x
    ·rw[if_pos a']at h;omega
    ·rw[if_neg a']at h
     by_cases b:y<z
     ·rw[if_pos (by omega)];decide
     ·rw[if_neg b]at h'
      by_cases c:z<y
      ·rw[if_pos c]at h';omega
      ·rw[if_neg c]at h'
       rw[if_neg (by omega),if_neg (by omega)];exact cmpL_trans h h'
def absE (e:Ent):List Int:=[e.rep,e.mx,(e.hs.length:Int)] ++ e.hs.flatMap (fun z=>[z.1,z.2])
def absV (es:List Ent):List Int:=(es.length:Int) :: es.flatMap absE
theorem flat_inj:∀{zs ys:List Iv} {a b:List Int},zs.length=ys.length→zs.flatMap (fun z=>[z.1,z.2]) ++ a=ys.flatMap (fun z=>[z.1,z.2]) ++ b→zs=ys∧a=b
 | [],[],_,_,_,h=>⟨rfl,h⟩
 | [],_ :: _,_,_,h,_=>by cases h
 | _ :: _,[],_,_,h,_=>by cases h
 | z :: zs,y :: ys,a,b,hl,h=>by
   simp only[List.flatMap_cons,List.cons_append,List.nil_append]at h;injection h with h1 h
   injection h with h2 h
   obtain⟨e1,e2⟩:=flat_inj (by simpa using hl) h;exact⟨by rw[Prod.ext h1 h2,e1],e2⟩
theorem absE_inj:∀{es fs:List Ent},es.length=fs.length→es.flatMap absE=fs.flatMap absE→es=fs
 | [],[],_,_=>rfl
 | [],_ :: _,h,_=>by cases h
 | _ :: _,[],h,_=>by cases h
 | e :: es,f :: fs,hl,h=>by
   simp only[List.flatMap_cons,absE,List.cons_append,List.nil_append]at h;injection h with h1 h
   injection h with h2 h
   injection h with h3 h
   obtain⟨e1,e2⟩:=flat_inj (by omega) h;obtain⟨r,m,s⟩:=e;obtain⟨r',m',s'⟩:=f;simp only at h1 h2 e1;subst h1 h2 e1;rw[absE_inj (by simpa using hl) e2]
theorem absV_inj{es fs:List Ent}(h:absV es=absV fs):es=fs:=by
 unfold absV at h;injection h with h1 h2
 exact absE_inj (by omega) h2
def VLt (a b:List Ent):Prop:=cmpL (absV a) (absV b)<0
theorem vlt_irr(a:List Ent):¬VLt a a:=by unfold VLt;rw[cmpL_self];omega
theorem z3q{a b c:List Ent}(h:VLt a b)(h':VLt b c):VLt a c:=cmpL_trans h h'
/-! ### Knowledge -/
structure Frag where
 items:List Iv
 vec:List Ent
def KnK (k:List Frag) (x r c:Int):Prop:=∃f∈k,InL f.items x∧KnV f.vec r c
theorem knK_nil(x r c:Int):¬KnK [] x r c:=fun⟨_,h,_⟩=>by cases h
structure CanK (k:List Frag):Prop where
 cor:∀f∈k,Cor f.items
 some:∀f∈k,f.items≠[]
 vec:∀f∈k,CanW f.vec
 vne:∀f∈k,f.vec≠[]
 asc:k.Pairwise (fun f g=>VLt f.vec g.vec)
 apart:k.Pairwise (fun f g=>∀x,¬(InL f.items x∧InL g.items x))
theorem CanK.tail{f:Frag}{k:List Frag}(h:CanK (f :: k)):CanK k:=
 ⟨fun g hg=>h.cor g (by simp[hg]),fun g hg=>h.some g (by simp[hg]),fun g hg=>h.vec g (by simp[hg]),fun g hg=>h.vne g (by simp[hg]),(List.pairwise_cons.1 h.asc).2,(List.pairwise_cons.1 h.apart).2⟩
theorem CanK.one{k:List Frag}(h:CanK k){f g:Frag}(hf:f∈k)(hg:g∈k){x:Int}(h1:InL f.items x)(h2:InL g.items x):f=g:=by
 induction k with
 | nil=>cases hf
 | cons y ys ih=>
   have ha:=(List.pairwise_cons.1 h.apart).1;rcases List.mem_cons.1 hf with rfl | hf'
   ·rcases List.mem_cons.1 hg with rfl | hg'
    ·rfl
    ·exact absurd ⟨h1,h2⟩ (ha g hg' x)
   ·rcases List.mem_cons.1 hg with rfl | hg'
    ·exact absurd ⟨h2,h1⟩ (ha f hf' x)
    ·exact ih h.tail hf' hg'
theorem CanK.at{k:List Frag}(h:CanK k){f:Frag}(hf:f∈k){x:Int}(hx:InL f.items x)(r c:Int):KnK k x r c↔KnV f.vec r c:=by
 constructor
 ·rintro⟨g,hg,h1,h2⟩
  rw[← h.one hg hf h1 hx];exact h2
 ·exact fun g=>⟨f,hf,hx,g⟩
theorem cor_first{zs:List Iv}(h:Cor zs)(hn:zs≠[]):∃x,InL zs x:=by
 cases zs with
 | nil=>exact absurd rfl hn
 | cons z zs=>exact⟨z.1,zu.2 (.inl ⟨Int.le_refl _,(h 0 (by simp)).1⟩)⟩
theorem know_unique{k k':List Frag}(h:CanK k)(h':CanK k')(hk:∀x r c,KnK k x r c↔KnK k' x r c):k=k':=by
 have vecs:∀{a b:List Frag},CanK a→CanK b→(∀x r c,KnK a x r c↔KnK b x r c)→∀{f},f∈a→∀{x},InL f.items x→∃g∈b,InL g.items x∧g.vec=f.vec:=by
  intro a b ha hb hk f hf x hx;obtain⟨r,c,hrc⟩:=(ha.vec f hf).ne_nil (ha.vne f hf);obtain⟨g,hg,hgx,_⟩:=(hk x r c).1 ⟨f,hf,hx,hrc⟩;refine⟨g,hg,hgx,vec_unique (hb.vec g hg) (ha.vec f hf) fun r c=>?_⟩;rw[← hb.at hg hgx,← hk,ha.at hf hx]
 have same:∀{a b:List Frag},CanK a→CanK b→(∀x r c,KnK a x r c↔KnK b x r c)→∀f,f∈a→f∈b:=by
  intro a b ha hb hk f hf;obtain⟨x,hx⟩:=cor_first (ha.cor f hf) (ha.some f hf);obtain⟨g,hg,hgx,hv⟩:=vecs ha hb hk hf hx;have uniq:∀{c:List Frag},CanK c→∀{p q},p∈c→q∈c→p.vec=q.vec→p=q:=by
   intro c hc p q hp hq hpq;induction c with
   | nil=>cases hp
   | cons y ys ih=>
     have ha:=(List.pairwise_cons.1 hc.asc).1;rcases List.mem_cons.1 hp with rfl | hp'
     ·rcases List.mem_cons.1 hq with rfl | hq'
      ·rfl
      ·have:=ha q hq';rw[hpq]at this;exact absurd this (vlt_irr _)
     ·rcases List.mem_cons.1 hq with rfl | hq'
      ·have:=ha p hp';rw[hpq]at this;exact absurd this (vlt_irr _)
      ·exact ih hc.tail hp' hq'
  have hi:f.items=g.items:=by
   refine cor_unique (ha.cor f hf) (hb.cor g hg) fun y=>?_;constructor
   ·intro hy
    obtain⟨g',hg',hgy,hv'⟩:=vecs ha hb hk hf hy;rw[uniq hb hg hg' (hv.trans hv'.symm)];exact hgy
   ·intro hy
    obtain⟨f',hf',hfy,hv'⟩:=vecs hb ha (fun x r c=>(hk x r c).symm) hg hy;rw[uniq ha hf hf' (hv.symm.trans hv'.symm)];exact hfy
  obtain⟨fi,fv⟩:=f;obtain⟨gi,gv⟩:=g;simp only at hi hv;subst hi hv;exact hg
 exact z27 (lt:=fun f g:Frag=>VLt f.vec g.vec) (fun a=>vlt_irr _) (fun h1 h2=>z3q h1 h2) h.asc h'.asc fun f=>⟨same h h' hk f,same h' h (fun x r c=>(hk x r c).symm) f⟩
end Go.Proofs.YtbkkolfpegplgaaGreatDoor
namespace Go.Proofs.YtbkkolfpegplgaaGreatDoor
open Go Go.RowKit
theorem ck2_ok(q:Nat)(a:Option Addr)(n cap:Nat)(zs:List Iv)(w:World)(c2:w.cell? ⟨q,2,none⟩=some (.slice a n cap))(h:Prs w a n zs)(hC:Cor zs) :
  Calls Tryz.prog 199 #[.pointer (some ⟨q,0,none⟩)] w fun e w'=>e=.returned .nilIface∧Below w.heap.size w w':=by
 have K:=z7 (rgcheck_ok a n cap zs w h hC);clear h hC;go_enter Tryz.func199,Tryz.ntmps199
 go_wp2_with fail
 refine K.out.mono ?_;rintro e w1 ⟨rfl,hb⟩;go_wp2
 go_ret
 exact⟨rfl,hb⟩
theorem ck1_ok(q:Nat)(a:Option Addr)(n cap:Nat)(zs:List Iv)(y:Int)(w:World)(hq:q<w.heap.size)(c1:w.cell? ⟨q,1,none⟩=some (.int .u64 y))(c2:w.cell? ⟨q,2,none⟩=some (.slice a n cap))(h:Prs w a n zs)(hT:∀i,i<n→Hi zs i≤y) :
  Calls Tryz.prog 198 #[.pointer (some ⟨q,0,none⟩)] w fun e w'=>e=.returned .nilIface∧Below w.heap.size w w':=by
 have hm:=h.most;have H:=z7 h;have HT:=z7 hT;have C1:=z7 c1;clear h hT c1;go_enter Tryz.func198,Tryz.ntmps198
 go_wp2
 go_loopw [7] (fun c wr=>∃k:Nat,k≤n∧c=.int .i64 k∧Below w.heap.size w wr) (fun c _=>n-(intOf c).toNat)
 case atStart=>exact⟨0,Nat.zero_le _,rfl,Below.refl _ _⟩
 case round=>
  obtain⟨k,hk,rfl,hb⟩:=hrel;have HB:=z7 hb;have i0:(0:Int)≤(k:Int):=by omega
  by_cases hlt:k<n
  ·obtain⟨b,off,rfl,hbl,hc1,hc2⟩:=(H.out.below hb).cells k hlt
   have ht:=HT.out k hlt;have i1:(k:Int)<(n:Int):=by omega
   obtain⟨hi,ehi⟩:∃hi,Hi zs k=hi:=⟨_,rfl⟩;obtain⟨lo,elo⟩:∃lo,Lo zs k=lo:=⟨_,rfl⟩;rw[ehi]at hc2 ht;rw[elo]at hc1;have ht':¬y<hi:=by omega
   have d1:wr.cell? ⟨q,1,none⟩=some (.int .u64 y):=zg hb hq C1.out;have hsz:=hb.size;have hq1:q≠wr.heap.size:=by omega
   have d1':(wr.alloc (.cells #[.int .u64 lo,.int .u64 hi] 123)).cell? ⟨q,1,none⟩=some (.int .u64 y):=zg (zc (Below.refl _ _) _) (by omega) d1;clear ehi elo ht hb;go_wp2
   go_roundw
   case rel=>exact⟨k+1,by omega,by go_num,zc HB.out _⟩
   case measure=>simp[intOf];omega
  ·obtain rfl:k=n:=by omega
   go_wp2
   go_ret
   exact⟨rfl,HB.out⟩
theorem encheck_ok(p:EV)(w:World)(h:HolesAt w p)(hR:RightE p.1) :
  Calls Tryz.prog 145 #[aggE p] w fun e w'=>e=.returned .nilIface∧Below w.heap.size w w':=by
 obtain⟨⟨x,y,z⟩,hv⟩:=p;obtain⟨a,cap,e1,h1,h2⟩:=h.at';simp only at e1 h1 h2;subst e1;unfold aggE;simp only;have H:=z7 h1;have RC:=z7 hR;obtain⟨n,en⟩:∃n,z.length=n:=⟨_,rfl⟩;rw[en]at H ⊢;have EN:=z7 en;clear h h1 h2 hR en;go_enter Tryz.func145,Tryz.ntmps145
 go_wp2_with fail
 obtain⟨W2,eW⟩:∃W,(w.alloc (.cells #[.int .u64 x,.int .u64 y,.slice a n cap] 96)).alloc (.cells #[.func (.func 199) #[] #[.pointer (some ⟨w.heap.size,0,none⟩)],.func (.func 198) #[] #[.pointer (some ⟨w.heap.size,0,none⟩)]] 258)=W:=⟨_,rfl⟩;have Q0:W2.heap[w.heap.size]?=some (.cells #[.int .u64 x,.int .u64 y,.slice a n cap] 96 (0,0)):=by rw[← eW];exact zk _ _ (by simp) (ze _ _ rfl)
 have F0:W2.heap[w.heap.size+1]?=some (.cells #[.func (.func 199) #[] #[.pointer (some ⟨w.heap.size,0,none⟩)],.func (.func 198) #[] #[.pointer (some ⟨w.heap.size,0,none⟩)]] 258 (0,0)):=by rw[← eW];exact ze _ _ (by simp)
 have B0:Hid (Below w.heap.size w W2):=z7 (by rw[← eW];exact zc (zc (Below.refl _ _) _) _);have QQ:=z7 Q0;have FF:=z7 F0;rw[eW];clear eW Q0 F0;go_loopw [12] (fun c wr=>∃k:Nat,k≤2∧c=.int .i64 k∧Below W2.heap.size W2 wr) (fun c _=>2-(intOf c).toNat)
 case atStart=>exact⟨0,by omega,rfl,Below.refl _ _⟩
 case round=>
  obtain⟨k,hk,rfl,hb⟩:=hrel;have HB:=z7 hb;have Q1:=(hb.block _ (zh QQ.out)).trans QQ.out;have F1:=(hb.block _ (zh FF.out)).trans FF.out;have c1:wr.cell? ⟨w.heap.size,1,none⟩=some (.int .u64 y):=by simp[World.cell?,Q1]
  have c2:wr.cell? ⟨w.heap.size,2,none⟩=some (.slice a n cap):=by simp[World.cell?,Q1]
  have f0:wr.cell? ⟨w.heap.size+1,0,none⟩=some (.func (.func 199) #[] #[.pointer (some ⟨w.heap.size,0,none⟩)]):=by simp[World.cell?,F1]
  have f1:wr.cell? ⟨w.heap.size+1,1,none⟩=some (.func (.func 198) #[] #[.pointer (some ⟨w.heap.size,0,none⟩)]):=by simp[World.cell?,F1]
  have hql:=z7 (zh Q1);have hE2:∀args W,(callFunc 199 args).run Tryz.prog W=.ok (.enter 199 args) W:=fun _ _=>by kernel_rfl
  have hE1:∀args W,(callFunc 198 args).run Tryz.prog W=.ok (.enter 198 args) W:=fun _ _=>by kernel_rfl
  have HW:=z7 (H.out.below (zf B0.out hb));clear Q1 F1 hb;rcases(show k=0∨k=1∨k=2 by omega)with rfl | rfl | rfl
  ·have K:=z7 (ck2_ok w.heap.size a n cap z wr c2 HW.out RC.out.1)
   go_wp2_with fail
   refine K.out.mono ?_;rintro e w1 ⟨rfl,hb1⟩;have B1:=z7 (zf HB.out hb1);clear hb1;go_wp2
   go_roundw
   case rel=>exact⟨1,by omega,by go_num,B1.out⟩
   case measure=>simp[intOf]
  ·have K:=z7 (ck1_ok w.heap.size a n cap z y wr hql.out c1 c2 HW.out (fun i hi=>RC.out.2 i (by rw[EN.out];exact hi)))
   go_wp2_with fail
   refine K.out.mono ?_;rintro e w1 ⟨rfl,hb1⟩;have B1:=z7 (zf HB.out hb1);clear hb1;go_wp2
   go_roundw
   case rel=>exact⟨2,by omega,by go_num,B1.out⟩
   case measure=>simp[intOf]
  ·go_wp2
   go_ret
   exact⟨rfl,zf B0.out HB.out⟩
/-! ### A number behind all intervals is in none -/
theorem isnan_ok(x:Int)(w:World):Calls Tryz.prog 150 #[.int .u64 x] w fun e w'=>e=.returned (.bool false)∧w=w':=by
 have q:(x != x)=false:=by simp
 go_enter Tryz.func150,Tryz.ntmps150
 go_wp2
 go_ret
 exact⟨rfl,rfl⟩
theorem cmp_gt(x y:Int)(h:y<x)(w:World):Calls Tryz.prog 92 #[.int .u64 x,.int .u64 y] w fun e w'=>e=.returned (.int .i64 1)∧w=w':=by
 have h2:¬x<y:=by omega
 go_enter Tryz.func92,Tryz.ntmps92
 go_wp2_with fail
 refine(isnan_ok x _).mono ?_;rintro e w1 ⟨rfl,rfl⟩;go_wp2_with fail
 refine(isnan_ok y _).mono ?_;rintro e w1 ⟨rfl,rfl⟩;go_wp2
 go_ret
 exact⟨rfl,rfl⟩
theorem key_gt(q x y:Int)(a:Option Addr)(n cap:Nat)(h:q<x)(w:World):Calls Tryz.prog 146 #[.int .u64 q,.agg #[.int .u64 x,.int .u64 y,.slice a n cap]] w fun e w'=>e=.returned (.int .i64 1)∧Below w.heap.size w w':=by
 have K:=z7 (fun W=>cmp_gt x q h W);clear h;go_enter Tryz.func146,Tryz.ntmps146
 go_wp2_with fail
 refine(K.out _).mono ?_;rintro e w1 ⟨rfl,rfl⟩;go_wp2
 go_ret
 exact⟨rfl,zc (Below.refl _ _) _⟩
structure TwoK (W0:World) (b o c:Nat) (q x y:Int) (hv:Value) (W:World):Prop where
 a0:W.cell? ⟨b,o,none⟩=some (.int .u64 q)
 b0:W.cell? ⟨c,0,none⟩=some (.int .u64 x)
 b1:W.cell? ⟨c,1,none⟩=some (.int .u64 y)
 b2:W.cell? ⟨c,2,none⟩=some hv
 bl:Below W0.heap.size W0 W
theorem TwoK.below{W0 W W':World}{b o c:Nat}{q x y:Int}{hv:Value}(h:TwoK W0 b o c q x y hv W)(hb:Below W.heap.size W W'):TwoK W0 b o c q x y hv W':=
 ⟨z1h hb h.a0,z1h hb h.b0,z1h hb h.b1,z1h hb h.b2,zf h.bl hb⟩
theorem TwoK.drew{W0 W:World}{b o c:Nat}{q x y:Int}{hv:Value}(h:TwoK W0 b o c q x y hv W):TwoK W0 b o c q x y hv W.drew:=h.below (z1q (Below.refl _ _))
def RightV (es:List Ent):Prop:=(∀i,i<es.length→RightE (es.getD i Ent.z))∧∀i,0<i→i<es.length→(es.getD (i-1) Ent.z).rep<(es.getD i Ent.z).rep
theorem CanV.right{es:List Ent}(h:CanV es):RightV es:=⟨fun i hi=>⟨(h.ents i hi).cor,fun j hj=>by have:=(h.ents i hi).top j hj;omega⟩,h.asc⟩
theorem vcheck_right(a:Option Addr)(len cap:Nat)(l:List EV)(w:World)(h:EntsAt w a len l)(hC:RightV (l.map (·.1))) :
  Calls Tryz.prog 87 #[.slice a len cap] w fun e w'=>e=.returned .nilIface∧Below w.heap.size w w':=by
 have hmx:Tryz.prog.follows .mixedOrders=true:=by kernel_rfl
 have hm:=h.most;have hl:=z7 h.length;have H:=z7 h;have CE:=z7 (fun k (hk:k<len)=>show RightE (l.getD k EV.z).1 from by rw[← z1i];exact hC.1 k (by rw[List.length_map,hl.out];exact hk));have CA:=z7 (fun k (h0:0<k) (hk:k<len)=>show(l.getD (k-1) EV.z).1.rep<(l.getD k EV.z).1.rep from by rw[← z1i,← z1i];exact hC.2 k h0 (by rw[List.length_map,hl.out];exact hk));clear h hC;go_enter Tryz.func87,Tryz.ntmps87
 go_wp2
 go_loopw [8] (fun c wr=>∃k:Nat,k≤len∧c=.int .i64 k∧Below w.heap.size w wr) (fun c _=>len-(intOf c).toNat)
 case atStart=>exact⟨0,Nat.zero_le _,rfl,Below.refl _ _⟩
 case round=>
  obtain⟨k,hk,rfl,hb⟩:=hrel;have HB:=z7 hb;have i0:(0:Int)≤(k:Int):=by omega
  by_cases hlt:k<len
  ·obtain⟨b,off,rfl,hbl,hc1,hc2,hc3⟩:=(H.out.below hb).cells k hlt
   have hCe:=CE.out k hlt;have i1:(k:Int)<(len:Int):=by omega
   have KE:=z7 (fun W (hW:Below wr.heap.size wr W)=>encheck_ok (l.getD k EV.z) W (((H.out.below hb).below hW).holes _ (H.out.mem hlt)) hCe);obtain⟨ha,hcap,ev,_,_⟩:=((H.out.holes _ (H.out.mem hlt))).at';obtain⟨n,en⟩:∃n,(l.getD k EV.z).1.hs.length=n:=⟨_,rfl⟩;rw[en]at ev;unfold aggE at KE;have CA':=z7 (fun h0=>CA.out k h0 hlt);obtain⟨x,ex⟩:∃x,(l.getD k EV.z).1.rep=x:=⟨_,rfl⟩;obtain⟨y,ey⟩:∃x,(l.getD k EV.z).1.mx=x:=⟨_,rfl⟩;rw[ex,ey,ev]at KE;rw[ex]at hc1 CA';rw[ey]at hc2;rw[ev]at hc3;by_cases hk0:k=0
   ·have n0:¬(0:Int)<(k:Int):=by omega
    have n1:decide ((0:Int)<(k:Int))=false:=decide_eq_false n0;have n2:decide (0<k)=false:=decide_eq_false (by omega);clear ex ey ev en hk0 hb hCe;go_wp2_with fail
    refine(KE.out _ (zc (Below.refl _ _) _)).mono ?_;rintro e w1 ⟨rfl,hb1⟩;have B1:=z7 (zf (zc HB.out _) hb1);clear hb1;go_wp2_with fail
    go_quiet (fail)
    go_wp2
    go_roundw
    case rel=>exact⟨k+1,by omega,by go_num,zm B1.out _⟩
    case measure=>simp[intOf];omega
   ·obtain⟨b2,off2,eb,_,d0,_,_⟩:=(H.out.below hb).cells (k-1) (by omega)
    obtain⟨rfl,rfl⟩:b=b2∧off=off2:=by simpa using eb
    have hasc:=CA'.out (by omega);obtain⟨q,eq⟩:∃x,(l.getD (k-1) EV.z).1.rep=x:=⟨_,rfl⟩;rw[eq]at d0 hasc;have HR:=z7 (fun W=>key_gt q x y ha n hcap hasc W);have n0:(0:Int)<(k:Int):=by omega
    have n1:(0:Int)≤(k:Int)-1:=by omega
    have n2:(k:Int)-1<(len:Int):=by omega
    have n3:IntKind.i64.wrap ((k:Int)-1)=(k:Int)-1:=IntWalk.i64_in _ (by omega);have n4:((k:Int)-1).toNat=k-1:=by omega
    have n5:0<k:=by omega
    have n6:1≤k:=by omega
    have n7:(1:Int)≤(k:Int):=by omega
    obtain⟨hv,ehv⟩:∃hv:Value,hv=.slice ha n hcap:=⟨_,rfl⟩;clear eb ex ey ev en eq hk0 hb hCe hasc;go_wp2_with fail
    refine(KE.out _ (zc (Below.refl _ _) _)).mono ?_;rintro e w1 ⟨rfl,hb1⟩;have hb01:=zf (zc (Below.refl wr.heap.size wr) (.cells #[.int .u64 x,.int .u64 y,.slice ha n hcap] 96)) hb1;have R1:w1.heap[wr.heap.size]?=some (.cells #[.int .u64 x,.int .u64 y,.slice ha n hcap] 96 (0,0)):=(hb1.block _ (by simp)).trans (ze _ _ rfl);have TT:=z7 (TwoK.mk (W0:=wr) (b:=b) (o:=off+(k-1) * 3) (c:=wr.heap.size) (q:=q) (x:=x) (y:=y) (hv:=.slice ha n hcap) (W:=w1) (z1h hb01 d0) (by simp[World.cell?,R1]) (by simp[World.cell?,R1]) (by simp[World.cell?,R1]) hb01);clear hb1 hb01 d0 hc1 hc2 hc3 R1 ehv hv;go_wp2_with fail
    refine wp_region_held_drew (S:=TwoK wr b (off+(k-1) * 3) wr.heap.size q x y (.slice ha n hcap)) hmx TT.out.drew (fun hS=>?_);refine tkd (i:=0) (d:=some 21) (v:=(.int .i64 k)) (hy:=.inl ⟨by rfl,?_⟩) (h:=?_)
    ·intro X hX;go_simp
    refine tkd (i:=1) (d:=some 22) (v:=(.bool true)) (hy:=.inl ⟨by rfl,?_⟩) (h:=?_)
    ·intro X hX;go_simp
    refine tkd (i:=2) (d:=some 23) (v:=(.bool true)) (hy:=.inl ⟨by rfl,?_⟩) (h:=?_)
    ·intro X hX;go_simp
    refine tkd (i:=3) (d:=some 24) (v:=(.slice (some ⟨b,off,none⟩) len cap)) (hy:=.inl ⟨by rfl,?_⟩) (h:=?_)
    ·intro X hX;go_simp
    refine tkd (i:=4) (d:=some 25) (v:=(.int .i64 k)) (hy:=.inl ⟨by rfl,?_⟩) (h:=?_)
    ·intro X hX;go_simp
    refine tkd (i:=5) (d:=some 26) (v:=(.int .i64 ((k:Int)-1))) (hy:=.inl ⟨by rfl,?_⟩) (h:=?_)
    ·intro X hX;go_simp
    refine tkd (i:=6) (d:=some 27) (v:=(.pointer (some ⟨b,off+(k-1) * 3,none⟩))) (hy:=.inl ⟨by rfl,?_⟩) (h:=?_)
    ·intro X hX;go_simp
    refine tkd (i:=7) (d:=some 28) (v:=(.pointer (some ⟨b,off+(k-1) * 3,none⟩))) (hy:=.inl ⟨by rfl,?_⟩) (h:=?_)
    ·intro X hX;go_simp
    refine tkd (i:=8) (d:=some 29) (v:=(.int .u64 q)) (hy:=.inl ⟨by rfl,?_⟩) (h:=?_)
    ·intro X hX;obtain⟨x0,x1,x2,x3,x4⟩:=hX;go_simp
    refine tkd (i:=9) (d:=some 30) (v:=(.agg #[.int .u64 x,.int .u64 y,.slice ha n hcap])) (hy:=.inl ⟨by rfl,?_⟩) (h:=?_)
    ·intro X hX;obtain⟨x0,x1,x2,x3,x4⟩:=hX;go_simp
    refine wpAnyH_ready (rs:=[10]) (by kernel_rfl) (by simp) ?_;refine AllReadyH.cons (o:=_) rfl (fun K hK=>?_) AllReadyH.nil;go_simp
    refine(HR.out _).mono ?_;rintro e wq ⟨rfl,hb⟩;have hS:=hS.below hb;clear hb;go_simp
    refine hK.out _ _ hS (fun _=>?_);clear hK K;refine tkd (i:=11) (d:=some 32) (v:=(.bool false)) (hy:=.inl ⟨by rfl,?_⟩) (h:=?_)
    ·intro X hX;go_simp
    refine tkd (i:=12) (d:=some 33) (v:=(.bool false)) (hy:=.inl ⟨by rfl,?_⟩) (h:=?_)
    ·intro X hX;go_simp
    refine wpAnyH_done (by kernel_rfl) ?_ _;have BB:=z7 (zf HB.out hS.bl);clear hS;go_wp2
    go_roundw
    case rel=>exact⟨k+1,by omega,by go_num,BB.out⟩
    case measure=>simp[intOf];omega
  ·obtain rfl:k=len:=by omega
   go_wp2
   go_ret
   exact⟨rfl,HB.out⟩
end Go.Proofs.YtbkkolfpegplgaaGreatDoor
namespace Go.Proofs.YtbkkolfpegplgaaGreatDoor
theorem absE_length(e:Ent):(absE e).length=3+2 * e.hs.length:=by
 unfold absE;have:∀zs:List Iv,(zs.flatMap (fun z=>[z.1,z.2])).length=2 * zs.length:=by
  intro zs;induction zs with
  | nil=>rfl
  | cons z zs ih=>simp only[List.flatMap_cons,List.length_append,List.length_cons,List.length_nil,ih];omega
 simp only[List.length_append,List.length_cons,List.length_nil,this]
def offV (es:List Ent):Nat→Nat
 | 0=>1
 | k+1=>offV es k+3+2 * (es.getD k Ent.z).hs.length
theorem ent_take{es:List Ent}{k:Nat}(hk:k<es.length):es.take (k+1)=es.take k ++ [es.getD k Ent.z]:=by
 rw[List.take_succ_eq_append_getElem hk];simp[List.getD,List.getElem?_eq_getElem hk]
theorem offV_is(es:List Ent):∀k,k≤es.length→offV es k=1+((es.take k).flatMap absE).length
 | 0,_=>by simp[offV]
 | k+1,h=>by
   rw[offV,offV_is es k (by omega),ent_take (by omega),List.flatMap_append,List.length_append,List.flatMap_cons,List.flatMap_nil,List.append_nil,absE_length];omega
theorem absV_length(es:List Ent):(absV es).length=offV es es.length:=by
 rw[offV_is es _ (Nat.le_refl _),List.take_length];unfold absV;simp only[List.length_cons];omega
theorem absV_at{es:List Ent}{k i:Nat}(hk:k<es.length)(hi:i<3+2 * (es.getD k Ent.z).hs.length):(absV es).getD (offV es k+i) 0=(absE (es.getD k Ent.z)).getD i 0:=by
 have e1:es.flatMap absE=(es.take k).flatMap absE ++ (absE (es.getD k Ent.z) ++ (es.drop (k+1)).flatMap absE):=by
  have e0:es=es.take (k+1) ++ es.drop (k+1):=(List.take_append_drop _ _).symm;conv=>lhs;rw[e0]
  rw[ent_take hk,List.flatMap_append,List.flatMap_append,List.flatMap_cons,List.flatMap_nil,List.append_nil,List.append_assoc]
 unfold absV;rw[offV_is es k (by omega),e1];simp only[List.getD];rw[show 1+((es.take k).flatMap absE).length+i=(((es.take k).flatMap absE).length+i)+1 by omega,List.getElem?_cons_succ,List.getElem?_append_right (by omega),Nat.add_sub_cancel_left,List.getElem?_append_left (by rw[absE_length];exact hi)]
theorem flat_at:∀(zs:List Iv) (j:Nat),j<zs.length→(zs.flatMap (fun z=>[z.1,z.2])).getD (2 * j) 0=Lo zs j∧(zs.flatMap (fun z=>[z.1,z.2])).getD (2 * j+1) 0=Hi zs j
 | [],j,h=>by simp at h
 | z :: zs,0,_=>⟨rfl,rfl⟩
 | z :: zs,j+1,h=>by
   have ih:=flat_at zs j (by simpa using h);rw[lo_cons,hi_cons,← ih.1,← ih.2];rw[show 2 * (j+1)=2 * j+1+1 by omega];exact⟨rfl,rfl⟩
theorem absE_lo(e:Ent)(j:Nat)(h:j<e.hs.length):(absE e).getD (3+2 * j) 0=Lo e.hs j∧(absE e).getD (4+2 * j) 0=Hi e.hs j:=by
 have:=flat_at e.hs j h;rw[← this.1,← this.2,show 3+2 * j=2 * j+1+1+1 by omega,show 4+2 * j=2 * j+1+1+1+1 by omega];exact⟨rfl,rfl⟩
theorem offV_lt{es:List Ent}{k i:Nat}(hk:k<es.length)(hi:i<3+2 * (es.getD k Ent.z).hs.length):offV es k+i<(absV es).length:=by
 rw[absV_length];have mono:∀j d,offV es j≤offV es (j+d):=by
  intro j d;induction d with
  | zero=>exact Nat.le_refl _
  | succ d ih=>rw[← Nat.add_assoc,offV];omega
 have:=mono (k+1) (es.length-(k+1));rw[show k+1+(es.length-(k+1))=es.length by omega,offV]at this;omega
theorem stops_vb(pre post:List Int)(x:Int)(hx:Word x):∃K,K+1=(vb 10 x).length∧Stops (pre ++ vb 10 x ++ post) pre.length K∧putS K (byteAt (pre ++ vb 10 x ++ post) (pre.length+K))=1∧acc (pre ++ vb 10 x ++ post) pre.length (K+1)=x:=by
 obtain⟨K,h1,h2,h3,h4⟩:=reads_vb (pre ++ vb 10 x ++ post) pre.length 10 x 0 hx.1 (by have:=hx.2;omega) (by omega) (by omega) (by rw[pw0];have:=hx.2;omega) (.inl rfl)
  (fun j hj=>by
    have e:(pre ++ vb 10 x ++ post)[pre.length+(0+j)]?=(vb 10 x)[j]?:=by
     rw[List.append_assoc,List.getElem?_append_right (by omega),show pre.length+(0+j)-pre.length=j by omega,List.getElem?_append_left hj]
    simp only[byteAt,List.getD,e]) (by simp) (fun i hi=>absurd hi (by omega)) (Int.le_refl _) (show(0:Int)<1 by decide)
 refine⟨K,by omega,h2,h3,?_⟩;rw[h4,pw0];show 0+x * 1=x
 omega
theorem rd_vb(pre post:List Int)(x:Int)(hx:Word x):Rd (pre ++ vb 10 x ++ post) pre.length (.ok (x,pre.length+(vb 10 x).length)):=by
 obtain⟨K,h1,h2,h3,h4⟩:=stops_vb pre post x hx;have:=Rd.ok (zs:=pre ++ vb 10 x ++ post) (a:=pre.length) K (by omega) (by have:=h2.lt;omega) (by simpa using h2) (by simpa using h3);have e1:acc (pre ++ vb 10 x ++ post) ((pre.length:Int).toNat) (K+1)=x:=by simpa using h4
 rw[e1]at this;have e2:((pre.length:Int)+((K:Int)+1))=pre.length+(vb 10 x).length:=by omega
 rw[e2]at this;exact this
def walkN (lm:Lim) (len:Int):List Int→St→Int→Except (Int×Int) ((List Ent×Int) ⊕ (St×Int))
 | [],s,a=>.ok (.inr (s,a))
 | x :: xs,s,a=>
   match stepS lm s x (len-(a+(vb 10 x).length))with
   | .error c=>.error (c,a)
   | .ok s'=>if s'.ph.isFin then .ok (.inl (s'.es,a+(vb 10 x).length))else walkN lm len xs s' (a+(vb 10 x).length)
theorem z1w{lm:Lim}{len:Int}{x:Int}{xs:List Int}{s s':St}{a:Int}(h:stepS lm s x (len-(a+(vb 10 x).length))=.ok s')(hf:s'.ph.isFin=false):walkN lm len (x :: xs) s a=walkN lm len xs s' (a+(vb 10 x).length):=by
 show(match stepS lm s x (len-(a+(vb 10 x).length))with | .error c=>_ | .ok s'=>_)=_
 rw[h];simp only[hf];rfl
theorem z4y{lm:Lim}{len:Int}{x:Int}{xs:List Int}{s s':St}{a:Int}(h:stepS lm s x (len-(a+(vb 10 x).length))=.ok s')(hf:s'.ph.isFin=true):walkN lm len (x :: xs) s a=.ok (.inl (s'.es,a+(vb 10 x).length)):=by
 show(match stepS lm s x (len-(a+(vb 10 x).length))with | .error c=>_ | .ok s'=>_)=_
 rw[h];simp only[hf];rfl
theorem walkN_err{lm:Lim}{len:Int}{x:Int}{xs:List Int}{s:St}{a c:Int}(h:stepS lm s x (len-(a+(vb 10 x).length))=.error c):walkN lm len (x :: xs) s a=.error (c,a):=by
 show(match stepS lm s x (len-(a+(vb 10 x).length))with | .error c=>_ | .ok s'=>_)=_
 rw[h]
theorem walkN_append{lm:Lim}{len:Int}:∀(xs ys:List Int) (s:St) (a:Int),walkN lm len (xs ++ ys) s a=(match walkN lm len xs s a with | .ok (.inr (s',a'))=>walkN lm len ys s' a' | .ok (.inl q)=>.ok (.inl q) | .error p=>.error p)
 | [],ys,s,a=>rfl
 | x :: xs,ys,s,a=>by
   rw[List.cons_append]
   cases h:stepS lm s x (len-(a+(vb 10 x).length))with
   | error c=>rw[walkN_err h,walkN_err h]
   | ok s'=>
     cases hf:s'.ph.isFin with
     | true=>rw[z4y h hf,z4y h hf]
     | false=>rw[z1w h hf,z1w h hf];exact walkN_append xs ys s' _
theorem z48{lm:Lim}{len:Int}{xs ys:List Int}{s s':St}{a a':Int}(h:walkN lm len xs s a=.ok (.inr (s',a'))):walkN lm len (xs ++ ys) s a=walkN lm len ys s' a':=by
 rw[walkN_append,h]
def outN (s:St) (a:Int):Except (Int×Int) ((List Ent×Int) ⊕ (St×Int)):=if s.ph.isFin then .ok (.inl (s.es,a))else .ok (.inr (s,a))
theorem walkN_one{lm:Lim}{len x a:Int}{s s':St}(h:stepS lm s x (len-(a+(vb 10 x).length))=.ok s'):walkN lm len [x] s a=outN s' (a+(vb 10 x).length):=by
 unfold outN
 cases hf:s'.ph.isFin with
 | true=>rw[z4y h hf];rfl
 | false=>rw[z1w h hf];rfl
theorem outN_run{s:St}{a:Int}(h:s.ph.isFin=false):outN s a=.ok (.inr (s,a)):=by unfold outN;rw[h];rfl
theorem outN_fin{s:St}{a:Int}(h:s.ph.isFin=true):outN s a=.ok (.inl (s.es,a)):=by unfold outN;rw[h];rfl
def endS (es:List Ent) (cur:Ent) (ents:Int):St:=if 0<ents-1 then⟨.rep,es ++ [cur],cur,ents-1,0⟩else⟨.fin,es ++ [cur],cur,ents-1,0⟩
theorem holeS_end(p:Ph)(es:List Ent)(cur:Ent)(ents:Int):holeS ⟨p,es,cur,ents,0⟩=endS es cur ents:=by
 unfold holeS endS;simp only;rw[if_neg (by decide)]
theorem holeS_lo(p:Ph)(es:List Ent)(cur:Ent)(ents h:Int)(h0:0<h):holeS ⟨p,es,cur,ents,h⟩=⟨.lo,es,cur,ents,h-1⟩:=by
 unfold holeS;simp only;rw[if_pos h0]
theorem lastHi_take{zs:List Iv}{j:Nat}(h0:0<j)(h:j≤zs.length):lastHi (zs.take j)=Hi zs (j-1):=by
 unfold lastHi Hi;rw[List.length_take,Nat.min_eq_left h];simp only[List.getD];rw[List.getElem?_take_of_lt (by omega)]
theorem take_snoc_iv{zs:List Iv}{j:Nat}(h:j<zs.length):zs.take j ++ [(Lo zs j,Hi zs j)]=zs.take (j+1):=by
 have e:(Lo zs j,Hi zs j)=zs[j]:=by unfold Lo Hi;simp[List.getD,List.getElem?_eq_getElem h]
 rw[e,← List.take_succ_eq_append_getElem h]
theorem lo_step{lm:Lim}{es:List Ent}{cur:Ent}{ents h rest:Int}{zs:List Iv}{j:Nat}(hj:j<zs.length)(hw:∀z∈zs,Word z.1∧Word z.2)(hs:cur.hs=zs.take j) :
  stepS lm ⟨.lo,es,cur,ents,h⟩ (gapD zs 1 j) rest=.ok ⟨.hi (Lo zs j),es,cur,ents,h⟩:=by
 have h1:=(hs_at hw hj).1;show(if cur.hs=[] then _ else _)=_
 by_cases h0:j=0
 ·subst h0
  rw[if_pos (by rw[hs];rfl)];rfl
 ·have hne:¬cur.hs=[]:=by
   rw[hs];intro e;have:=congrArg List.length e;rw[List.length_take,List.length_nil]at this;omega
  rw[if_neg hne,hs,lastHi_take (by omega) (by omega)];have e:Hi zs (j-1)+1+1+gapD zs 1 j=Lo zs j:=by unfold gapD;rw[if_neg h0];omega
  rw[e,if_pos h1.2]
theorem hi_step{lm:Lim}{es:List Ent}{cur:Ent}{ents h rest:Int}{zs:List Iv}{j:Nat}(hj:j<zs.length)(hw:∀z∈zs,Word z.1∧Word z.2)(hs:cur.hs=zs.take j)(hm:Hi zs j<cur.mx) :
  stepS lm ⟨.hi (Lo zs j),es,cur,ents,h⟩ (Hi zs j-Lo zs j) rest=.ok (holeS ⟨.hi (Lo zs j),es,⟨cur.rep,cur.mx,zs.take (j+1)⟩,ents,h⟩):=by
 have h1:=(hs_at hw hj).2;show(if _∧_ then _ else _)=_
 have e:Lo zs j+(Hi zs j-Lo zs j)=Hi zs j:=by omega
 rw[e,if_pos ⟨h1.2,hm⟩,hs,take_snoc_iv hj]
theorem dif_succ(zs:List Iv)(j:Nat):dif zs 1 (j+1)=dif zs 1 j ++ [gapD zs 1 j,Hi zs j-Lo zs j]:=rfl
theorem pair_walk{lm:Lim}{len a:Int}{es:List Ent}{cur:Ent}{ents h:Int}{zs:List Iv}{j:Nat}(hj:j<zs.length)(hw:∀z∈zs,Word z.1∧Word z.2)(hs:cur.hs=zs.take j)(hm:Hi zs j<cur.mx) :
  walkN lm len [gapD zs 1 j,Hi zs j-Lo zs j] ⟨.lo,es,cur,ents,h⟩ a=outN (holeS ⟨.hi (Lo zs j),es,⟨cur.rep,cur.mx,zs.take (j+1)⟩,ents,h⟩) (a+(joinB [gapD zs 1 j,Hi zs j-Lo zs j]).length):=by
 rw[z1w (lo_step hj hw hs) rfl,walkN_one (hi_step hj hw hs hm)];congr 1
 rw[zv,zv,z21];simp only[List.length_append,List.length_nil];omega
theorem holes_walk{lm:Lim}{len a:Int}{es:List Ent}{r m:Int}{ents:Int}{zs:List Iv}(hw:∀z∈zs,Word z.1∧Word z.2)(ht:∀i,i<zs.length→Hi zs i<m):∀j,j<zs.length →
  walkN lm len (dif zs 1 j) ⟨.lo,es,⟨r,m,[]⟩,ents,zs.length-1⟩ a=.ok (.inr (⟨.lo,es,⟨r,m,zs.take j⟩,ents,zs.length-j-1⟩,a+(joinB (dif zs 1 j)).length))
 | 0,h=>by
   show Except.ok (Sum.inr _)=_
   simp[dif,joinB]
 | j+1,h=>by
   have ih:=holes_walk (lm:=lm) (len:=len) (a:=a) (es:=es) (r:=r) (ents:=ents) hw ht j (by omega);rw[dif_succ,z48 ih,pair_walk (by omega) hw rfl (ht j (by omega)),holeS_lo _ _ _ _ _ (by omega)];rw[outN_run rfl];congr 3
   ·congr 1;omega
   ·rw[zt,List.length_append];omega
theorem holes_all{lm:Lim}{len a:Int}{es:List Ent}{r m:Int}{ents:Int}{zs:List Iv}(h0:0<zs.length)(hw:∀z∈zs,Word z.1∧Word z.2)(ht:∀i,i<zs.length→Hi zs i<m) :
  walkN lm len (dif zs 1 zs.length) ⟨.lo,es,⟨r,m,[]⟩,ents,zs.length-1⟩ a=outN (endS es ⟨r,m,zs⟩ ents) (a+(joinB (dif zs 1 zs.length)).length):=by
 have ih:=holes_walk (lm:=lm) (len:=len) (a:=a) (es:=es) (r:=r) (ents:=ents) hw ht (zs.length-1) (by omega);have e:dif zs 1 zs.length=dif zs 1 (zs.length-1) ++ [gapD zs 1 (zs.length-1),Hi zs (zs.length-1)-Lo zs (zs.length-1)]:=by
  rw[← dif_succ];congr 1
  omega
 rw[e,z48 ih,pair_walk (by omega) hw rfl (ht _ (by omega))];rw[show((zs.length:Int)-((zs.length-1:Nat):Int)-1)=0 by omega,show zs.length-1+1=zs.length by omega,List.take_length,holeS_end];congr 1
 rw[zt,List.length_append];omega
theorem z4m{x l n:Int}(h1:x≤l)(h2:x≤n):limitC x l n=0:=by
 unfold limitC;rw[if_neg (by omega),if_neg (by omega)]
theorem rep_step{lm:Lim}{es:List Ent}{k:Nat}{cur:Ent}{ents h rest:Int}(hk:k<es.length)(hw:Word (es.getD k Ent.z).rep) :
  stepS lm ⟨.rep,es.take k,cur,ents,h⟩ (repN es k) rest=.ok ⟨.top,es.take k,⟨(es.getD k Ent.z).rep,0,[]⟩,ents,h⟩:=by
 show(if es.take k=[] then _ else _)=_
 by_cases h0:k=0
 ·subst h0
  rw[if_pos (show es.take 0=[] from rfl)];rfl
 ·have hne:¬es.take k=[]:=by
   intro e;have:=congrArg List.length e;rw[List.length_take,List.length_nil]at this;omega
  have el:lastRep (es.take k)=(es.getD (k-1) Ent.z).rep:=by
   unfold lastRep;rw[List.length_take,Nat.min_eq_left (by omega)];simp only[List.getD];rw[List.getElem?_take_of_lt (by omega)];rfl
  rw[if_neg hne,el];have e:(es.getD (k-1) Ent.z).rep+1+repN es k=(es.getD k Ent.z).rep:=by unfold repN;rw[if_neg h0];omega
  rw[e,if_pos hw.2]
theorem entry_walk{lm:Lim}{len a:Int}{es:List Ent}{k:Nat}{cur:Ent}{ents h:Int}(hk:k<es.length)(hw:EntW (es.getD k Ent.z))(hc:EntC (es.getD k Ent.z))(hl:((es.getD k Ent.z).hs.length:Int)≤lm.ho)
  (hr:a+(joinB (numE (repN es k) (es.getD k Ent.z))).length≤len) :
  walkN lm len (numE (repN es k) (es.getD k Ent.z)) ⟨.rep,es.take k,cur,ents,h⟩ a=outN (endS (es.take k) (es.getD k Ent.z) ents) (a+(joinB (numE (repN es k) (es.getD k Ent.z))).length):=by
 have s1:=fun rest=>rep_step (lm:=lm) (cur:=cur) (ents:=ents) (h:=h) (rest:=rest) hk hw.rep;obtain⟨e,ee⟩:∃e,es.getD k Ent.z=e:=⟨_,rfl⟩;rw[ee]at hw hc hl hr s1 ⊢;obtain⟨r,m,zs⟩:=e;have hd:=z2d (dif zs 1 zs.length);rw[z2k]at hd;have en:numE (repN es k) ⟨r,m,zs⟩=repN es k :: m :: (zs.length:Int) :: dif zs 1 zs.length:=rfl;have hl:(zs.length:Int)≤lm.ho:=hl;rw[en]at hr ⊢;simp only[zv,List.length_append]at hr ⊢;rw[z1w (s1 _) rfl,z1w (s':=⟨.op,es.take k,⟨r,m,[]⟩,ents,h⟩) rfl rfl];have s3:∀rest,(zs.length:Int)≤rest→stepS lm ⟨.op,es.take k,⟨r,m,[]⟩,ents,h⟩ (zs.length:Int) rest=.ok (holeS ⟨.op,es.take k,⟨r,m,[]⟩,ents,zs.length⟩):=fun rest hrest=>by
  show(if limitC _ _ _≠0 then _ else _)=_
  rw[z4m hl hrest,if_neg (by simp)]
 by_cases h0:zs.length=0
 ·have ez:zs=[]:=List.length_eq_zero_iff.1 h0
  subst ez;have s4:=s3 (len-(a+(vb 10 (repN es k)).length+(vb 10 m).length+(vb 10 (([]:List Iv).length:Int)).length)) (by simp only[List.length_nil]at hr ⊢;omega);rw[show(([]:List Iv).length:Int)=0 from rfl]at s4 ⊢;rw[holeS_end]at s4;rw[show dif ([]:List Iv) 1 (List.length ([]:List Iv))=[] from rfl,walkN_one s4];congr 1
  rw[z21];simp only[List.length_nil];omega
 ·have s4:=s3 (len-(a+(vb 10 (repN es k)).length+(vb 10 m).length+(vb 10 (zs.length:Int)).length)) (by omega)
  rw[holeS_lo .op _ _ _ _ (show(0:Int)<zs.length by omega)]at s4;rw[z1w s4 rfl,holes_all (zs:=zs) (by omega) hw.hs hc.top];congr 1
  omega
theorem vec_walk{lm:Lim}{len a:Int}{es:List Ent}(hn:0<es.length)(hw:∀e∈es,EntW e)(hc:CanV es)(hl:(es.length:Int)≤lm.en)(hh:∀e∈es,(e.hs.length:Int)≤lm.ho)(hr:a+(joinB (numsV es)).length≤len):∀k,k<es.length →
  ∃cur h,walkN lm len (numsTo es k) St0 a=.ok (.inr (⟨.rep,es.take k,cur,(es.length:Int)-k,h⟩,a+(joinB (numsTo es k)).length))∧(joinB (numsTo es (k+1))).length≤(joinB (numsV es)).length
 | 0,h=>by
   have pre:∀k,(joinB (numsTo es k)).length+(es.length-k)≤(joinB (numsV es)).length∨es.length<k:=by
    intro k;by_cases hk:k≤es.length
    ·left
     have go:∀d,k+d≤es.length→(joinB (numsTo es k)).length+d≤(joinB (numsTo es (k+d))).length:=by
      intro d;induction d with
      | zero=>intro _;simp
      | succ d ih=>
        intro hd;have:=ih (by omega);show _≤(joinB (numsTo es (k+d+1))).length
        rw[show numsTo es (k+d+1)=numsTo es (k+d) ++ numE (repN es (k+d)) (es.getD (k+d) Ent.z)from rfl,zt,List.length_append];have h3:=z2d (numE (repN es (k+d)) (es.getD (k+d) Ent.z));rw[z2s]at h3;omega
     have:=go (es.length-k) (by omega);rw[show k+(es.length-k)=es.length by omega]at this;exact this
    ·right;omega
   have p0:=(pre 0).resolve_right (by omega);have p1:=(pre 1).resolve_right (by omega);refine⟨St0.cur,St0.hls,?_,(show(joinB (numsTo es 1)).length≤_ by omega)⟩;rw[show numsTo es 0=[(es.length:Int)] from rfl]at p0 ⊢;have s1:stepS lm St0 (es.length:Int) (len-(a+(vb 10 (es.length:Int)).length))=.ok ⟨.rep,[],⟨0,0,[]⟩,es.length,0⟩:=by
    rw[zv,z21,List.append_nil]at p0;show(if limitC _ _ _≠0 then _ else if _ then _ else _)=_
    rw[z4m hl (by omega),if_neg (by simp),if_neg (by omega)];rfl
   rw[walkN_one s1];rw[outN_run rfl];rw[show((es.length:Int)-((0:Nat):Int))=es.length by omega,zv,z21,List.append_nil];rfl
 | k+1,h=>by
   obtain⟨cur,h1,h2,h3⟩:=vec_walk (lm:=lm) hn hw hc hl hh hr k (by omega);have hkl:k<es.length:=by omega
   have hm:=hn;have e1:numsTo es (k+1)=numsTo es k ++ numE (repN es k) (es.getD k Ent.z):=rfl;have hle:(joinB (numsTo es (k+1+1))).length≤(joinB (numsV es)).length:=by
    have go:∀d,k+2+d≤es.length→(joinB (numsTo es (k+2))).length≤(joinB (numsTo es (k+2+d))).length:=by
     intro d;induction d with
     | zero=>intro _;exact Nat.le_refl _
     | succ d ih=>
       intro hd;have:=ih (by omega);show _≤(joinB (numsTo es (k+2+d+1))).length
       rw[show numsTo es (k+2+d+1)=numsTo es (k+2+d) ++ numE (repN es (k+2+d)) (es.getD (k+2+d) Ent.z)from rfl,zt,List.length_append];omega
    have:=go (es.length-(k+2)) (by omega);rw[show k+2+(es.length-(k+2))=es.length by omega]at this;exact this
   rw[e1,zt,List.length_append]at h3;have ew:=entry_walk (lm:=lm) (len:=len) (a:=a+(joinB (numsTo es k)).length) (cur:=cur) (ents:=(es.length:Int)-k) (h:=h1) hkl (hw _ (z15 hkl)) (hc.ents k hkl) (hh _ (z15 hkl)) (by omega);have e2:endS (es.take k) (es.getD k Ent.z) ((es.length:Int)-k)=⟨.rep,es.take (k+1),es.getD k Ent.z,(es.length:Int)-((k+1:Nat):Int),0⟩:=by
    unfold endS;rw[if_pos (by omega),List.take_succ_eq_append_getElem hkl];congr 1
    ·congr 1;simp[List.getD,List.getElem?_eq_getElem hkl]
    ·omega
   refine⟨es.getD k Ent.z,0,?_,hle⟩;rw[e1,z48 h2,ew,e2];rw[outN_run rfl,zt,List.length_append];congr 3
   omega
theorem canon_walk{lm:Lim}{len a:Int}{es:List Ent}(hn:0<es.length)(hw:∀e∈es,EntW e)(hc:CanV es)(hl:(es.length:Int)≤lm.en)(hh:∀e∈es,(e.hs.length:Int)≤lm.ho)(hr:a+(joinB (numsV es)).length≤len) :
  walkN lm len (numsV es) St0 a=.ok (.inl (es,a+(joinB (numsV es)).length)):=by
 obtain⟨cur,h1,h2,_⟩:=vec_walk (lm:=lm) hn hw hc hl hh hr (es.length-1) (by omega);have hkl:es.length-1<es.length:=by omega
 have e1:numsV es=numsTo es (es.length-1) ++ numE (repN es (es.length-1)) (es.getD (es.length-1) Ent.z):=by
  show numsTo es es.length=_
  rw[show numsTo es (es.length-1) ++ numE (repN es (es.length-1)) (es.getD (es.length-1) Ent.z)=numsTo es (es.length-1+1)from rfl];congr 1
  omega
 rw[e1,zt,List.length_append]at hr ⊢;have ew:=entry_walk (lm:=lm) (len:=len) (a:=a+(joinB (numsTo es (es.length-1))).length) (cur:=cur) (ents:=(es.length:Int)-((es.length-1:Nat):Int)) (h:=h1) hkl (hw _ (z15 hkl)) (hc.ents _ hkl) (hh _ (z15 hkl)) (by omega);have e2:endS (es.take (es.length-1)) (es.getD (es.length-1) Ent.z) ((es.length:Int)-((es.length-1:Nat):Int))=⟨.fin,es,es.getD (es.length-1) Ent.z,0,0⟩:=by
  unfold endS;rw[if_neg (by omega)];have e3:es.take (es.length-1) ++ [es.getD (es.length-1) Ent.z]=es:=by
   have:=List.take_succ_eq_append_getElem hkl;rw[show es.length-1+1=es.length by omega,List.take_length]at this;rw[this];congr 1
   ·rw[← this]
   ·rw[← this];simp[List.getD,List.getElem?_eq_getElem hkl]
  rw[e3];congr 1
  omega
 rw[z48 h2,ew,e2];rw[outN_fin rfl];congr 3
 omega
end Go.Proofs.YtbkkolfpegplgaaGreatDoor
namespace Go.Proofs.YtbkkolfpegplgaaGreatDoor
open Go Go.RowKit
end Go.Proofs.YtbkkolfpegplgaaGreatDoor
namespace Go.Proofs.YtbkkolfpegplgaaGreatDoor
def numsP (c:Int) (es:List Ent):Nat→List Int
 | 0=>[c]
 | k+1=>numsP c es k ++ numE (repN es k) (es.getD k Ent.z)
theorem numsP_to(es:List Ent):∀k,numsP es.length es k=numsTo es k
 | 0=>rfl
 | k+1=>by show numsP es.length es k ++ _=numsTo es k ++ _;rw[numsP_to es k]
theorem z2f(es:List Ent)(e:Ent){k:Nat}(h:k<es.length):(es ++ [e]).getD k Ent.z=es.getD k Ent.z:=by
 simp only[List.getD];rw[List.getElem?_append_left h]
theorem getD_end(es:List Ent)(e:Ent):(es ++ [e]).getD es.length Ent.z=e:=by
 simp[List.getD]
theorem repN_pre(es:List Ent)(e:Ent){k:Nat}(h:k<es.length):repN (es ++ [e]) k=repN es k:=by
 unfold repN;by_cases h0:k=0
 ·subst h0;rw[if_pos rfl,if_pos rfl,z2f es e h]
 ·rw[if_neg h0,if_neg h0,z2f es e h,z2f es e (by omega)]
def gapR (es:List Ent) (r:Int):Int:=if es=[] then r else r-lastRep es-1
theorem z4n{es:List Ent}:lastRep es=(es.getD (es.length-1) Ent.z).rep:=rfl
theorem repN_end(es:List Ent)(e:Ent):repN (es ++ [e]) es.length=gapR es e.rep:=by
 unfold repN gapR;by_cases h:es=[]
 ·subst h;rfl
 ·have hl:0<es.length:=List.length_pos_iff.2 h
  rw[if_neg (by omega),if_neg h,getD_end,z2f es e (by omega),z4n]
theorem numsP_pre(c:Int)(es:List Ent)(e:Ent):∀k,k≤es.length→numsP c (es ++ [e]) k=numsP c es k
 | 0,_=>rfl
 | k+1,h=>by
   show numsP c (es ++ [e]) k ++ numE (repN (es ++ [e]) k) ((es ++ [e]).getD k Ent.z)=numsP c es k ++ _
   rw[numsP_pre c es e k (by omega),repN_pre es e (by omega),z2f es e (by omega)]
theorem numsP_snoc(c:Int)(es:List Ent)(e:Ent):numsP c (es ++ [e]) (es ++ [e]).length=numsP c es es.length ++ numE (gapR es e.rep) e:=by
 rw[show(es ++ [e]).length=es.length+1 by simp];show numsP c (es ++ [e]) es.length ++ numE (repN (es ++ [e]) es.length) ((es ++ [e]).getD es.length Ent.z)=_
 rw[numsP_pre c es e _ (Nat.le_refl _),repN_end,getD_end]
def gapH (hs:List Iv) (l:Int):Int:=if hs=[] then l else l-lastHi hs-2
theorem z3c(hs:List Iv)(z:Iv){k:Nat}(h:k<hs.length):Lo (hs ++ [z]) k=Lo hs k∧Hi (hs ++ [z]) k=Hi hs k:=by
 unfold Lo Hi;rw[getD_snoc,if_pos h];exact⟨rfl,rfl⟩
theorem iv_end(hs:List Iv)(z:Iv):Lo (hs ++ [z]) hs.length=z.1∧Hi (hs ++ [z]) hs.length=z.2:=by
 unfold Lo Hi;rw[getD_snoc,if_neg (by omega),if_pos rfl];exact⟨rfl,rfl⟩
theorem gapD_pre(hs:List Iv)(z:Iv){k:Nat}(h:k<hs.length):gapD (hs ++ [z]) 1 k=gapD hs 1 k:=by
 unfold gapD;by_cases h0:k=0
 ·subst h0;rw[if_pos rfl,if_pos rfl,(z3c hs z h).1]
 ·rw[if_neg h0,if_neg h0,(z3c hs z h).1,(z3c hs z (by omega)).2]
theorem gapD_end(hs:List Iv)(z:Iv):gapD (hs ++ [z]) 1 hs.length=gapH hs z.1:=by
 unfold gapD gapH;by_cases h:hs=[]
 ·subst h;rfl
 ·have hl:0<hs.length:=List.length_pos_iff.2 h
  rw[if_neg (by omega),if_neg h,(iv_end hs z).1,(z3c hs z (by omega)).2];unfold lastHi;omega
theorem dif_pre(hs:List Iv)(z:Iv):∀k,k≤hs.length→dif (hs ++ [z]) 1 k=dif hs 1 k
 | 0,_=>rfl
 | k+1,h=>by
   show dif (hs ++ [z]) 1 k ++ [gapD (hs ++ [z]) 1 k,Hi (hs ++ [z]) k-Lo (hs ++ [z]) k]=dif hs 1 k ++ _
   rw[dif_pre hs z k (by omega),gapD_pre hs z (by omega),(z3c hs z (by omega)).1,(z3c hs z (by omega)).2]
theorem dif_snoc(hs:List Iv)(z:Iv):dif (hs ++ [z]) 1 (hs ++ [z]).length=dif hs 1 hs.length ++ [gapH hs z.1,z.2-z.1]:=by
 rw[show(hs ++ [z]).length=hs.length+1 by simp];show dif (hs ++ [z]) 1 hs.length ++ [gapD (hs ++ [z]) 1 hs.length,Hi (hs ++ [z]) hs.length-Lo (hs ++ [z]) hs.length]=_
 rw[dif_pre hs z _ (Nat.le_refl _),gapD_end,(iv_end hs z).1,(iv_end hs z).2]
def stN (s:St):List Int:=
 match s.ph with
 | .count=>[]
 | .rep=>numsP (s.es.length+s.ents) s.es s.es.length
 | .fin=>numsP (s.es.length+s.ents) s.es s.es.length
 | .top=>numsP (s.es.length+s.ents) s.es s.es.length ++ [gapR s.es s.cur.rep]
 | .op=>numsP (s.es.length+s.ents) s.es s.es.length ++ [gapR s.es s.cur.rep,s.cur.mx]
 | .lo=>numsP (s.es.length+s.ents) s.es s.es.length ++ [gapR s.es s.cur.rep,s.cur.mx,s.cur.hs.length+s.hls+1] ++ dif s.cur.hs 1 s.cur.hs.length
 | .hi l=>numsP (s.es.length+s.ents) s.es s.es.length ++ [gapR s.es s.cur.rep,s.cur.mx,s.cur.hs.length+s.hls+1] ++ dif s.cur.hs 1 s.cur.hs.length ++ [gapH s.cur.hs l]
def FitsE (es:List Ent) (e:Ent):Prop:=es=[]∨lastRep es<e.rep
structure SInv (s:St):Prop where
 can:CanV s.es
 ents:s.ph=.count∨(s.ph=.fin∧s.ents=0)∨(s.ph≠.fin∧0<s.ents)
 hls:0≤s.hls
 zero:s.ph=.count→s.es=[]
 fits:s.ph=.top∨s.ph=.op∨s.ph=.lo∨(∃l,s.ph=.hi l)→FitsE s.es s.cur
 fresh:s.ph=.top∨s.ph=.op→s.cur.hs=[]
 cur:s.ph=.lo∨(∃l,s.ph=.hi l)→EntC s.cur
 lo:∀l,s.ph=.hi l→s.cur.hs=[]∨lastHi s.cur.hs+1<l
theorem can_nil:CanV []:=⟨fun i h=>absurd h (by simp),fun i _ h=>absurd h (by simp)⟩
theorem can_snoc{es:List Ent}{e:Ent}(h:CanV es)(he:EntC e)(hf:FitsE es e):CanV (es ++ [e]):=by
 refine⟨fun i hi=>?_,fun i h0 hi=>?_⟩
 ·by_cases hl:i<es.length
  ·rw[z2f es e hl];exact h.ents i hl
  ·obtain rfl:i=es.length:=by simp at hi;omega
   rw[getD_end];exact he
 ·by_cases hl:i<es.length
  ·rw[z2f es e hl,z2f es e (by omega)];exact h.asc i h0 hl
  ·obtain rfl:i=es.length:=by simp at hi;omega
   rw[getD_end,z2f es e (by omega)];rcases hf with rfl | hf
   ·simp at h0
   ·rw[z4n]at hf;exact hf
theorem entC_nil(r m:Int):EntC ⟨r,m,[]⟩:=⟨fun i h=>absurd h (by simp),fun i h=>absurd h (by simp)⟩
theorem entC_snoc{e:Ent}{l h:Int}(he:EntC e)(hl:e.hs=[]∨lastHi e.hs+1<l)(h1:l≤h)(h2:h<e.mx):EntC ⟨e.rep,e.mx,e.hs ++ [(l,h)]⟩:=by
 have hlen:(e.hs ++ [(l,h)]).length=e.hs.length+1:=by simp
 refine⟨fun i hi=>?_,fun i hi=>?_⟩
 ·simp only at hi ⊢
  by_cases hk:i<e.hs.length
  ·rw[(z3c _ _ hk).1,(z3c _ _ hk).2]
   refine⟨(he.cor i hk).1,fun h0=>?_⟩;rw[(z3c _ _ (show i-1<e.hs.length by omega)).2];exact(he.cor i hk).2 h0
  ·obtain rfl:i=e.hs.length:=by omega
   rw[(iv_end _ _).1,(iv_end _ _).2];refine⟨h1,fun h0=>?_⟩;rw[(z3c _ _ (show e.hs.length-1<e.hs.length by omega)).2];rcases hl with hl | hl
   ·rw[hl]at h0;simp at h0
   ·exact hl
 ·simp only at hi ⊢
  by_cases hk:i<e.hs.length
  ·rw[(z3c _ _ hk).2];exact he.top i hk
  ·obtain rfl:i=e.hs.length:=by omega
   rw[(iv_end _ _).2];exact h2
theorem numE_split(p:Int)(e:Ent):numE p e=[p,e.mx,(e.hs.length:Int)] ++ dif e.hs 1 e.hs.length:=rfl
theorem hole_inv{q:Ph}{es:List Ent}{cur:Ent}{ents h:Int}(hc:CanV es)(he:0<ents)(hh:0≤h)(hf:FitsE es cur)(hC:EntC cur) :
  SInv (holeS ⟨q,es,cur,ents,h⟩)∧stN (holeS ⟨q,es,cur,ents,h⟩)=numsP (es.length+ents) es es.length ++ [gapR es cur.rep,cur.mx,cur.hs.length+h] ++ dif cur.hs 1 cur.hs.length:=by
 by_cases g:0<h
 ·rw[holeS_lo q es cur ents h g]
  refine⟨⟨hc,.inr (.inr ⟨fun e=>(by cases e),he⟩),(show 0≤h-1 by omega),fun e=>(by cases e),fun _=>hf,fun e=>(by rcases e with e | e<;>cases e),fun _=>hC,fun l e=>(by cases e)⟩,?_⟩;show _ ++ [_,_,(cur.hs.length:Int)+(h-1)+1] ++ _=_
  rw[show(cur.hs.length:Int)+(h-1)+1=cur.hs.length+h by omega]
 ·obtain rfl:h=0:=by omega
  rw[holeS_end q es cur ents];unfold endS;have en:numsP (es.length+ents) es es.length ++ [gapR es cur.rep,cur.mx,cur.hs.length+0] ++ dif cur.hs 1 cur.hs.length=numsP (es.length+ents) (es ++ [cur]) (es ++ [cur]).length:=by
   rw[numsP_snoc,numE_split,Int.add_zero,List.append_assoc]
  rw[en];have ec:((es ++ [cur]).length:Int)+(ents-1)=es.length+ents:=by simp;omega
  by_cases g2:0<ents-1
  ·rw[if_pos g2]
   refine⟨⟨can_snoc hc hC hf,.inr (.inr ⟨fun e=>(by cases e),g2⟩),(show(0:Int)≤0 by decide),fun e=>(by cases e),fun e=>(by rcases e with e | e | e | ⟨l,e⟩<;>cases e),fun e=>(by rcases e with e | e<;>cases e),fun e=>(by rcases e with e | ⟨l,e⟩<;>cases e),fun l e=>(by cases e)⟩,?_⟩;show numsP (((es ++ [cur]).length:Int)+(ents-1)) (es ++ [cur]) (es ++ [cur]).length=_
   rw[ec]
  ·rw[if_neg g2]
   refine⟨⟨can_snoc hc hC hf,.inr (.inl ⟨rfl,show ents-1=0 by omega⟩),(show(0:Int)≤0 by decide),fun e=>(by cases e),fun e=>(by rcases e with e | e | e | ⟨l,e⟩<;>cases e),fun e=>(by rcases e with e | e<;>cases e),fun e=>(by rcases e with e | ⟨l,e⟩<;>cases e),fun l e=>(by cases e)⟩,?_⟩;show numsP (((es ++ [cur]).length:Int)+(ents-1)) (es ++ [cur]) (es ++ [cur]).length=_
   rw[ec]
theorem step_nums{lm:Lim}{s s':St}{x r:Int}(hI:SInv s)(hx:Word x)(hf:s.ph≠.fin)(h:stepS lm s x r=.ok s'):SInv s'∧stN s'=stN s ++ [x]:=by
 obtain⟨ph,es,cur,ents,hls⟩:=s;obtain⟨c1,c2,c3,c4,c5,c6,c7,c8⟩:=hI;simp only at c1 c2 c3 c4 c5 c6 c7 c8 hf;have hx0:=hx.1
 cases ph with
 | count=>
   obtain rfl:=c4 rfl;have e:stepS lm ⟨.count,[],cur,ents,hls⟩ x r=if limitC x lm.en r≠0 then .error (limitC x lm.en r)else if x=0 then .error 9 else .ok ⟨.rep,[],cur,x,hls⟩:=rfl;rw[e]at h;split at h
   ·cases h
   ·split at h
    ·cases h
    ·cases h
     refine⟨⟨can_nil,.inr (.inr ⟨fun e=>(by cases e),(show 0<x by omega)⟩),c3,fun e=>(by cases e),fun e=>(by rcases e with e | e | e | ⟨l,e⟩<;>cases e),fun e=>(by rcases e with e | e<;>cases e),fun e=>(by rcases e with e | ⟨l,e⟩<;>cases e),fun l e=>(by cases e)⟩,?_⟩;show [((([]:List Ent).length:Nat):Int)+x]=[] ++ [x]
     simp
 | rep=>
   have he:0<ents:=by rcases c2 with e | ⟨e,_⟩ | ⟨_,e⟩<;>first | cases e | exact e
   have e:stepS lm ⟨.rep,es,cur,ents,hls⟩ x r=if es=[] then .ok ⟨.top,es,⟨x,0,[]⟩,ents,hls⟩else if lastRep es+1+x<18446744073709551616 then .ok ⟨.top,es,⟨lastRep es+1+x,0,[]⟩,ents,hls⟩else .error 8:=rfl;rw[e]at h;split at h
   ·rename_i h0
    cases h
    refine⟨⟨c1,.inr (.inr ⟨fun e=>(by cases e),he⟩),c3,fun e=>(by cases e),fun _=>.inl h0,fun _=>rfl,fun e=>(by rcases e with e | ⟨l,e⟩<;>cases e),fun l e=>(by cases e)⟩,?_⟩;show _ ++ [gapR es x]=_ ++ [x]
    unfold gapR;rw[if_pos h0];rfl
   ·rename_i h0
    split at h
    ·cases h
     refine⟨⟨c1,.inr (.inr ⟨fun e=>(by cases e),he⟩),c3,fun e=>(by cases e),fun _=>.inr (show lastRep es<lastRep es+1+x by omega),fun _=>rfl,fun e=>(by rcases e with e | ⟨l,e⟩<;>cases e),fun l e=>(by cases e)⟩,?_⟩;show _ ++ [gapR es (lastRep es+1+x)]=_ ++ [x]
     unfold gapR;rw[if_neg h0,show lastRep es+1+x-lastRep es-1=x by omega];rfl
    ·cases h
 | top=>
   have he:0<ents:=by rcases c2 with e | ⟨e,_⟩ | ⟨_,e⟩<;>first | cases e | exact e
   have e:stepS lm ⟨.top,es,cur,ents,hls⟩ x r=.ok ⟨.op,es,⟨cur.rep,x,cur.hs⟩,ents,hls⟩:=rfl;rw[e]at h
   cases h
   refine⟨⟨c1,.inr (.inr ⟨fun e=>(by cases e),he⟩),c3,fun e=>(by cases e),fun _=>c5 (.inl rfl),fun _=>c6 (.inl rfl),fun e=>(by rcases e with e | ⟨l,e⟩<;>cases e),fun l e=>(by cases e)⟩,?_⟩;show numsP _ es _ ++ [gapR es cur.rep,x]=(numsP _ es _ ++ [gapR es cur.rep]) ++ [x]
   simp
 | op=>
   have he:0<ents:=by rcases c2 with e | ⟨e,_⟩ | ⟨_,e⟩<;>first | cases e | exact e
   have e:stepS lm ⟨.op,es,cur,ents,hls⟩ x r=if limitC x lm.ho r≠0 then .error (limitC x lm.ho r)else .ok (holeS ⟨.op,es,cur,ents,x⟩):=rfl;rw[e]at h;split at h
   ·cases h
   ·cases h
    have h0:=c6 (.inr rfl);have hC:EntC cur:=by
     obtain⟨a,b,c⟩:=cur;simp only at h0;subst h0;exact entC_nil a b
    obtain⟨g1,g2⟩:=hole_inv (q:=.op) (h:=x) c1 he hx0 (c5 (.inr (.inl rfl))) hC;refine⟨g1,?_⟩;rw[g2,h0];show numsP _ es _ ++ [gapR es cur.rep,cur.mx,((0:Nat):Int)+x] ++ []=(numsP _ es _ ++ [gapR es cur.rep,cur.mx]) ++ [x]
    simp
 | lo=>
   have he:0<ents:=by rcases c2 with e | ⟨e,_⟩ | ⟨_,e⟩<;>first | cases e | exact e
   have e:stepS lm ⟨.lo,es,cur,ents,hls⟩ x r=if cur.hs=[] then .ok ⟨.hi x,es,cur,ents,hls⟩else if lastHi cur.hs+1+1+x<18446744073709551616 then .ok ⟨.hi (lastHi cur.hs+1+1+x),es,cur,ents,hls⟩else .error 8:=rfl;rw[e]at h;split at h
   ·rename_i h0
    cases h
    refine⟨⟨c1,.inr (.inr ⟨fun e=>(by cases e),he⟩),c3,fun e=>(by cases e),fun _=>c5 (.inr (.inr (.inl rfl))),fun e=>(by rcases e with e | e<;>cases e),fun _=>c7 (.inl rfl),fun l e=>.inl h0⟩,?_⟩;show _ ++ [gapH cur.hs x]=_ ++ [x]
    unfold gapH;rw[if_pos h0];rfl
   ·rename_i h0
    split at h
    ·cases h
     refine⟨⟨c1,.inr (.inr ⟨fun e=>(by cases e),he⟩),c3,fun e=>(by cases e),fun _=>c5 (.inr (.inr (.inl rfl))),fun e=>(by rcases e with e | e<;>cases e),fun _=>c7 (.inl rfl),fun l e=>?_⟩,?_⟩
     ·injection e with e
      right
      show lastHi cur.hs+1<l
      omega
     ·show _ ++ [gapH cur.hs (lastHi cur.hs+1+1+x)]=_ ++ [x]
      unfold gapH;rw[if_neg h0,show lastHi cur.hs+1+1+x-lastHi cur.hs-2=x by omega];rfl
    ·cases h
 | hi l=>
   have he:0<ents:=by rcases c2 with e | ⟨e,_⟩ | ⟨_,e⟩<;>first | cases e | exact e
   have e:stepS lm ⟨.hi l,es,cur,ents,hls⟩ x r=if l+x<18446744073709551616∧l+x<cur.mx then .ok (holeS ⟨.hi l,es,⟨cur.rep,cur.mx,cur.hs ++ [(l,l+x)]⟩,ents,hls⟩)else .error 8:=rfl;rw[e]at h;split at h
   ·rename_i h0
    cases h
    have hC:=entC_snoc (c7 (.inr ⟨l,rfl⟩)) (c8 l rfl) (show l≤l+x by omega) h0.2;obtain⟨g1,g2⟩:=hole_inv (q:=.hi l) (h:=hls) (cur:=⟨cur.rep,cur.mx,cur.hs ++ [(l,l+x)]⟩) c1 he c3 (c5 (.inr (.inr (.inr ⟨l,rfl⟩)))) hC;refine⟨g1,?_⟩;rw[g2];show numsP _ es _ ++ [gapR es cur.rep,cur.mx,(((cur.hs ++ [(l,l+x)]).length:Nat):Int)+hls] ++ dif (cur.hs ++ [(l,l+x)]) 1 (cur.hs ++ [(l,l+x)]).length=(numsP _ es _ ++ [gapR es cur.rep,cur.mx,(cur.hs.length:Int)+hls+1] ++ dif cur.hs 1 cur.hs.length ++ [gapH cur.hs l]) ++ [x]
    rw[dif_snoc,show(((cur.hs ++ [(l,l+x)]).length:Nat):Int)+hls=(cur.hs.length:Int)+hls+1 by simp;omega,show(l,l+x).2-(l,l+x).1=x by simp only;omega];simp
   ·cases h
 | fin=>exact absurd rfl hf
theorem stN_fin{s:St}(h:s.ph=.fin)(hI:SInv s):stN s=numsV s.es:=by
 obtain⟨ph,es,cur,ents,hls⟩:=s;simp only at h;subst h;obtain rfl:ents=0:=by
  rcases hI.ents with e | ⟨_,e⟩ | ⟨e,_⟩
  ·cases e
  ·exact e
  ·exact absurd rfl e
 show numsP ((es.length:Int)+0) es es.length=numsTo es es.length
 rw[Int.add_zero,numsP_to]
theorem fin_ne{s:St}{x r:Int}{lm:Lim}{s':St}(hf:s.ph≠.fin)(h:stepS lm s x r=.ok s')(hs:s'.ph=.fin):s'.es≠[]:=by
 obtain⟨ph,es,cur,ents,hls⟩:=s;have hole:∀q es cur ents h,(holeS ⟨q,es,cur,ents,h⟩).ph=.fin→(holeS ⟨q,es,cur,ents,h⟩).es≠[]:=by
  intro q es cur ents h hh;unfold holeS at hh ⊢;simp only at hh ⊢;split at hh
  ·cases hh
  ·rename_i g
   rw[if_neg g];split at hh
   ·cases hh
   ·rename_i g2
    rw[if_neg g2];simp
 unfold stepS at h
 cases ph<;>simp only at h
 all_goals(repeat' split at h)<;>cases h
 all_goals first
  | (cases hs;done)
  | exact hole _ _ _ _ _ hs
  | exact absurd rfl hf
theorem sinv_0:SInv St0:=⟨can_nil,.inl rfl,by decide,fun _=>rfl,fun e=>(by rcases e with e | e | e | ⟨l,e⟩<;>cases e),fun e=>(by rcases e with e | e<;>cases e),fun e=>(by rcases e with e | ⟨l,e⟩<;>cases e),fun l e=>(by cases e)⟩
end Go.Proofs.YtbkkolfpegplgaaGreatDoor
