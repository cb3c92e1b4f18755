/- fault.Has at one code, over nil and over a fault. frame.Header: at a frame, and at the end. (Printed by wip/mkwhead.py.) oneshot.one at a frame. (Printed by wip/mktone.py.) oneshot.all, Parse at one frame. (Printed by wip/mktall.py.) oneshot.Parse at one frame. The bytes of one small value, and what is read from them. (Plain lists.) frame.Encode of one value. kenningtop.runs: a small value is calculated, encoded and read again. -/
import Derived.Test.YtbkkolfpegplgaaGreatDoorS3G6
import Derived.Test.YtbkkolfpegplgaaGreatDoorS3G40
import Derived.Test.YtbkkolfpegplgaaGreatDoorS3G39
import Derived.Test.YtbkkolfpegplgaaGreatDoorS3G10
import Derived.Test.YtbkkolfpegplgaaGreatDoorS3G37
import Derived.Test.YtbkkolfpegplgaaGreatDoorS3G13
import Derived.Test.YtbkkolfpegplgaaGreatDoorS3G29
import Derived.Lib.IfaceEq
import Derived.Laws.CopyRow
import Derived.Laws.IdiomCopy
import Derived.WalkMore
set_option maxHeartbeats 8000000
set_option maxRecDepth 100000
set_option linter.unusedVariables false
set_option linter.unusedSimpArgs false
namespace Go.Proofs.YtbkkolfpegplgaaGreatDoor
open Go Go.RowKit Go.Extern.Stop Go.Stop Go.Extern
theorem noIsE'(v:Value)(xT:TypeId)(w:World):(Instr.typeAssert (.iface 42 v) xT 360 true).run Tryz.prog w=.ok (.tuple #[.nilIface,.bool false]) w:=run_typeAssert_lacksB Tryz.underlying360 (by kernel_rfl) (by kernel_rfl) v xT w
theorem noIsF'(v:Value)(xT:TypeId)(w:World):(Instr.typeAssert (.iface 107 v) xT 360 true).run Tryz.prog w=.ok (.tuple #[.nilIface,.bool false]) w:=run_typeAssert_lacksB Tryz.underlying360 (by kernel_rfl) (by kernel_rfl) v xT w
theorem eqEE'(a b:Int)(w:World):(binOp .eql 27 (.iface 42 (.int .i64 a)) (.iface 42 (.int .i64 b))).run Tryz.prog w=.ok (.bool (a == b)) w:=
 Lib.run_eql_iface_int w a b Tryz.underlying27 (by kernel_rfl) Tryz.underlying42
theorem eqFE'(v u:Value)(w:World):(binOp .eql 27 (.iface 107 v) (.iface 42 u)).run Tryz.prog w=.ok (.bool false) w:=run_eql_iface_types _ _ v u Tryz.underlying27 (by decide) w
def flt (c a:Int):Value:=.iface 107 (.agg #[.int .i64 c,.int .i64 a])
theorem retb{a b:Bool}(h:a=b):Ending.returned (.bool a)=Ending.returned (.bool b):=by rw[h]
theorem unwrapF(d n:Int)(w:World):Calls Tryz.prog 294 #[.agg #[.int .i64 d,.int .i64 n]] w fun e w'=>e=.returned (.iface 42 (.int .i64 d))∧Below w.heap.size w w':=by
 go_enter Tryz.func294,Tryz.ntmps294
 go_wp2
 go_ret
 exact⟨rfl,by repeat (first | exact Below.refl _ _ | refine zc ?_ _)⟩
theorem loop_isF(d n c:Int)(w:World) :
  Calls Tryz.prog 247 #[.iface 107 (.agg #[.int .i64 d,.int .i64 n]),.iface 42 (.int .i64 c),.bool true] w fun ev w'=>ev=.returned (.bool (decide (d=c)))∧Below w.heap.size w w':=by
 have nE:=noIsE';have nF:=noIsF';have uE:=noUnE;have qE:=noUnsE;have uF:=hasUnF;have mF:=z5d;have e1:=eqEE';have e2:=eqFE';go_enter Tryz.func247,Tryz.ntmps247
 go_wp2_with fail
 refine wp_loop_rounds 3 ?_;rw[rounds_succ];go_wp2_with fail
 refine(unwrapF _ _ _).mono ?_;rintro e w1 ⟨rfl,b1⟩;have B1:=z7 b1;clear b1;go_wp2_with fail
 rw[rounds_succ];by_cases h:d=c
 ·subst h
  go_wp2_with fail
  go_ret
  exact⟨retb (by simp),B1.out⟩
 ·have q:(d == c)=false:=by simp[h]
  have R:=z7 (show false=decide (d=c) by simp[h]);clear h;go_wp2_with fail
  go_ret
  exact⟨retb R.out,B1.out⟩
theorem methodComparable' (h : Value) (w : World) : (Go.method 495 249 (.agg #[h]) "Comparable").run Tryz.prog w = .ok (308, .agg #[h]) w := by kernel_rfl
theorem callComparable'(w:World):(callFunc 308 #[.agg #[.pointer (some ⟨1,42,none⟩)]]).run Tryz.prog w=.ok (.value (.bool true)) w:=by kernel_rfl
theorem is_F(d n c:Int)(w:World) :
  Calls Tryz.prog 227 #[.iface 107 (.agg #[.int .i64 d,.int .i64 n]),.iface 42 (.int .i64 c)] w fun ev w'=>ev=.returned (.bool (decide (d=c)))∧Below w.heap.size w w':=by
 have h10:=@run_callFunc_extern Tryz.prog 158 _ ReflectliteType.typeOf Tryz.func158 (by kernel_rfl) (by kernel_rfl) (by kernel_rfl) (by kernel_rfl);have tE:=typeOfE;have mC:=methodComparable';have cE:=callComparable';have K:=z7 (loop_isF d n c);go_enter Tryz.func227,Tryz.ntmps227
 go_wp2_with fail
 refine(K.out _).mono ?_;rintro e w1 ⟨rfl,b1⟩;go_wp2
 go_ret
 exact⟨rfl,b1⟩
theorem eqNilE(t:TypeId)(v:Value)(w:World):(binOp .eql 27 .nilIface (.iface t v)).run Tryz.prog w=.ok (.bool false) w:=by
 have h:∀d:Nat,(Op.equalIn (d+1) 27 .nilIface (.iface t v)).run Tryz.prog w=.ok false w:=fun d=>by simp[Op.equalIn,run_underlying Tryz.underlying27]
 simp only[binOp];simp[Op.equal,Op.maxDepth,h 9999]
theorem is_nil(c:Int)(w:World) :
  Calls Tryz.prog 227 #[.nilIface,.iface 42 (.int .i64 c)] w fun ev w'=>ev=.returned (.bool false)∧Below w.heap.size w w':=by
 have e1:=eqNilE;go_enter Tryz.func227,Tryz.ntmps227
 go_wp2
 go_ret
 exact⟨rfl,Below.refl _ _⟩
theorem has_nilv(c:Int)(b:Nat)(w:World)(hb:w.heap[b]?=some (.cells #[.int .i64 c] 42 (0,0))) :
  Calls Tryz.prog 181 #[.nilIface,.slice (some ⟨b,0,none⟩) 1 1] w fun e w'=>e=.returned (.bool false)∧Below w.heap.size w w':=by
 have K:=z7 (fun W=>is_nil c W);have c0:w.cell? ⟨b,0,none⟩=some (.int .i64 c):=by simp[World.cell?,hb]
 clear hb;go_enter Tryz.func181,Tryz.ntmps181
 go_wp2
 refine wp_loop_rounds 2 ?_;rw[rounds_succ];go_wp2_with fail
 refine(K.out _).mono ?_;rintro e w1 ⟨rfl,b1⟩;go_wp2
 rw[rounds_succ];go_wp2
 go_ret
 exact⟨rfl,b1⟩
theorem has_f(d n c:Int)(b:Nat)(w:World)(hb:w.heap[b]?=some (.cells #[.int .i64 c] 42 (0,0))) :
  Calls Tryz.prog 181 #[.iface 107 (.agg #[.int .i64 d,.int .i64 n]),.slice (some ⟨b,0,none⟩) 1 1] w fun e w'=>e=.returned (.bool (decide (d=c)))∧Below w.heap.size w w':=by
 have K:=z7 (fun W=>is_F d n c W);have c0:w.cell? ⟨b,0,none⟩=some (.int .i64 c):=by simp[World.cell?,hb]
 clear hb;obtain⟨t,et⟩:∃t,decide (d=c)=t:=⟨_,rfl⟩;rw[et]at K ⊢;clear et
 cases t with
 | true=>
   go_enter Tryz.func181,Tryz.ntmps181
   go_wp2
   refine wp_loop_rounds 2 ?_;rw[rounds_succ];go_wp2_with fail
   refine(K.out _).mono ?_;rintro e w1 ⟨rfl,b1⟩;go_wp2
   go_ret
   exact⟨rfl,b1⟩
 | false=>
   go_enter Tryz.func181,Tryz.ntmps181
   go_wp2
   refine wp_loop_rounds 2 ?_;rw[rounds_succ];go_wp2_with fail
   refine(K.out _).mono ?_;rintro e w1 ⟨rfl,b1⟩;go_wp2
   rw[rounds_succ];go_wp2
   go_ret
   exact⟨rfl,b1⟩
end Go.Proofs.YtbkkolfpegplgaaGreatDoor
namespace Go.Proofs.YtbkkolfpegplgaaGreatDoor
open Go Go.RowKit
theorem info8:(Tryz.prog.info? 5).map (·.size)=some 1:=by kernel_rfl
theorem neqMagic(w:World):(binOp .neq 194 (.agg #[.int .u8 75,.int .u8 78,.int .u8 87,.int .u8 76]) (.agg #[.int .u8 75,.int .u8 78,.int .u8 87,.int .u8 76])).run Tryz.prog w=.ok (.bool false) w:=by kernel_rfl
theorem neqMagic0(w:World):(binOp .neq 194 (.agg #[.int .u8 0,.int .u8 0,.int .u8 0,.int .u8 0]) (.agg #[.int .u8 75,.int .u8 78,.int .u8 87,.int .u8 76])).run Tryz.prog w=.ok (.bool true) w:=by kernel_rfl
theorem header_end(p:Option Addr)(len cap:Nat)(li:Int)(zs:List Int)(w:World)(h:Ints .u8 w p len zs)(hcap:len≤cap)(hlen:len≤4000000000)(hp:0<len) :
  Calls Tryz.prog 180 #[.slice p len cap,.int .i64 len,.int .i64 li] w fun e w'=>e=.returned (.tuple #[.int .i64 0,.int .i64 0,.iface 107 (.agg #[.int .i64 5,.int .i64 len])])∧Below w.heap.size w w':=by
 have hmx:Tryz.prog.follows .mixedOrders=true:=by kernel_rfl
 obtain⟨b,off,rfl,hbl,hcell⟩:=h.from0 (by omega);have KN:=z7 (fun W=>z17 5 len (by decide) W);have KM:=z7 (fun W=>magic_any W);have n0:=neqMagic0;have hx1:(len:Int)≤len:=by omega
 have hx2:IntKind.i64.wrap ((len:Int)+0)=(len:Int):=by rw[IntKind.wrap_i64];omega
 clear h hcell;by_cases hcl:cap=len
 ·subst hcl
  go_enter Tryz.func180,Tryz.ntmps180
  go_wp2_with fail
  obtain⟨w1,ew1⟩:∃w1,w.alloc (.cells #[.int .u8 0,.int .u8 0,.int .u8 0,.int .u8 0] 194)=w1:=⟨_,rfl⟩;have b1:Below w.heap.size w w1:=by rw[← ew1];exact zc (Below.refl _ _) _
  have q1:w1.heap[w.heap.size]?=some (.cells #[.int .u8 0,.int .u8 0,.int .u8 0,.int .u8 0] 194 (0,0)):=by rw[← ew1];exact ze _ _ rfl
  rw[ew1];have B1:=z7 b1;have Q1:=z7 q1;clear ew1 b1 q1;refine wp_region_held_drew (S:=Only (fun b=>b=w.heap.size) w1) hmx (Only.refl _ _).drew (fun hS=>?_);obtain⟨wd,ewd⟩:∃wd,w1.drew=wd:=⟨_,rfl⟩;have QD:=z7 (show wd.heap[w.heap.size]?=some (.cells #[.int .u8 0,.int .u8 0,.int .u8 0,.int .u8 0] 194 (0,0))from by rw[← ewd];exact((Only.refl (fun _=>False) w1).drew.obj (fun h=>h) Q1.out));have BD:=z7 (show Below w.heap.size w wd from by rw[← ewd];exact B1.out.trans ((Only.refl (fun _=>False) w1).drew.below (n:=w.heap.size) B1.out.size (fun _ h=>h.elim)));rw[ewd]at hS ⊢;clear ewd;refine tkd (i:=0) (d:=some 20) (v:=(.slice (some ⟨w.heap.size,0,none⟩) 4 4)) (hy:=.inl ⟨by rfl,?_⟩) (h:=?_)
  ·intro X hX;go_simp
  refine tkd (i:=1) (d:=some 21) (v:=(.slice (some ⟨b,off,none⟩) cap cap)) (hy:=.inl ⟨by rfl,?_⟩) (h:=?_)
  ·intro X hX;go_simp
  refine tkd (i:=2) (d:=some 22) (v:=(.int .i64 (cap:Nat))) (hy:=.inl ⟨by rfl,?_⟩) (h:=?_)
  ·intro X hX;go_simp
  refine tkd (i:=3) (d:=some 23) (v:=(.slice (some ⟨b,off,none⟩) 0 0)) (hy:=.inl ⟨by rfl,?_⟩) (h:=?_)
  ·intro X hX;go_simp
  refine wpAnyH_ready (rs:=[4]) (by kernel_rfl) (by simp) ?_;refine AllReadyH.cons (o:=_) rfl (fun K hK=>?_) AllReadyH.nil;have hrun:=run_copy_none (P:=Tryz.prog) wd 33 33 3 5 (some ⟨w.heap.size,0,none⟩) (some ⟨b,off,none⟩) 4 4 0 (0) Tryz.underlying33 info8 rfl;go_simp
  refine hK.out _ _ hS (fun _=>?_);clear hrun;clear hK K;refine tkd (i:=5) (d:=some 10) (v:=(.int .i64 0)) (hy:=.inl ⟨by rfl,?_⟩) (h:=?_)
  ·intro X hX;go_simp
  refine wpAnyH_done (by kernel_rfl) ?_ _;clear hS;go_wp2_with fail
  refine(KM.out _).mono ?_;rintro e w2 ⟨rfl,hb2⟩;unfold magicV;obtain⟨w3,ew3⟩:∃w3,w2.alloc (.cells #[.int .u8 75,.int .u8 78,.int .u8 87,.int .u8 76] 194)=w3:=⟨_,rfl⟩;have b3:Below wd.heap.size wd w3:=by rw[← ew3];exact zc hb2 _
  have q3:w3.heap[w2.heap.size]?=some (.cells #[.int .u8 75,.int .u8 78,.int .u8 87,.int .u8 76] 194 (0,0)):=by rw[← ew3];exact ze _ _ rfl
  have m0:w3.cell? ⟨w2.heap.size,0,none⟩=some (.int .u8 75):=by simp[World.cell?,q3]
  have m1:w3.cell? ⟨w2.heap.size,1,none⟩=some (.int .u8 78):=by simp[World.cell?,q3]
  have m2:w3.cell? ⟨w2.heap.size,2,none⟩=some (.int .u8 87):=by simp[World.cell?,q3]
  have m3:w3.cell? ⟨w2.heap.size,3,none⟩=some (.int .u8 76):=by simp[World.cell?,q3]
  have qd:=(b3.block w.heap.size (zh QD.out)).trans QD.out;have d0:w3.cell? ⟨w.heap.size,0,none⟩=some (.int .u8 0):=by simp[World.cell?,qd]
  have d1:w3.cell? ⟨w.heap.size,1,none⟩=some (.int .u8 0):=by simp[World.cell?,qd]
  have d2:w3.cell? ⟨w.heap.size,2,none⟩=some (.int .u8 0):=by simp[World.cell?,qd]
  have d3:w3.cell? ⟨w.heap.size,3,none⟩=some (.int .u8 0):=by simp[World.cell?,qd]
  have B3:=z7 (BD.out.trans (b3.mono BD.out.size));clear b3 q3 qd hb2;go_wp2_with fail
  refine wp_loop_rounds 1 ?_;rw[rounds_succ];go_wp2_with fail
  refine(KN.out _).mono ?_;rintro e w5 ⟨rfl,rfl⟩;go_wp2
  go_ret3
  exact⟨rfl,B3.out⟩
 ·skip
  go_enter Tryz.func180,Tryz.ntmps180
  go_wp2_with fail
  obtain⟨w1,ew1⟩:∃w1,w.alloc (.cells #[.int .u8 0,.int .u8 0,.int .u8 0,.int .u8 0] 194)=w1:=⟨_,rfl⟩;have b1:Below w.heap.size w w1:=by rw[← ew1];exact zc (Below.refl _ _) _
  have q1:w1.heap[w.heap.size]?=some (.cells #[.int .u8 0,.int .u8 0,.int .u8 0,.int .u8 0] 194 (0,0)):=by rw[← ew1];exact ze _ _ rfl
  rw[ew1];have B1:=z7 b1;have Q1:=z7 q1;clear ew1 b1 q1;refine wp_region_held_drew (S:=Only (fun b=>b=w.heap.size) w1) hmx (Only.refl _ _).drew (fun hS=>?_);obtain⟨wd,ewd⟩:∃wd,w1.drew=wd:=⟨_,rfl⟩;have QD:=z7 (show wd.heap[w.heap.size]?=some (.cells #[.int .u8 0,.int .u8 0,.int .u8 0,.int .u8 0] 194 (0,0))from by rw[← ewd];exact((Only.refl (fun _=>False) w1).drew.obj (fun h=>h) Q1.out));have BD:=z7 (show Below w.heap.size w wd from by rw[← ewd];exact B1.out.trans ((Only.refl (fun _=>False) w1).drew.below (n:=w.heap.size) B1.out.size (fun _ h=>h.elim)));rw[ewd]at hS ⊢;clear ewd;refine tkd (i:=0) (d:=some 20) (v:=(.slice (some ⟨w.heap.size,0,none⟩) 4 4)) (hy:=.inl ⟨by rfl,?_⟩) (h:=?_)
  ·intro X hX;go_simp
  refine tkd (i:=1) (d:=some 21) (v:=(.slice (some ⟨b,off,none⟩) len cap)) (hy:=.inl ⟨by rfl,?_⟩) (h:=?_)
  ·intro X hX;go_simp
  refine tkd (i:=2) (d:=some 22) (v:=(.int .i64 (len:Nat))) (hy:=.inl ⟨by rfl,?_⟩) (h:=?_)
  ·intro X hX;go_simp
  refine tkd (i:=3) (d:=some 23) (v:=(.slice (some ⟨b,off+len,none⟩) 0 (cap-len))) (hy:=.inl ⟨by rfl,?_⟩) (h:=?_)
  ·intro X hX;go_simp
  refine wpAnyH_ready (rs:=[4]) (by kernel_rfl) (by simp) ?_;refine AllReadyH.cons (o:=_) rfl (fun K hK=>?_) AllReadyH.nil;have hrun:=run_copy_none (P:=Tryz.prog) wd 33 33 3 5 (some ⟨w.heap.size,0,none⟩) (some ⟨b,off+len,none⟩) 4 4 0 (cap-len) Tryz.underlying33 info8 rfl;go_simp
  refine hK.out _ _ hS (fun _=>?_);clear hrun;clear hK K;refine tkd (i:=5) (d:=some 10) (v:=(.int .i64 0)) (hy:=.inl ⟨by rfl,?_⟩) (h:=?_)
  ·intro X hX;go_simp
  refine wpAnyH_done (by kernel_rfl) ?_ _;clear hS;go_wp2_with fail
  refine(KM.out _).mono ?_;rintro e w2 ⟨rfl,hb2⟩;unfold magicV;obtain⟨w3,ew3⟩:∃w3,w2.alloc (.cells #[.int .u8 75,.int .u8 78,.int .u8 87,.int .u8 76] 194)=w3:=⟨_,rfl⟩;have b3:Below wd.heap.size wd w3:=by rw[← ew3];exact zc hb2 _
  have q3:w3.heap[w2.heap.size]?=some (.cells #[.int .u8 75,.int .u8 78,.int .u8 87,.int .u8 76] 194 (0,0)):=by rw[← ew3];exact ze _ _ rfl
  have m0:w3.cell? ⟨w2.heap.size,0,none⟩=some (.int .u8 75):=by simp[World.cell?,q3]
  have m1:w3.cell? ⟨w2.heap.size,1,none⟩=some (.int .u8 78):=by simp[World.cell?,q3]
  have m2:w3.cell? ⟨w2.heap.size,2,none⟩=some (.int .u8 87):=by simp[World.cell?,q3]
  have m3:w3.cell? ⟨w2.heap.size,3,none⟩=some (.int .u8 76):=by simp[World.cell?,q3]
  have qd:=(b3.block w.heap.size (zh QD.out)).trans QD.out;have d0:w3.cell? ⟨w.heap.size,0,none⟩=some (.int .u8 0):=by simp[World.cell?,qd]
  have d1:w3.cell? ⟨w.heap.size,1,none⟩=some (.int .u8 0):=by simp[World.cell?,qd]
  have d2:w3.cell? ⟨w.heap.size,2,none⟩=some (.int .u8 0):=by simp[World.cell?,qd]
  have d3:w3.cell? ⟨w.heap.size,3,none⟩=some (.int .u8 0):=by simp[World.cell?,qd]
  have B3:=z7 (BD.out.trans (b3.mono BD.out.size));clear b3 q3 qd hb2;go_wp2_with fail
  refine wp_loop_rounds 1 ?_;rw[rounds_succ];go_wp2_with fail
  refine(KN.out _).mono ?_;rintro e w5 ⟨rfl,rfl⟩;go_wp2
  go_ret3
  exact⟨rfl,B3.out⟩
theorem only_setRow{w:World}(g:Nat)(cs:Array Value):Only (fun b=>b=g) w (w.setRow g cs):=
 ⟨rfl,rfl,rfl,by simp[World.setRow],fun k _ hl=>setRow_other w g k cs hl⟩
theorem header_yes(p:Option Addr)(len cap a:Nat)(li x:Int)(n:Nat)(zs:List Int)(w:World)(h:Ints .u8 w p len zs)(hcap:len≤cap)(hlen:len≤4000000000)(ha:a+5≤len)
  (h0:zs.getD a 0=75) (h1:zs.getD (a+1) 0=78) (h2:zs.getD (a+2) 0=87) (h3:zs.getD (a+3) 0=76) (h4:zs.getD (a+4) 0=1) (hr:Rd zs ((a+5:Nat):Int) (.ok (x,(n:Int)))) (hx:x≤9223372036854775807) (hxl:x≤li) (hli:li≤9223372036854775807) :
  Calls Tryz.prog 180 #[.slice p len cap,.int .i64 a,.int .i64 li] w fun e w'=>e=.returned (.tuple #[.int .i64 n,.int .i64 x,.nilIface])∧Below w.heap.size w w':=by
 have hmx:Tryz.prog.follows .mixedOrders=true:=by kernel_rfl
 have HI:=z7 h;have hl:=h.length;obtain⟨b,off,rfl,hbl,hcell⟩:=h.from0 (by omega);have e0:w.cell? ⟨b,off+a,none⟩=some (.int .u8 75):=by rw[hcell a (by omega),h0]
 have e1:w.cell? ⟨b,off+(a+1),none⟩=some (.int .u8 78):=by rw[hcell (a+1) (by omega),h1]
 have e2:w.cell? ⟨b,off+(a+2),none⟩=some (.int .u8 87):=by rw[hcell (a+2) (by omega),h2]
 have e3:w.cell? ⟨b,off+(a+3),none⟩=some (.int .u8 76):=by rw[hcell (a+3) (by omega),h3]
 have E0:=z7 e0;have E1:=z7 e1;have E2:=z7 e2;have E3:=z7 e3;have E4:=z7 (show w.cell? ⟨b,off+(a+4),none⟩=some (.int .u8 1)from by rw[hcell (a+4) (by omega),h4]);have BL:=z7 hbl;obtain⟨_,hn1,hn2,hxw⟩:=rd_ok hr;have KR:=z7 (fun W hW=>rd_any (some ⟨b,off,none⟩) len cap zs ((a+5:Nat):Int) _ W hW hcap hlen (by omega) hr);rw[show rdV ((a+5:Nat):Int) (.ok (x,(n:Int)))=.tuple #[.int .u64 x,.int .i64 n,.nilIface] from rfl]at KR;have KM:=z7 (fun W=>magic_any W);have nm:=neqMagic;have hx0:=hxw.1;have hca:¬cap=a:=by omega
 have hax:(a:Int)≤len:=by omega
 have hmin:Nat.min (len-a) 4=4:=Nat.min_eq_right (by omega);clear h hcell h0 h1 h2 h3 h4 hr hxw e0 e1 e2 e3 hbl;go_enter Tryz.func180,Tryz.ntmps180
 go_wp2_with fail
 obtain⟨w1,ew1⟩:∃w1,w.alloc (.cells #[.int .u8 0,.int .u8 0,.int .u8 0,.int .u8 0] 194)=w1:=⟨_,rfl⟩;have b1:Below w.heap.size w w1:=by rw[← ew1];exact zc (Below.refl _ _) _
 have q1:w1.heap[w.heap.size]?=some (.cells #[.int .u8 0,.int .u8 0,.int .u8 0,.int .u8 0] 194 (0,0)):=by rw[← ew1];exact ze _ _ rfl
 rw[ew1];have B1:=z7 b1;have Q1:=z7 q1;clear ew1 b1 q1;refine wp_region_held_drew (S:=Only (fun b=>b=w.heap.size) w1) hmx (Only.refl _ _).drew (fun hS=>?_);obtain⟨wd,ewd⟩:∃wd,w1.drew=wd:=⟨_,rfl⟩;have QD:=z7 (show wd.heap[w.heap.size]?=some (.cells #[.int .u8 0,.int .u8 0,.int .u8 0,.int .u8 0] 194 (0,0))from by rw[← ewd];exact((Only.refl (fun _=>False) w1).drew.obj (fun h=>h) Q1.out));have BD:=z7 (show Below w.heap.size w wd from by rw[← ewd];exact B1.out.trans ((Only.refl (fun _=>False) w1).drew.below (n:=w.heap.size) B1.out.size (fun _ h=>h.elim)));rw[ewd]at hS ⊢;clear ewd;refine tkd (i:=0) (d:=some 20) (v:=(.slice (some ⟨w.heap.size,0,none⟩) 4 4)) (hy:=.inl ⟨by rfl,?_⟩) (h:=?_)
 ·intro X hX;go_simp
 refine tkd (i:=1) (d:=some 21) (v:=(.slice (some ⟨b,off,none⟩) len cap)) (hy:=.inl ⟨by rfl,?_⟩) (h:=?_)
 ·intro X hX;go_simp
 refine tkd (i:=2) (d:=some 22) (v:=(.int .i64 (a:Nat))) (hy:=.inl ⟨by rfl,?_⟩) (h:=?_)
 ·intro X hX;go_simp
 refine tkd (i:=3) (d:=some 23) (v:=(.slice (some ⟨b,off+a,none⟩) (len-a) (cap-a))) (hy:=.inl ⟨by rfl,?_⟩) (h:=?_)
 ·intro X hX;go_simp
 refine wpAnyH_ready (rs:=[4]) (by kernel_rfl) (by simp) ?_;refine AllReadyH.cons (o:=_) rfl (fun K hK=>?_) AllReadyH.nil;have hrun:=run_copy_row (P:=Tryz.prog) wd 33 33 3 5 w.heap.size 0 4 4 ⟨b,off+a,none⟩ (len-a) (cap-a) _ 194 [.int .u8 75,.int .u8 78,.int .u8 87,.int .u8 76] Tryz.underlying33 info8 QD.out hmin.symm (by
  intro j v hj;match j,hj with
  | 0,hj=>cases hj;exact zg BD.out BL.out E0.out
  | 1,hj=>cases hj;exact zg BD.out BL.out E1.out
  | 2,hj=>cases hj;exact zg BD.out BL.out E2.out
  | 3,hj=>cases hj;exact zg BD.out BL.out E3.out
  | j+4,hj=>simp at hj) (by simp) (by intro v hv;simp at hv;rcases hv with rfl | rfl | rfl | rfl<;>rfl)
 obtain⟨ws,ews⟩:∃ws,wd.setRow w.heap.size #[.int .u8 75,.int .u8 78,.int .u8 87,.int .u8 76]=ws:=⟨_,rfl⟩;have os:Only (fun b=>b=w.heap.size) wd ws:=by rw[← ews];exact only_setRow _ _
 have QS:=z7 (show ws.heap[w.heap.size]?=some (.cells #[.int .u8 75,.int .u8 78,.int .u8 87,.int .u8 76] 194 (0,0))from by rw[← ews];exact setRow_heap _ _ _ _ _ _ QD.out);have BS:=z7 (BD.out.trans (os.below (n:=w.heap.size) BD.out.size (fun k hk=>by omega)));have hS2:=hS.trans os;have hrun2:(Builtin.copy_ #[33,33] 3 #[.slice (some ⟨w.heap.size,0,none⟩) 4 4,.slice (some ⟨b,off+a,none⟩) (len-a) (cap-a)]).run Tryz.prog wd=.ok (.int .i64 4) ws:=by rw[hrun,← ews];rfl
 clear hrun ews os hS;go_simp
 refine hK.out _ _ hS2 (fun _=>?_);clear hrun2;clear hK K;refine tkd (i:=5) (d:=some 10) (v:=(.int .i64 4)) (hy:=.inl ⟨by rfl,?_⟩) (h:=?_)
 ·intro X hX;go_simp
 refine wpAnyH_done (by kernel_rfl) ?_ _;clear hS2;go_wp2_with fail
 refine(KM.out _).mono ?_;rintro e w2 ⟨rfl,hb2⟩;unfold magicV;obtain⟨w3,ew3⟩:∃w3,w2.alloc (.cells #[.int .u8 75,.int .u8 78,.int .u8 87,.int .u8 76] 194)=w3:=⟨_,rfl⟩;have b3:Below ws.heap.size ws w3:=by rw[← ew3];exact zc hb2 _
 have q3:w3.heap[w2.heap.size]?=some (.cells #[.int .u8 75,.int .u8 78,.int .u8 87,.int .u8 76] 194 (0,0)):=by rw[← ew3];exact ze _ _ rfl
 have m0:w3.cell? ⟨w2.heap.size,0,none⟩=some (.int .u8 75):=by simp[World.cell?,q3]
 have m1:w3.cell? ⟨w2.heap.size,1,none⟩=some (.int .u8 78):=by simp[World.cell?,q3]
 have m2:w3.cell? ⟨w2.heap.size,2,none⟩=some (.int .u8 87):=by simp[World.cell?,q3]
 have m3:w3.cell? ⟨w2.heap.size,3,none⟩=some (.int .u8 76):=by simp[World.cell?,q3]
 have qd:=(b3.block w.heap.size (zh QS.out)).trans QS.out;have d0:w3.cell? ⟨w.heap.size,0,none⟩=some (.int .u8 75):=by simp[World.cell?,qd]
 have d1:w3.cell? ⟨w.heap.size,1,none⟩=some (.int .u8 78):=by simp[World.cell?,qd]
 have d2:w3.cell? ⟨w.heap.size,2,none⟩=some (.int .u8 87):=by simp[World.cell?,qd]
 have d3:w3.cell? ⟨w.heap.size,3,none⟩=some (.int .u8 76):=by simp[World.cell?,qd]
 have hB3:=BS.out.trans (b3.mono BS.out.size);have d4:w3.cell? ⟨b,off+(a+4),none⟩=some (.int .u8 1):=zg hB3 BL.out E4.out;have B3:=z7 hB3;have t4:IntKind.i64.wrap ((a:Int)+4)=((a+4:Nat):Int):=by rw[IntKind.wrap_i64];omega
 have t5:IntKind.i64.wrap (((a+4:Nat):Int)+1)=((a+5:Nat):Int):=by rw[IntKind.wrap_i64];omega
 clear b3 q3 qd hb2 hB3;go_wp2_with fail
 rw[show(a:Int)+4+1=((a+5:Nat):Int) by omega];refine(KR.out _ (HI.out.below B3.out)).mono ?_;rintro e w5 ⟨rfl,b5⟩;have B5:=z7 (B3.out.trans (b5.mono B3.out.size));have wl:IntKind.u64.wrap li=li:=z11 ⟨by omega,by omega⟩;have ml:max li 0=li:=by omega
 have xl:¬li<x:=by omega
 have xw:IntKind.i64.wrap x=x:=IntWalk.i64_in _ (by omega);clear b5;go_wp2_with fail
 go_ret3
 exact⟨rfl,B5.out⟩
theorem ints_sub{k:IntKind}{w:World}{b off len:Nat}{zs:List Int}(h:Ints k w (some ⟨b,off,none⟩) len zs)(n m:Nat)(hm:n+m≤len):Ints k w (some ⟨b,off+n,none⟩) m ((zs.drop n).take m) where
 length:=by rw[List.length_take,List.length_drop,h.length];omega
 most:=by have:=h.most;omega
 wf:=fun z hz=>h.wf z (List.mem_of_mem_drop (List.mem_of_mem_take hz))
 cells:=fun i hi=>by
  obtain⟨b',off',e,hl,hc⟩:=h.cells (n+i) (by omega);injection e with e
  injection e with e1 e2 _
  subst e1;subst e2;refine⟨b,off+n,rfl,hl,?_⟩;have e:((zs.drop n).take m).getD i 0=zs.getD (n+i) 0:=by simp[List.getD,hi]
  rw[e,Nat.add_assoc];exact hc
structure HeadAt (zs:List Int) (a n:Nat) (x:Int):Prop where
 fit:a+5≤zs.length
 h0:zs.getD a 0=75
 h1:zs.getD (a+1) 0=78
 h2:zs.getD (a+2) 0=87
 h3:zs.getD (a+3) 0=76
 h4:zs.getD (a+4) 0=1
 rd:Rd zs ((a+5:Nat):Int) (.ok (x,(n:Int)))
theorem one_yes(p:Option Addr)(len cap a n X:Nat)(zs:List Int)(lm:Lim)(hlm:LimW lm)(hl2:LimW2 lm)(hlf:lm.f≤9223372036854775807)(k:List Frag)(w:World)(hg:Laid w)(h:Ints .u8 w p len zs)(hcap:len≤cap)(hlen:len≤4000000000)(hh:HeadAt zs a n (X:Int))(hX:(X:Int)≤lm.f)(hn:n+X+4≤len)
  (hs:(zs.drop (n+X)).take 4=sum4 (crcX ((zs.drop n).take X))) (hr:RunW lm n ((zs.drop n).take X) WS0 0 (.ok k)) :
  Calls Tryz.prog 127 #[.slice p len cap,.int .i64 a,.agg #[.int .i64 lm.f,.int .i64 lm.ve,.int .i64 lm.en,.int .i64 lm.ho,.int .i64 lm.se]] w fun e w'=>∃v,e=.returned (.tuple #[v,.int .i64 ((n+X+4:Nat):Int),.nilIface])∧(∃l,KRow w' w.heap.size v l∧l.map FV.frag=k)∧Below w.heap.size w w':=by
 have hl:=h.length;have HI:=z7 h;obtain⟨b,off,rfl,hbl,_⟩:=h.from0 (by omega);have H0:=z7 hg.pos;have LAID:=z7 hg;have HR:=z7 hr;have SUB:=z7 (ints_sub h n X (by omega));have SUM:=z7 (ints_sub h (n+X) 4 (by omega));have HS:=z7 hs;have BEG:=z7 (fun W (hW:w.heap.size≤W.heap.size)=>wbegin_any lm w.heap.size W hW);have KH:=z7 (fun W hW=>header_yes (some ⟨b,off,none⟩) len cap a lm.f X n zs W hW hcap hlen (by have:=hh.fit;omega) hh.h0 hh.h1 hh.h2 hh.h3 hh.h4 hh.rd (by omega) hX hlf);have KNIL:=z7 (fun b W hb=>has_nilv 5 b W hb);clear hg h hr hs hh hbl;go_enter Tryz.func127,Tryz.ntmps127
 go_wp2_with fail
 obtain⟨w1,ew1⟩:∃w1,w.alloc (.cells #[.int .i64 lm.f,.int .i64 lm.ve,.int .i64 lm.en,.int .i64 lm.ho,.int .i64 lm.se] 38)=w1:=⟨_,rfl⟩;have b1:Below w.heap.size w w1:=by rw[← ew1];exact zc (Below.refl _ _) _
 have q1:w1.heap[w.heap.size]?=some (.cells #[.int .i64 lm.f,.int .i64 lm.ve,.int .i64 lm.en,.int .i64 lm.ho,.int .i64 lm.se] 38 (0,0)):=by rw[← ew1];exact ze _ _ rfl
 rw[ew1];have B1:=z7 b1;have l0:w1.cell? ⟨w.heap.size,0,none⟩=some (.int .i64 lm.f):=by simp[World.cell?,q1]
 have Q1:=z7 q1;clear ew1 b1 q1;go_step3
 go_wp2_with fail
 refine(KH.out _ (HI.out.below B1.out)).mono ?_;rintro e w2 ⟨rfl,b2⟩;have B2:=z7 (B1.out.trans (b2.mono B1.out.size));have Q2:=z7 ((b2.block w.heap.size (zh Q1.out)).trans Q1.out);clear b2 l0;go_wp2_with fail
 refine(KNIL.out _ _ (ze _ _ rfl)).mono ?_;rintro e w3 ⟨rfl,b3⟩;have hb3:=zf (zc (Below.refl w2.heap.size w2) (.cells #[.int .i64 5] 42)) b3;have B3:=z7 (B2.out.trans (hb3.mono B2.out.size));have q3:=(hb3.block w.heap.size (zh Q2.out)).trans Q2.out;have l0:w3.cell? ⟨w.heap.size,0,none⟩=some (.int .i64 lm.f):=by simp[World.cell?,q3]
 have l1:w3.cell? ⟨w.heap.size,1,none⟩=some (.int .i64 lm.ve):=by simp[World.cell?,q3]
 have l2:w3.cell? ⟨w.heap.size,2,none⟩=some (.int .i64 lm.en):=by simp[World.cell?,q3]
 have l3:w3.cell? ⟨w.heap.size,3,none⟩=some (.int .i64 lm.ho):=by simp[World.cell?,q3]
 have l4:w3.cell? ⟨w.heap.size,4,none⟩=some (.int .i64 lm.se):=by simp[World.cell?,q3]
 have m1:IntKind.i64.wrap ((len:Int)-n)=(len:Int)-n:=by rw[IntKind.wrap_i64];omega
 have m2:min (X:Int) ((len:Int)-n)=X:=by omega
 have m3:IntKind.i64.wrap ((n:Int)+X)=(n:Int)+X:=by rw[IntKind.wrap_i64];omega
 have m4:(n:Int)≤(n:Int)+X:=by omega
 have m5:(n:Int)+X≤cap:=by omega
 have m6:((n:Int)+X).toNat=n+X:=by omega
 have m7:¬cap=n:=by omega
 clear b3 hb3 q3;go_wp2_with fail
 refine(BEG.out _ B3.out.size).mono ?_;rintro e w4 ⟨r,rfl,hr4,hm4,hb4⟩;have MEM:=z7 hm4;have B4:=z7 (B3.out.trans (hb4.mono B3.out.size));clear hm4 hb4 hr4 l0 l1 l2 l3 l4;go_wp2_with fail
 go_step3
 go_wp2_with fail
 go_loopw [15] (fun c wr=>∃(s:WS) (i:Nat),c=.int .i64 i∧i≤X∧RunW lm n ((zs.drop n).take X) s i (.ok k)∧s.pt.isFin=false∧MemW wr w.heap.size r lm .nilIface s∧Below w.heap.size w wr)
  (fun c _=>X-(intOf c).toNat)
 case atStart=>exact⟨WS0,0,rfl,by omega,HR.out,rfl,MEM.out,B4.out⟩
 case round=>
  obtain⟨s,i,rfl,hil,hrun,hf0,hM,hb⟩:=hrel;clear MEM B1 B2 B3 B4 Q1 Q2;have HM:=z7 hM;have HB:=z7 hb;have lps:((zs.drop n).take X).length=X:=by rw[List.length_take,List.length_drop,hl];omega
  rcases runW_cases hrun with⟨c,hq,ho⟩ | ⟨x,nx,hq,hBB,hN,hcase⟩
  ·cases ho
  ·obtain⟨_,hn1,hn2,hxw⟩:=rd_ok hq
   obtain⟨nx,rfl⟩:∃m:Nat,nx=m:=⟨nx.toNat,by omega⟩;have KR:=z7 (rd_any (some ⟨b,off+n,none⟩) X (cap-n) ((zs.drop n).take X) i (.ok (x,(nx:Int))) wr (SUB.out.below hb) (by omega) (by omega) (by omega) hq);rw[show rdV (i:Int) (.ok (x,(nx:Int)))=.tuple #[.int .u64 x,.int .i64 nx,.nilIface] from rfl]at KR;rw[lps]at hn2 hN hcase;have q0:IntKind.i64.wrap ((X:Int)-nx)=(X:Int)-nx:=by rw[IntKind.wrap_i64];omega
   have q1:IntKind.i64.wrap ((n:Int)+i)=(n:Int)+i:=by rw[IntKind.wrap_i64];omega
   rcases hcase with⟨c,b',hs,ho⟩ | ⟨s',hs,hf,ho⟩ | ⟨s',hs,hf,hrun'⟩
   ·cases ho
   ·have hk:s'.k=k:=by injection ho with ho;exact ho.symm
    have KP:=z7 (fun W hM' hg'=>wput_eq lm hlm hl2 w.heap.size r s x (n+i) (X-nx) (.ok s') hs W hM' hf0 hxw (by omega) (by omega) (by omega) hg' H0.out hBB hN);clear hrun hq hM hb HR hf0 hs hxw hBB hN ho;go_wp2_with fail
    refine KR.out.mono ?_;rintro e w2 ⟨rfl,hb2⟩;have B2:=z7 (zf HB.out hb2);have HM2:=z7 (HM.out.below hb2);clear hb2;go_wp2_with fail
    refine(KNIL.out _ _ (ze _ _ rfl)).mono ?_;rintro e w3 ⟨rfl,b3⟩;have hb3:=zf (zc (Below.refl w2.heap.size w2) (.cells #[.int .i64 5] 42)) b3;have B3:=z7 (zf B2.out (hb3));have HM3:=z7 (HM2.out.below hb3);clear b3 hb3;go_wp2_with fail
    refine(KP.out _ HM3.out (LAID.out.below B3.out)).mono ?_;rintro e w5 hp;obtain⟨he,hm5⟩:=hp.good s' rfl;rw[hf]at he;subst he;have B5:=z7 (B3.out.trans hp.below);have HM5:=z7 hm5;have HF:=z7 (isFin_is hf);have HKK:=z7 hk;clear hp hm5 hf hk;have r1:IntKind.i64.wrap ((len:Int)-n-X)=(len:Int)-n-X:=by rw[IntKind.wrap_i64];omega
    have r2:¬((len:Int)-n-X)<4:=by omega
    have r3:IntKind.i64.wrap ((n:Int)+X+4)=(n:Int)+X+4:=by rw[IntKind.wrap_i64];omega
    have r4:(n:Int)+X≤(n:Int)+X+4:=by omega
    have r5:(n:Int)+X+4≤cap:=by omega
    have r6:((n:Int)+X+4).toNat=n+X+4:=by omega
    have r7:¬cap=n+X:=by omega
    have r8:n+X+4-(n+X)=4:=by omega
    go_wp2_with fail
    refine(crcsum_any _ _ _ _ _ (SUB.out.below B5.out)).mono ?_;rintro e w6 ⟨rfl,hb6⟩;have B6:=z7 (zf B5.out hb6);have HM6:=z7 (HM5.out.below hb6);clear hb6;go_wp2_with fail
    refine(crcapp_any w6 (.slice none 0 0) [] (crcX ((zs.drop n).take X)) w6 ⟨World.ownsRow_nil _ _ _ _,by simp⟩ (Below.refl _ _) (by simp)).mono ?_;rintro e w7 ⟨v7,rfl,hO7,hb7⟩;rw[List.nil_append]at hO7;obtain⟨a7,cap7,rfl,hI7,_⟩:=hO7.ints (by simp[sum4]);have B7:=z7 (zf B6.out hb7);have HM7:=z7 (HM6.out.below hb7);have KE:=z7 (equal_any a7 (some ⟨b,off+(n+X),none⟩) _ cap7 4 (cap-(n+X)) _ _ w7 hI7 (SUM.out.below B7.out));rw[HS.out,show eqI (sum4 (crcX ((zs.drop n).take X))) (sum4 (crcX ((zs.drop n).take X)))=true from decide_eq_true rfl,show(sum4 (crcX ((zs.drop n).take X))).length=4 from rfl]at KE;rw[show(sum4 (crcX ((zs.drop n).take X))).length=4 from rfl];clear hO7 hI7 hb7;go_wp2_with fail
    refine KE.out.mono ?_;rintro e w8 ⟨rfl,hb8⟩;have B8:=z7 (zf B7.out hb8);have HM8:=z7 (HM7.out.below hb8);clear hb8;go_wp2_with fail
    refine(wknow_fin lm _ r _ _ HM8.out HF.out).mono ?_;rintro e w9 ⟨v,rfl,l,hK9,hl9,hb9⟩;have B9:=z7 (zf B8.out hb9);have HK9:=z7 hK9;have HL9:=z7 (hl9.trans HKK.out);clear hb9 hK9 hl9;go_wp2_with fail
    rw[Exit.noGoto_ret];go_ret3
    exact⟨v,(by rw[show((n+X+4:Nat):Int)=(n:Int)+X+4 by omega];rfl),⟨l,HK9.out,HL9.out⟩,B9.out⟩
   ·have KP:=z7 (fun W hM' hg'=>wput_eq lm hlm hl2 w.heap.size r s x (n+i) (X-nx) (.ok s') hs W hM' hf0 hxw (by omega) (by omega) (by omega) hg' H0.out hBB hN)
    have HRUN:=z7 hrun';have HF:=z7 hf;clear hrun hq hM hb HR hf0 hs hxw hBB hN hrun';go_wp2_with fail
    refine KR.out.mono ?_;rintro e w2 ⟨rfl,hb2⟩;have B2:=z7 (zf HB.out hb2);have HM2:=z7 (HM.out.below hb2);clear hb2;go_wp2_with fail
    refine(KNIL.out _ _ (ze _ _ rfl)).mono ?_;rintro e w3 ⟨rfl,b3⟩;have hb3:=zf (zc (Below.refl w2.heap.size w2) (.cells #[.int .i64 5] 42)) b3;have B3:=z7 (zf B2.out (hb3));have HM3:=z7 (HM2.out.below hb3);clear b3 hb3;go_wp2_with fail
    refine(KP.out _ HM3.out (LAID.out.below B3.out)).mono ?_;rintro e w5 hp;obtain⟨he,hm5⟩:=hp.good s' rfl;rw[hf]at he;subst he;have B5:=z7 (B3.out.trans hp.below);have HM5:=z7 hm5;clear hp hm5 hf;go_wp2
    go_roundw
    case rel=>exact⟨s',nx,rfl,by omega,HRUN.out,HF.out,HM5.out,B5.out⟩
    case measure=>simp[intOf];omega
theorem one_end(p:Option Addr)(len cap:Nat)(zs:List Int)(lm:Lim)(w:World)(h:Ints .u8 w p len zs)(hcap:len≤cap)(hlen:len≤4000000000)(h0:0<len) :
  Calls Tryz.prog 127 #[.slice p len cap,.int .i64 len,.agg #[.int .i64 lm.f,.int .i64 lm.ve,.int .i64 lm.en,.int .i64 lm.ho,.int .i64 lm.se]] w fun e w'=>e=.returned (.tuple #[.slice none 0 0,.int .i64 0,.nilIface])∧Below w.heap.size w w':=by
 have HI:=z7 h;have KH:=z7 (fun W hW=>header_end p len cap lm.f zs W hW hcap hlen h0);have KF:=z7 (fun b W hb=>has_f 5 len 5 b W hb);rw[show decide ((5:Int)=5)=true from rfl]at KF;clear h;go_enter Tryz.func127,Tryz.ntmps127
 go_wp2_with fail
 obtain⟨w1,ew1⟩:∃w1,w.alloc (.cells #[.int .i64 lm.f,.int .i64 lm.ve,.int .i64 lm.en,.int .i64 lm.ho,.int .i64 lm.se] 38)=w1:=⟨_,rfl⟩;have b1:Below w.heap.size w w1:=by rw[← ew1];exact zc (Below.refl _ _) _
 have q1:w1.heap[w.heap.size]?=some (.cells #[.int .i64 lm.f,.int .i64 lm.ve,.int .i64 lm.en,.int .i64 lm.ho,.int .i64 lm.se] 38 (0,0)):=by rw[← ew1];exact ze _ _ rfl
 rw[ew1];have B1:=z7 b1;have l0:w1.cell? ⟨w.heap.size,0,none⟩=some (.int .i64 lm.f):=by simp[World.cell?,q1]
 clear ew1 b1 q1;go_step3
 go_wp2_with fail
 refine(KH.out _ (HI.out.below B1.out)).mono ?_;rintro e w2 ⟨rfl,b2⟩;have B2:=z7 (B1.out.trans (b2.mono B1.out.size));clear b2 l0;go_wp2_with fail
 refine(KF.out _ _ (ze _ _ rfl)).mono ?_;rintro e w3 ⟨rfl,b3⟩;have B3:=z7 (zf B2.out (zf (zc (Below.refl w2.heap.size w2) (.cells #[.int .i64 5] 42)) b3));clear b3;go_wp2_with fail
 rw[Exit.noGoto_ret];go_ret3
 exact⟨rfl,B3.out⟩
theorem info_know:(Tryz.prog.info? 23).map (fun i=>(i.zero,i.size,i.bytes))=some (some (.slice none 0 0),1,24):=by kernel_rfl
theorem info_intA:(Tryz.prog.info? 3).map (fun i=>(i.zero,i.size,i.bytes))=some (some (.int .i64 0),1,8):=by kernel_rfl
theorem all_one(p:Option Addr)(len cap n X:Nat)(zs:List Int)(lm:Lim)(hlm:LimW lm)(hl2:LimW2 lm)(hlf:lm.f≤9223372036854775807)(k:List Frag)(w:World)(hg:Laid w)(h:Ints .u8 w p len zs)(hcap:len≤cap)(hlen:len≤4000000000)(hh:HeadAt zs 0 n (X:Int))(hX:(X:Int)≤lm.f)(hn:n+X+4=len)
  (hs:(zs.drop (n+X)).take 4=sum4 (crcX ((zs.drop n).take X))) (hr:RunW lm n ((zs.drop n).take X) WS0 0 (.ok k)) :
  Calls Tryz.prog 75 #[.slice p len cap,.agg #[.int .i64 lm.f,.int .i64 lm.ve,.int .i64 lm.en,.int .i64 lm.ho,.int .i64 lm.se]] w fun e w'=>∃g c v2,e=.returned (.tuple #[.slice (some ⟨g,0,none⟩) 1 c,v2,.agg #[.int .i64 0,.int .i64 len]])∧w.heap.size≤g∧(∃v,w'.cell? ⟨g,0,none⟩=some v∧∃l,KRow w' w.heap.size v l∧l.map FV.frag=k)∧Below w.heap.size w w':=by
 obtain⟨i0,hi,hz0,hz1,hz2⟩:=info_parts info_know;obtain⟨j0,hj,hy0,hy1,hy2⟩:=info_parts info_intA;have HI:=z7 h;have K1:=z7 (fun W (hW:Below w.heap.size w W)=>one_yes p len cap 0 n X zs lm hlm hl2 hlf k W (hg.below hW) (h.below hW) hcap hlen hh hX (by omega) hs hr);have K2:=z7 (fun W (hW:Below w.heap.size w W)=>one_end p len cap zs lm W (h.below hW) hcap hlen (by omega));rw[hn]at K1;have hlp:0<len:=by omega
 clear hg h hs hh hr hlm hl2;go_enter Tryz.func75,Tryz.ntmps75
 go_wp2_with fail
 obtain⟨w1,ew1⟩:∃w1,(w.alloc (.cells #[.int .i64 lm.f,.int .i64 lm.ve,.int .i64 lm.en,.int .i64 lm.ho,.int .i64 lm.se] 38)).alloc (.cells #[.int .i64 0,.int .i64 0] 70)=w1:=⟨_,rfl⟩;have b1:Below w.heap.size w w1:=by rw[← ew1];exact zc (zc (Below.refl _ _) _) _
 have q1:w1.heap[w.heap.size]?=some (.cells #[.int .i64 lm.f,.int .i64 lm.ve,.int .i64 lm.en,.int .i64 lm.ho,.int .i64 lm.se] 38 (0,0)):=by rw[← ew1];exact zk _ _ (by simp) (ze _ _ rfl)
 have p1:w1.heap[w.heap.size+1]?=some (.cells #[.int .i64 0,.int .i64 0] 70 (0,0)):=by rw[← ew1];exact ze _ _ (by simp)
 rw[ew1];have B1:=z7 b1;have Q1:=z7 q1;have P1:=z7 p1;have l0:w1.cell? ⟨w.heap.size,0,none⟩=some (.int .i64 lm.f):=by simp[World.cell?,q1]
 have l1:w1.cell? ⟨w.heap.size,1,none⟩=some (.int .i64 lm.ve):=by simp[World.cell?,q1]
 have l2:w1.cell? ⟨w.heap.size,2,none⟩=some (.int .i64 lm.en):=by simp[World.cell?,q1]
 have l3:w1.cell? ⟨w.heap.size,3,none⟩=some (.int .i64 lm.ho):=by simp[World.cell?,q1]
 have l4:w1.cell? ⟨w.heap.size,4,none⟩=some (.int .i64 lm.se):=by simp[World.cell?,q1]
 clear ew1 b1 q1 p1;refine wp_loop_rounds 2 ?_;rw[rounds_succ];go_wp2_with fail
 refine(K1.out _ B1.out).mono ?_;rintro e w2 ⟨v,rfl,⟨l,hK2,hl2⟩,b2⟩;have B2:=z7 (B1.out.trans (b2.mono B1.out.size));have HK2:=z7 (hK2.base B1.out.size);have HL2:=z7 hl2;have Q2:=z7 ((b2.block _ (zh Q1.out)).trans Q1.out);have P2:=z7 ((b2.block _ (zh P1.out)).trans P1.out);obtain⟨av,cv,rfl,_⟩:=zl hK2.row;obtain⟨nv,env⟩:∃nv,l.length=nv:=⟨_,rfl⟩;rw[env];have ENV:=z7 env;clear hK2 hl2 b2 env l0 l1 l2 l3 l4;go_wp2_with(first
  | (at_builtin;refine wpList_append_own_at _ rfl _ _ 51 rfl w.heap.size 23 i0 (.slice none 0 0) 1 24 Tryz.underlying51 hi hz0 hz1 hz2 rfl (by decide) (.slice none 0 0) 0 [] rfl (World.ownsRow_nil _ _ _ _) ⟨w2.heap.size,0,none⟩ 1 1 [.slice av nv cv] rfl rfl (z10 (ze _ _ rfl)) (by intro u hu;simp at hu;subst hu;rfl) (by unfold maxLen;omega) (by omega) (by have:=B2.out.size;simp;omega) ?_;intro v3 w3 hO3 hg3 _ hb3;have O3:=z7 hO3;have B3:=z7 ((zc B2.out (.cells #[.slice av nv cv] 23)).grown hg3 (by have:=B2.out.size;simp;omega) (fun q hq=>by cases hq));have C3:=z7 ((zc (Below.refl w2.heap.size w2) (.cells #[.slice av nv cv] 23)).grown hg3 (by simp) (fun q hq=>by cases hq));clear hO3 hg3 hb3)
  | fail)
 generalize hw4:World.drew _=w4
 have b4:Below w3.heap.size w3 w4:=by rw[← hw4];exact(((Only.refl (fun _=>False) w3).alloc _).alloc _).drew.below (n:=w3.heap.size) (Nat.le_refl _) (fun _ h=>h.elim)
 have B4:=z7 (B3.out.trans (b4.mono B3.out.size));obtain⟨g,cg,rfl⟩:=ownsRow_succ O3.out;have C4:=z7 (C3.out.trans (b4.mono C3.out.size));have HK4:=z7 (HK2.out.below C4.out);have q4:=(C4.out.block _ (zh Q2.out)).trans Q2.out;have p4:=(C4.out.block _ (zh P2.out)).trans P2.out;have O4:=z7 (irow_below O3.out b4);have l0:w4.cell? ⟨w.heap.size,0,none⟩=some (.int .i64 lm.f):=by simp[World.cell?,q4]
 have l1:w4.cell? ⟨w.heap.size,1,none⟩=some (.int .i64 lm.ve):=by simp[World.cell?,q4]
 have l2:w4.cell? ⟨w.heap.size,2,none⟩=some (.int .i64 lm.en):=by simp[World.cell?,q4]
 have l3:w4.cell? ⟨w.heap.size,3,none⟩=some (.int .i64 lm.ho):=by simp[World.cell?,q4]
 have l4:w4.cell? ⟨w.heap.size,4,none⟩=some (.int .i64 lm.se):=by simp[World.cell?,q4]
 have z0:=frozen_of_row _ _ 0 _ _ p4;have z1:=frozen_of_row _ _ 1 _ _ p4;have P4:=z7 p4;clear hw4 b4 q4 p4;rw[rounds_succ];go_wp2_with fail
 refine(K2.out _ B4.out).mono ?_;rintro e w5 ⟨rfl,b5⟩;have p5:=(b5.block _ (zh P4.out)).trans P4.out;have y0:w5.cell? ⟨w.heap.size+1,0,none⟩=some (.int .i64 0):=by simp[World.cell?,p5]
 have y1:w5.cell? ⟨w.heap.size+1,1,none⟩=some (.int .i64 0):=by simp[World.cell?,p5]
 have z50:=frozen_of_row _ _ 0 _ _ p5;have z51:=frozen_of_row _ _ 1 _ _ p5;clear l0 l1 l2 l3 l4 z0 z1;go_wp2_with fail
 have p6:=heap_setCell_same _ _ 1 _ _ (.int .i64 len) (heap_setCell_same _ _ 0 _ _ (.int .i64 0) p5);have o6:Only (fun b=>b=w.heap.size+1) w5 ((w5.setCell ⟨w.heap.size+1,0,none⟩ (.int .i64 0)).setCell ⟨w.heap.size+1,1,none⟩ (.int .i64 len)):=((Only.refl (fun b=>b=w.heap.size+1) w5).setCell (p:=⟨w.heap.size+1,0,none⟩) (.inl rfl) _).setCell (p:=⟨w.heap.size+1,1,none⟩) (.inl rfl) _;have t5:Typed w5 70 (w.heap.size+1):=⟨_,p5⟩;have K6:=(HK4.out.below b5).only o6 (fun k hk=>by rw[hk];exact⟨t5.not (by decide),t5.not (by decide),t5.not (by decide)⟩);have O5:=irow_below O4.out b5;have O6:=zo O5 o6 (fun k hk hkk=>by rw[hkk]at hk;exact t5.ne (zj O5 hk) (by decide) rfl);have B6:=(B4.out.trans (b5.mono B4.out.size)).trans (o6.below (n:=w.heap.size) (Nat.le_trans B4.out.size b5.size) (fun b hb=>by omega));generalize (w5.setCell ⟨w.heap.size+1,0,none⟩ (.int .i64 0)).setCell ⟨w.heap.size+1,1,none⟩ (.int .i64 len)=w6 at *
 refine bodyPost_ret (v:=.tuple #[.slice (some ⟨g,0,none⟩) 1 cg,(.slice (some ⟨w3.heap.size+1,0,none⟩) 1 ((Question.appendCap 1 0 3).cut (w3.tape w3.drawn (Question.appendCap 1 0 3)))),.agg #[.int .i64 0,.int .i64 len]]) ?_ rfl ⟨g,cg,_,rfl,?_,⟨_,?_,l,K6,HL2.out⟩,B6⟩
 ·simp[results,Tryz.results75,go_sem,p6,World.cell?]
 ·exact(O3.out.lt g rfl).1
 ·rcases O6.2 with⟨hv,_⟩ | ⟨g',cap',cur,hv,_,hc,_,_,_,h4⟩
  ·cases hv
  ·injection hv with e1 _ _
   injection e1 with e1
   injection e1 with e1 _ _
   subst e1;have h5:=congrArg (fun t:List Value=>t[0]?) h4;simp[List.getElem?_take,ENV.out]at h5
   simp[World.cell?,hc,h5,ENV.out]
theorem parse_one(p:Option Addr)(len cap n X:Nat)(zs:List Int)(lm:Lim)(hlm:LimW lm)(hl2:LimW2 lm)(hlf:lm.f≤9223372036854775807)(k:List Frag)(w:World)(hg:Laid w)(h:Ints .u8 w p len zs)(hcap:len≤cap)(hlen:len≤4000000000)(hh:HeadAt zs 0 n (X:Int))(hX:(X:Int)≤lm.f)(hn:n+X+4=len)
  (hs:(zs.drop (n+X)).take 4=sum4 (crcX ((zs.drop n).take X))) (hr:RunW lm n ((zs.drop n).take X) WS0 0 (.ok k)) :
  Calls Tryz.prog 31 #[.slice p len cap,.agg #[.int .i64 lm.f,.int .i64 lm.ve,.int .i64 lm.en,.int .i64 lm.ho,.int .i64 lm.se]] w fun e w'=>∃g c,e=.returned (.tuple #[.slice (some ⟨g,0,none⟩) 1 c,.agg #[.int .i64 0,.int .i64 len]])∧w.heap.size≤g∧(∃v,w'.cell? ⟨g,0,none⟩=some v∧∃l,KRow w' w.heap.size v l∧l.map FV.frag=k)∧Below w.heap.size w w':=by
 have hmx:Tryz.prog.follows .mixedOrders=true:=by kernel_rfl
 have K1:=z7 (fun W (hW:Below w.heap.size w W)=>all_one p len cap n X zs lm hlm hl2 hlf k W (hg.below hW) (h.below hW) hcap hlen hh hX hn hs hr);clear hg h hs hh hr hlm hl2;go_enter Tryz.func31,Tryz.ntmps31
 go_wp2_with fail
 obtain⟨w1,ew1⟩:∃w1,(w.alloc (.cells #[.int .i64 lm.f,.int .i64 lm.ve,.int .i64 lm.en,.int .i64 lm.ho,.int .i64 lm.se] 38)).alloc (.cells #[.int .i64 0,.int .i64 0] 70)=w1:=⟨_,rfl⟩;have b1:Below w.heap.size w w1:=by rw[← ew1];exact zc (zc (Below.refl _ _) _) _
 have s1:w1.heap.size=w.heap.size+2:=by rw[← ew1];simp
 have p1:w1.heap[w.heap.size+1]?=some (.cells #[.int .i64 0,.int .i64 0] 70 (0,0)):=by rw[← ew1];exact ze _ _ (by simp)
 rw[ew1];clear ew1;refine(K1.out _ b1).mono ?_;rintro e w2 ⟨g,c,v2,rfl,hg2,⟨v,hv,l,hK,hl⟩,hb⟩;have p2:=(hb.block _ (zh p1)).trans p1;have B2:=z7 (b1.trans (hb.mono b1.size));have HK:=z7 hK;have HV:=z7 (And.intro hv (And.intro hl (And.intro hg2 s1)));have y0:w2.cell? ⟨w.heap.size+1,0,none⟩=some (.int .i64 0):=by simp[World.cell?,p2]
 have y1:w2.cell? ⟨w.heap.size+1,1,none⟩=some (.int .i64 0):=by simp[World.cell?,p2]
 have z0:=frozen_of_row _ _ 0 _ _ p2;have z1:=frozen_of_row _ _ 1 _ _ p2;have P2:=z7 p2;clear b1 p1 hv hl hK hg2 hb s1 p2;go_wp2_with fail
 obtain⟨w3,ew3⟩:∃w3,w2.alloc (.cells #[.int .i64 0,.int .i64 len] 70)=w3:=⟨_,rfl⟩;have b3:Below w2.heap.size w2 w3:=by rw[← ew3];exact zc (Below.refl _ _) _
 have q3:w3.heap[w2.heap.size]?=some (.cells #[.int .i64 0,.int .i64 len] 70 (0,0)):=by rw[← ew3];exact ze _ _ rfl
 have p3:=(b3.block _ (zh P2.out)).trans P2.out;have c0:w3.cell? ⟨w2.heap.size,0,none⟩=some (.int .i64 0):=by simp[World.cell?,q3]
 have c1:w3.cell? ⟨w2.heap.size,1,none⟩=some (.int .i64 len):=by simp[World.cell?,q3]
 have nq:¬w2.heap.size=w.heap.size+1:=by have:=zh P2.out;omega
 have HK3:=z7 (HK.out.below b3);have HV3:=z7 (show w3.cell? ⟨g,0,none⟩=some v from zg b3 (block_lt_of_cell HV.out.1) HV.out.1);have B3:=z7 (B2.out.trans (b3.mono B2.out.size));have P3:=z7 p3;rw[ew3];clear b3 q3 p3 y0 y1 z0 z1 ew3;refine wp_region_held_drew (S:=Only (fun b=>b=w.heap.size+1) w3) hmx (Only.refl _ _).drew (fun hS=>?_);refine tkd (i:=0) (d:=some 16) (v:=(.slice (some ⟨g,0,none⟩) 1 c)) (hy:=.inl ⟨by rfl,?_⟩) (h:=?_)
 ·intro X hX;go_simp
 refine tkd (i:=1) (d:=some 17) (v:=(.agg #[.int .i64 0,.int .i64 len])) (hy:=.inl ⟨by rfl,?_⟩) (h:=?_)
 ·intro X hX;have x0:=hX.cell nq c0;have x1:=hX.cell nq c1;go_simp
 refine tkd (i:=2) (d:=some 4) (v:=(.slice (some ⟨g,0,none⟩) 1 c)) (hy:=.inl ⟨by rfl,?_⟩) (h:=?_)
 ·intro X hX;go_simp
 obtain⟨w4,ew4⟩:∃w4,w3.drew=w4:=⟨_,rfl⟩;have q4:w4.heap[w.heap.size+1]?=some (.cells #[.int .i64 0,.int .i64 0] 70 (0,0)):=by rw[← ew4];exact((Only.refl (fun _=>False) w3).drew.obj (fun h=>h) P3.out)
 have O4:=z7 (show Only (fun _=>False) w3 w4 from by rw[← ew4];exact(Only.refl (fun _=>False) w3).drew);have y0:w4.cell? ⟨w.heap.size+1,0,none⟩=some (.int .i64 0):=by simp[World.cell?,q4]
 have y1:w4.cell? ⟨w.heap.size+1,1,none⟩=some (.int .i64 0):=by simp[World.cell?,q4]
 have z0:=frozen_of_row _ _ 0 _ _ q4;have z1:=frozen_of_row _ _ 1 _ _ q4;rw[ew4]at hS ⊢;clear ew4;refine wpAnyH_ready (rs:=[3]) (by kernel_rfl) (by simp) ?_;refine AllReadyH.cons (o:=_) rfl (fun K hK=>?_) AllReadyH.nil;have hS5:=(hS.setCell (p:=⟨w.heap.size+1,0,none⟩) (.inl rfl) (.int .i64 0)).setCell (p:=⟨w.heap.size+1,1,none⟩) (.inl rfl) (.int .i64 len);have q5:=heap_setCell_same _ _ 1 _ _ (.int .i64 len) (heap_setCell_same _ _ 0 _ _ (.int .i64 0) q4);have HS5:=z7 hS5;have Q5:=z7 q5;have Q4:=z7 q4;clear q5 q4;go_simp
 refine hK.out _ _ hS5 (fun _=>?_);clear hK K hS hS5;refine wpAnyH_done (by kernel_rfl) ?_ _;go_wp2
 obtain⟨hv,hl,hg2,s1⟩:=HV.out;have o3:=HS5.out;have t3:Typed w3 70 (w.heap.size+1):=⟨_,P3.out⟩;have hgn:¬g=w.heap.size+1:=by omega
 refine bodyPost_ret (v:=.tuple #[.slice (some ⟨g,0,none⟩) 1 c,.agg #[.int .i64 0,.int .i64 len]]) ?_ rfl ⟨g,c,rfl,by omega,⟨v,o3.cell hgn HV3.out,l,(HK3.out.only o3 (fun k hk=>by rw[hk];exact⟨t3.not (by decide),t3.not (by decide),t3.not (by decide)⟩)).base (by omega),hl⟩,B3.out.trans (o3.below (n:=w.heap.size) B3.out.size (fun b hb=>by omega))⟩;simp[results,Tryz.results31,go_sem,World.cell?,Q5.out]
def lmU:Lim:=⟨9223372036854775807,9223372036854775807,9223372036854775807,9223372036854775807,9223372036854775807⟩
theorem lmU_w:LimW lmU:=⟨by unfold lmU;decide,by unfold lmU;decide⟩
theorem lmU_w2:LimW2 lmU:=⟨by unfold lmU;decide,by unfold lmU;decide⟩
def runV:List Ent:=[⟨7,0,[]⟩]
def runK:List Frag:=[⟨[(3,3)],runV⟩]
def runZ:List Int:=[1,1,7,0,0,1,3,0,0]
theorem z3l(pre post:List Int)(x:Int){zs:List Int}{a n:Int}(h:zs=pre ++ [x] ++ post)(ha:a=(pre.length:Int))(hn:n=(pre.length:Int)+1)(hx:0≤x∧x<128):Rd zs a (.ok (x,n)):=by
 subst h;subst ha;subst hn;have h:=rd_vb pre post x (by unfold Word;omega);rw[show vb 10 x=[x] from z4p 9 (by omega)]at h;exact h
def rs1:WS:=⟨.vecs 1 (-1) none,[],[],none,none⟩
def rs2:WS:=⟨.vecs 1 7 (some ⟨.rep,[],⟨0,0,[]⟩,1,0⟩),[],[],none,none⟩
def rs3:WS:=⟨.vecs 1 7 (some ⟨.top,[],⟨7,0,[]⟩,1,0⟩),[],[],none,none⟩
def rs4:WS:=⟨.vecs 1 7 (some ⟨.op,[],⟨7,0,[]⟩,1,0⟩),[],[],none,none⟩
def rs5:WS:=⟨.mid,[⟨[],runV⟩],[],none,none⟩
def rs6:WS:=⟨.segs 1 0 0 false,[⟨[],runV⟩],[],none,none⟩
def rs7:WS:=⟨.segs 1 1 0 false,[⟨[],runV⟩],[],none,some 3⟩
def rs8:WS:=⟨.segs 1 2 0 false,[⟨[],runV⟩],[],some (3,3),none⟩
def rs9:WS:=⟨.fin,runK,[0],some (3,3),none⟩
theorem z23{s:WS}(hk:s.k=[]∨s.k=[⟨[],runV⟩])(hu:s.us=[]):StepB s:=by
 refine⟨⟨by rcases hk with h | h<;>simp[h],fun f hf=>?_⟩,by simp[hu],fun f hf=>?_⟩
 ·rcases hk with h | h
  ·rw[h]at hf;cases hf
  ·rw[h]at hf
   obtain rfl:f=⟨[],runV⟩:=by simpa using hf
   refine⟨by decide,fun e he=>?_,by decide⟩;obtain rfl:e=⟨7,0,[]⟩:=by simpa[runV]using he
   decide
 ·rcases hk with h | h
  ·rw[h]at hf;cases hf
  ·rw[h]at hf
   obtain rfl:f=⟨[],runV⟩:=by simpa using hf
   decide
theorem okV_run:okV runV:=⟨by decide,fun e he=>(by
 obtain rfl:e=⟨7,0,[]⟩:=by simpa[runV]using he
 decide),by decide⟩
theorem run_one:RunW lmU 6 runZ WS0 0 (.ok runK):=by
 refine .next (s':=rs1) (x:=1) (n:=1) (z3l [] [1,7,0,0,1,3,0,0] 1 rfl rfl rfl (by decide)) (z23 (.inl rfl) rfl) trivial (by kernel_rfl) rfl ?_;refine .next (s':=rs2) (x:=1) (n:=2) (z3l [1] [7,0,0,1,3,0,0] 1 rfl rfl rfl (by decide)) (z23 (.inl rfl) rfl) (fun st' h=>?_) (by kernel_rfl) rfl ?_
 ·injection h with h;subst h;exact⟨by decide,fun e he=>(by cases he),by decide⟩
 refine .next (s':=rs3) (x:=7) (n:=3) (z3l [1,1] [0,0,1,3,0,0] 7 rfl rfl rfl (by decide)) (z23 (.inl rfl) rfl) ⟨⟨by simp,.inr (by decide),by decide,by decide,by decide⟩,fun st' h=>?_⟩ (by kernel_rfl) rfl ?_
 ·injection h with h;subst h;exact⟨by decide,fun e he=>(by cases he),by decide⟩
 refine .next (s':=rs4) (x:=0) (n:=4) (z3l [1,1,7] [0,1,3,0,0] 0 rfl rfl rfl (by decide)) (z23 (.inl rfl) rfl) ⟨⟨by simp,.inr (by decide),by decide,by decide,by decide⟩,fun st' h=>?_⟩ (by kernel_rfl) rfl ?_
 ·injection h with h;subst h;exact⟨by decide,fun e he=>(by cases he),by decide⟩
 refine .next (s':=rs5) (x:=0) (n:=5) (z3l [1,1,7,0] [1,3,0,0] 0 rfl rfl rfl (by decide)) (z23 (.inl rfl) rfl) ⟨⟨by simp,.inr (by decide),by decide,by decide,by decide⟩,fun st' h=>?_⟩ (by kernel_rfl) rfl ?_
 ·injection h with h;subst h;exact okV_run
 refine .next (s':=rs6) (x:=1) (n:=6) (z3l [1,1,7,0,0] [3,0,0] 1 rfl rfl rfl (by decide)) (z23 (.inr rfl) rfl) trivial (by kernel_rfl) rfl ?_;refine .next (s':=rs7) (x:=3) (n:=7) (z3l [1,1,7,0,0,1] [0,0] 3 rfl rfl rfl (by decide)) (z23 (.inr rfl) rfl) (.inl ⟨rfl,rfl⟩) (by kernel_rfl) rfl ?_;refine .next (s':=rs8) (x:=0) (n:=8) (z3l [1,1,7,0,0,1,3] [0] 0 rfl rfl rfl (by decide)) (z23 (.inr rfl) rfl) (.inr (.inl ⟨rfl,_,rfl⟩)) (by kernel_rfl) rfl ?_;exact .fin (s':=rs9) (x:=0) (n:=9) (z3l [1,1,7,0,0,1,3,0] [] 0 rfl rfl rfl (by decide)) (z23 (.inr rfl) rfl) (.inr (.inr ⟨rfl,_,rfl⟩)) (by kernel_rfl) rfl
theorem runK_can:CanK runK:=by
 refine⟨fun f hf=>?_,fun f hf=>?_,fun f hf=>?_,fun f hf=>?_,List.pairwise_singleton _ _,List.pairwise_singleton _ _⟩;all_goals obtain rfl:f=⟨[(3,3)],runV⟩:=by simpa[runK]using hf
 ·exact cor_single (by decide)
 ·simp
 ·refine CanW.snoc (es:=[]) CanW.nil ⟨fun i hi=>absurd hi (by simp),fun i hi=>absurd hi (by simp)⟩ ⟨by unfold Word;decide,by unfold Word;decide,fun z hz=>by cases hz⟩ (fun f hf=>by cases hf)
 ·simp[runV]
theorem runK_kn(x r c:Int):KnK runK x r c↔(x=3∧r=7∧c=0):=by
 constructor
 ·rintro⟨f,hf,h1,h2⟩
  obtain rfl:f=⟨[(3,3)],runV⟩:=by simpa[runK]using hf
  rw[z1l]at h1;obtain⟨e,he,h3,h4,h5,_⟩:=h2;obtain rfl:e=⟨7,0,[]⟩:=by simpa[runV]using he
  simp only at h1 h3 h4 h5;omega
 ·rintro⟨rfl,rfl,rfl⟩
  exact⟨⟨[(3,3)],runV⟩,by simp[runK],by rw[z1l];decide,⟨7,0,[]⟩,by simp[runV],rfl,by decide,by decide,z1r _⟩
theorem runK_of{l:List FV}(h:CanL l)(hk:∀x r c,KnK (l.map FV.frag) x r c↔(x=3∧r=7∧c=0)):l.map FV.frag=runK:=
 know_unique h runK_can fun x r c=>(hk x r c).trans (runK_kn x r c).symm
theorem run_list{l:List FV}(h:l.map FV.frag=runK):∃iv vec vv,l=[⟨[(3,3)],iv,vec,vv⟩]∧vec.map (·.1)=runV:=by
 match l,h with
 | [f],h=>
   obtain⟨items,iv,vec,vv⟩:=f;simp[runK,FV.frag]at h
   obtain⟨rfl,h⟩:=h;exact⟨iv,vec,vv,rfl,h⟩
 | [],h=>simp[runK]at h
 | _ :: _ :: _,h=>simp[runK]at h
theorem run_nums{l:List FV}(h:l.map FV.frag=runK):weN l=runZ:=by
 obtain⟨iv,vec,vv,rfl,hv⟩:=run_list h;have hz:segZ [⟨[(3,3)],iv,vec,vv⟩]=[(3,3)]:=by
  unfold segZ flatZ sortZ;simp
 have hf:findI [⟨[(3,3)],iv,vec,vv⟩] 3=0:=findI_eq (k:=0) (by simp) rfl (by simp[List.getD];exact z1l.2 (by decide));have hw:weV [⟨[(3,3)],iv,vec,vv⟩] 1=[1] ++ numsV runV:=by
  show [((1:Nat):Int)] ++ numsV (FV.es _)=_
  rw[show FV.es (([⟨[(3,3)],iv,vec,vv⟩]:List FV).getD 0 FV.z)=runV from hv];rfl
 unfold weN;rw[hz];show weS _ 1=_
 show(weV _ 1 ++ [((segZ _).length:Int)]) ++ segT _ 0=_
 rw[hw];unfold segT;rw[hz];rw[show Lo [(3,3)] 0=3 from rfl,hf];rfl
theorem run_bytes{l:List FV}(h:l.map FV.frag=runK):joinB (weN l)=runZ:=by
 rw[run_nums h];unfold runZ joinB;simp[vb]
theorem run_encB{l:List FV}(h:l.map FV.frag=runK):EncB l:=by
 refine⟨by rw[run_nums h];decide,?_,?_⟩
 ·obtain⟨iv,vec,vv,rfl,hv⟩:=run_list h
  intro f hf e he;obtain rfl:f=⟨[(3,3)],iv,vec,vv⟩:=by simpa using hf
  have he':e∈runV:=by rw[← hv];exact he
  obtain rfl:e=⟨7,0,[]⟩:=by simpa[runV]using he'
  decide
 ·obtain⟨iv,vec,vv,rfl,hv⟩:=run_list h
  unfold segZ;rw[z2e];simp[flatZ]
def runB:List Int:=frameB [] runZ
theorem z30:runB=[75,78,87,76,1,9,1,1,7,0,0,1,3,0,0] ++ sum4 (crcX runZ):=by
 unfold runB frameB headB;rw[show vb 10 ((runZ.length:Nat):Int)=[9] from by simp[runZ,vb]];rfl
theorem runB_len:runB.length=19:=by rw[z30];rfl
theorem runB_head:HeadAt runB 0 6 ((9:Nat):Int):=by
 have hr:Rd runB ((0+5:Nat):Int) (.ok (((9:Nat):Int),((6:Nat):Int))):=z3l [75,78,87,76,1] ([1,1,7,0,0,1,3,0,0] ++ sum4 (crcX runZ)) 9 (by rw[z30];rfl) rfl rfl (by decide);exact⟨by rw[runB_len];decide,by rw[z30];rfl,by rw[z30];rfl,by rw[z30];rfl,by rw[z30];rfl,by rw[z30];rfl,hr⟩
theorem runB_pay:(runB.drop 6).take 9=runZ:=by rw[z30];rfl
theorem runB_sum:(runB.drop (6+9)).take 4=sum4 (crcX ((runB.drop 6).take 9)):=by rw[runB_pay,z30];rfl
theorem fenc_one(b:Nat)(a:Option Addr)(n c:Nat)(l:List FV)(T V A:Nat)(w:World)(hc:w.cell? ⟨b,0,none⟩=some (.slice a n c))
  (K:∀W,Below w.heap.size w W→Calls Tryz.prog 13 #[.slice a n c] W fun e w'=>WEncR W l T V A e w')
  (hbig:∀l',CanL l'→(∀x r c,KnK (l'.map FV.frag) x r c↔KnK (l.map FV.frag) x r c)→(joinB (weN l')).length≤900000) :
  Calls Tryz.prog 30 #[.slice (some ⟨b,0,none⟩) 1 1] w fun e w'=>∃vb l',e=.returned (.tuple #[vb,.nilIface])∧CanL l'∧(∀x r c,KnK (l'.map FV.frag) x r c↔KnK (l.map FV.frag) x r c)∧OwnB w' w.heap.size vb (frameB [] (joinB (weN l')))∧Below w.heap.size w w':=by
 have KK:=z7 K;have BIG:=z7 hbig;have HC:=z7 hc;clear K hbig;go_enter Tryz.func30,Tryz.ntmps30
 go_wp2_with fail
 refine wp_loop_rounds 2 ?_;rw[rounds_succ];go_wp2_with fail
 refine(KK.out _ (Below.refl _ _)).mono ?_;rintro e w1 ⟨v1,l',rfl,hcan,hkn,htot,hbnd,hO,hb⟩;have hl:=z7 (BIG.out l' hcan hkn);have CK:=z7 (And.intro hcan hkn);have B1:=z7 hb;have O1:=z7 hO;obtain⟨zs,ezs⟩:∃zs,joinB (weN l')=zs:=⟨_,rfl⟩;have EZ:=z7 ezs;rw[ezs]at hl O1;obtain⟨a1,c1,rfl,hI,hcap⟩:=O1.out.ints (by have:=hl.out;omega);have hn1:a1=none→c1=0:=by
  intro e;rcases O1.out.row.2 with⟨hv,_⟩ | ⟨g,cap,cur,hv,_⟩
  ·simp at hv
   exact hv.2.2
  ·rw[e]at hv;cases hv
 obtain⟨m,em⟩:∃m,zs.length=m:=⟨_,rfl⟩;have EM:=z7 em;rw[em]at hI ⊢;have HI:=z7 hI;have HN:=z7 hn1;have HL:=z7 (show m≤900000 from by rw[← em];exact hl.out);clear hcan hkn htot hbnd hO hb hI hcap hn1 ezs em hc hl;go_wp2_with fail
 refine(fapp_any w1 (.slice none 0 0) [] zs a1 m c1 w1 (OwnB.nil _ _) (Below.refl _ _) HI.out HN.out (by simp) HL.out (by simp;exact HL.out)).mono ?_;rintro e w2 ⟨v2,rfl,hO2,hb2⟩;have O2:=z7 (hO2.lower B1.out.size);have B2:=z7 (B1.out.trans (hb2.mono B1.out.size));clear hO2 hb2;go_wp2_with fail
 rw[rounds_succ];go_wp2_with fail
 go_ret2
 exact⟨v2,l',rfl,CK.out.1,CK.out.2,by rw[EZ.out];exact O2.out,B2.out⟩
theorem kok_nil(w:World):KOk w (.slice none 0 0) [] 0 0 0:=
 ⟨⟨none,0,rfl,⟨rfl,fun f hf=>(by cases hf),fun i hi=>absurd hi (by simp)⟩,Nat.le_refl _⟩,fun n c e=>(by cases e;rfl),
  ⟨0,0,0,⟨fun f hf=>(by cases hf),fun f hf=>(by cases hf),fun f hf=>(by cases hf),fun f hf=>(by cases hf),fun f hf=>(by cases hf)⟩,fun x=>(by simp[selI]),by decide,by decide,by decide,by decide⟩,Nat.le_refl _,Nat.le_refl _⟩
theorem wenc_kok{v:Value}{l:List FV}{P Q T:Nat}{w:World}(h:KOk w v l P Q T)(hP:P≤10000)(hQ:Q≤40000)(hT:T≤4000000)
  (hbig:∀l',CanL l'→(∀x r c,KnK (l'.map FV.frag) x r c↔KnK (l.map FV.frag) x r c)→EncB l') :
  ∃T' V' A',Calls Tryz.prog 13 #[v] w fun e w'=>WEncR w l T' V' A' e w':=by
 obtain⟨hE,hn,⟨V,A,N,hO,hN,v1,v2,v3,v4⟩,ht,hl⟩:=h;have hV:V≤1000000:=Nat.le_trans (Nat.le_mul_of_pos_left _ (Nat.succ_pos N)) v1;have hA:A+3≤1000000:=Nat.le_trans (Nat.le_mul_of_pos_left _ (Nat.succ_pos N)) v2;exact⟨_,_,_,wenc_any v l 1000000 V A N w hE hO (Nat.le_refl _) (by omega) (by omega) hV (by omega) hN (by omega) (by omega) (fun l' h1 h2 _ _=>hbig l' h1 h2)⟩
theorem runs_any(w:World)(hg:Laid w):Calls Tryz.prog 8 #[] w fun e w'=>e=.returned (.bool true)∧Below w.heap.size w w':=by
 have LAID:=z7 hg;have K1:=z7 (kinsert_any 3 7 0 (kok_nil w) (by unfold Word;decide) (by unfold Word;decide) (by unfold Word;decide) (by decide) (by decide) (by decide));clear hg;go_enter Tryz.func8,Tryz.ntmps8
 go_wp2_with fail
 refine K1.out.mono ?_;rintro e w1 ⟨v1,l1,rfl,hR1,hC1,hK1,hO1,hb1⟩;have f1:=runK_of hC1 (fun x r c=>(hK1 x r c).trans ⟨fun h=>h.elim (fun h=>absurd h (knK_nil x r c)) id,.inr⟩);have l1e:l1.length=1:=by have:=congrArg List.length f1;simpa[runK]using this
 obtain⟨a1,c1,rfl⟩:=hO1.slice;rw[l1e]at hO1 ⊢;have O1:=z7 hO1;have F1:=z7 f1;have B1:=z7 hb1;have KN1:=z7 hK1;have CN1:=z7 hC1;clear hR1 hC1 hK1 hO1 hb1 f1 l1e K1;go_wp2_with fail
 obtain⟨w2,ew2⟩:∃w2,w1.alloc (.cells #[.slice a1 1 c1] 23)=w2:=⟨_,rfl⟩;have b2:Below w1.heap.size w1 w2:=by rw[← ew2];exact zc (Below.refl _ _) _
 have q2:w2.heap[w1.heap.size]?=some (.cells #[.slice a1 1 c1] 23 (0,0)):=by rw[← ew2];exact ze _ _ rfl
 have e2:w2.cell? ⟨w1.heap.size,0,none⟩=some (.slice a1 1 c1):=by simp[World.cell?,q2]
 have B2:=z7 (B1.out.trans (b2.mono B1.out.size));have O2:=z7 (O1.out.below b2);have same:∀l',CanL l'→(∀x r c,KnK (l'.map FV.frag) x r c↔KnK (l1.map FV.frag) x r c)→l'.map FV.frag=runK:=fun l' h1 h2=>runK_of h1 (fun x r c=>by
  rw[h2,F1.out];exact runK_kn x r c)
 have KE:∃T' V' A',∀W,Below w2.heap.size w2 W→Calls Tryz.prog 13 #[.slice a1 1 c1] W fun e w'=>WEncR W l1 T' V' A' e w':=by
  obtain⟨hE,hn,⟨V,A,N,hO,hN,v1,v2,v3,v4⟩,ht,hl⟩:=O2.out;have hV:V≤1000000:=Nat.le_trans (Nat.le_mul_of_pos_left _ (Nat.succ_pos N)) v1;have hA:A+3≤1000000:=Nat.le_trans (Nat.le_mul_of_pos_left _ (Nat.succ_pos N)) v2;exact⟨_,_,_,fun W hW=>wenc_any _ l1 1000000 V A N W (hE.below hW) hO (Nat.le_refl _) (by omega) (by omega) hV (by omega) hN (by omega) (by omega) (fun l' h1 h2 _ _=>run_encB (same l' h1 h2))⟩
 obtain⟨T',V',A',KE⟩:=KE;have KF:=z7 (fenc_one w1.heap.size a1 1 c1 l1 T' V' A' w2 e2 KE (fun l' h1 h2=>by rw[run_bytes (same l' h1 h2)];decide));have SAME:=z7 same;rw[ew2];clear ew2 b2 q2 e2 same KE;refine KF.out.mono ?_;rintro e w3 ⟨vb,l3,rfl,hC3,hK3,hO3,hb3⟩;have f3:=SAME.out l3 hC3 hK3;rw[run_bytes f3,show frameB [] runZ=runB from rfl]at hO3;obtain⟨a3,c3,rfl,hI3,hcap3⟩:=hO3.ints (by rw[runB_len];decide);rw[runB_len]at hI3 hcap3 ⊢;have O3:=z7 (O2.out.below hb3);have B3:=z7 (B2.out.trans (hb3.mono B2.out.size));have I3:=z7 hI3;clear hC3 hK3 hO3 hb3 f3 hI3 KF;go_wp2_with fail
 refine(z5c _).mono ?_;rintro e w4 ⟨rfl,hb4⟩;have O4:=z7 (O3.out.below hb4);have B4:=z7 (B3.out.trans (hb4.mono B3.out.size));have I4:=z7 (I3.out.below hb4);clear hb4;go_wp2_with fail
 refine(parse_one a3 19 c3 6 9 runB lmU lmU_w lmU_w2 (by unfold lmU;decide) runK w4 (LAID.out.below B4.out) I4.out hcap3 (by decide) runB_head (by unfold lmU;decide) rfl runB_sum (by rw[runB_pay];exact run_one)).mono ?_;rintro e w5 ⟨g,cg,rfl,hg5,⟨v5,hc5,l5,hK5,hf5⟩,hb5⟩;have O5:=z7 (O4.out.below hb5);have B5:=z7 (B4.out.trans (hb5.mono B4.out.size));have KR5:=z7 hK5;have EQ:=z7 (hf5.trans F1.out.symm);have HC5:=z7 hc5;have l5e:l5.length=1:=by have:=congrArg List.length hf5;simpa[runK]using this
 obtain⟨a5,c5,rfl,_⟩:=zl hK5.row;rw[l5e]at HC5 KR5;have hc5:=HC5.out;clear hK5 hb5 hf5 l5e hg5;obtain⟨w6,ew6⟩:∃w6,w5.alloc (.cells #[.int .i64 0,.int .i64 19] 70)=w6:=⟨_,rfl⟩;have b6:Below w5.heap.size w5 w6:=by rw[← ew6];exact zc (Below.refl _ _) _
 have d5:w6.cell? ⟨g,0,none⟩=some (.slice a5 1 c5):=zg b6 (block_lt_of_cell hc5) hc5;have KS:=z7 (same11_yes _ _ l5 l1 w6 (KR5.out.below b6).know (O5.out.below b6).at' EQ.out (by have:=O5.out.len;have:=congrArg List.length EQ.out;simp at this;omega));have B6:=z7 (B5.out.trans (b6.mono B5.out.size));have q6:w6.heap[w5.heap.size]?=some (.cells #[.int .i64 0,.int .i64 19] 70 (0,0)):=by rw[← ew6];exact ze _ _ rfl
 have c60:w6.cell? ⟨w5.heap.size,0,none⟩=some (.int .i64 0):=by simp[World.cell?,q6]
 have c61:w6.cell? ⟨w5.heap.size,1,none⟩=some (.int .i64 19):=by simp[World.cell?,q6]
 clear b6 q6 hc5;go_wp2_with fail
 refine KS.out.mono ?_;rintro e w7 ⟨rfl,hb7⟩;have B7:=z7 (B6.out.trans (hb7.mono B6.out.size));clear hb7;go_wp2
 go_ret
 exact⟨rfl,B7.out⟩
end Go.Proofs.YtbkkolfpegplgaaGreatDoor
