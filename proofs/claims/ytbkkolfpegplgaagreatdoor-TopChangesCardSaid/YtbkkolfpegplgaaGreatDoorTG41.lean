import Derived.Test.YtbkkolfpegplgaaGreatDoorTG40
import Derived.Test.YtbkkolfpegplgaaGreatDoorTG37
import Derived.Lib.IfaceEq
open Go.IntKind renaming wrap_i64→PC
open Go.RowKit.Below renaming refl→PD
open Go.World renaming cell?→PE,ownsRow_nil→PF
open List renaming pairwise_singleton→PG,length→PH,length_take→PI,length_drop→PJ
open Nat renaming le_refl→PM,le_trans→PN,le_mul_of_pos_left→PO
open Go.Proofs.Tryz
set_option maxHeartbeats 8000000
set_option maxRecDepth 100000
set_option linter.unusedVariables false
set_option linter.unusedSimpArgs false
namespace Go.Proofs.YtbkkolfpegplgaaGreatDoor
open Go Go.RowKit Go.Extern.Stop Go.Stop Go.Extern
theorem DM(v:Value)(b:TypeId)(w:World):(Instr.typeAssert (.iface 42 v) b 360 true).run prog w=.ok (.tuple #[.nilIface,.bool false]) w:=run_typeAssert_lacksB underlying360 aC aC v b w
theorem DK(v:Value)(b:TypeId)(w:World):(Instr.typeAssert (.iface 107 v) b 360 true).run prog w=.ok (.tuple #[.nilIface,.bool false]) w:=run_typeAssert_lacksB underlying360 aC aC v b w
theorem IT(a b:Int)(w:World):(binOp .eql 27 (.iface 42 (.int .i64 a)) (.iface 42 (.int .i64 b))).run prog w=.ok (.bool (a == b)) w:=
 Lib.run_eql_iface_int w a b underlying27 aC underlying42
theorem IR(v u:Value)(w:World):(binOp .eql 27 (.iface 107 v) (.iface 42 u)).run prog w=.ok (.bool false) w:=run_eql_iface_types _ _ v u underlying27 aB w
def OY (c a:Int):Value:=.iface 107 (.agg #[.int .i64 c,.int .i64 a])
theorem GR{a b:Bool}(h:a=b):Ending.returned (.bool a)=Ending.returned (.bool b):=by rw[h]
theorem Yf(d n:Int)(w:World):Calls prog 294 #[.agg #[.int .i64 d,.int .i64 n]] w fun e w'=>e=.returned (.iface 42 (.int .i64 d))∧Below w.heap.size w w':=by
 go_enter func294,ntmps294;go_wp2;go_ret;exact⟨rfl,by repeat (first | exact PD _ _ | refine aJ ?_ _)⟩
theorem Vm(d n c:Int)(w:World) :
  Calls prog 247 #[.iface 107 (.agg #[.int .i64 d,.int .i64 n]),.iface 42 (.int .i64 c),.bool true] w fun j w'=>j=.returned (.bool (decide (d=c)))∧Below w.heap.size w w':=by
 have l:=DM;have m:=DK;have p:=GZ;have r:=DJ;have s:=EU;have u:=zD;have y:=IT;have z:=IR;go_enter func247,ntmps247;go_wp2_with fail;refine wp_loop_rounds 3 ?_;rw[rounds_succ];go_wp2_with fail;refine(Yf _ _ _).mono ?_;rintro e A ⟨rfl,b1⟩;have b:=aI b1;clear b1;go_wp2_with fail;rw[rounds_succ];by_cases h:d=c
 ·subst h;go_wp2_with fail;go_ret;exact⟨GR aD,b⟩
 have q:(d == c)=false:=by simp[h]
 have R:=aI (show false=decide (d=c) by simp[h]);clear h;go_wp2_with fail;go_ret;exact⟨GR R,b⟩
theorem rW (h : Value) (w : World) : (Go.method 495 249 (.agg #[h]) "Comparable").run prog w = .ok (308, .agg #[h]) w := by kernel_rfl
theorem vL(w:World):(callFunc 308 #[.agg #[.pointer (some ⟨1,42,none⟩)]]).run prog w=.ok (.value (.bool true)) w:=aC
theorem LM(d n c:Int)(w:World) :
  Calls prog 227 #[.iface 107 (.agg #[.int .i64 d,.int .i64 n]),.iface 42 (.int .i64 c)] w fun j w'=>j=.returned (.bool (decide (d=c)))∧Below w.heap.size w w':=by
 have b:=@run_callFunc_extern prog 158 _ ReflectliteType.typeOf func158 aC aC aC aC;have l:=Lu;have m:=rW;have p:=vL;have K:=aI (Vm d n c);go_enter func227,ntmps227;go_wp2_with fail;refine(K _).mono ?_;rintro e r ⟨rfl,b1⟩;go_wp2;go_ret;exact⟨rfl,b1⟩
theorem FH(t:TypeId)(v:Value)(w:World):(binOp .eql 27 .nilIface (.iface t v)).run prog w=.ok (.bool false) w:=by
 have h:∀d:Nat,(Op.equalIn (d+1) 27 .nilIface (.iface t v)).run prog w=.ok false w:=fun d=>by simp[Op.equalIn,run_underlying underlying27]
 simp only[binOp];simp[Op.equal,Op.maxDepth,h 9999]
theorem EI(c:Int)(w:World) :
  Calls prog 227 #[.nilIface,.iface 42 (.int .i64 c)] w fun b w'=>b=.returned (.bool false)∧Below w.heap.size w w':=by
 have j:=FH;go_enter func227,ntmps227;go_wp2;go_ret;exact⟨rfl,PD _ _⟩
theorem Wd(c:Int)(b:Nat)(w:World)(j:w.heap[b]?=some (.cells #[.int .i64 c] 42 (0,0))) :
  Calls prog 181 #[.nilIface,.slice (some ⟨b,0,none⟩) 1 1] w fun e w'=>e=.returned (.bool false)∧Below w.heap.size w w':=by
 have K:=aI (fun W=>EI c W);have l:w.cell? ⟨b,0,none⟩=some (.int .i64 c):=by simp[PE,j]
 clear j;go_enter func181,ntmps181;go_wp2;refine wp_loop_rounds 2 ?_;rw[rounds_succ];go_wp2_with fail;refine(K _).mono ?_;rintro e m ⟨rfl,b1⟩;go_wp2;rw[rounds_succ];go_wp2;go_ret;exact⟨rfl,b1⟩
theorem IL(d n c:Int)(b:Nat)(w:World)(l:w.heap[b]?=some (.cells #[.int .i64 c] 42 (0,0))) :
  Calls prog 181 #[.iface 107 (.agg #[.int .i64 d,.int .i64 n]),.slice (some ⟨b,0,none⟩) 1 1] w fun e w'=>e=.returned (.bool (decide (d=c)))∧Below w.heap.size w w':=by
 have K:=aI (fun W=>LM d n c W);have p:w.cell? ⟨b,0,none⟩=some (.int .i64 c):=by simp[PE,l]
 clear l;obtain⟨t,j⟩:=aG (decide (d=c));rw[j]at K ⊢;clear j
 cases t with
 | true=>
   go_enter func181,ntmps181;go_wp2;refine wp_loop_rounds 2 ?_;rw[rounds_succ];go_wp2_with fail;refine(K _).mono ?_;rintro e m ⟨rfl,b1⟩;go_wp2;go_ret;exact⟨rfl,b1⟩
 | false=>
   go_enter func181,ntmps181;go_wp2;refine wp_loop_rounds 2 ?_;rw[rounds_succ];go_wp2_with fail;refine(K _).mono ?_;rintro e m ⟨rfl,b1⟩;go_wp2;rw[rounds_succ];go_wp2;go_ret;exact⟨rfl,b1⟩
end Go.Proofs.YtbkkolfpegplgaaGreatDoor
namespace Go.Proofs.YtbkkolfpegplgaaGreatDoor
open Go Go.RowKit
theorem Vy:(prog.info? 5).map (·.size)=some 1:=aC
theorem Vj(w:World):(binOp .neq 194 (.agg #[.int .u8 75,.int .u8 78,.int .u8 87,.int .u8 76]) (.agg #[.int .u8 75,.int .u8 78,.int .u8 87,.int .u8 76])).run prog w=.ok (.bool false) w:=aC
theorem Qm(w:World):(binOp .neq 194 (.agg #[.int .u8 0,.int .u8 0,.int .u8 0,.int .u8 0]) (.agg #[.int .u8 75,.int .u8 78,.int .u8 87,.int .u8 76])).run prog w=.ok (.bool true) w:=aC
theorem Kv(p:Option Addr)(len cap:Nat)(U:Int)(zs:List Int)(w:World)(h:Ints .u8 w p len zs)(J:len≤cap)(L:len≤4000000000)(hp:0<len) :
  Calls prog 180 #[.slice p len cap,.int .i64 len,.int .i64 U] w fun e w'=>e=.returned (.tuple #[.int .i64 0,.int .i64 0,.iface 107 (.agg #[.int .i64 5,.int .i64 len])])∧Below w.heap.size w w':=by
 have s:prog.follows .mixedOrders=true:=aC;obtain⟨b,off,rfl,T,r⟩:=h.from0 aA;have M:=aI (fun W=>cU 5 len aB W);have N:=aI (fun W=>tF W);have V:=Qm;have O:(len:Int)≤len:=aA;have Q:IntKind.i64.wrap ((len:Int)+0)=(len:Int):=by rw[PC];omega
 clear h r;by_cases hcl:cap=len;subst hcl;go_enter func180,ntmps180;go_wp2_with fail;obtain⟨w1,j⟩:=aG (w.alloc (.cells #[.int .u8 0,.int .u8 0,.int .u8 0,.int .u8 0] 194));have b1:Below w.heap.size w w1:=by rw[← j];exact aJ (PD _ _) _
 have u:w1.heap[w.heap.size]?=some (.cells #[.int .u8 0,.int .u8 0,.int .u8 0,.int .u8 0] 194 (0,0)):=by rw[← j];exact aK _ _ rfl
 rw[j];have y:=aI b1;have E:=aI u;clear j b1 u;refine wp_region_held_drew (S:=Only (fun b=>b=w.heap.size) w1) s (Only.refl _ _).drew (fun D=>?_);obtain⟨wd,l⟩:=aG w1.drew;have F:=aI (show wd.heap[w.heap.size]?=some (.cells #[.int .u8 0,.int .u8 0,.int .u8 0,.int .u8 0] 194 (0,0))from by rw[← l];exact((Only.refl (fun _=>False) w1).drew.obj (fun h=>h) E));have G:=aI (show Below w.heap.size w wd from by rw[← l];exact y.trans ((Only.refl (fun _=>False) w1).drew.below (n:=w.heap.size) y.size (fun _ h=>h.elim)));rw[l]at D ⊢;clear l;refine aP 0 20 (.slice (some ⟨w.heap.size,0,none⟩) 4 4) ?_;refine aP 1 21 (.slice (some ⟨b,off,none⟩) cap cap) ?_;refine aP 2 22 (.int .i64 (cap:Nat)) ?_;refine aP 3 23 (.slice (some ⟨b,off,none⟩) 0 0) ?_;refine cW 4 fun K I=>?_;have m:=run_copy_none (P:=prog) wd 33 33 3 5 (some ⟨w.heap.size,0,none⟩) (some ⟨b,off,none⟩) 4 4 0 (0) underlying33 Vy rfl;rotate_left;skip
 go_enter func180,ntmps180;go_wp2_with fail;obtain⟨w1,j⟩:=aG (w.alloc (.cells #[.int .u8 0,.int .u8 0,.int .u8 0,.int .u8 0] 194));have b1:Below w.heap.size w w1:=by rw[← j];exact aJ (PD _ _) _
 have u:w1.heap[w.heap.size]?=some (.cells #[.int .u8 0,.int .u8 0,.int .u8 0,.int .u8 0] 194 (0,0)):=by rw[← j];exact aK _ _ rfl
 rw[j];have y:=aI b1;have E:=aI u;clear j b1 u;refine wp_region_held_drew (S:=Only (fun b=>b=w.heap.size) w1) s (Only.refl _ _).drew (fun D=>?_);obtain⟨wd,l⟩:=aG w1.drew;have F:=aI (show wd.heap[w.heap.size]?=some (.cells #[.int .u8 0,.int .u8 0,.int .u8 0,.int .u8 0] 194 (0,0))from by rw[← l];exact((Only.refl (fun _=>False) w1).drew.obj (fun h=>h) E));have G:=aI (show Below w.heap.size w wd from by rw[← l];exact y.trans ((Only.refl (fun _=>False) w1).drew.below (n:=w.heap.size) y.size (fun _ h=>h.elim)));rw[l]at D ⊢;clear l;refine aP 0 20 (.slice (some ⟨w.heap.size,0,none⟩) 4 4) ?_;refine aP 1 21 (.slice (some ⟨b,off,none⟩) len cap) ?_;refine aP 2 22 (.int .i64 (len:Nat)) ?_;refine aP 3 23 (.slice (some ⟨b,off+len,none⟩) 0 (cap-len)) ?_;refine cW 4 fun K I=>?_;have m:=run_copy_none (P:=prog) wd 33 33 3 5 (some ⟨w.heap.size,0,none⟩) (some ⟨b,off+len,none⟩) 4 4 0 (cap-len) underlying33 Vy rfl;rotate_left
 all_goals
  go_simp;refine I _ _ D (fun _=>?_);clear m;clear I K;refine aP 5 10 (.int .i64 0) ?_;refine iM ?_;clear D;go_wp2_with fail;refine(N _).mono ?_;rintro e w2 ⟨rfl,B⟩;unfold tG;obtain⟨w3,C⟩:=aG (w2.alloc (.cells #[.int .u8 75,.int .u8 78,.int .u8 87,.int .u8 76] 194));have H:Below wd.heap.size wd w3:=by rw[← C];exact aJ B _
  have z:w3.heap[w2.heap.size]?=some (.cells #[.int .u8 75,.int .u8 78,.int .u8 87,.int .u8 76] 194 (0,0)):=by rw[← C];exact aK _ _ rfl
  have X:w3.cell? ⟨w2.heap.size,0,none⟩=some (.int .u8 75):=by simp[PE,z]
  have Y:w3.cell? ⟨w2.heap.size,1,none⟩=some (.int .u8 78):=by simp[PE,z]
  have Z:w3.cell? ⟨w2.heap.size,2,none⟩=some (.int .u8 87):=by simp[PE,z]
  have m3:w3.cell? ⟨w2.heap.size,3,none⟩=some (.int .u8 76):=by simp[PE,z]
  have A:=(H.block w.heap.size (aO F)).trans F;have d0:w3.cell? ⟨w.heap.size,0,none⟩=some (.int .u8 0):=by simp[PE,A]
  have d1:w3.cell? ⟨w.heap.size,1,none⟩=some (.int .u8 0):=by simp[PE,A]
  have d2:w3.cell? ⟨w.heap.size,2,none⟩=some (.int .u8 0):=by simp[PE,A]
  have d3:w3.cell? ⟨w.heap.size,3,none⟩=some (.int .u8 0):=by simp[PE,A]
  have R:=aI (G.trans (H.mono G.size));clear H z A B;go_wp2_with fail;refine wp_loop_rounds 1 ?_;rw[rounds_succ];go_wp2_with fail;refine(M _).mono ?_;rintro e w5 ⟨rfl,rfl⟩;go_wp2;go_ret3;exact⟨rfl,R⟩
theorem Gm{w:World}(g:Nat)(j:Array Value):Only (fun b=>b=g) w (w.setRow g j):=
 ⟨rfl,rfl,rfl,by simp[World.setRow],fun k _ l=>setRow_other w g k j l⟩
theorem Ku(p:Option Addr)(len cap a:Nat)(li x:Int)(n:Nat)(zs:List Int)(w:World)(h:Ints .u8 w p len zs)(M:len≤cap)(N:len≤4000000000)(ha:a+5≤len)
  (h0:zs.getD a 0=75) (h1:zs.getD (a+1) 0=78) (h2:zs.getD (a+2) 0=87) (h3:zs.getD (a+3) 0=76) (h4:zs.getD (a+4) 0=1) (U:Rd zs ((a+5:Nat):Int) (.ok (x,(n:Int)))) (hx:x≤9223372036854775807) (A5:x≤li) (A6:li≤9223372036854775807) :
  Calls prog 180 #[.slice p len cap,.int .i64 a,.int .i64 li] w fun e w'=>e=.returned (.tuple #[.int .i64 n,.int .i64 x,.nilIface])∧Below w.heap.size w w':=by
 have O:prog.follows .mixedOrders=true:=aC;have HI:=aI h;have hl:=h.length;obtain⟨b,off,rfl,H,l⟩:=h.from0 aA;have V:w.cell? ⟨b,off+a,none⟩=some (.int .u8 75):=by rw[l a aA,h0]
 have X:w.cell? ⟨b,off+(a+1),none⟩=some (.int .u8 78):=by rw[l (a+1) aA,h1]
 have Y:w.cell? ⟨b,off+(a+2),none⟩=some (.int .u8 87):=by rw[l (a+2) aA,h2]
 have Z:w.cell? ⟨b,off+(a+3),none⟩=some (.int .u8 76):=by rw[l (a+3) aA,h3]
 have E0:=aI V;have E1:=aI X;have E2:=aI Y;have E3:=aI Z;have E4:=aI (show w.cell? ⟨b,off+(a+4),none⟩=some (.int .u8 1)from by rw[l (a+4) aA,h4]);have C:=aI H;obtain⟨_,A3,A4,I⟩:=xH U;have KR:=aI (fun W hW=>Cx (some ⟨b,off,none⟩) len cap zs ((a+5:Nat):Int) _ W hW M N aA U);rw[show GU ((a+5:Nat):Int) (.ok (x,(n:Int)))=.tuple #[.int .u64 x,.int .i64 n,.nilIface] from rfl]at KR;have KM:=aI (fun W=>tF W);have nm:=Vj;have A0:=I.1;have A1:¬cap=a:=aA;have A2:(a:Int)≤len:=aA;have D:Nat.min (len-a) 4=4:=Nat.min_eq_right aA;clear h l h0 h1 h2 h3 h4 U I V X Y Z H;go_enter func180,ntmps180;go_wp2_with fail;obtain⟨w1,r⟩:=aG (w.alloc (.cells #[.int .u8 0,.int .u8 0,.int .u8 0,.int .u8 0] 194));have b1:Below w.heap.size w w1:=by rw[← r];exact aJ (PD _ _) _
 have q1:w1.heap[w.heap.size]?=some (.cells #[.int .u8 0,.int .u8 0,.int .u8 0,.int .u8 0] 194 (0,0)):=by rw[← r];exact aK _ _ rfl
 rw[r];have B1:=aI b1;have Q1:=aI q1;clear r b1 q1;refine wp_region_held_drew (S:=Only (fun b=>b=w.heap.size) w1) O (Only.refl _ _).drew (fun T=>?_);obtain⟨wd,s⟩:=aG w1.drew;have QD:=aI (show wd.heap[w.heap.size]?=some (.cells #[.int .u8 0,.int .u8 0,.int .u8 0,.int .u8 0] 194 (0,0))from by rw[← s];exact((Only.refl (fun _=>False) w1).drew.obj (fun h=>h) Q1));have B:=aI (show Below w.heap.size w wd from by rw[← s];exact B1.trans ((Only.refl (fun _=>False) w1).drew.below (n:=w.heap.size) B1.size (fun _ h=>h.elim)));rw[s]at T ⊢;clear s;refine aP 0 20 (.slice (some ⟨w.heap.size,0,none⟩) 4 4) ?_;refine aP 1 21 (.slice (some ⟨b,off,none⟩) len cap) ?_;refine aP 2 22 (.int .i64 (a:Nat)) ?_;refine aP 3 23 (.slice (some ⟨b,off+a,none⟩) (len-a) (cap-a)) ?_;refine cW 4 fun K hK=>?_;have y:=run_copy_row (P:=prog) wd 33 33 3 5 w.heap.size 0 4 4 ⟨b,off+a,none⟩ (len-a) (cap-a) _ 194 [.int .u8 75,.int .u8 78,.int .u8 87,.int .u8 76] underlying33 Vy QD D.symm (by
  intro j v m;match j,m with
  | 0,m=>cases m;exact aM B C E0
  | 1,m=>cases m;exact aM B C E1
  | 2,m=>cases m;exact aM B C E2
  | 3,m=>cases m;exact aM B C E3
  | j+4,m=>simp at m) aD (by intro v hv;simp at hv;rcases hv with rfl | rfl | rfl | rfl<;>rfl)
 obtain⟨ws,u⟩:=aG (wd.setRow w.heap.size #[.int .u8 75,.int .u8 78,.int .u8 87,.int .u8 76]);have os:Only (fun b=>b=w.heap.size) wd ws:=by rw[← u];exact Gm _ _
 have QS:=aI (show ws.heap[w.heap.size]?=some (.cells #[.int .u8 75,.int .u8 78,.int .u8 87,.int .u8 76] 194 (0,0))from by rw[← u];exact setRow_heap _ _ _ _ _ _ QD);have BS:=aI (B.trans (os.below (n:=w.heap.size) B.size (fun k hk=>aA)));have E:=T.trans os;have z:(Builtin.copy_ #[33,33] 3 #[.slice (some ⟨w.heap.size,0,none⟩) 4 4,.slice (some ⟨b,off+a,none⟩) (len-a) (cap-a)]).run prog wd=.ok (.int .i64 4) ws:=by rw[y,← u];rfl
 clear y u os T;go_simp;refine hK _ _ E (fun _=>?_);clear z;clear hK K;refine aP 5 10 (.int .i64 4) ?_;refine iM ?_;clear E;go_wp2_with fail;refine(KM _).mono ?_;rintro e w2 ⟨rfl,J⟩;unfold tG;obtain⟨w3,L⟩:=aG (w2.alloc (.cells #[.int .u8 75,.int .u8 78,.int .u8 87,.int .u8 76] 194));have Q:Below ws.heap.size ws w3:=by rw[← L];exact aJ J _
 have F:w3.heap[w2.heap.size]?=some (.cells #[.int .u8 75,.int .u8 78,.int .u8 87,.int .u8 76] 194 (0,0)):=by rw[← L];exact aK _ _ rfl
 have m0:w3.cell? ⟨w2.heap.size,0,none⟩=some (.int .u8 75):=by simp[PE,F]
 have m1:w3.cell? ⟨w2.heap.size,1,none⟩=some (.int .u8 78):=by simp[PE,F]
 have m2:w3.cell? ⟨w2.heap.size,2,none⟩=some (.int .u8 87):=by simp[PE,F]
 have m3:w3.cell? ⟨w2.heap.size,3,none⟩=some (.int .u8 76):=by simp[PE,F]
 have G:=(Q.block w.heap.size (aO QS)).trans QS;have d0:w3.cell? ⟨w.heap.size,0,none⟩=some (.int .u8 75):=by simp[PE,G]
 have d1:w3.cell? ⟨w.heap.size,1,none⟩=some (.int .u8 78):=by simp[PE,G]
 have d2:w3.cell? ⟨w.heap.size,2,none⟩=some (.int .u8 87):=by simp[PE,G]
 have d3:w3.cell? ⟨w.heap.size,3,none⟩=some (.int .u8 76):=by simp[PE,G]
 have A:=BS.trans (Q.mono BS.size);have d4:w3.cell? ⟨b,off+(a+4),none⟩=some (.int .u8 1):=aM A C E4;have R:=aI A;have t4:IntKind.i64.wrap ((a:Int)+4)=((a+4:Nat):Int):=by rw[PC];omega
 have t5:IntKind.i64.wrap (((a+4:Nat):Int)+1)=((a+5:Nat):Int):=by rw[PC];omega
 clear Q F G J A;go_wp2_with fail;rw[show(a:Int)+4+1=((a+5:Nat):Int) by omega];refine(KR _ (HI.below R)).mono ?_;rintro e w5 ⟨rfl,b5⟩;have B5:=aI (R.trans (b5.mono R.size));have wl:IntKind.u64.wrap li=li:=bA ⟨aA,aA⟩;have ml:max li 0=li:=aA;have xl:¬li<x:=aA;have xw:IntKind.i64.wrap x=x:=IntWalk.i64_in _ aA;clear b5;go_wp2_with fail;go_ret3;exact⟨rfl,B5⟩
theorem Hl{k:IntKind}{w:World}{b off len:Nat}{zs:List Int}(h:Ints k w (some ⟨b,off,none⟩) len zs)(n m:Nat)(u:n+m≤len):Ints k w (some ⟨b,off+n,none⟩) m ((zs.drop n).take m) where
 length:=by rw[PI,PJ,h.length];omega
 most:=by have:=h.most;omega
 wf:=fun z r=>h.wf z (List.mem_of_mem_drop (List.mem_of_mem_take r))
 cells:=fun i hi=>by
  obtain⟨s,j,e,l,p⟩:=h.cells (n+i) aA;injection e with e;injection e with e1 e2 _;subst e1;subst e2;refine⟨b,off+n,rfl,l,?_⟩;have e:((zs.drop n).take m).getD i 0=zs.getD (n+i) 0:=by simp[List.getD,hi]
  rw[e,Nat.add_assoc];exact p
structure Ec (zs:List Int) (a n:Nat) (x:Int):Prop where
 fit:a+5≤zs.length
 h0:zs.getD a 0=75
 h1:zs.getD (a+1) 0=78
 h2:zs.getD (a+2) 0=87
 h3:zs.getD (a+3) 0=76
 h4:zs.getD (a+4) 0=1
 rd:Rd zs ((a+5:Nat):Int) (.ok (x,(n:Int)))
theorem Ze(p:Option Addr)(len cap a n X:Nat)(zs:List Int)(lm:cD)(A8:uB lm)(A9:vG lm)(D3:lm.f≤9223372036854775807)(k:List Frag)(w:World)(hg:Laid w)(h:Ints .u8 w p len zs)(B0:len≤cap)(C0:len≤4000000000)(H:Ec zs a n (X:Int))(hX:(X:Int)≤lm.f)(hn:n+X+4≤len)
  (hs:(zs.drop (n+X)).take 4=qN (kV ((zs.drop n).take X))) (hr:mT lm n ((zs.drop n).take X) Lm 0 (.ok k)) :
  Calls prog 127 #[.slice p len cap,.int .i64 a,.agg #[.int .i64 lm.f,.int .i64 lm.ve,.int .i64 lm.en,.int .i64 lm.ho,.int .i64 lm.se]] w fun e w'=>∃v,e=.returned (.tuple #[v,.int .i64 ((n+X+4:Nat):Int),.nilIface])∧(∃l,KRow w' w.heap.size v l∧l.map FV.frag=k)∧Below w.heap.size w w':=by
 have hl:=h.length;have HI:=aI h;obtain⟨b,off,rfl,D0,_⟩:=h.from0 aA;have H0:=aI hg.pos;have F:=aI hg;have HR:=aI hr;have Y:=aI (Hl h n X aA);have C1:=aI (Hl h (n+X) 4 aA);have HS:=aI hs;have C2:=aI (fun W (hW:w.heap.size≤W.heap.size)=>wI lm w.heap.size W hW);have KH:=aI (fun W hW=>Ku (some ⟨b,off,none⟩) len cap a lm.f X n zs W hW B0 C0 (by have:=H.fit;omega) H.h0 H.h1 H.h2 H.h3 H.h4 H.rd aA hX D3);have y:=aI (fun b W V=>Wd 5 b W V);clear hg h hr hs H D0;go_enter func127,ntmps127;go_wp2_with fail;obtain⟨w1,C⟩:=aG (w.alloc (.cells #[.int .i64 lm.f,.int .i64 lm.ve,.int .i64 lm.en,.int .i64 lm.ho,.int .i64 lm.se] 38));have b1:Below w.heap.size w w1:=by rw[← C];exact aJ (PD _ _) _
 have q1:w1.heap[w.heap.size]?=some (.cells #[.int .i64 lm.f,.int .i64 lm.ve,.int .i64 lm.en,.int .i64 lm.ho,.int .i64 lm.se] 38 (0,0)):=by rw[← C];exact aK _ _ rfl
 rw[C];have B1:=aI b1;have l0:w1.cell? ⟨w.heap.size,0,none⟩=some (.int .i64 lm.f):=by simp[PE,q1]
 have Q1:=aI q1;clear C b1 q1;go_step3;go_wp2_with fail;refine(KH _ (HI.below B1)).mono ?_;rintro e w2 ⟨rfl,b2⟩;have I:=aI (B1.trans (b2.mono B1.size));have Q2:=aI ((b2.block w.heap.size (aO Q1)).trans Q1);clear b2 l0;go_wp2_with fail;refine(y _ _ (aK _ _ rfl)).mono ?_;rintro e M ⟨rfl,G⟩;have j:=aN (aJ (PD w2.heap.size w2) (.cells #[.int .i64 5] 42)) G;have B:=aI (I.trans (j.mono I.size));have U:=(j.block w.heap.size (aO Q2)).trans Q2;have l0:M.cell? ⟨w.heap.size,0,none⟩=some (.int .i64 lm.f):=by simp[PE,U]
 have l1:M.cell? ⟨w.heap.size,1,none⟩=some (.int .i64 lm.ve):=by simp[PE,U]
 have l2:M.cell? ⟨w.heap.size,2,none⟩=some (.int .i64 lm.en):=by simp[PE,U]
 have l3:M.cell? ⟨w.heap.size,3,none⟩=some (.int .i64 lm.ho):=by simp[PE,U]
 have l4:M.cell? ⟨w.heap.size,4,none⟩=some (.int .i64 lm.se):=by simp[PE,U]
 have m1:IntKind.i64.wrap ((len:Int)-n)=(len:Int)-n:=by rw[PC];omega
 have m2:min (X:Int) ((len:Int)-n)=X:=aA;have m3:IntKind.i64.wrap ((n:Int)+X)=(n:Int)+X:=by rw[PC];omega
 have m4:(n:Int)≤(n:Int)+X:=aA;have m5:(n:Int)+X≤cap:=aA;have m6:((n:Int)+X).toNat=n+X:=aA;have m7:¬cap=n:=aA;clear G j U;go_wp2_with fail;refine(C2 _ B.size).mono ?_;rintro e w4 ⟨r,rfl,D1,A1,A2⟩;have Z:=aI A1;have B4:=aI (B.trans (A2.mono B.size));clear A1 A2 D1 l0 l1 l2 l3 l4;go_wp2_with fail;go_step3;go_wp2_with fail;go_loopw [15] (fun c wr=>∃(s:WS) (i:Nat),c=.int .i64 i∧i≤X∧mT lm n ((zs.drop n).take X) s i (.ok k)∧s.pt.isFin=false∧MemW wr w.heap.size r lm .nilIface s∧Below w.heap.size w wr)
  (fun c _=>X-(intOf c).toNat)
 case atStart=>exact⟨Lm,0,rfl,aA,HR,rfl,Z,B4⟩
 obtain⟨s,i,rfl,D4,z,D,hM,V⟩:=hrel;clear Z B1 I B B4 Q1 Q2;have HM:=aI hM;have HB:=aI V;have C3:((zs.drop n).take X).length=X:=by rw[PI,PJ,hl];omega
 rcases wU z with⟨c,hq,ho⟩ | ⟨x,nx,hq,hBB,hN,hcase⟩
 ·cases ho
 obtain⟨_,D5,D2,E⟩:=xH hq;obtain⟨nx,rfl⟩:∃m:Nat,nx=m:=⟨nx.toNat,aA⟩;have KR:=aI (Cx (some ⟨b,off+n,none⟩) X (cap-n) ((zs.drop n).take X) i (.ok (x,(nx:Int))) wr (Y.below V) aA aA aA hq);rw[show GU (i:Int) (.ok (x,(nx:Int)))=.tuple #[.int .u64 x,.int .i64 nx,.nilIface] from rfl]at KR;rw[C3]at D2 hN hcase;have q0:IntKind.i64.wrap ((X:Int)-nx)=(X:Int)-nx:=by rw[PC];omega
 have q1:IntKind.i64.wrap ((n:Int)+i)=(n:Int)+i:=by rw[PC];omega
 rcases hcase with⟨c,b',hs,ho⟩ | ⟨s',hs,hf,ho⟩ | ⟨s',hs,hf,hrun'⟩
 ·cases ho
 ·have hk:s'.k=k:=by injection ho with ho;exact ho.symm
  have KP:=aI (fun W S T=>rI lm A8 A9 w.heap.size r s x (n+i) (X-nx) (.ok s') hs W S D E aA aA aA T H0 hBB hN);clear z hq hM V HR D hs E hBB hN ho;go_wp2_with fail;refine KR.mono ?_;rintro e w2 ⟨rfl,u⟩;have I:=aI (aN HB u);have J:=aI (HM.below u);clear u;go_wp2_with fail;refine(y _ _ (aK _ _ rfl)).mono ?_;rintro e M ⟨rfl,G⟩;have j:=aN (aJ (PD w2.heap.size w2) (.cells #[.int .i64 5] 42)) G;have B:=aI (aN I (j));have K:=aI (J.below j);clear G j;go_wp2_with fail;refine(KP _ K (F.below B)).mono ?_;rintro e w5 N;obtain⟨he,A⟩:=N.good s' rfl;rw[hf]at he;subst he;have B5:=aI (B.trans N.below);have L:=aI A;have HF:=aI (Hk hf);have C4:=aI hk;clear N A hf hk;have r1:IntKind.i64.wrap ((len:Int)-n-X)=(len:Int)-n-X:=by rw[PC];omega
  have r2:¬((len:Int)-n-X)<4:=aA;have r3:IntKind.i64.wrap ((n:Int)+X+4)=(n:Int)+X+4:=by rw[PC];omega
  have r4:(n:Int)+X≤(n:Int)+X+4:=aA;have r5:(n:Int)+X+4≤cap:=aA;have r6:((n:Int)+X+4).toNat=n+X+4:=aA;have r7:¬cap=n+X:=aA;have r8:n+X+4-(n+X)=4:=aA;go_wp2_with fail;refine(yM _ _ _ _ _ (Y.below B5)).mono ?_;rintro e w6 ⟨rfl,O⟩;have B6:=aI (aN B5 O);have C5:=aI (L.below O);clear O;go_wp2_with fail;refine(yN w6 (.slice none 0 0) [] (kV ((zs.drop n).take X)) w6 ⟨PF _ _ _ _,aD⟩ (PD _ _) aD).mono ?_;rintro e w7 ⟨v7,rfl,P,Q⟩;rw[List.nil_append]at P;obtain⟨a7,A3,rfl,A4,_⟩:=P.ints (by simp[qN]);have B7:=aI (aN B6 Q);have C6:=aI (C5.below Q);have KE:=aI (Rh a7 (some ⟨b,off+(n+X),none⟩) _ A3 4 (cap-(n+X)) _ _ w7 A4 (C1.below B7));rw[HS.out,show IQ (qN (kV ((zs.drop n).take X))) (qN (kV ((zs.drop n).take X)))=true from decide_eq_true rfl,show(qN (kV ((zs.drop n).take X))).length=4 from rfl]at KE;rw[show(qN (kV ((zs.drop n).take X))).length=4 from rfl];clear P A4 Q;go_wp2_with fail;refine KE.mono ?_;rintro e w8 ⟨rfl,R⟩;have B8:=aI (aN B7 R);have C7:=aI (C6.below R);clear R;go_wp2_with fail;refine(zM lm _ r _ _ C7 HF).mono ?_;rintro e w9 ⟨v,rfl,l,A5,A6,A7⟩;have B9:=aI (aN B8 A7);have C8:=aI A5;have C9:=aI (A6.trans C4);clear A7 A5 A6;go_wp2_with fail;rw[Exit.noGoto_ret];go_ret3;exact⟨v,(by rw[show((n+X+4:Nat):Int)=(n:Int)+X+4 by omega];rfl),⟨l,C8,C9⟩,B9⟩
 have KP:=aI (fun W S T=>rI lm A8 A9 w.heap.size r s x (n+i) (X-nx) (.ok s') hs W S D E aA aA aA T H0 hBB hN);have A0:=aI hrun';have HF:=aI hf;clear z hq hM V HR D hs E hBB hN hrun';go_wp2_with fail;refine KR.mono ?_;rintro e w2 ⟨rfl,u⟩;have I:=aI (aN HB u);have J:=aI (HM.below u);clear u;go_wp2_with fail;refine(y _ _ (aK _ _ rfl)).mono ?_;rintro e M ⟨rfl,G⟩;have j:=aN (aJ (PD w2.heap.size w2) (.cells #[.int .i64 5] 42)) G;have B:=aI (aN I (j));have K:=aI (J.below j);clear G j;go_wp2_with fail;refine(KP _ K (F.below B)).mono ?_;rintro e w5 N;obtain⟨he,A⟩:=N.good s' rfl;rw[hf]at he;subst he;have B5:=aI (B.trans N.below);have L:=aI A;clear N A hf;go_wp2;go_roundw
 case rel=>exact⟨s',nx,rfl,aA,A0,HF,L,B5⟩
 simp[intOf];omega
theorem Zg(p:Option Addr)(len cap:Nat)(zs:List Int)(lm:cD)(w:World)(h:Ints .u8 w p len zs)(l:len≤cap)(m:len≤4000000000)(h0:0<len) :
  Calls prog 127 #[.slice p len cap,.int .i64 len,.agg #[.int .i64 lm.f,.int .i64 lm.ve,.int .i64 lm.en,.int .i64 lm.ho,.int .i64 lm.se]] w fun e w'=>e=.returned (.tuple #[.slice none 0 0,.int .i64 0,.nilIface])∧Below w.heap.size w w':=by
 have y:=aI h;have z:=aI (fun W D=>Kv p len cap lm.f zs W D l m h0);have r:=aI (fun b W E=>IL 5 len 5 b W E);rw[show decide ((5:Int)=5)=true from rfl]at r;clear h;go_enter func127,ntmps127;go_wp2_with fail;obtain⟨w1,j⟩:=aG (w.alloc (.cells #[.int .i64 lm.f,.int .i64 lm.ve,.int .i64 lm.en,.int .i64 lm.ho,.int .i64 lm.se] 38));have b1:Below w.heap.size w w1:=by rw[← j];exact aJ (PD _ _) _
 have s:w1.heap[w.heap.size]?=some (.cells #[.int .i64 lm.f,.int .i64 lm.ve,.int .i64 lm.en,.int .i64 lm.ho,.int .i64 lm.se] 38 (0,0)):=by rw[← j];exact aK _ _ rfl
 rw[j];have n:=aI b1;have A:w1.cell? ⟨w.heap.size,0,none⟩=some (.int .i64 lm.f):=by simp[PE,s]
 clear j b1 s;go_step3;go_wp2_with fail;refine(z _ (y.below n)).mono ?_;rintro e w2 ⟨rfl,b2⟩;have B:=aI (n.trans (b2.mono n.size));clear b2 A;go_wp2_with fail;refine(r _ _ (aK _ _ rfl)).mono ?_;rintro e F ⟨rfl,u⟩;have C:=aI (aN B (aN (aJ (PD w2.heap.size w2) (.cells #[.int .i64 5] 42)) u));clear u;go_wp2_with fail;rw[Exit.noGoto_ret];go_ret3;exact⟨rfl,C⟩
theorem Qt:(prog.info? 23).map (fun i=>(i.zero,i.size,i.bytes))=some (some (.slice none 0 0),1,24):=aC
theorem Qv:(prog.info? 3).map (fun i=>(i.zero,i.size,i.bytes))=some (some (.int .i64 0),1,8):=aC
theorem BC(p:Option Addr)(len cap n X:Nat)(zs:List Int)(lm:cD)(J:uB lm)(m:vG lm)(A7:lm.f≤9223372036854775807)(k:List Frag)(w:World)(hg:Laid w)(h:Ints .u8 w p len zs)(r:len≤cap)(s:len≤4000000000)(hh:Ec zs 0 n (X:Int))(hX:(X:Int)≤lm.f)(hn:n+X+4=len)
  (hs:(zs.drop (n+X)).take 4=qN (kV ((zs.drop n).take X))) (hr:mT lm n ((zs.drop n).take X) Lm 0 (.ok k)) :
  Calls prog 75 #[.slice p len cap,.agg #[.int .i64 lm.f,.int .i64 lm.ve,.int .i64 lm.en,.int .i64 lm.ho,.int .i64 lm.se]] w fun e w'=>∃g c v2,e=.returned (.tuple #[.slice (some ⟨g,0,none⟩) 1 c,v2,.agg #[.int .i64 0,.int .i64 len]])∧w.heap.size≤g∧(∃v,w'.cell? ⟨g,0,none⟩=some v∧∃l,KRow w' w.heap.size v l∧l.map FV.frag=k)∧Below w.heap.size w w':=by
 obtain⟨i0,hi,A2,A3,A4⟩:=info_parts Qt;obtain⟨j0,hj,B5,B7,B8⟩:=info_parts Qv;have HI:=aI h;have K1:=aI (fun W (Q:Below w.heap.size w W)=>Ze p len cap 0 n X zs lm J m A7 k W (hg.below Q) (h.below Q) r s hh hX aA hs hr);have K2:=aI (fun W (Q:Below w.heap.size w W)=>Zg p len cap zs lm W (h.below Q) r s aA);rw[hn]at K1;have A8:0<len:=aA;clear hg h hs hh hr J m;go_enter func75,ntmps75;go_wp2_with fail;obtain⟨w1,j⟩:=aG ((w.alloc (.cells #[.int .i64 lm.f,.int .i64 lm.ve,.int .i64 lm.en,.int .i64 lm.ho,.int .i64 lm.se] 38)).alloc (.cells #[.int .i64 0,.int .i64 0] 70));have b1:Below w.heap.size w w1:=by rw[← j];exact aJ (aJ (PD _ _) _) _
 have y:w1.heap[w.heap.size]?=some (.cells #[.int .i64 lm.f,.int .i64 lm.ve,.int .i64 lm.en,.int .i64 lm.ho,.int .i64 lm.se] 38 (0,0)):=by rw[← j];exact aT _ _ aD (aK _ _ rfl)
 have p1:w1.heap[w.heap.size+1]?=some (.cells #[.int .i64 0,.int .i64 0] 70 (0,0)):=by rw[← j];exact aK _ _ aD
 rw[j];have K:=aI b1;have Q1:=aI y;have P1:=aI p1;have R:w1.cell? ⟨w.heap.size,0,none⟩=some (.int .i64 lm.f):=by simp[PE,y]
 have S:w1.cell? ⟨w.heap.size,1,none⟩=some (.int .i64 lm.ve):=by simp[PE,y]
 have T:w1.cell? ⟨w.heap.size,2,none⟩=some (.int .i64 lm.en):=by simp[PE,y]
 have U:w1.cell? ⟨w.heap.size,3,none⟩=some (.int .i64 lm.ho):=by simp[PE,y]
 have V:w1.cell? ⟨w.heap.size,4,none⟩=some (.int .i64 lm.se):=by simp[PE,y]
 clear j b1 y p1;refine wp_loop_rounds 2 ?_;rw[rounds_succ];go_wp2_with fail;refine(K1 _ K).mono ?_;rintro e w2 ⟨v,rfl,⟨l,z,m⟩,b2⟩;have Y:=aI (K.trans (b2.mono K.size));have Z:=aI (z.base K.size);have A0:=aI m;have Q2:=aI ((b2.block _ (aO Q1)).trans Q1);have P2:=aI ((b2.block _ (aO P1)).trans P1);obtain⟨av,cv,rfl,_⟩:=aY z.row;obtain⟨nv,A⟩:=aG l.length;rw[A];have G:=aI A;clear z m b2 A R S T U V;go_wp2_with(first
  | (at_builtin;refine wpList_append_own_at _ rfl _ _ 51 rfl w.heap.size 23 i0 (.slice none 0 0) 1 24 underlying51 hi A2 A3 A4 rfl aB (.slice none 0 0) 0 [] rfl (PF _ _ _ _) ⟨w2.heap.size,0,none⟩ 1 1 [.slice av nv cv] rfl rfl (bW (aK _ _ rfl)) (by intro u hu;simp at hu;subst hu;rfl) (by unfold maxLen;omega) aA (by have:=Y.size;simp;omega) ?_;intro v3 C I D _ A5;have O3:=aI I;have B3:=aI ((aJ Y (.cells #[.slice av nv cv] 23)).grown D (by have:=Y.size;simp;omega) (fun q hq=>by cases hq));have C3:=aI ((aJ (PD w2.heap.size w2) (.cells #[.slice av nv cv] 23)).grown D aD (fun q hq=>by cases hq));clear I D A5)
  | fail)
 generalize hw4:World.drew _=w4;have L:Below C.heap.size C w4:=by rw[← hw4];exact(((Only.refl (fun _=>False) C).alloc _).alloc _).drew.below (n:=C.heap.size) (PM _) (fun _ h=>h.elim)
 have M:=aI (B3.trans (L.mono B3.size));obtain⟨g,cg,rfl⟩:=ownsRow_succ O3;have C4:=aI (C3.trans (L.mono C3.size));have A1:=aI (Z.below C4);have E:=(C4.block _ (aO Q2)).trans Q2;have N:=(C4.block _ (aO P2)).trans P2;have O4:=aI (nJ O3 L);have R:w4.cell? ⟨w.heap.size,0,none⟩=some (.int .i64 lm.f):=by simp[PE,E]
 have S:w4.cell? ⟨w.heap.size,1,none⟩=some (.int .i64 lm.ve):=by simp[PE,E]
 have T:w4.cell? ⟨w.heap.size,2,none⟩=some (.int .i64 lm.en):=by simp[PE,E]
 have U:w4.cell? ⟨w.heap.size,3,none⟩=some (.int .i64 lm.ho):=by simp[PE,E]
 have V:w4.cell? ⟨w.heap.size,4,none⟩=some (.int .i64 lm.se):=by simp[PE,E]
 have z0:=frozen_of_row _ _ 0 _ _ N;have z1:=frozen_of_row _ _ 1 _ _ N;have P4:=aI N;clear hw4 L E N;rw[rounds_succ];go_wp2_with fail;refine(K2 _ M).mono ?_;rintro e B ⟨rfl,H⟩;have F:=(H.block _ (aO P4)).trans P4;have y0:B.cell? ⟨w.heap.size+1,0,none⟩=some (.int .i64 0):=by simp[PE,F]
 have y1:B.cell? ⟨w.heap.size+1,1,none⟩=some (.int .i64 0):=by simp[PE,F]
 have A9:=frozen_of_row _ _ 0 _ _ F;have B0:=frozen_of_row _ _ 1 _ _ F;clear R S T U V z0 z1;go_wp2_with fail;have p6:=heap_setCell_same _ _ 1 _ _ (.int .i64 len) (heap_setCell_same _ _ 0 _ _ (.int .i64 0) F);have o6:Only (fun b=>b=w.heap.size+1) B ((B.setCell ⟨w.heap.size+1,0,none⟩ (.int .i64 0)).setCell ⟨w.heap.size+1,1,none⟩ (.int .i64 len)):=((Only.refl (fun b=>b=w.heap.size+1) B).setCell (p:=⟨w.heap.size+1,0,none⟩) (.inl rfl) _).setCell (p:=⟨w.heap.size+1,1,none⟩) (.inl rfl) _;have O:Typed B 70 (w.heap.size+1):=⟨_,F⟩;have K6:=(A1.below H).only o6 (fun k P=>by rw[P];exact⟨O.not aB,O.not aB,O.not aB⟩);have O5:=nJ O4 H;have O6:=bF O5 o6 (fun k P A6=>by rw[A6]at P;exact O.ne (aR O5 P) aB rfl);have B6:=(M.trans (H.mono M.size)).trans (o6.below (n:=w.heap.size) (PN M.size H.size) (fun b hb=>aA));generalize (B.setCell ⟨w.heap.size+1,0,none⟩ (.int .i64 0)).setCell ⟨w.heap.size+1,1,none⟩ (.int .i64 len)=w6 at *;refine bodyPost_ret (v:=.tuple #[.slice (some ⟨g,0,none⟩) 1 cg,(.slice (some ⟨C.heap.size+1,0,none⟩) 1 ((Question.appendCap 1 0 3).cut (C.tape C.drawn (Question.appendCap 1 0 3)))),.agg #[.int .i64 0,.int .i64 len]]) ?_ rfl ⟨g,cg,_,rfl,?_,⟨_,?_,l,K6,A0⟩,B6⟩
 ·simp[results,results75,go_sem,p6,PE]
 ·exact(O3.lt g rfl).1
 rcases O6.2 with⟨hv,_⟩ | ⟨g',cap',cur,hv,_,hc,_,_,_,h4⟩
 ·cases hv
 injection hv with e1 _ _;injection e1 with e1;injection e1 with e1 _ _;subst e1;have h5:=congrArg (fun t:List Value=>t[0]?) h4;simp[List.getElem?_take,G.out]at h5;simp[PE,hc,h5,G.out]
theorem Qd(p:Option Addr)(len cap n X:Nat)(zs:List Int)(lm:cD)(C:uB lm)(D:vG lm)(Z:lm.f≤9223372036854775807)(k:List Frag)(w:World)(hg:Laid w)(h:Ints .u8 w p len zs)(E:len≤cap)(F:len≤4000000000)(hh:Ec zs 0 n (X:Int))(I:(X:Int)≤lm.f)(hn:n+X+4=len)
  (hs:(zs.drop (n+X)).take 4=qN (kV ((zs.drop n).take X))) (hr:mT lm n ((zs.drop n).take X) Lm 0 (.ok k)) :
  Calls prog 31 #[.slice p len cap,.agg #[.int .i64 lm.f,.int .i64 lm.ve,.int .i64 lm.en,.int .i64 lm.ho,.int .i64 lm.se]] w fun e w'=>∃g c,e=.returned (.tuple #[.slice (some ⟨g,0,none⟩) 1 c,.agg #[.int .i64 0,.int .i64 len]])∧w.heap.size≤g∧(∃v,w'.cell? ⟨g,0,none⟩=some v∧∃l,KRow w' w.heap.size v l∧l.map FV.frag=k)∧Below w.heap.size w w':=by
 have J:prog.follows .mixedOrders=true:=aC;have K1:=aI (fun W (hW:Below w.heap.size w W)=>BC p len cap n X zs lm C D Z k W (hg.below hW) (h.below hW) E F hh I hn hs hr);clear hg h hs hh hr C D;go_enter func31,ntmps31;go_wp2_with fail;obtain⟨w1,j⟩:=aG ((w.alloc (.cells #[.int .i64 lm.f,.int .i64 lm.ve,.int .i64 lm.en,.int .i64 lm.ho,.int .i64 lm.se] 38)).alloc (.cells #[.int .i64 0,.int .i64 0] 70));have b1:Below w.heap.size w w1:=by rw[← j];exact aJ (aJ (PD _ _) _) _
 have s1:w1.heap.size=w.heap.size+2:=by rw[← j];simp
 have L:w1.heap[w.heap.size+1]?=some (.cells #[.int .i64 0,.int .i64 0] 70 (0,0)):=by rw[← j];exact aK _ _ aD
 rw[j];clear j;refine(K1 _ b1).mono ?_;rintro e w2 ⟨g,c,v2,rfl,y,⟨v,hv,l,B,G⟩,H⟩;have z:=(H.block _ (aO L)).trans L;have B2:=aI (b1.trans (H.mono b1.size));have HK:=aI B;have M:=aI (And.intro hv (And.intro G (And.intro y s1)));have y0:w2.cell? ⟨w.heap.size+1,0,none⟩=some (.int .i64 0):=by simp[PE,z]
 have y1:w2.cell? ⟨w.heap.size+1,1,none⟩=some (.int .i64 0):=by simp[PE,z]
 have z0:=frozen_of_row _ _ 0 _ _ z;have z1:=frozen_of_row _ _ 1 _ _ z;have N:=aI z;clear b1 L hv G B y H s1 z;go_wp2_with fail;obtain⟨w3,m⟩:=aG (w2.alloc (.cells #[.int .i64 0,.int .i64 len] 70));have A:Below w2.heap.size w2 w3:=by rw[← m];exact aJ (PD _ _) _
 have O:w3.heap[w2.heap.size]?=some (.cells #[.int .i64 0,.int .i64 len] 70 (0,0)):=by rw[← m];exact aK _ _ rfl
 have p3:=(A.block _ (aO N)).trans N;have c0:w3.cell? ⟨w2.heap.size,0,none⟩=some (.int .i64 0):=by simp[PE,O]
 have c1:w3.cell? ⟨w2.heap.size,1,none⟩=some (.int .i64 len):=by simp[PE,O]
 have nq:¬w2.heap.size=w.heap.size+1:=by have:=aO N;omega
 have P:=aI (HK.below A);have Q:=aI (show w3.cell? ⟨g,0,none⟩=some v from aM A (block_lt_of_cell M.1) M.1);have B3:=aI (B2.trans (A.mono B2.size));have P3:=aI p3;rw[m];clear A O p3 y0 y1 z0 z1 m;refine wp_region_held_drew (S:=Only (fun b=>b=w.heap.size+1) w3) J (Only.refl _ _).drew (fun Y=>?_);refine aP 0 16 (.slice (some ⟨g,0,none⟩) 1 c) ?_;refine dL 1 17 (.agg #[.int .i64 0,.int .i64 len]) ?_ ?_
 ·intro X I;have x0:=I.cell nq c0;have x1:=I.cell nq c1;go_simp
 refine aP 2 4 (.slice (some ⟨g,0,none⟩) 1 c) ?_;obtain⟨w4,r⟩:=aG w3.drew;have s:w4.heap[w.heap.size+1]?=some (.cells #[.int .i64 0,.int .i64 0] 70 (0,0)):=by rw[← r];exact((Only.refl (fun _=>False) w3).drew.obj (fun h=>h) P3)
 have O4:=aI (show Only (fun _=>False) w3 w4 from by rw[← r];exact(Only.refl (fun _=>False) w3).drew);have y0:w4.cell? ⟨w.heap.size+1,0,none⟩=some (.int .i64 0):=by simp[PE,s]
 have y1:w4.cell? ⟨w.heap.size+1,1,none⟩=some (.int .i64 0):=by simp[PE,s]
 have z0:=frozen_of_row _ _ 0 _ _ s;have z1:=frozen_of_row _ _ 1 _ _ s;rw[r]at Y ⊢;clear r;refine cW 3 fun K B=>?_;have u:=(Y.setCell (p:=⟨w.heap.size+1,0,none⟩) (.inl rfl) (.int .i64 0)).setCell (p:=⟨w.heap.size+1,1,none⟩) (.inl rfl) (.int .i64 len);have q5:=heap_setCell_same _ _ 1 _ _ (.int .i64 len) (heap_setCell_same _ _ 0 _ _ (.int .i64 0) s);have R:=aI u;have Q5:=aI q5;have Q4:=aI s;clear q5 s;go_simp;refine B _ _ u (fun _=>?_);clear B K Y u;refine iM ?_;go_wp2;obtain⟨hv,G,y,s1⟩:=M.out;have T:=R.out;have U:Typed w3 70 (w.heap.size+1):=⟨_,P3⟩;have V:¬g=w.heap.size+1:=aA;refine bodyPost_ret (v:=.tuple #[.slice (some ⟨g,0,none⟩) 1 c,.agg #[.int .i64 0,.int .i64 len]]) ?_ rfl ⟨g,c,rfl,aA,⟨v,T.cell V Q,l,(P.only T (fun k hk=>by rw[hk];exact⟨U.not aB,U.not aB,U.not aB⟩)).base aA,G⟩,B3.trans (T.below (n:=w.heap.size) B3.size (fun b H=>aA))⟩;simp[results,results31,go_sem,PE,Q5.out]
def Qq:cD:=⟨9223372036854775807,9223372036854775807,9223372036854775807,9223372036854775807,9223372036854775807⟩
theorem BV:uB Qq:=⟨by unfold Qq;decide,by unfold Qq;decide⟩
theorem Vo:vG Qq:=⟨by unfold Qq;decide,by unfold Qq;decide⟩
def runV:List Ent:=[⟨7,0,[]⟩]
def mY:List Frag:=[⟨[(3,3)],runV⟩]
def runZ:List Int:=[1,1,7,0,0,1,3,0,0]
theorem lV(pre post:List Int)(x:Int){zs:List Int}{a n:Int}(h:zs=pre ++ [x] ++ post)(b:a=(pre.length:Int))(j:n=(pre.length:Int)+1)(l:0≤x∧x<128):Rd zs a (.ok (x,n)):=by
 subst h;subst b;subst j;have h:=GS pre post x (by unfold aL;omega);rw[show vb 10 x=[x] from gX 9 aA]at h;exact h
def NM:WS:=⟨.vecs 1 (-1) none,[],[],none,none⟩
def NK:WS:=⟨.vecs 1 7 (some ⟨.rep,[],⟨0,0,[]⟩,1,0⟩),[],[],none,none⟩
def NJ:WS:=⟨.vecs 1 7 (some ⟨.top,[],⟨7,0,[]⟩,1,0⟩),[],[],none,none⟩
def NH:WS:=⟨.vecs 1 7 (some ⟨.op,[],⟨7,0,[]⟩,1,0⟩),[],[],none,none⟩
def NF:WS:=⟨.mid,[⟨[],runV⟩],[],none,none⟩
def ND:WS:=⟨.segs 1 0 0 false,[⟨[],runV⟩],[],none,none⟩
def MZ:WS:=⟨.segs 1 1 0 false,[⟨[],runV⟩],[],none,some 3⟩
def MY:WS:=⟨.segs 1 2 0 false,[⟨[],runV⟩],[],some (3,3),none⟩
def MW:WS:=⟨.fin,mY,[0],some (3,3),none⟩
theorem fX{s:WS}(j:s.k=[]∨s.k=[⟨[],runV⟩])(m:s.us=[]):qH s:=by
 refine⟨⟨by rcases j with h | h<;>simp[h],fun f b=>?_⟩,by simp[m],fun f b=>?_⟩
 ·rcases j with h | h
  ·rw[h]at b;cases b
  rw[h]at b;obtain rfl:f=⟨[],runV⟩:=by simpa using b
  refine⟨aB,fun e l=>?_,aB⟩;obtain rfl:e=⟨7,0,[]⟩:=by simpa[runV]using l
  decide
 rcases j with h | h
 ·rw[h]at b;cases b
 rw[h]at b;obtain rfl:f=⟨[],runV⟩:=by simpa using b
 decide
theorem Zh:DI runV:=⟨aB,fun e b=>(by
 obtain rfl:e=⟨7,0,[]⟩:=by simpa[runV]using b
 decide),aB⟩
theorem Yq:mT Qq 6 runZ Lm 0 (.ok mY):=by
 refine .next (s':=NM) (x:=1) (n:=1) (lV [] [1,7,0,0,1,3,0,0] 1 rfl rfl rfl aB) (fX (.inl rfl) rfl) trivial aC rfl ?_;refine .next (s':=NK) (x:=1) (n:=2) (lV [1] [7,0,0,1,3,0,0] 1 rfl rfl rfl aB) (fX (.inl rfl) rfl) (fun b h=>?_) aC rfl ?_
 ·injection h with h;subst h;exact⟨aB,fun e j=>(by cases j),aB⟩
 refine .next (s':=NJ) (x:=7) (n:=3) (lV [1,1] [0,0,1,3,0,0] 7 rfl rfl rfl aB) (fX (.inl rfl) rfl) ⟨⟨aD,.inr aB,aB,aB,aB⟩,fun b h=>?_⟩ aC rfl ?_
 ·injection h with h;subst h;exact⟨aB,fun e j=>(by cases j),aB⟩
 refine .next (s':=NH) (x:=0) (n:=4) (lV [1,1,7] [0,1,3,0,0] 0 rfl rfl rfl aB) (fX (.inl rfl) rfl) ⟨⟨aD,.inr aB,aB,aB,aB⟩,fun b h=>?_⟩ aC rfl ?_
 ·injection h with h;subst h;exact⟨aB,fun e j=>(by cases j),aB⟩
 refine .next (s':=NF) (x:=0) (n:=5) (lV [1,1,7,0] [1,3,0,0] 0 rfl rfl rfl aB) (fX (.inl rfl) rfl) ⟨⟨aD,.inr aB,aB,aB,aB⟩,fun b h=>?_⟩ aC rfl ?_
 ·injection h with h;subst h;exact Zh
 refine .next (s':=ND) (x:=1) (n:=6) (lV [1,1,7,0,0] [3,0,0] 1 rfl rfl rfl aB) (fX (.inr rfl) rfl) trivial aC rfl ?_;refine .next (s':=MZ) (x:=3) (n:=7) (lV [1,1,7,0,0,1] [0,0] 3 rfl rfl rfl aB) (fX (.inr rfl) rfl) (.inl ⟨rfl,rfl⟩) aC rfl ?_;refine .next (s':=MY) (x:=0) (n:=8) (lV [1,1,7,0,0,1,3] [0] 0 rfl rfl rfl aB) (fX (.inr rfl) rfl) (.inr (.inl ⟨rfl,_,rfl⟩)) aC rfl ?_;exact .fin (s':=MW) (x:=0) (n:=9) (lV [1,1,7,0,0,1,3,0] [] 0 rfl rfl rfl aB) (fX (.inr rfl) rfl) (.inr (.inr ⟨rfl,_,rfl⟩)) aC rfl
theorem Tx:CanK mY:=by
 refine⟨fun f b=>?_,fun f b=>?_,fun f b=>?_,fun f b=>?_,PG _ _,PG _ _⟩;all_goals obtain rfl:f=⟨[(3,3)],runV⟩:=by simpa[mY]using b
 ·exact rD aB
 ·simp
 ·refine CanW.snoc (es:=[]) CanW.nil ⟨fun i hi=>absurd hi aD,fun i hi=>absurd hi aD⟩ ⟨by unfold aL;decide,by unfold aL;decide,fun z j=>by cases j⟩ (fun f b=>by cases b)
 simp[runV]
theorem Md(x r c:Int):fH mY x r c↔(x=3∧r=7∧c=0):=by
 constructor
 ·rintro⟨f,b,h1,h2⟩;obtain rfl:f=⟨[(3,3)],runV⟩:=by simpa[mY]using b
  rw[dU]at h1;obtain⟨e,j,h3,h4,l,_⟩:=h2;obtain rfl:e=⟨7,0,[]⟩:=by simpa[runV]using j
  simp only at h1 h3 h4 l;omega
 rintro⟨rfl,rfl,rfl⟩;exact⟨⟨[(3,3)],runV⟩,by simp[mY],by rw[dU];decide,⟨7,0,[]⟩,by simp[runV],rfl,aB,aB,cY _⟩
theorem Mc{l:List FV}(h:CanL l)(b:∀x r c,fH (l.map FV.frag) x r c↔(x=3∧r=7∧c=0)):l.map FV.frag=mY:=
 uS h Tx fun x r c=>(b x r c).trans (Md x r c).symm
theorem wT{l:List FV}(h:l.map FV.frag=mY):∃iv vec vv,l=[⟨[(3,3)],iv,vec,vv⟩]∧vec.map (·.1)=runV:=by
 match l,h with
 | [f],h=>
   obtain⟨items,iv,vec,vv⟩:=f;simp[mY,FV.frag]at h;obtain⟨rfl,h⟩:=h;exact⟨iv,vec,vv,rfl,h⟩
 | [],h=>simp[mY]at h
 | _ :: _ :: _,h=>simp[mY]at h
theorem Fi{l:List FV}(h:l.map FV.frag=mY):sR l=runZ:=by
 obtain⟨iv,vec,vv,rfl,hv⟩:=wT h;have b:aZ [⟨[(3,3)],iv,vec,vv⟩]=[(3,3)]:=by
  unfold aZ fB jX;simp
 have j:fQ [⟨[(3,3)],iv,vec,vv⟩] 3=0:=Hz (k:=0) aD rfl (by simp[List.getD];exact dU.2 aB);have m:lQ [⟨[(3,3)],iv,vec,vv⟩] 1=[1] ++ bX runV:=by
  show [((1:Nat):Int)] ++ bX (FV.es _)=_;rw[show FV.es (([⟨[(3,3)],iv,vec,vv⟩]:List FV).getD 0 FV.z)=runV from hv];rfl
 unfold sR;rw[b];show kY _ 1=_;show(lQ _ 1 ++ [((aZ _).length:Int)]) ++ zA _ 0=_;rw[m];unfold zA;rw[b];rw[show Lo [(3,3)] 0=3 from rfl,j];rfl
theorem zW{l:List FV}(h:l.map FV.frag=mY):bL (sR l)=runZ:=by
 rw[Fi h];unfold runZ bL;simp[vb]
theorem Tv{l:List FV}(h:l.map FV.frag=mY):JG l:=by
 refine⟨by rw[Fi h];decide,?_,?_⟩
 ·obtain⟨iv,vec,vv,rfl,hv⟩:=wT h;intro f j e m;obtain rfl:f=⟨[(3,3)],iv,vec,vv⟩:=by simpa using j
  have b:e∈runV:=by rw[← hv];exact m
  obtain rfl:e=⟨7,0,[]⟩:=by simpa[runV]using b
  decide
 obtain⟨iv,vec,vv,rfl,hv⟩:=wT h;unfold aZ;rw[jJ];simp[fB]
def runB:List Int:=tM [] runZ
theorem jL:runB=[75,78,87,76,1,9,1,1,7,0,0,1,3,0,0] ++ qN (kV runZ):=by
 unfold runB tM sH;rw[show vb 10 ((runZ.length:Nat):Int)=[9] from by simp[runZ,vb]];rfl
theorem wV:runB.length=19:=by rw[jL];rfl
theorem Oz:Ec runB 0 6 ((9:Nat):Int):=by
 have b:Rd runB ((0+5:Nat):Int) (.ok (((9:Nat):Int),((6:Nat):Int))):=lV [75,78,87,76,1] ([1,1,7,0,0,1,3,0,0] ++ qN (kV runZ)) 9 (by rw[jL];rfl) rfl rfl aB;exact⟨by rw[wV];decide,by rw[jL];rfl,by rw[jL];rfl,by rw[jL];rfl,by rw[jL];rfl,by rw[jL];rfl,b⟩
theorem Fk:(runB.drop 6).take 9=runZ:=by rw[jL];rfl
theorem Ty:(runB.drop (6+9)).take 4=qN (kV ((runB.drop 6).take 9)):=by rw[Fk,jL];rfl
theorem Wq(b:Nat)(a:Option Addr)(n c:Nat)(l:List FV)(T V A:Nat)(w:World)(U:w.cell? ⟨b,0,none⟩=some (.slice a n c))
  (K:∀W,Below w.heap.size w W→Calls prog 13 #[.slice a n c] W fun e w'=>Xs W l T V A e w')
  (s:∀j,CanL j→(∀x r c,fH (j.map FV.frag) x r c↔fH (l.map FV.frag) x r c)→(bL (sR j)).length≤900000) :
  Calls prog 30 #[.slice (some ⟨b,0,none⟩) 1 1] w fun e w'=>∃vb j,e=.returned (.tuple #[vb,.nilIface])∧CanL j∧(∀x r c,fH (j.map FV.frag) x r c↔fH (l.map FV.frag) x r c)∧OwnB w' w.heap.size vb (tM [] (bL (sR j)))∧Below w.heap.size w w':=by
 have X:=aI K;have I:=aI s;have HC:=aI U;clear K s;go_enter func30,ntmps30;go_wp2_with fail;refine wp_loop_rounds 2 ?_;rw[rounds_succ];go_wp2_with fail;refine(X _ (PD _ _)).mono ?_;rintro e P ⟨v1,j,rfl,p,u,B,C,Q,R⟩;have G:=aI (I j p u);have N:=aI (And.intro p u);have J:=aI R;have L:=aI Q;obtain⟨zs,y⟩:=aG (bL (sR j));have Y:=aI y;rw[y]at G L;obtain⟨a1,S,rfl,M,D⟩:=L.ints (by have:=G.out;omega);have z:a1=none→S=0:=by
  intro e;rcases L.row.2 with⟨hv,_⟩ | ⟨g,cap,cur,hv,_⟩
  ·simp at hv;exact hv.2.2
  rw[e]at hv;cases hv
 obtain⟨m,H⟩:=aG zs.length;have EM:=aI H;rw[H]at M ⊢;have Z:=aI M;have HN:=aI z;have O:=aI (show m≤900000 from by rw[← H];exact G);clear p u B C Q R M D z y H U G;go_wp2_with fail;refine(Wr P (.slice none 0 0) [] zs a1 m S P (OwnB.nil _ _) (PD _ _) Z HN aD O (by simp;exact O)).mono ?_;rintro e w2 ⟨v2,rfl,E,F⟩;have O2:=aI (E.lower J.size);have B2:=aI (J.trans (F.mono J.size));clear E F;go_wp2_with fail;rw[rounds_succ];go_wp2_with fail;go_ret2;exact⟨v2,j,rfl,N.1,N.2,by rw[Y.out];exact O2,B2⟩
theorem Zr(w:World):KOk w (.slice none 0 0) [] 0 0 0:=
 ⟨⟨none,0,rfl,⟨rfl,fun f b=>(by cases b),fun i hi=>absurd hi aD⟩,PM _⟩,fun n c e=>(by cases e;rfl),
  ⟨0,0,0,⟨fun f b=>(by cases b),fun f b=>(by cases b),fun f b=>(by cases b),fun f b=>(by cases b),fun f b=>(by cases b)⟩,fun x=>(by simp[aX]),aB,aB,aB,aB⟩,PM _,PM _⟩
theorem Tt(w:World)(hg:Laid w):Calls prog 8 #[] w fun e w'=>e=.returned (.bool true)∧Below w.heap.size w w':=by
 have I:=aI hg;have K1:=aI (Hh 3 7 0 (Zr w) (by unfold aL;decide) (by unfold aL;decide) (by unfold aL;decide) aB aB aB);clear hg;go_enter func8,ntmps8;go_wp2_with fail;refine K1.mono ?_;rintro e F ⟨v1,G,rfl,A0,s,u,l,Q⟩;have Z:=Mc s (fun x r c=>(u x r c).trans ⟨fun h=>h.elim (fun h=>absurd h (Nh x r c)) id,.inr⟩);have J:G.length=1:=by have:=congrArg PH Z;simpa[mY]using this
 obtain⟨a1,R,rfl⟩:=l.slice;rw[J]at l ⊢;have O1:=aI l;have F1:=aI Z;have B1:=aI Q;have A2:=aI u;have A3:=aI s;clear A0 s u l Q Z J K1;go_wp2_with fail;obtain⟨w2,m⟩:=aG (F.alloc (.cells #[.slice a1 1 R] 23));have b2:Below F.heap.size F w2:=by rw[← m];exact aJ (PD _ _) _
 have q2:w2.heap[F.heap.size]?=some (.cells #[.slice a1 1 R] 23 (0,0)):=by rw[← m];exact aK _ _ rfl
 have e2:w2.cell? ⟨F.heap.size,0,none⟩=some (.slice a1 1 R):=by simp[PE,q2]
 have B2:=aI (B1.trans (b2.mono B1.size));have O2:=aI (O1.below b2);have same:∀p,CanL p→(∀x r c,fH (p.map FV.frag) x r c↔fH (G.map FV.frag) x r c)→p.map FV.frag=mY:=fun p h1 h2=>Mc h1 (fun x r c=>by
  rw[h2,F1.out];exact Md x r c)
 have Y:∃T' V' A',∀W,Below w2.heap.size w2 W→Calls prog 13 #[.slice a1 1 R] W fun e w'=>Xs W G T' V' A' e w':=by
  obtain⟨hE,hn,⟨V,A,N,hO,hN,v1,v2,v3,v4⟩,ht,hl⟩:=O2.out;have hV:V≤1000000:=PN (PO _ (Nat.succ_pos N)) v1;have hA:A+3≤1000000:=PN (PO _ (Nat.succ_pos N)) v2;exact⟨_,_,_,fun W hW=>Sj _ G 1000000 V A N W (hE.below hW) hO (PM _) aA aA hV aA hN aA aA (fun p h1 h2 _ _=>Tv (same p h1 h2))⟩
 obtain⟨T',V',A',Y⟩:=Y;have KF:=aI (Wq F.heap.size a1 1 R G T' V' A' w2 e2 Y (fun p h1 h2=>by rw[zW (same p h1 h2)];decide));have K:=aI same;rw[m];clear m b2 q2 e2 same Y;refine KF.mono ?_;rintro e w3 ⟨vb,l3,rfl,S,T,y,z⟩;have f3:=K.out l3 S T;rw[zW f3,show tM [] runZ=runB from rfl]at y;obtain⟨a3,c3,rfl,B,j⟩:=y.ints (by rw[wV];decide);rw[wV]at B j ⊢;have O3:=aI (O2.below z);have B3:=aI (B2.trans (z.mono B2.size));have I3:=aI B;clear S T y z f3 B KF;go_wp2_with fail;refine(pU _).mono ?_;rintro e w4 ⟨rfl,n⟩;have O4:=aI (O3.below n);have B4:=aI (B3.trans (n.mono B3.size));have I4:=aI (I3.below n);clear n;go_wp2_with fail;refine(Qd a3 19 c3 6 9 runB Qq BV Vo (by unfold Qq;decide) mY w4 (I.below B4) I4 j aB Oz (by unfold Qq;decide) rfl Ty (by rw[Fk];exact Yq)).mono ?_;rintro e H ⟨g,cg,rfl,A1,⟨v5,b,l5,C,D⟩,E⟩;have O5:=aI (O4.below E);have B5:=aI (B4.trans (E.mono B4.size));have L:=aI C;have EQ:=aI (D.trans F1.symm);have M:=aI b;have O:l5.length=1:=by have:=congrArg PH D;simpa[mY]using this
 obtain⟨a5,c5,rfl,_⟩:=aY C.row;rw[O]at M L;have b:=M.out;clear C E D O A1;obtain⟨w6,U⟩:=aG (H.alloc (.cells #[.int .i64 0,.int .i64 19] 70));have P:Below H.heap.size H w6:=by rw[← U];exact aJ (PD _ _) _
 have d5:w6.cell? ⟨g,0,none⟩=some (.slice a5 1 c5):=aM P (block_lt_of_cell b) b;have KS:=aI (Jo _ _ l5 G w6 (L.below P).know (O5.below P).at' EQ (by have:=O5.len;have:=congrArg PH EQ;simp at this;omega));have B6:=aI (B5.trans (P.mono B5.size));have q6:w6.heap[H.heap.size]?=some (.cells #[.int .i64 0,.int .i64 19] 70 (0,0)):=by rw[← U];exact aK _ _ rfl
 have A4:w6.cell? ⟨H.heap.size,0,none⟩=some (.int .i64 0):=by simp[PE,q6]
 have A5:w6.cell? ⟨H.heap.size,1,none⟩=some (.int .i64 19):=by simp[PE,q6]
 clear P q6 b;go_wp2_with fail;refine KS.mono ?_;rintro e w7 ⟨rfl,X⟩;have B7:=aI (B6.trans (X.mono B6.size));clear X;go_wp2;go_ret;exact⟨rfl,B7⟩
end Go.Proofs.YtbkkolfpegplgaaGreatDoor
