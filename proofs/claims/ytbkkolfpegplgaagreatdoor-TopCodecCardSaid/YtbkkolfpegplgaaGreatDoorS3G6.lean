/- errors.As at the target '*Errno': its contracts; fault.Code. errors.As at the target '*Errno' over an Errno; fault.Code over nil and over an Errno. errors.As at the target '*Fault' and over faults: closed facts. errors.As at the target '*Errno' over a Fault; fault.Code over a Fault. errors.As at the targets '*Fault' and '*Errno' over an Errno and over a Fault; fault.find, fault.At, fault.Code. -/
import Derived.Test.YtbkkolfpegplgaaGreatDoorS3G1
import Derived.LaidEql
import Derived.Stop.Asserts
import Derived.RowKitTokens
import Derived.Laws.Cells
import Derived.Laws.IdiomCopy
set_option maxHeartbeats 8000000
namespace Go.Proofs.YtbkkolfpegplgaaGreatDoor
open Go.RowKit Go.Extern.Stop Go.Stop Go.Extern
def Laid (w:World):Prop:=w.cell? ⟨0,0,none⟩=some (.iface 249 (.agg #[.pointer (some ⟨1,27,none⟩)]))
theorem Laid.pos{w:World}(h:Laid w):0<w.heap.size:=by
 rcases Nat.eq_zero_or_pos w.heap.size with h0 | h1
 ·unfold Laid at h;simp[World.cell?,h0]at h
 ·exact h1
theorem Laid.below{w w':World}(h:Laid w)(hb:Below w.heap.size w w'):Laid w':=(hb.cell (p:=⟨0,0,none⟩) h.pos).trans h
theorem Laid.alloc{w:World}(h:Laid w)(o:Obj):Laid (w.alloc o):=h.below ((Below.refl _ _).alloc (Nat.le_refl _) _)
/-! ### Closed facts on the model's entries for internal/reflectlite -/
theorem methodKind (h : Value) (w : World) : (Go.method 495 249 (.agg #[h]) "Kind").run Tryz.prog w = .ok (289, h) w := by kernel_rfl
theorem methodElem (h : Value) (w : World) : (Go.method 495 249 (.agg #[h]) "Elem").run Tryz.prog w = .ok (309, .agg #[h]) w := by kernel_rfl
theorem z2m (h : Value) (w : World) : (Go.method 495 249 (.agg #[h]) "Implements").run Tryz.prog w = .ok (310, .agg #[h]) w := by kernel_rfl
theorem z2b (h : Value) (w : World) : (Go.method 495 249 (.agg #[h]) "AssignableTo").run Tryz.prog w = .ok (307, .agg #[h]) w := by kernel_rfl
theorem rlm(z:Sem Value)(f:TypeId→Addr→Nat→Nat→Sem Value)(v:Value) :
  ReflectliteValue.method z f #[v]=(do match ← ReflectliteValue.parts v with | none=>z | some (t,a,fl)=>f t a fl (fl % 32)):=rfl
theorem rls(v x:Value):ReflectliteValue.set #[v,x]=(do
  let (some (dst,a,fl),some (src,b,_)):=(← ReflectliteValue.parts v,← ReflectliteValue.parts x)
   | unsupported (.noEntry "extern/(internal/reflectlite.Value).Set.zeroValue")
  if fl / ReflectliteValue.flagAddr % 2 == 0 then unsupported (.noEntry "extern/(internal/reflectlite.Value).Set.unaddressable")
  let val ← loadVar src b
  if ← Rtype.directlyAssignable dst src then storeVar dst a val
  else if ← Rtype.implements dst src then
   if(← Rtype.kind src) == 20 then
    match val with
    | .nilIface => unsupported (.noEntry "extern/reflectlite: a nil value of one interface type handed on as a value of another")
    | _=>storeVar dst a val
   else storeVar dst a (.iface src val)
  else panicString ("reflectlite.Set: value of type " ++ (← Rtype.spelt src) ++ " is not assignable to type " ++ (← Rtype.spelt dst))
  pure (.tuple #[])):=rfl
theorem typeOfE(v:Value)(w:World):(ReflectliteType.typeOf #[.iface 42 v]).run Tryz.prog w=.ok (.iface 249 (.agg #[.pointer (some ⟨1,42,none⟩)])) w:=by kernel_rfl
theorem valueOfE(n:Int)(w:World):(ReflectliteValue.unpack (.iface 42 (.int .i64 n))).run Tryz.prog w
  = .ok (.agg #[.pointer (some ⟨1,42,none⟩),.pointer (some ⟨w.heap.size,0,none⟩),.int .u64 130]) (w.alloc (.cells #[.int .i64 n] 42)):=by kernel_rfl
/-! ### The target *Errno -/
theorem valueOfPE(t:Addr)(w:World):(ReflectliteValue.unpack (.iface 106 (.pointer (some t)))).run Tryz.prog w
  = .ok (.agg #[.pointer (some ⟨1,106,none⟩),.pointer (some ⟨w.heap.size,0,none⟩),.int .u64 150]) (w.alloc (.cells #[.pointer (some t)] 106)):=by kernel_rfl
theorem typePE (a : Addr) (w : World) : (ReflectliteValue.methodAny (ReflectliteValue.valueError "reflectlite.Value.Type" 0) (fun t _ _ _ => ReflectliteType.toType t) #[.agg #[.pointer (some ⟨1, 106, none⟩), .pointer (some a), .int .u64 150]]).run Tryz.prog w
  = .ok (.iface 249 (.agg #[.pointer (some ⟨1,106,none⟩)])) w:=by kernel_rfl
theorem kindPE(w:World):((ReflectliteType.abiMethod fun t=>(fun a:Nat=>Value.int IntKind.u8 (a:Int)) <$> Rtype.kind t) #[.pointer (some ⟨1,106,none⟩)]).run Tryz.prog w=.ok (.int .u8 22) w:=by kernel_rfl
theorem kindE(w:World):((ReflectliteType.abiMethod fun t=>(fun a:Nat=>Value.int IntKind.u8 (a:Int)) <$> Rtype.kind t) #[.pointer (some ⟨1,42,none⟩)]).run Tryz.prog w=.ok (.int .u8 2) w:=by kernel_rfl
theorem partsPE(a:Addr)(w:World):(ReflectliteValue.parts (.agg #[.pointer (some ⟨1,106,none⟩),.pointer (some a),.int .u64 150])).run Tryz.prog w=.ok (some (106,a,150)) w:=by kernel_rfl
theorem isNilPE(a p:Addr)(W:World)(ha:W.cell? a=some (.pointer (some p))) :
  (ReflectliteValue.method (ReflectliteValue.valueError "reflectlite.Value.IsNil" 0) ReflectliteValue.isNil #[.agg #[.pointer (some ⟨1, 106, none⟩), .pointer (some a), .int .u64 150]]).run Tryz.prog W = .ok (.bool false) W := by
 rw[rlm];simp only[Sem.run_bind,partsPE,Result.andThen];simp[ReflectliteValue.isNil,loadVar,isAgg,underlying,Tryz.underlying106,ha,Result.andThen]
theorem elemTPE(w:World):(ReflectliteType.method ReflectliteType.elem #[.agg #[.pointer (some ⟨1,106,none⟩)]]).run Tryz.prog w=.ok (.iface 249 (.agg #[.pointer (some ⟨1,42,none⟩)])) w:=by kernel_rfl
theorem implementsE (w : World) : (ReflectliteType.relation "Implements" ReflectliteType.implements_ #[.agg #[.pointer (some ⟨1, 42, none⟩)], .iface 249 (.agg #[.pointer (some ⟨1, 27, none⟩)])]).run Tryz.prog w = .ok (.bool true) w := by kernel_rfl
theorem assignableEE (w : World) : (ReflectliteType.relation "AssignableTo" ReflectliteType.assignableTo #[.agg #[.pointer (some ⟨1, 42, none⟩)], .iface 249 (.agg #[.pointer (some ⟨1, 42, none⟩)])]).run Tryz.prog w = .ok (.bool true) w := by kernel_rfl
theorem elemOfPE(w:World):(Rtype.elem? 106).run Tryz.prog w=.ok (some 42) w:=by kernel_rfl
theorem mkE(p:Addr)(w:World):(ReflectliteValue.mk 42 p ReflectliteValue.flagAddr).run Tryz.prog w=.ok (.agg #[.pointer (some ⟨1,42,none⟩),.pointer (some p),.int .u64 386]) w:=by kernel_rfl
theorem elemVPE(a p:Addr)(W:World)(ha:W.cell? a=some (.pointer (some p))) :
  (ReflectliteValue.method (ReflectliteValue.valueError "reflectlite.Value.Elem" 0) ReflectliteValue.elem #[.agg #[.pointer (some ⟨1, 106, none⟩), .pointer (some a), .int .u64 150]]).run Tryz.prog W
    = .ok (.agg #[.pointer (some ⟨1,42,none⟩),.pointer (some p),.int .u64 386]) W:=by
 rw[rlm];simp only[Sem.run_bind,partsPE,Result.andThen];simp[ReflectliteValue.elem,loadVar,isAgg,underlying,Tryz.underlying106,ha,Result.andThen,elemOfPE,mkE]
theorem partsEa(a:Addr)(w:World):(ReflectliteValue.parts (.agg #[.pointer (some ⟨1,42,none⟩),.pointer (some a),.int .u64 386])).run Tryz.prog w=.ok (some (42,a,386)) w:=by kernel_rfl
theorem partsE(a:Addr)(w:World):(ReflectliteValue.parts (.agg #[.pointer (some ⟨1,42,none⟩),.pointer (some a),.int .u64 130])).run Tryz.prog w=.ok (some (42,a,130)) w:=by kernel_rfl
theorem directEE(w:World):(Rtype.directlyAssignable 42 42).run Tryz.prog w=.ok true w:=by kernel_rfl
theorem setE(ta b:Addr)(n:Int)(old:Value)(W:World)(hb:W.cell? b=some (.int .i64 n))(ht:W.cell? ta=some old)(hf:W.frozen? ta=false) :
  (ReflectliteValue.set #[.agg #[.pointer (some ⟨1,42,none⟩),.pointer (some ta),.int .u64 386],.agg #[.pointer (some ⟨1,42,none⟩),.pointer (some b),.int .u64 130]]).run Tryz.prog W
    = .ok (.tuple #[]) (W.setCell ta (.int .i64 n)):=by
 rw[rls];simp only[Sem.run_bind,partsEa,partsE,Result.andThen];simp[ReflectliteValue.flagAddr,loadVar,isAgg,underlying,Tryz.underlying42,hb,Result.andThen,directEE,storeVar,Value.cells,storeCells,Addr.add]
 rw[run_store Tryz.prog W ta _ _ (by rfl)];simp[ht,hf]
theorem as_EE(n:Int)(t:Addr)(old:Value)(w:World)(hg:Laid w)(ht0:w.cell? t=some old)(hf0:w.frozen? t=false) :
  Calls Tryz.prog 57 #[.iface 42 (.int .i64 n),.iface 106 (.pointer (some t))] w fun ev w'=>ev=.returned (.bool true)∧∃w1,Below w.heap.size w w1∧w'=w1.setCell t (.int .i64 n):=by
 have h6:=@run_callFunc_extern Tryz.prog 100 _ (fun args=>ReflectliteValue.unpack (args.getD 0 (.tuple #[]))) Tryz.func100 (by kernel_rfl) (by kernel_rfl) (by kernel_rfl) (by kernel_rfl)
 have h7 := @run_callFunc_extern Tryz.prog 101 _ (ReflectliteValue.methodAny (ReflectliteValue.valueError "reflectlite.Value.Type" 0) (fun t _ _ _ => ReflectliteType.toType t)) Tryz.func101 (by kernel_rfl) (by kernel_rfl) (by kernel_rfl) (by kernel_rfl)
 have h8 := @run_callFunc_extern Tryz.prog 102 _ (ReflectliteValue.method (ReflectliteValue.valueError "reflectlite.Value.IsNil" 0) ReflectliteValue.isNil) Tryz.func102 (by kernel_rfl) (by kernel_rfl) (by kernel_rfl) (by kernel_rfl)
 have h27:=@run_callFunc_extern Tryz.prog 289 _ (ReflectliteType.abiMethod fun t=>do pure (.int .u8 (← Rtype.kind t))) Tryz.func289 (by kernel_rfl) (by kernel_rfl) (by kernel_rfl) (by kernel_rfl);have h37:=@run_callFunc_extern Tryz.prog 309 _ (ReflectliteType.method ReflectliteType.elem) Tryz.func309 (by kernel_rfl) (by kernel_rfl) (by kernel_rfl) (by kernel_rfl)
 have h38 := @run_callFunc_extern Tryz.prog 310 _ (ReflectliteType.relation "Implements" ReflectliteType.implements_) Tryz.func310 (by kernel_rfl) (by kernel_rfl) (by kernel_rfl) (by kernel_rfl)
 have h10:=@run_callFunc_extern Tryz.prog 158 _ ReflectliteType.typeOf Tryz.func158 (by kernel_rfl) (by kernel_rfl) (by kernel_rfl) (by kernel_rfl)
 have h35 := @run_callFunc_extern Tryz.prog 307 _ (ReflectliteType.relation "AssignableTo" ReflectliteType.assignableTo) Tryz.func307 (by kernel_rfl) (by kernel_rfl) (by kernel_rfl) (by kernel_rfl)
 have h11 := @run_callFunc_extern Tryz.prog 159 _ (ReflectliteValue.method (ReflectliteValue.valueError "reflectlite.Value.Elem" 0) ReflectliteValue.elem) Tryz.func159 (by kernel_rfl) (by kernel_rfl) (by kernel_rfl) (by kernel_rfl)
 have h12:=@run_callFunc_extern Tryz.prog 160 _ ReflectliteValue.set Tryz.func160 (by kernel_rfl) (by kernel_rfl) (by kernel_rfl) (by kernel_rfl);have tO:=typeOfE;have mA:=z2b;have aE:=assignableEE;have vE:=valueOfE;have f6:=valueOfPE;have f7:=typePE;have mK:=methodKind;have mE:=methodElem;have mI:=z2m;have kP:=kindPE;have kE:=kindE;have eP:=elemTPE;have iE:=implementsE;have n8:=isNilPE ⟨w.heap.size,0,none⟩ t ((w.alloc (.cells #[.pointer (some t)] 106)).alloc (.cells #[.pointer (some ⟨1,106,none⟩),.pointer (some ⟨w.heap.size,0,none⟩),.int .u64 150] 173)) (by simp);have hg2:((w.alloc (.cells #[.pointer (some t)] 106)).alloc (.cells #[.pointer (some ⟨1,106,none⟩),.pointer (some ⟨w.heap.size,0,none⟩),.int .u64 150] 173)).cell? ⟨0,0,none⟩=some (.iface 249 (.agg #[.pointer (some ⟨1,27,none⟩)])):=(hg.alloc _).alloc _;have htl:t.block<w.heap.size:=by
  rcases Nat.lt_or_ge t.block w.heap.size with h | h
  ·exact h
  ·simp[World.cell?,Array.getElem?_eq_none h]at ht0
 have el:=elemVPE ⟨w.heap.size,0,none⟩ t (((w.alloc (.cells #[.pointer (some t)] 106)).alloc (.cells #[.pointer (some ⟨1,106,none⟩),.pointer (some ⟨w.heap.size,0,none⟩),.int .u64 150] 173)).alloc (.cells #[.pointer (some ⟨1,106,none⟩),.pointer (some ⟨w.heap.size,0,none⟩),.int .u64 150] 173)) (by rw[World.cell?_alloc_lt _ _ ⟨w.heap.size,0,none⟩ (by simp;omega)];simp);have st:=setE t ⟨w.heap.size+1+1+1,0,none⟩ n old ((((w.alloc (.cells #[.pointer (some t)] 106)).alloc (.cells #[.pointer (some ⟨1,106,none⟩),.pointer (some ⟨w.heap.size,0,none⟩),.int .u64 150] 173)).alloc (.cells #[.pointer (some ⟨1,106,none⟩),.pointer (some ⟨w.heap.size,0,none⟩),.int .u64 150] 173)).alloc (.cells #[.int .i64 n] 42))
  (by rw[World.cell?_alloc_at _ _ _ _ (by simp)];rfl)
  (by rw[World.cell?_alloc_lt _ _ t (by simp;omega),World.cell?_alloc_lt _ _ t (by simp;omega),World.cell?_alloc_lt _ _ t (by simp;omega),World.cell?_alloc_lt _ _ t htl];exact ht0)
  (by rw[World.frozen?_alloc_old _ _ t (by simp;omega),World.frozen?_alloc_old _ _ t (by simp;omega),World.frozen?_alloc_old _ _ t (by simp;omega),World.frozen?_alloc_old _ _ t (Nat.ne_of_lt htl)];exact hf0)
 clear hg ht0 hf0;go_enter Tryz.func57,Tryz.ntmps57
 go_wp2
 refine wp_loop_rounds 1 ?_;rw[rounds_succ];go_wp2
 go_ret
 exact⟨rfl,_,zc (zc (zc (zc (Below.refl _ _) _) _) _) _,rfl⟩
theorem code_E(n:Int)(w:World)(hg:Laid w) :
  Calls Tryz.prog 17 #[.iface 42 (.int .i64 n)] w fun e w'=>e=.returned (.int .i64 n)∧Below w.heap.size w w':=by
 have HA:=z7 (as_EE n ⟨w.heap.size,0,none⟩ (.int .i64 0) (w.alloc (.cells #[.int .i64 0] 42)) (hg.alloc _) (by simp) (by simp));clear hg;go_enter Tryz.func17,Tryz.ntmps17
 go_wp2_with fail
 refine HA.out.mono ?_;rintro e w' ⟨rfl,w1,b1,rfl⟩;have hr:w1.heap[w.heap.size]?=some (.cells #[.int .i64 0] 42 (0,0)):=(b1.block _ (by simp)).trans (ze _ _ rfl);have k0:(w1.setCell ⟨w.heap.size,0,none⟩ (.int .i64 n)).cell? ⟨w.heap.size,0,none⟩=some (.int .i64 n):=by
  have:=heap_setCell_same _ _ 0 _ _ (.int .i64 n) hr;simp[World.cell?,this]
 have B:=z7 (z1u (zf (zc (Below.refl w.heap.size w) (.cells #[.int .i64 0] 42)) b1) (p:=⟨w.heap.size,0,none⟩) (Nat.le_refl _) (.int .i64 n));clear b1 hr;obtain⟨w2,e2⟩:∃w2,w1.setCell ⟨w.heap.size,0,none⟩ (.int .i64 n)=w2:=⟨_,rfl⟩;rw[e2]at k0 B ⊢;clear e2;go_wp2
 go_ret
 exact⟨rfl,B.out⟩
theorem typeOfF(v:Value)(w:World):(ReflectliteType.typeOf #[.iface 107 v]).run Tryz.prog w=.ok (.iface 249 (.agg #[.pointer (some ⟨1,107,none⟩)])) w:=by kernel_rfl
theorem valueOfF(c n:Int)(w:World):(ReflectliteValue.unpack (.iface 107 (.agg #[.int .i64 c,.int .i64 n]))).run Tryz.prog w
  = .ok (.agg #[.pointer (some ⟨1,107,none⟩),.pointer (some ⟨w.heap.size,0,none⟩),.int .u64 153]) (w.alloc (.cells #[.int .i64 c,.int .i64 n] 107)):=by kernel_rfl
theorem assignableFE (w : World) : (ReflectliteType.relation "AssignableTo" ReflectliteType.assignableTo #[.agg #[.pointer (some ⟨1, 107, none⟩)], .iface 249 (.agg #[.pointer (some ⟨1, 42, none⟩)])]).run Tryz.prog w = .ok (.bool false) w := by kernel_rfl
theorem noAsF(v:Value)(xT:TypeId)(w:World):(Instr.typeAssert (.iface 107 v) xT 254 true).run Tryz.prog w=.ok (.tuple #[.nilIface,.bool false]) w:=run_typeAssert_lacksB Tryz.underlying254 (by kernel_rfl) (by kernel_rfl) v xT w
theorem noUnE(v:Value)(xT:TypeId)(w:World):(Instr.typeAssert (.iface 42 v) xT 257 true).run Tryz.prog w=.ok (.tuple #[.nilIface,.bool false]) w:=run_typeAssert_lacksB Tryz.underlying257 (by kernel_rfl) (by kernel_rfl) v xT w
theorem noUnsE(v:Value)(xT:TypeId)(w:World):(Instr.typeAssert (.iface 42 v) xT 259 true).run Tryz.prog w=.ok (.tuple #[.nilIface,.bool false]) w:=run_typeAssert_lacksB Tryz.underlying259 (by kernel_rfl) (by kernel_rfl) v xT w
theorem hasUnF(v:Value)(xT:TypeId)(w:World):(Instr.typeAssert (.iface 107 v) xT 257 true).run Tryz.prog w=.ok (.tuple #[.iface 107 v,.bool true]) w:=run_typeAssert_hasB Tryz.underlying257 (by kernel_rfl) v xT w
theorem z5d (c n : Value) (w : World) : (Go.method 495 107 (.agg #[c, n]) "Unwrap").run Tryz.prog w = .ok (294, .agg #[c, n]) w := by kernel_rfl
/-! ### The target *Fault -/
theorem valueOfPF(t:Addr)(w:World):(ReflectliteValue.unpack (.iface 182 (.pointer (some t)))).run Tryz.prog w
  = .ok (.agg #[.pointer (some ⟨1,182,none⟩),.pointer (some ⟨w.heap.size,0,none⟩),.int .u64 150]) (w.alloc (.cells #[.pointer (some t)] 182)):=by kernel_rfl
theorem typePF (a : Addr) (w : World) : (ReflectliteValue.methodAny (ReflectliteValue.valueError "reflectlite.Value.Type" 0) (fun t _ _ _ => ReflectliteType.toType t) #[.agg #[.pointer (some ⟨1, 182, none⟩), .pointer (some a), .int .u64 150]]).run Tryz.prog w
  = .ok (.iface 249 (.agg #[.pointer (some ⟨1,182,none⟩)])) w:=by kernel_rfl
theorem kindPF(w:World):((ReflectliteType.abiMethod fun t=>(fun a:Nat=>Value.int IntKind.u8 (a:Int)) <$> Rtype.kind t) #[.pointer (some ⟨1,182,none⟩)]).run Tryz.prog w=.ok (.int .u8 22) w:=by kernel_rfl
theorem kindF(w:World):((ReflectliteType.abiMethod fun t=>(fun a:Nat=>Value.int IntKind.u8 (a:Int)) <$> Rtype.kind t) #[.pointer (some ⟨1,107,none⟩)]).run Tryz.prog w=.ok (.int .u8 25) w:=by kernel_rfl
theorem partsPF(a:Addr)(w:World):(ReflectliteValue.parts (.agg #[.pointer (some ⟨1,182,none⟩),.pointer (some a),.int .u64 150])).run Tryz.prog w=.ok (some (182,a,150)) w:=by kernel_rfl
theorem isNilPF(a p:Addr)(W:World)(ha:W.cell? a=some (.pointer (some p))) :
  (ReflectliteValue.method (ReflectliteValue.valueError "reflectlite.Value.IsNil" 0) ReflectliteValue.isNil #[.agg #[.pointer (some ⟨1, 182, none⟩), .pointer (some a), .int .u64 150]]).run Tryz.prog W = .ok (.bool false) W := by
 rw[rlm];simp only[Sem.run_bind,partsPF,Result.andThen];simp[ReflectliteValue.isNil,loadVar,isAgg,underlying,Tryz.underlying182,ha,Result.andThen]
theorem elemTPF(w:World):(ReflectliteType.method ReflectliteType.elem #[.agg #[.pointer (some ⟨1,182,none⟩)]]).run Tryz.prog w=.ok (.iface 249 (.agg #[.pointer (some ⟨1,107,none⟩)])) w:=by kernel_rfl
theorem implementsF (w : World) : (ReflectliteType.relation "Implements" ReflectliteType.implements_ #[.agg #[.pointer (some ⟨1, 107, none⟩)], .iface 249 (.agg #[.pointer (some ⟨1, 27, none⟩)])]).run Tryz.prog w = .ok (.bool true) w := by kernel_rfl
theorem assignableFF (w : World) : (ReflectliteType.relation "AssignableTo" ReflectliteType.assignableTo #[.agg #[.pointer (some ⟨1, 107, none⟩)], .iface 249 (.agg #[.pointer (some ⟨1, 107, none⟩)])]).run Tryz.prog w = .ok (.bool true) w := by kernel_rfl
theorem elemOfPF(w:World):(Rtype.elem? 182).run Tryz.prog w=.ok (some 107) w:=by kernel_rfl
theorem mkF(p:Addr)(w:World):(ReflectliteValue.mk 107 p ReflectliteValue.flagAddr).run Tryz.prog w=.ok (.agg #[.pointer (some ⟨1,107,none⟩),.pointer (some p),.int .u64 409]) w:=by kernel_rfl
theorem elemVPF(a p:Addr)(W:World)(ha:W.cell? a=some (.pointer (some p))) :
  (ReflectliteValue.method (ReflectliteValue.valueError "reflectlite.Value.Elem" 0) ReflectliteValue.elem #[.agg #[.pointer (some ⟨1, 182, none⟩), .pointer (some a), .int .u64 150]]).run Tryz.prog W
    = .ok (.agg #[.pointer (some ⟨1,107,none⟩),.pointer (some p),.int .u64 409]) W:=by
 rw[rlm];simp only[Sem.run_bind,partsPF,Result.andThen];simp[ReflectliteValue.elem,loadVar,isAgg,underlying,Tryz.underlying182,ha,Result.andThen,elemOfPF,mkF]
theorem partsFa(a:Addr)(w:World):(ReflectliteValue.parts (.agg #[.pointer (some ⟨1,107,none⟩),.pointer (some a),.int .u64 409])).run Tryz.prog w=.ok (some (107,a,409)) w:=by kernel_rfl
theorem partsF(a:Addr)(w:World):(ReflectliteValue.parts (.agg #[.pointer (some ⟨1,107,none⟩),.pointer (some a),.int .u64 153])).run Tryz.prog w=.ok (some (107,a,153)) w:=by kernel_rfl
theorem directFF(w:World):(Rtype.directlyAssignable 107 107).run Tryz.prog w=.ok true w:=by kernel_rfl
theorem setF(ta b:Nat)(c n:Int)(o1 o2:Value)(W:World)(hb:W.heap[b]?=some (.cells #[.int .i64 c,.int .i64 n] 107 (0,0)))(ht:W.heap[ta]?=some (.cells #[o1,o2] 107 (0,0))) :
  (ReflectliteValue.set #[.agg #[.pointer (some ⟨1,107,none⟩),.pointer (some ⟨ta,0,none⟩),.int .u64 409],.agg #[.pointer (some ⟨1,107,none⟩),.pointer (some ⟨b,0,none⟩),.int .u64 153]]).run Tryz.prog W
    = .ok (.tuple #[]) ((W.setCell ⟨ta,0,none⟩ (.int .i64 c)).setCell ⟨ta,1,none⟩ (.int .i64 n)):=by
 rw[rls];simp only[Sem.run_bind,partsFa,partsF,Result.andThen];have b0:W.cell? ⟨b,0,none⟩=some (.int .i64 c):=by simp[World.cell?,hb]
 have b1:W.cell? ⟨b,1,none⟩=some (.int .i64 n):=by simp[World.cell?,hb]
 have t0:W.cell? ⟨ta,0,none⟩=some o1:=by simp[World.cell?,ht]
 have t1:W.cell? ⟨ta,1,none⟩=some o2:=by simp[World.cell?,ht]
 have f0:∀j,W.frozen? ⟨ta,j,none⟩=false:=by intro j;simp[World.frozen?,ht]
 have hl:=run_loadCells_list (P:=Tryz.prog) W ⟨b,0,none⟩ [.int .i64 c,.int .i64 n] (by
  intro j v hj;match j,hj with
  | 0,hj=>simp at hj;subst hj;simpa[Addr.add]using b0
  | 1,hj=>simp at hj;subst hj;simpa[Addr.add]using b1)
 have hs:=run_storeCells_cells (P:=Tryz.prog) ta 0 [.int .i64 c,.int .i64 n] 0 W (by
  intro j hj;have:j=0∨j=1:=by simp at hj;omega
  rcases this with rfl | rfl
  ·simp[t0]
  ·simp[t1]) (fun j _=>by simpa using f0 (0+0+j)) (by intro u hu;simp at hu;rcases hu with rfl | rfl<;>rfl)
 simp at hl hs
 simp[ReflectliteValue.flagAddr,loadVar,isAgg,underlying,Tryz.underlying107,Result.andThen,directFF,storeVar,Value.cells,hl,hs]
 rfl
theorem as_FE(c n:Int)(t:Addr)(old:Value)(w:World)(hg:Laid w)(ht0:w.cell? t=some old)(hf0:w.frozen? t=false) :
  Calls Tryz.prog 57 #[.iface 107 (.agg #[.int .i64 c,.int .i64 n]),.iface 106 (.pointer (some t))] w fun ev w'=>ev=.returned (.bool true)∧∃w1,Below w.heap.size w w1∧w'=w1.setCell t (.int .i64 c):=by
 have h6:=@run_callFunc_extern Tryz.prog 100 _ (fun args=>ReflectliteValue.unpack (args.getD 0 (.tuple #[]))) Tryz.func100 (by kernel_rfl) (by kernel_rfl) (by kernel_rfl) (by kernel_rfl)
 have h7 := @run_callFunc_extern Tryz.prog 101 _ (ReflectliteValue.methodAny (ReflectliteValue.valueError "reflectlite.Value.Type" 0) (fun t _ _ _ => ReflectliteType.toType t)) Tryz.func101 (by kernel_rfl) (by kernel_rfl) (by kernel_rfl) (by kernel_rfl)
 have h8 := @run_callFunc_extern Tryz.prog 102 _ (ReflectliteValue.method (ReflectliteValue.valueError "reflectlite.Value.IsNil" 0) ReflectliteValue.isNil) Tryz.func102 (by kernel_rfl) (by kernel_rfl) (by kernel_rfl) (by kernel_rfl)
 have h27:=@run_callFunc_extern Tryz.prog 289 _ (ReflectliteType.abiMethod fun t=>do pure (.int .u8 (← Rtype.kind t))) Tryz.func289 (by kernel_rfl) (by kernel_rfl) (by kernel_rfl) (by kernel_rfl);have h37:=@run_callFunc_extern Tryz.prog 309 _ (ReflectliteType.method ReflectliteType.elem) Tryz.func309 (by kernel_rfl) (by kernel_rfl) (by kernel_rfl) (by kernel_rfl)
 have h38 := @run_callFunc_extern Tryz.prog 310 _ (ReflectliteType.relation "Implements" ReflectliteType.implements_) Tryz.func310 (by kernel_rfl) (by kernel_rfl) (by kernel_rfl) (by kernel_rfl)
 have h10:=@run_callFunc_extern Tryz.prog 158 _ ReflectliteType.typeOf Tryz.func158 (by kernel_rfl) (by kernel_rfl) (by kernel_rfl) (by kernel_rfl)
 have h35 := @run_callFunc_extern Tryz.prog 307 _ (ReflectliteType.relation "AssignableTo" ReflectliteType.assignableTo) Tryz.func307 (by kernel_rfl) (by kernel_rfl) (by kernel_rfl) (by kernel_rfl)
 have h11 := @run_callFunc_extern Tryz.prog 159 _ (ReflectliteValue.method (ReflectliteValue.valueError "reflectlite.Value.Elem" 0) ReflectliteValue.elem) Tryz.func159 (by kernel_rfl) (by kernel_rfl) (by kernel_rfl) (by kernel_rfl)
 have h12:=@run_callFunc_extern Tryz.prog 160 _ ReflectliteValue.set Tryz.func160 (by kernel_rfl) (by kernel_rfl) (by kernel_rfl) (by kernel_rfl);have mA:=z2b;have mK:=methodKind;have mE:=methodElem;have mI:=z2m;have f6:=valueOfPE;have f7:=typePE;have kP:=kindPE;have kT:=kindE;have eP:=elemTPE;have iT:=implementsE;have n8:=isNilPE ⟨w.heap.size,0,none⟩ t ((w.alloc (.cells #[.pointer (some t)] 106)).alloc (.cells #[.pointer (some ⟨1,106,none⟩),.pointer (some ⟨w.heap.size,0,none⟩),.int .u64 150] 173)) (by simp);have hg2:((w.alloc (.cells #[.pointer (some t)] 106)).alloc (.cells #[.pointer (some ⟨1,106,none⟩),.pointer (some ⟨w.heap.size,0,none⟩),.int .u64 150] 173)).cell? ⟨0,0,none⟩=some (.iface 249 (.agg #[.pointer (some ⟨1,27,none⟩)])):=(hg.alloc _).alloc _;have tO:=typeOfE;have tF:=typeOfF;have aT:=assignableFE;have aE:=assignableEE;have vE:=valueOfE;have nA:=noAsF;have nU:=hasUnF;have mU:=z5d;have htl:t.block<w.heap.size:=by
  rcases Nat.lt_or_ge t.block w.heap.size with h | h
  ·exact h
  ·simp[World.cell?,Array.getElem?_eq_none h]at ht0
 have el:=elemVPE ⟨w.heap.size,0,none⟩ t ((((w.alloc (.cells #[.pointer (some t)] 106)).alloc (.cells #[.pointer (some ⟨1,106,none⟩),.pointer (some ⟨w.heap.size,0,none⟩),.int .u64 150] 173)).alloc (.cells #[.pointer (some ⟨1,106,none⟩),.pointer (some ⟨w.heap.size,0,none⟩),.int .u64 150] 173)).alloc (.cells #[.int .i64 c,.int .i64 n] 107)) (by rw[World.cell?_alloc_lt _ _ ⟨w.heap.size,0,none⟩ (by simp;omega),World.cell?_alloc_lt _ _ ⟨w.heap.size,0,none⟩ (by simp;omega)];simp);have st:=setE t ⟨w.heap.size+1+1+1+1,0,none⟩ c old (((((w.alloc (.cells #[.pointer (some t)] 106)).alloc (.cells #[.pointer (some ⟨1,106,none⟩),.pointer (some ⟨w.heap.size,0,none⟩),.int .u64 150] 173)).alloc (.cells #[.pointer (some ⟨1,106,none⟩),.pointer (some ⟨w.heap.size,0,none⟩),.int .u64 150] 173)).alloc (.cells #[.int .i64 c,.int .i64 n] 107)).alloc (.cells #[.int .i64 c] 42))
  (by rw[World.cell?_alloc_at _ _ _ _ (by simp)];rfl)
  (by rw[World.cell?_alloc_lt _ _ t (by simp;omega),World.cell?_alloc_lt _ _ t (by simp;omega),World.cell?_alloc_lt _ _ t (by simp;omega),World.cell?_alloc_lt _ _ t (by simp;omega),World.cell?_alloc_lt _ _ t htl];exact ht0)
  (by rw[World.frozen?_alloc_old _ _ t (by simp;omega),World.frozen?_alloc_old _ _ t (by simp;omega),World.frozen?_alloc_old _ _ t (by simp;omega),World.frozen?_alloc_old _ _ t (by simp;omega),World.frozen?_alloc_old _ _ t (Nat.ne_of_lt htl)];exact hf0)
 clear hg ht0 hf0;go_enter Tryz.func57,Tryz.ntmps57
 go_wp2
 refine wp_loop_rounds 2 ?_;rw[rounds_succ];go_wp2
 rw[rounds_succ];go_wp2
 go_ret
 exact⟨rfl,_,zc (zc (zc (zc (zc (Below.refl _ _) _) _) _) _) _,rfl⟩
theorem code_F(c n:Int)(w:World)(hg:Laid w) :
  Calls Tryz.prog 17 #[.iface 107 (.agg #[.int .i64 c,.int .i64 n])] w fun e w'=>e=.returned (.int .i64 c)∧Below w.heap.size w w':=by
 have HA:=z7 (as_FE c n ⟨w.heap.size,0,none⟩ (.int .i64 0) (w.alloc (.cells #[.int .i64 0] 42)) (hg.alloc _) (by simp) (by simp));clear hg;go_enter Tryz.func17,Tryz.ntmps17
 go_wp2_with fail
 refine HA.out.mono ?_;rintro e w' ⟨rfl,w1,b1,rfl⟩;have hr:w1.heap[w.heap.size]?=some (.cells #[.int .i64 0] 42 (0,0)):=(b1.block _ (by simp)).trans (ze _ _ rfl);have k0:(w1.setCell ⟨w.heap.size,0,none⟩ (.int .i64 c)).cell? ⟨w.heap.size,0,none⟩=some (.int .i64 c):=by
  have:=heap_setCell_same _ _ 0 _ _ (.int .i64 c) hr;simp[World.cell?,this]
 have B:=z7 (z1u (zf (zc (Below.refl w.heap.size w) (.cells #[.int .i64 0] 42)) b1) (p:=⟨w.heap.size,0,none⟩) (Nat.le_refl _) (.int .i64 c));clear b1 hr;obtain⟨w2,e2⟩:∃w2,w1.setCell ⟨w.heap.size,0,none⟩ (.int .i64 c)=w2:=⟨_,rfl⟩;rw[e2]at k0 B ⊢;clear e2;go_wp2
 go_ret
 exact⟨rfl,B.out⟩
theorem as_FF(c n:Int)(ta:Nat)(o1 o2:Value)(w:World)(hg:Laid w)(ht:w.heap[ta]?=some (.cells #[o1,o2] 107 (0,0))) :
  Calls Tryz.prog 57 #[.iface 107 (.agg #[.int .i64 c,.int .i64 n]),.iface 182 (.pointer (some ⟨ta,0,none⟩))] w fun ev w'=>ev=.returned (.bool true)∧∃w1,Below w.heap.size w w1∧w'=(w1.setCell ⟨ta,0,none⟩ (.int .i64 c)).setCell ⟨ta,1,none⟩ (.int .i64 n):=by
 have h6:=@run_callFunc_extern Tryz.prog 100 _ (fun args=>ReflectliteValue.unpack (args.getD 0 (.tuple #[]))) Tryz.func100 (by kernel_rfl) (by kernel_rfl) (by kernel_rfl) (by kernel_rfl)
 have h7 := @run_callFunc_extern Tryz.prog 101 _ (ReflectliteValue.methodAny (ReflectliteValue.valueError "reflectlite.Value.Type" 0) (fun t _ _ _ => ReflectliteType.toType t)) Tryz.func101 (by kernel_rfl) (by kernel_rfl) (by kernel_rfl) (by kernel_rfl)
 have h8 := @run_callFunc_extern Tryz.prog 102 _ (ReflectliteValue.method (ReflectliteValue.valueError "reflectlite.Value.IsNil" 0) ReflectliteValue.isNil) Tryz.func102 (by kernel_rfl) (by kernel_rfl) (by kernel_rfl) (by kernel_rfl)
 have h27:=@run_callFunc_extern Tryz.prog 289 _ (ReflectliteType.abiMethod fun t=>do pure (.int .u8 (← Rtype.kind t))) Tryz.func289 (by kernel_rfl) (by kernel_rfl) (by kernel_rfl) (by kernel_rfl);have h37:=@run_callFunc_extern Tryz.prog 309 _ (ReflectliteType.method ReflectliteType.elem) Tryz.func309 (by kernel_rfl) (by kernel_rfl) (by kernel_rfl) (by kernel_rfl)
 have h38 := @run_callFunc_extern Tryz.prog 310 _ (ReflectliteType.relation "Implements" ReflectliteType.implements_) Tryz.func310 (by kernel_rfl) (by kernel_rfl) (by kernel_rfl) (by kernel_rfl)
 have h10:=@run_callFunc_extern Tryz.prog 158 _ ReflectliteType.typeOf Tryz.func158 (by kernel_rfl) (by kernel_rfl) (by kernel_rfl) (by kernel_rfl)
 have h35 := @run_callFunc_extern Tryz.prog 307 _ (ReflectliteType.relation "AssignableTo" ReflectliteType.assignableTo) Tryz.func307 (by kernel_rfl) (by kernel_rfl) (by kernel_rfl) (by kernel_rfl)
 have h11 := @run_callFunc_extern Tryz.prog 159 _ (ReflectliteValue.method (ReflectliteValue.valueError "reflectlite.Value.Elem" 0) ReflectliteValue.elem) Tryz.func159 (by kernel_rfl) (by kernel_rfl) (by kernel_rfl) (by kernel_rfl)
 have h12:=@run_callFunc_extern Tryz.prog 160 _ ReflectliteValue.set Tryz.func160 (by kernel_rfl) (by kernel_rfl) (by kernel_rfl) (by kernel_rfl);have mA:=z2b;have mK:=methodKind;have mE:=methodElem;have mI:=z2m;have f6:=valueOfPF;have f7:=typePF;have kP:=kindPF;have kT:=kindF;have eP:=elemTPF;have iT:=implementsF;have n8:=isNilPF ⟨w.heap.size,0,none⟩ ⟨ta,0,none⟩ ((w.alloc (.cells #[.pointer (some ⟨ta,0,none⟩)] 182)).alloc (.cells #[.pointer (some ⟨1,182,none⟩),.pointer (some ⟨w.heap.size,0,none⟩),.int .u64 150] 173)) (by simp);have hg2:((w.alloc (.cells #[.pointer (some ⟨ta,0,none⟩)] 182)).alloc (.cells #[.pointer (some ⟨1,182,none⟩),.pointer (some ⟨w.heap.size,0,none⟩),.int .u64 150] 173)).cell? ⟨0,0,none⟩=some (.iface 249 (.agg #[.pointer (some ⟨1,27,none⟩)])):=(hg.alloc _).alloc _;have tO:=typeOfF;have aT:=assignableFF;have vF:=valueOfF;have htl:=zh ht;have el:=elemVPF ⟨w.heap.size,0,none⟩ ⟨ta,0,none⟩ (((w.alloc (.cells #[.pointer (some ⟨ta,0,none⟩)] 182)).alloc (.cells #[.pointer (some ⟨1,182,none⟩),.pointer (some ⟨w.heap.size,0,none⟩),.int .u64 150] 173)).alloc (.cells #[.pointer (some ⟨1,182,none⟩),.pointer (some ⟨w.heap.size,0,none⟩),.int .u64 150] 173)) (by rw[World.cell?_alloc_lt _ _ ⟨w.heap.size,0,none⟩ (by simp;omega)];simp);have st:=setF ta (w.heap.size+1+1+1) c n o1 o2 ((((w.alloc (.cells #[.pointer (some ⟨ta,0,none⟩)] 182)).alloc (.cells #[.pointer (some ⟨1,182,none⟩),.pointer (some ⟨w.heap.size,0,none⟩),.int .u64 150] 173)).alloc (.cells #[.pointer (some ⟨1,182,none⟩),.pointer (some ⟨w.heap.size,0,none⟩),.int .u64 150] 173)).alloc (.cells #[.int .i64 c,.int .i64 n] 107)) (ze _ _ (by simp)) (zk _ _ (by simp;omega) (zk _ _ (by simp;omega) (zk _ _ (by simp;omega) (zk _ _ htl ht))));clear hg ht;go_enter Tryz.func57,Tryz.ntmps57
 go_wp2
 refine wp_loop_rounds 1 ?_;rw[rounds_succ];go_wp2
 go_ret
 exact⟨rfl,_,zc (zc (zc (zc (Below.refl _ _) _) _) _) _,rfl⟩
theorem find_F(c n:Int)(w:World)(hg:Laid w) :
  Calls Tryz.prog 58 #[.iface 107 (.agg #[.int .i64 c,.int .i64 n])] w fun e w'=>e=.returned (.tuple #[.agg #[.int .i64 c,.int .i64 n],.bool true])∧Below w.heap.size w w':=by
 have HA:=z7 (as_FF c n (w.heap.size+1) (.int .i64 0) (.int .i64 0) ((w.alloc (.cells #[.int .i64 0,.int .i64 0] 107)).alloc (.cells #[.int .i64 0,.int .i64 0] 107)) ((hg.alloc _).alloc _) (ze _ _ (by simp)));clear hg;go_enter Tryz.func58,Tryz.ntmps58
 go_wp2_with fail
 refine HA.out.mono ?_;rintro e w' ⟨rfl,w1,b1,rfl⟩;have r0:w1.heap[w.heap.size]?=some (.cells #[.int .i64 0,.int .i64 0] 107 (0,0)):=(b1.block _ (by simp;omega)).trans (zk _ _ (by simp) (ze _ _ rfl));have r1:w1.heap[w.heap.size+1]?=some (.cells #[.int .i64 0,.int .i64 0] 107 (0,0)):=(b1.block _ (by simp)).trans (ze _ _ (by simp));have r1':=heap_setCell_same _ _ 1 _ _ (.int .i64 n) (heap_setCell_same _ _ 0 _ _ (.int .i64 c) r1);have r0':=(Below.heap_setCell (w1.setCell ⟨w.heap.size+1,0,none⟩ (.int .i64 c)) ⟨w.heap.size+1,1,none⟩ (.int .i64 n) w.heap.size (by show w.heap.size≠w.heap.size+1;omega)).trans ((Below.heap_setCell w1 ⟨w.heap.size+1,0,none⟩ (.int .i64 c) w.heap.size (by show w.heap.size≠w.heap.size+1;omega)).trans r0);have hb:=z7 (z1u (z1u (zf (zc (zc (Below.refl w.heap.size w) _) _) b1) (p:=⟨w.heap.size+1,0,none⟩) (by show _≤w.heap.size+1;omega) (.int .i64 c)) (p:=⟨w.heap.size+1,1,none⟩) (by show _≤w.heap.size+1;omega) (.int .i64 n));obtain⟨w2,e2⟩:∃w2,(w1.setCell ⟨w.heap.size+1,0,none⟩ (.int .i64 c)).setCell ⟨w.heap.size+1,1,none⟩ (.int .i64 n)=w2:=⟨_,rfl⟩;rw[e2]at r0' r1' hb ⊢;clear e2 r0 r1 b1;have k0:w2.cell? ⟨w.heap.size+1,0,none⟩=some (.int .i64 c):=by simp[World.cell?,r1']
 have k1:w2.cell? ⟨w.heap.size+1,1,none⟩=some (.int .i64 n):=by simp[World.cell?,r1']
 have m0:w2.cell? ⟨w.heap.size,0,none⟩=some (.int .i64 0):=by simp[World.cell?,r0']
 have m1:w2.cell? ⟨w.heap.size,1,none⟩=some (.int .i64 0):=by simp[World.cell?,r0']
 have f0:∀j,w2.frozen? ⟨w.heap.size,j,none⟩=false:=by intro j;simp[World.frozen?,r0']
 have e0:=heap_setCell_same _ _ 1 _ _ (.int .i64 n) (heap_setCell_same _ _ 0 _ _ (.int .i64 c) r0');clear r0' r1';go_wp2
 exact bodyPost_ret (v:=.tuple #[.agg #[.int .i64 c,.int .i64 n],.bool true]) (by simp[results,Tryz.results58,go_sem,World.cell?,e0]) rfl ⟨rfl,z1u (z1u hb.out (p:=⟨w.heap.size,0,none⟩) (Nat.le_refl _) _) (p:=⟨w.heap.size,1,none⟩) (Nat.le_refl _) _⟩
theorem at_F(c n:Int)(w:World)(hg:Laid w) :
  Calls Tryz.prog 18 #[.iface 107 (.agg #[.int .i64 c,.int .i64 n])] w fun e w'=>e=.returned (.int .i64 n)∧Below w.heap.size w w':=by
 have H:=z7 hg;clear hg;go_enter Tryz.func18,Tryz.ntmps18
 go_wp2_with fail
 refine(find_F c n _ H.out).mono ?_;rintro e w1 ⟨rfl,b1⟩;go_wp2
 go_ret
 exact⟨rfl,zc b1 _⟩
end Go.Proofs.YtbkkolfpegplgaaGreatDoor
