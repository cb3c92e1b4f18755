/- errors.As at the target '*Errno': its contracts; fault.Code. errors.As at the target '*Errno' over an Errno; fault.Code over nil and over an Errno. errors.As at the target '*Fault' and over faults: closed facts. errors.As at the target '*Errno' over a Fault; fault.Code over a Fault. -/
import Derived.Test.YtbkkolfpegplgaaGreatDoorSG1
import Derived.LaidEql
import Derived.Stop.Asserts
import Derived.RowKitTokens
import Derived.Laws.Cells
import Derived.Laws.IdiomCopy
set_option maxHeartbeats 4000000
namespace Go.Proofs.YtbkkolfpegplgaaGreatDoor
open Go.RowKit Go.Extern.Stop Go.Stop Go.Extern
/-- The variable errors.errorType holds the type error. -/
def Laid (w:World):Prop:=w.cell? ⟨0,0,none⟩=some (.iface 249 (.agg #[.pointer (some ⟨1,27,none⟩)]))
theorem Laid.pos {w:World} (h:Laid w):0<w.heap.size:=by
 rcases Nat.eq_zero_or_pos w.heap.size with h0 | h1
 ·unfold Laid at h;simp [World.cell?,h0] at h
 ·exact h1
theorem Laid.below {w w':World} (h:Laid w) (hb:Below w.heap.size w w'):Laid w':=(hb.cell (p:=⟨0,0,none⟩) h.pos).trans h
theorem Laid.alloc {w:World} (h:Laid w) (o:Obj):Laid (w.alloc o):=h.below ((Below.refl _ _).alloc (Nat.le_refl _) _)
/-! ### Closed facts on the model's entries for internal/reflectlite -/
theorem methodKind (h : Value) (w : World) : (Go.method 495 249 (.agg #[h]) "Kind").run Tryz.prog w = .ok (289, h) w := by kernel_rfl
theorem methodElem (h : Value) (w : World) : (Go.method 495 249 (.agg #[h]) "Elem").run Tryz.prog w = .ok (309, .agg #[h]) w := by kernel_rfl
theorem methodImplements (h : Value) (w : World) : (Go.method 495 249 (.agg #[h]) "Implements").run Tryz.prog w = .ok (310, .agg #[h]) w := by kernel_rfl
theorem methodAssignableTo (h : Value) (w : World) : (Go.method 495 249 (.agg #[h]) "AssignableTo").run Tryz.prog w = .ok (307, .agg #[h]) w := by kernel_rfl
theorem rlm (z:Sem Value) (f:TypeId→Addr→Nat→Nat→Sem Value) (v:Value) :
  ReflectliteValue.method z f #[v]=(do match ← ReflectliteValue.parts v with | none=>z | some (t,a,fl)=>f t a fl (fl % 32)):=rfl
theorem rls (v x:Value):ReflectliteValue.set #[v,x]=(do
  let (some (dst,a,fl),some (src,b,_)):=(← ReflectliteValue.parts v,← ReflectliteValue.parts x)
   | unsupported (.noEntry "extern/(internal/reflectlite.Value).Set.zeroValue")
  if fl / ReflectliteValue.flagAddr % 2 == 0 then unsupported (.noEntry "extern/(internal/reflectlite.Value).Set.unaddressable")
  let val ← loadVar src b
  if ← Rtype.directlyAssignable dst src then storeVar dst a val
  else if ← Rtype.implements dst src then
   if (← Rtype.kind src) == 20 then
    match val with
    | .nilIface => unsupported (.noEntry "extern/reflectlite: a nil value of one interface type handed on as a value of another")
    | _=>storeVar dst a val
   else storeVar dst a (.iface src val)
  else panicString ("reflectlite.Set: value of type " ++ (← Rtype.spelt src) ++ " is not assignable to type " ++ (← Rtype.spelt dst))
  pure (.tuple #[])):=rfl
theorem typeOfE (v:Value) (w:World):(ReflectliteType.typeOf #[.iface 42 v]).run Tryz.prog w=.ok (.iface 249 (.agg #[.pointer (some ⟨1,42,none⟩)])) w:=by kernel_rfl
theorem valueOfE (n:Int) (w:World):(ReflectliteValue.unpack (.iface 42 (.int .i64 n))).run Tryz.prog w
  = .ok (.agg #[.pointer (some ⟨1,42,none⟩),.pointer (some ⟨w.heap.size,0,none⟩),.int .u64 130]) (w.alloc (.cells #[.int .i64 n] 42)):=by kernel_rfl
/-! ### The target *Errno -/
theorem valueOfPE (t:Addr) (w:World):(ReflectliteValue.unpack (.iface 106 (.pointer (some t)))).run Tryz.prog w
  = .ok (.agg #[.pointer (some ⟨1,106,none⟩),.pointer (some ⟨w.heap.size,0,none⟩),.int .u64 150]) (w.alloc (.cells #[.pointer (some t)] 106)):=by kernel_rfl
theorem typePE (a : Addr) (w : World) : (ReflectliteValue.methodAny (ReflectliteValue.valueError "reflectlite.Value.Type" 0) (fun t _ _ _ => ReflectliteType.toType t) #[.agg #[.pointer (some ⟨1, 106, none⟩), .pointer (some a), .int .u64 150]]).run Tryz.prog w
  = .ok (.iface 249 (.agg #[.pointer (some ⟨1,106,none⟩)])) w:=by kernel_rfl
theorem kindPE (w:World):((ReflectliteType.abiMethod fun t=>Functor.map   (fun a:Nat=>Value.int .u8 a) <| Rtype.kind t) #[.pointer (some ⟨1,106,none⟩)]).run Tryz.prog w=.ok (.int .u8 22) w:=by kernel_rfl
theorem kindE (w:World):((ReflectliteType.abiMethod fun t=>Functor.map   (fun a:Nat=>Value.int .u8 a) <| Rtype.kind t) #[.pointer (some ⟨1,42,none⟩)]).run Tryz.prog w=.ok (.int .u8 2) w:=by kernel_rfl
theorem partsPE (a:Addr) (w:World):(ReflectliteValue.parts (.agg #[.pointer (some ⟨1,106,none⟩),.pointer (some a),.int .u64 150])).run Tryz.prog w=.ok (some (106,a,150)) w:=by kernel_rfl
theorem isNilPE (a p:Addr) (W:World) (ha:W.cell? a=some (.pointer (some p))) :
  (ReflectliteValue.method (ReflectliteValue.valueError "reflectlite.Value.IsNil" 0) ReflectliteValue.isNil #[.agg #[.pointer (some ⟨1, 106, none⟩), .pointer (some a), .int .u64 150]]).run Tryz.prog W = .ok (.bool false) W := by
 rw [rlm]
 simp only [Sem.run_bind,partsPE,Result.andThen]
 simp [ReflectliteValue.isNil,loadVar,isAgg,underlying,Tryz.underlying106,ha,Result.andThen]
theorem elemTPE (w:World):(ReflectliteType.method ReflectliteType.elem #[.agg #[.pointer (some ⟨1,106,none⟩)]]).run Tryz.prog w=.ok (.iface 249 (.agg #[.pointer (some ⟨1,42,none⟩)])) w:=by kernel_rfl
theorem implementsE (w : World) : (ReflectliteType.relation "Implements" ReflectliteType.implements_ #[.agg #[.pointer (some ⟨1, 42, none⟩)], .iface 249 (.agg #[.pointer (some ⟨1, 27, none⟩)])]).run Tryz.prog w = .ok (.bool true) w := by kernel_rfl
theorem assignableEE (w : World) : (ReflectliteType.relation "AssignableTo" ReflectliteType.assignableTo #[.agg #[.pointer (some ⟨1, 42, none⟩)], .iface 249 (.agg #[.pointer (some ⟨1, 42, none⟩)])]).run Tryz.prog w = .ok (.bool true) w := by kernel_rfl
theorem elemOfPE (w:World):(Rtype.elem? 106).run Tryz.prog w=.ok (some 42) w:=by kernel_rfl
theorem mkE (p:Addr) (w:World):(ReflectliteValue.mk 42 p ReflectliteValue.flagAddr).run Tryz.prog w=.ok (.agg #[.pointer (some ⟨1,42,none⟩),.pointer (some p),.int .u64 386]) w:=by kernel_rfl
theorem elemVPE (a p:Addr) (W:World) (ha:W.cell? a=some (.pointer (some p))) :
  (ReflectliteValue.method (ReflectliteValue.valueError "reflectlite.Value.Elem" 0) ReflectliteValue.elem #[.agg #[.pointer (some ⟨1, 106, none⟩), .pointer (some a), .int .u64 150]]).run Tryz.prog W
    = .ok (.agg #[.pointer (some ⟨1,42,none⟩),.pointer (some p),.int .u64 386]) W:=by
 rw [rlm]
 simp only [Sem.run_bind,partsPE,Result.andThen]
 simp [ReflectliteValue.elem,loadVar,isAgg,underlying,Tryz.underlying106,ha,Result.andThen,elemOfPE,mkE]
theorem partsEa (a:Addr) (w:World):(ReflectliteValue.parts (.agg #[.pointer (some ⟨1,42,none⟩),.pointer (some a),.int .u64 386])).run Tryz.prog w=.ok (some (42,a,386)) w:=by kernel_rfl
theorem partsE (a:Addr) (w:World):(ReflectliteValue.parts (.agg #[.pointer (some ⟨1,42,none⟩),.pointer (some a),.int .u64 130])).run Tryz.prog w=.ok (some (42,a,130)) w:=by kernel_rfl
theorem directEE (w:World):(Rtype.directlyAssignable 42 42).run Tryz.prog w=.ok true w:=by kernel_rfl
theorem setE (ta b:Addr) (n:Int) (old:Value) (W:World) (hb:W.cell? b=some (.int .i64 n)) (ht:W.cell? ta=some old) (hf:W.frozen? ta=false) :
  (ReflectliteValue.set #[.agg #[.pointer (some ⟨1,42,none⟩),.pointer (some ta),.int .u64 386],.agg #[.pointer (some ⟨1,42,none⟩),.pointer (some b),.int .u64 130]]).run Tryz.prog W
    = .ok (.tuple #[]) (W.setCell ta (.int .i64 n)):=by
 rw [rls]
 simp only [Sem.run_bind,partsEa,partsE,Result.andThen]
 simp [ReflectliteValue.flagAddr,loadVar,isAgg,underlying,Tryz.underlying42,hb,Result.andThen,directEE,storeVar,Value.cells,storeCells,Addr.add]
 rw [run_store Tryz.prog W ta _ _ (by rfl)]
 simp [ht,hf]
theorem as_EE (n:Int) (t:Addr) (old:Value) (w:World) (hg:Laid w) (ht0:w.cell? t=some old) (hf0:w.frozen? t=false) :
  Calls Tryz.prog 57 #[.iface 42 (.int .i64 n),.iface 106 (.pointer (some t))] w fun ev w'=>ev=.returned (.bool true)∧∃w1,Below w.heap.size w w1∧w'=w1.setCell t (.int .i64 n):=by
 have h6:=@run_callFunc_extern Tryz.prog 100 _ (fun args=>ReflectliteValue.unpack (args.getD 0 (.tuple #[]))) Tryz.func100 (by kernel_rfl) (by kernel_rfl) (by kernel_rfl) (by kernel_rfl)
 have h7 := @run_callFunc_extern Tryz.prog 101 _ (ReflectliteValue.methodAny (ReflectliteValue.valueError "reflectlite.Value.Type" 0) (fun t _ _ _ => ReflectliteType.toType t)) Tryz.func101 (by kernel_rfl) (by kernel_rfl) (by kernel_rfl) (by kernel_rfl)
 have h8 := @run_callFunc_extern Tryz.prog 102 _ (ReflectliteValue.method (ReflectliteValue.valueError "reflectlite.Value.IsNil" 0) ReflectliteValue.isNil) Tryz.func102 (by kernel_rfl) (by kernel_rfl) (by kernel_rfl) (by kernel_rfl)
 have h27:=@run_callFunc_extern Tryz.prog 289 _ (ReflectliteType.abiMethod fun t=>do pure (.int .u8 (← Rtype.kind t))) Tryz.func289 (by kernel_rfl) (by kernel_rfl) (by kernel_rfl) (by kernel_rfl)
 have h37:=@run_callFunc_extern Tryz.prog 309 _ (ReflectliteType.method ReflectliteType.elem) Tryz.func309 (by kernel_rfl) (by kernel_rfl) (by kernel_rfl) (by kernel_rfl)
 have h38 := @run_callFunc_extern Tryz.prog 310 _ (ReflectliteType.relation "Implements" ReflectliteType.implements_) Tryz.func310 (by kernel_rfl) (by kernel_rfl) (by kernel_rfl) (by kernel_rfl)
 have h10:=@run_callFunc_extern Tryz.prog 158 _ ReflectliteType.typeOf Tryz.func158 (by kernel_rfl) (by kernel_rfl) (by kernel_rfl) (by kernel_rfl)
 have h35 := @run_callFunc_extern Tryz.prog 307 _ (ReflectliteType.relation "AssignableTo" ReflectliteType.assignableTo) Tryz.func307 (by kernel_rfl) (by kernel_rfl) (by kernel_rfl) (by kernel_rfl)
 have h11 := @run_callFunc_extern Tryz.prog 159 _ (ReflectliteValue.method (ReflectliteValue.valueError "reflectlite.Value.Elem" 0) ReflectliteValue.elem) Tryz.func159 (by kernel_rfl) (by kernel_rfl) (by kernel_rfl) (by kernel_rfl)
 have h12:=@run_callFunc_extern Tryz.prog 160 _ ReflectliteValue.set Tryz.func160 (by kernel_rfl) (by kernel_rfl) (by kernel_rfl) (by kernel_rfl)
 have tO:=typeOfE
 have mA:=methodAssignableTo
 have aE:=assignableEE
 have vE:=valueOfE
 have f6:=valueOfPE
 have f7:=typePE
 have mK:=methodKind
 have mE:=methodElem
 have mI:=methodImplements
 have kP:=kindPE
 have kE:=kindE
 have eP:=elemTPE
 have iE:=implementsE
 have n8:=isNilPE ⟨w.heap.size,0,none⟩ t ((w.alloc (.cells #[.pointer (some t)] 106)).alloc (.cells #[.pointer (some ⟨1,106,none⟩),.pointer (some ⟨w.heap.size,0,none⟩),.int .u64 150] 173)) (by simp)
 have hg2:((w.alloc (.cells #[.pointer (some t)] 106)).alloc (.cells #[.pointer (some ⟨1,106,none⟩),.pointer (some ⟨w.heap.size,0,none⟩),.int .u64 150] 173)).cell? ⟨0,0,none⟩=some (.iface 249 (.agg #[.pointer (some ⟨1,27,none⟩)])):=(hg.alloc _).alloc _
 have htl:t.block<w.heap.size:=by
  rcases Nat.lt_or_ge t.block w.heap.size with h | h
  ·exact h
  ·simp [World.cell?,Array.getElem?_eq_none h] at ht0
 have el:=elemVPE ⟨w.heap.size,0,none⟩ t (((w.alloc (.cells #[.pointer (some t)] 106)).alloc (.cells #[.pointer (some ⟨1,106,none⟩),.pointer (some ⟨w.heap.size,0,none⟩),.int .u64 150] 173)).alloc (.cells #[.pointer (some ⟨1,106,none⟩),.pointer (some ⟨w.heap.size,0,none⟩),.int .u64 150] 173)) (by rw [World.cell?_alloc_lt _ _ ⟨w.heap.size,0,none⟩ (by simp;omega)];simp)
 have st:=setE t ⟨w.heap.size+1+1+1,0,none⟩ n old ((((w.alloc (.cells #[.pointer (some t)] 106)).alloc (.cells #[.pointer (some ⟨1,106,none⟩),.pointer (some ⟨w.heap.size,0,none⟩),.int .u64 150] 173)).alloc (.cells #[.pointer (some ⟨1,106,none⟩),.pointer (some ⟨w.heap.size,0,none⟩),.int .u64 150] 173)).alloc (.cells #[.int .i64 n] 42))
  (by rw [World.cell?_alloc_at _ _ _ _ (by simp)];rfl)
  (by rw [World.cell?_alloc_lt _ _ t (by simp;omega),World.cell?_alloc_lt _ _ t (by simp;omega),World.cell?_alloc_lt _ _ t (by simp;omega),World.cell?_alloc_lt _ _ t htl];exact ht0)
  (by rw [World.frozen?_alloc_old _ _ t (by simp;omega),World.frozen?_alloc_old _ _ t (by simp;omega),World.frozen?_alloc_old _ _ t (by simp;omega),World.frozen?_alloc_old _ _ t (Nat.ne_of_lt htl)];exact hf0)
 clear hg ht0 hf0
 go_enter Tryz.func57,Tryz.ntmps57
 go_wp2
 refine wp_loop_rounds 1 ?_
 rw [rounds_succ]
 go_wp2
 go_ret
 exact ⟨rfl,_,bl_alloc (bl_alloc (bl_alloc (bl_alloc (Below.refl _ _) _) _) _) _,rfl⟩
theorem code_E (n:Int) (w:World) (hg:Laid w) :
  Calls Tryz.prog 17 #[.iface 42 (.int .i64 n)] w fun e w'=>e=.returned (.int .i64 n)∧Below w.heap.size w w':=by
 have HA:=hide (as_EE n ⟨w.heap.size,0,none⟩ (.int .i64 0) (w.alloc (.cells #[.int .i64 0] 42)) (hg.alloc _) (by simp) (by simp))
 clear hg
 go_enter Tryz.func17,Tryz.ntmps17
 go_wp2_with fail
 refine HA.out.mono ?_
 rintro e w' ⟨rfl,w1,b1,rfl⟩
 have hr:w1.heap[w.heap.size]?=some (.cells #[.int .i64 0] 42 (0,0)):=(b1.block _ (by simp)).trans (heap_new_at _ _ rfl)
 have k0:(w1.setCell ⟨w.heap.size,0,none⟩ (.int .i64 n)).cell? ⟨w.heap.size,0,none⟩=some (.int .i64 n):=by
  have:=heap_setCell_same _ _ 0 _ _ (.int .i64 n) hr
  simp [World.cell?,this]
 have B:=hide (bl_set (bl_trans (bl_alloc (Below.refl w.heap.size w) (.cells #[.int .i64 0] 42)) b1) (p:=⟨w.heap.size,0,none⟩) (Nat.le_refl _) (.int .i64 n))
 clear b1 hr
 obtain ⟨w2,e2⟩:∃w2,w1.setCell ⟨w.heap.size,0,none⟩ (.int .i64 n)=w2:=⟨_,rfl⟩
 rw [e2] at k0 B ⊢
 clear e2
 go_wp2
 go_ret
 exact ⟨rfl,B.out⟩
theorem noUnE (v:Value) (xT:TypeId) (w:World):(Instr.typeAssert (.iface 42 v) xT 257 true).run Tryz.prog w=.ok (.tuple #[.nilIface,.bool false]) w:=run_typeAssert_lacksB Tryz.underlying257 (by kernel_rfl) (by kernel_rfl) v xT w
theorem noUnsE (v:Value) (xT:TypeId) (w:World):(Instr.typeAssert (.iface 42 v) xT 259 true).run Tryz.prog w=.ok (.tuple #[.nilIface,.bool false]) w:=run_typeAssert_lacksB Tryz.underlying259 (by kernel_rfl) (by kernel_rfl) v xT w
theorem hasUnF (v:Value) (xT:TypeId) (w:World):(Instr.typeAssert (.iface 107 v) xT 257 true).run Tryz.prog w=.ok (.tuple #[.iface 107 v,.bool true]) w:=run_typeAssert_hasB Tryz.underlying257 (by kernel_rfl) v xT w
theorem methodUnwrapF (c n : Value) (w : World) : (Go.method 495 107 (.agg #[c, n]) "Unwrap").run Tryz.prog w = .ok (294, .agg #[c, n]) w := by kernel_rfl
/-! ### The target *Fault -/
end Go.Proofs.YtbkkolfpegplgaaGreatDoor
