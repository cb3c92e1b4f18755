/- errors.As at the target '*Errno': its contracts; fault.Code. errors.As at the target '*Errno' over an Errno; fault.Code over nil and over an Errno. errors.As at the target '*Fault' and over faults: closed facts. errors.As at the target '*Errno' over a Fault; fault.Code over a Fault. errors.As at the targets '*Fault' and '*Errno' over an Errno and over a Fault; fault.find, fault.At, fault.Code. -/
import Derived.Test.YtppeogalaikopaaDoorMG1
import Derived.LaidEql
import Derived.Stop.Asserts
import Derived.RowKitTokens
import Derived.Laws.Cells
import Derived.Laws.IdiomCopy
namespace Go.Proofs.YtppeogalaikopaaDoor
open Go.RowKit Go.Extern.Stop Go.Stop Go.Extern

/-- The variable errors.errorType holds the type error. -/
def Laid (w : World) : Prop := w.cell? ⟨0, 0, none⟩ = some (.iface 137 (.agg #[.pointer (some ⟨1, 32, none⟩)]))
theorem Laid.pos {w : World} (h : Laid w) : 0 < w.heap.size := by
  rcases Nat.eq_zero_or_pos w.heap.size with h0 | h1
  · unfold Laid at h; simp [World.cell?, h0] at h
  · exact h1
theorem Laid.below {w w' : World} (h : Laid w) (hb : Below w.heap.size w w') : Laid w' := (hb.cell (p := ⟨0, 0, none⟩) h.pos).trans h
theorem Laid.alloc {w : World} (h : Laid w) (o : Obj) : Laid (w.alloc o) := h.below ((Below.refl _ _).alloc (Nat.le_refl _) _)

theorem as_nil (t : Value) (w : World) :
    Calls Tryd.prog 34 #[.nilIface, t] w fun e w' => e = .returned (.bool false) ∧ w = w' := by
  go_enter Tryd.func34, Tryd.ntmps34
  go_wp2
  go_ret
  exact ⟨rfl, rfl⟩

/-! ### Closed facts on the model's entries for internal/reflectlite -/
theorem methodKind (h : Value) (w : World) : (Go.method 307 137 (.agg #[h]) "Kind").run Tryd.prog w = .ok (121, h) w := by kernel_rfl
theorem methodElem (h : Value) (w : World) : (Go.method 307 137 (.agg #[h]) "Elem").run Tryd.prog w = .ok (134, .agg #[h]) w := by kernel_rfl
theorem methodImplements (h : Value) (w : World) : (Go.method 307 137 (.agg #[h]) "Implements").run Tryd.prog w = .ok (135, .agg #[h]) w := by kernel_rfl
theorem methodAssignableTo (h : Value) (w : World) : (Go.method 307 137 (.agg #[h]) "AssignableTo").run Tryd.prog w = .ok (132, .agg #[h]) w := by kernel_rfl
theorem rlm (z : Sem Value) (f : TypeId → Addr → Nat → Nat → Sem Value) (v : Value) :
    ReflectliteValue.method z f #[v] = (do match ← ReflectliteValue.parts v with | none => z | some (t, a, fl) => f t a fl (fl % 32)) := rfl
theorem rls (v x : Value) : ReflectliteValue.set #[v, x] = (do
    let (some (dst, a, fl), some (src, b, _)) := (← ReflectliteValue.parts v, ← ReflectliteValue.parts x)
      | unsupported (.noEntry "extern/(internal/reflectlite.Value).Set.zeroValue")
    if fl / ReflectliteValue.flagAddr % 2 == 0 then unsupported (.noEntry "extern/(internal/reflectlite.Value).Set.unaddressable")
    let val ← loadVar src b
    if ← Rtype.directlyAssignable dst src then storeVar dst a val
    else if ← Rtype.implements dst src then
      if (← Rtype.kind src) == 20 then
        match val with
        | .nilIface => unsupported (.noEntry "extern/reflectlite: a nil value of one interface type handed on as a value of another")
        | _ => storeVar dst a val
      else storeVar dst a (.iface src val)
    else panicString ("reflectlite.Set: value of type " ++ (← Rtype.spelt src) ++ " is not assignable to type " ++ (← Rtype.spelt dst))
    pure (.tuple #[])) := rfl
theorem typeOfE (v : Value) (w : World) : (ReflectliteType.typeOf #[.iface 44 v]).run Tryd.prog w = .ok (.iface 137 (.agg #[.pointer (some ⟨1, 44, none⟩)])) w := by kernel_rfl
theorem valueOfE (n : Int) (w : World) : (ReflectliteValue.unpack (.iface 44 (.int .i64 n))).run Tryd.prog w
    = .ok (.agg #[.pointer (some ⟨1, 44, none⟩), .pointer (some ⟨w.heap.size, 0, none⟩), .int .u64 130]) (w.alloc (.cells #[.int .i64 n] 44)) := by kernel_rfl

/-! ### The target *Errno -/
theorem valueOfPE (t : Addr) (w : World) : (ReflectliteValue.unpack (.iface 77 (.pointer (some t)))).run Tryd.prog w
    = .ok (.agg #[.pointer (some ⟨1, 77, none⟩), .pointer (some ⟨w.heap.size, 0, none⟩), .int .u64 150]) (w.alloc (.cells #[.pointer (some t)] 77)) := by kernel_rfl
theorem typePE (a : Addr) (w : World) : (ReflectliteValue.methodAny (ReflectliteValue.valueError "reflectlite.Value.Type" 0) (fun t _ _ _ => ReflectliteType.toType t) #[.agg #[.pointer (some ⟨1, 77, none⟩), .pointer (some a), .int .u64 150]]).run Tryd.prog w
    = .ok (.iface 137 (.agg #[.pointer (some ⟨1, 77, none⟩)])) w := by kernel_rfl
theorem kindPE (w : World) : ((ReflectliteType.abiMethod fun t => Functor.map         (fun a:Nat=>Value.int .u8 a) <| Rtype.kind t) #[.pointer (some ⟨1, 77, none⟩)]).run Tryd.prog w = .ok (.int .u8 22) w := by kernel_rfl
theorem kindE (w : World) : ((ReflectliteType.abiMethod fun t => Functor.map         (fun a:Nat=>Value.int .u8 a) <| Rtype.kind t) #[.pointer (some ⟨1, 44, none⟩)]).run Tryd.prog w = .ok (.int .u8 2) w := by kernel_rfl
theorem partsPE (a : Addr) (w : World) : (ReflectliteValue.parts (.agg #[.pointer (some ⟨1, 77, none⟩), .pointer (some a), .int .u64 150])).run Tryd.prog w = .ok (some (77, a, 150)) w := by kernel_rfl
theorem isNilPE (a p : Addr) (W : World) (ha : W.cell? a = some (.pointer (some p))) :
    (ReflectliteValue.method (ReflectliteValue.valueError "reflectlite.Value.IsNil" 0) ReflectliteValue.isNil #[.agg #[.pointer (some ⟨1, 77, none⟩), .pointer (some a), .int .u64 150]]).run Tryd.prog W = .ok (.bool false) W := by
  rw [rlm]
  simp only [Sem.run_bind, partsPE, Result.andThen]
  simp [ReflectliteValue.isNil, loadVar, isAgg, underlying, Tryd.underlying77, ha, Result.andThen]
theorem elemTPE (w : World) : (ReflectliteType.method ReflectliteType.elem #[.agg #[.pointer (some ⟨1, 77, none⟩)]]).run Tryd.prog w = .ok (.iface 137 (.agg #[.pointer (some ⟨1, 44, none⟩)])) w := by kernel_rfl
theorem implementsE (w : World) : (ReflectliteType.relation "Implements" ReflectliteType.implements_ #[.agg #[.pointer (some ⟨1, 44, none⟩)], .iface 137 (.agg #[.pointer (some ⟨1, 32, none⟩)])]).run Tryd.prog w = .ok (.bool true) w := by kernel_rfl
theorem assignableEE (w : World) : (ReflectliteType.relation "AssignableTo" ReflectliteType.assignableTo #[.agg #[.pointer (some ⟨1, 44, none⟩)], .iface 137 (.agg #[.pointer (some ⟨1, 44, none⟩)])]).run Tryd.prog w = .ok (.bool true) w := by kernel_rfl
theorem elemOfPE (w : World) : (Rtype.elem? 77).run Tryd.prog w = .ok (some 44) w := by kernel_rfl
theorem mkE (p : Addr) (w : World) : (ReflectliteValue.mk 44 p ReflectliteValue.flagAddr).run Tryd.prog w = .ok (.agg #[.pointer (some ⟨1, 44, none⟩), .pointer (some p), .int .u64 386]) w := by kernel_rfl
theorem elemVPE (a p : Addr) (W : World) (ha : W.cell? a = some (.pointer (some p))) :
    (ReflectliteValue.method (ReflectliteValue.valueError "reflectlite.Value.Elem" 0) ReflectliteValue.elem #[.agg #[.pointer (some ⟨1, 77, none⟩), .pointer (some a), .int .u64 150]]).run Tryd.prog W
      = .ok (.agg #[.pointer (some ⟨1, 44, none⟩), .pointer (some p), .int .u64 386]) W := by
  rw [rlm]
  simp only [Sem.run_bind, partsPE, Result.andThen]
  simp [ReflectliteValue.elem, loadVar, isAgg, underlying, Tryd.underlying77, ha, Result.andThen, elemOfPE, mkE]
theorem partsEa (a : Addr) (w : World) : (ReflectliteValue.parts (.agg #[.pointer (some ⟨1, 44, none⟩), .pointer (some a), .int .u64 386])).run Tryd.prog w = .ok (some (44, a, 386)) w := by kernel_rfl
theorem partsE (a : Addr) (w : World) : (ReflectliteValue.parts (.agg #[.pointer (some ⟨1, 44, none⟩), .pointer (some a), .int .u64 130])).run Tryd.prog w = .ok (some (44, a, 130)) w := by kernel_rfl
theorem directEE (w : World) : (Rtype.directlyAssignable 44 44).run Tryd.prog w = .ok true w := by kernel_rfl
theorem setE (ta b : Addr) (n : Int) (old : Value) (W : World) (hb : W.cell? b = some (.int .i64 n)) (ht : W.cell? ta = some old) (hf : W.frozen? ta = false) :
    (ReflectliteValue.set #[.agg #[.pointer (some ⟨1, 44, none⟩), .pointer (some ta), .int .u64 386], .agg #[.pointer (some ⟨1, 44, none⟩), .pointer (some b), .int .u64 130]]).run Tryd.prog W
      = .ok (.tuple #[]) (W.setCell ta (.int .i64 n)) := by
  rw [rls]
  simp only [Sem.run_bind, partsEa, partsE, Result.andThen]
  simp [ReflectliteValue.flagAddr, loadVar, isAgg, underlying, Tryd.underlying44, hb, Result.andThen, directEE, storeVar, Value.cells, storeCells, Addr.add]
  rw [run_store Tryd.prog W ta _ _ (by rfl)]
  simp [ht, hf]
end Go.Proofs.YtppeogalaikopaaDoor
namespace Go.Proofs.YtppeogalaikopaaDoor
open Go.RowKit Go.Extern.Stop Go.Stop Go.Extern

set_option maxHeartbeats 4000000 in
theorem as_EE (n : Int) (t : Addr) (old : Value) (w : World) (hg : Laid w) (ht0 : w.cell? t = some old) (hf0 : w.frozen? t = false) :
    Calls Tryd.prog 34 #[.iface 44 (.int .i64 n), .iface 77 (.pointer (some t))] w fun ev w' => ev = .returned (.bool true) ∧ ∃ w1, Below w.heap.size w w1 ∧ w' = w1.setCell t (.int .i64 n) := by
  have h6 := @run_callFunc_extern Tryd.prog 57 _ (fun args => ReflectliteValue.unpack (args.getD 0 (.tuple #[]))) Tryd.func57 (by kernel_rfl) (by kernel_rfl) (by kernel_rfl) (by kernel_rfl)
  have h7 := @run_callFunc_extern Tryd.prog 58 _ (ReflectliteValue.methodAny (ReflectliteValue.valueError "reflectlite.Value.Type" 0) (fun t _ _ _ => ReflectliteType.toType t)) Tryd.func58 (by kernel_rfl) (by kernel_rfl) (by kernel_rfl) (by kernel_rfl)
  have h8 := @run_callFunc_extern Tryd.prog 59 _ (ReflectliteValue.method (ReflectliteValue.valueError "reflectlite.Value.IsNil" 0) ReflectliteValue.isNil) Tryd.func59 (by kernel_rfl) (by kernel_rfl) (by kernel_rfl) (by kernel_rfl)
  have h27 := @run_callFunc_extern Tryd.prog 121 _ (ReflectliteType.abiMethod fun t => do pure (.int .u8 (← Rtype.kind t))) Tryd.func121 (by kernel_rfl) (by kernel_rfl) (by kernel_rfl) (by kernel_rfl)
  have h37 := @run_callFunc_extern Tryd.prog 134 _ (ReflectliteType.method ReflectliteType.elem) Tryd.func134 (by kernel_rfl) (by kernel_rfl) (by kernel_rfl) (by kernel_rfl)
  have h38 := @run_callFunc_extern Tryd.prog 135 _ (ReflectliteType.relation "Implements" ReflectliteType.implements_) Tryd.func135 (by kernel_rfl) (by kernel_rfl) (by kernel_rfl) (by kernel_rfl)
  have h10 := @run_callFunc_extern Tryd.prog 74 _ ReflectliteType.typeOf Tryd.func74 (by kernel_rfl) (by kernel_rfl) (by kernel_rfl) (by kernel_rfl)
  have h35 := @run_callFunc_extern Tryd.prog 132 _ (ReflectliteType.relation "AssignableTo" ReflectliteType.assignableTo) Tryd.func132 (by kernel_rfl) (by kernel_rfl) (by kernel_rfl) (by kernel_rfl)
  have h11 := @run_callFunc_extern Tryd.prog 75 _ (ReflectliteValue.method (ReflectliteValue.valueError "reflectlite.Value.Elem" 0) ReflectliteValue.elem) Tryd.func75 (by kernel_rfl) (by kernel_rfl) (by kernel_rfl) (by kernel_rfl)
  have h12 := @run_callFunc_extern Tryd.prog 76 _ ReflectliteValue.set Tryd.func76 (by kernel_rfl) (by kernel_rfl) (by kernel_rfl) (by kernel_rfl)
  have tO := typeOfE
  have mA := methodAssignableTo
  have aE := assignableEE
  have vE := valueOfE
  have f6 := valueOfPE
  have f7 := typePE
  have mK := methodKind
  have mE := methodElem
  have mI := methodImplements
  have kP := kindPE
  have kE := kindE
  have eP := elemTPE
  have iE := implementsE
  have n8 := isNilPE ⟨w.heap.size, 0, none⟩ t ((w.alloc (.cells #[.pointer (some t)] 77)).alloc (.cells #[.pointer (some ⟨1, 77, none⟩), .pointer (some ⟨w.heap.size, 0, none⟩), .int .u64 150] 112)) (by simp)
  have hg2 : ((w.alloc (.cells #[.pointer (some t)] 77)).alloc (.cells #[.pointer (some ⟨1, 77, none⟩), .pointer (some ⟨w.heap.size, 0, none⟩), .int .u64 150] 112)).cell? ⟨0, 0, none⟩ = some (.iface 137 (.agg #[.pointer (some ⟨1, 32, none⟩)])) := (hg.alloc _).alloc _
  have htl : t.block < w.heap.size := by
    rcases Nat.lt_or_ge t.block w.heap.size with h | h
    · exact h
    · simp [World.cell?, Array.getElem?_eq_none h] at ht0
  have el := elemVPE ⟨w.heap.size, 0, none⟩ t (((w.alloc (.cells #[.pointer (some t)] 77)).alloc (.cells #[.pointer (some ⟨1, 77, none⟩), .pointer (some ⟨w.heap.size, 0, none⟩), .int .u64 150] 112)).alloc (.cells #[.pointer (some ⟨1, 77, none⟩), .pointer (some ⟨w.heap.size, 0, none⟩), .int .u64 150] 112)) (by rw [World.cell?_alloc_lt _ _ ⟨w.heap.size, 0, none⟩ (by simp; omega)]; simp)
  have st := setE t ⟨w.heap.size + 1 + 1 + 1, 0, none⟩ n old ((((w.alloc (.cells #[.pointer (some t)] 77)).alloc (.cells #[.pointer (some ⟨1, 77, none⟩), .pointer (some ⟨w.heap.size, 0, none⟩), .int .u64 150] 112)).alloc (.cells #[.pointer (some ⟨1, 77, none⟩), .pointer (some ⟨w.heap.size, 0, none⟩), .int .u64 150] 112)).alloc (.cells #[.int .i64 n] 44))
    (by rw [World.cell?_alloc_at _ _ _ _ (by simp)]; rfl)
    (by rw [World.cell?_alloc_lt _ _ t (by simp; omega), World.cell?_alloc_lt _ _ t (by simp; omega), World.cell?_alloc_lt _ _ t (by simp; omega), World.cell?_alloc_lt _ _ t htl]; exact ht0)
    (by rw [World.frozen?_alloc_old _ _ t (by simp; omega), World.frozen?_alloc_old _ _ t (by simp; omega), World.frozen?_alloc_old _ _ t (by simp; omega), World.frozen?_alloc_old _ _ t (Nat.ne_of_lt htl)]; exact hf0)
  clear hg ht0 hf0
  go_enter Tryd.func34, Tryd.ntmps34
  go_wp2
  refine wp_loop_rounds 1 ?_
  rw [rounds_succ]
  go_wp2
  go_ret
  exact ⟨rfl, _, bl_alloc (bl_alloc (bl_alloc (bl_alloc (Below.refl _ _) _) _) _) _, rfl⟩

theorem code_nil (w : World) :
    Calls Tryd.prog 20 #[.nilIface] w fun e w' => e = .returned (.int .i64 0) ∧ Below w.heap.size w w' := by
  go_enter Tryd.func20, Tryd.ntmps20
  go_wp2
  go_ret
  exact ⟨rfl, bl_alloc (Below.refl _ _) _⟩
theorem code_E (n : Int) (w : World) (hg : Laid w) :
    Calls Tryd.prog 20 #[.iface 44 (.int .i64 n)] w fun e w' => e = .returned (.int .i64 n) ∧ Below w.heap.size w w' := by
  have HA := hide (as_EE n ⟨w.heap.size, 0, none⟩ (.int .i64 0) (w.alloc (.cells #[.int .i64 0] 44)) (hg.alloc _) (by simp) (by simp))
  clear hg
  go_enter Tryd.func20, Tryd.ntmps20
  go_wp2_with fail
  refine HA.out.mono ?_
  rintro e w' ⟨rfl, w1, b1, rfl⟩
  have hr : w1.heap[w.heap.size]? = some (.cells #[.int .i64 0] 44 (0, 0)) := (b1.block _ (by simp)).trans (heap_new_at _ _ rfl)
  have k0 : (w1.setCell ⟨w.heap.size, 0, none⟩ (.int .i64 n)).cell? ⟨w.heap.size, 0, none⟩ = some (.int .i64 n) := by
    have := heap_setCell_same _ _ 0 _ _ (.int .i64 n) hr
    simp [World.cell?, this]
  have B := hide (bl_set (bl_trans (bl_alloc (Below.refl w.heap.size w) (.cells #[.int .i64 0] 44)) b1) (p := ⟨w.heap.size, 0, none⟩) (Nat.le_refl _) (.int .i64 n))
  clear b1 hr
  obtain ⟨w2, e2⟩ : ∃ w2, w1.setCell ⟨w.heap.size, 0, none⟩ (.int .i64 n) = w2 := ⟨_, rfl⟩
  rw [e2] at k0 B ⊢
  clear e2
  go_wp2
  go_ret
  exact ⟨rfl, B.out⟩
end Go.Proofs.YtppeogalaikopaaDoor
namespace Go.Proofs.YtppeogalaikopaaDoor
open Go.RowKit Go.Extern.Stop Go.Stop Go.Extern

theorem typeOfF (v : Value) (w : World) : (ReflectliteType.typeOf #[.iface 85 v]).run Tryd.prog w = .ok (.iface 137 (.agg #[.pointer (some ⟨1, 85, none⟩)])) w := by kernel_rfl
theorem valueOfF (c n : Int) (w : World) : (ReflectliteValue.unpack (.iface 85 (.agg #[.int .i64 c, .int .i64 n]))).run Tryd.prog w
    = .ok (.agg #[.pointer (some ⟨1, 85, none⟩), .pointer (some ⟨w.heap.size, 0, none⟩), .int .u64 153]) (w.alloc (.cells #[.int .i64 c, .int .i64 n] 85)) := by kernel_rfl
theorem assignableEF (w : World) : (ReflectliteType.relation "AssignableTo" ReflectliteType.assignableTo #[.agg #[.pointer (some ⟨1, 44, none⟩)], .iface 137 (.agg #[.pointer (some ⟨1, 85, none⟩)])]).run Tryd.prog w = .ok (.bool false) w := by kernel_rfl
theorem assignableFE (w : World) : (ReflectliteType.relation "AssignableTo" ReflectliteType.assignableTo #[.agg #[.pointer (some ⟨1, 85, none⟩)], .iface 137 (.agg #[.pointer (some ⟨1, 44, none⟩)])]).run Tryd.prog w = .ok (.bool false) w := by kernel_rfl
theorem noAsE (v : Value) (xT : TypeId) (w : World) : (Instr.typeAssert (.iface 44 v) xT 142 true).run Tryd.prog w = .ok (.tuple #[.nilIface, .bool false]) w := run_typeAssert_lacksB Tryd.underlying142 (by kernel_rfl) (by kernel_rfl) v xT w
theorem noAsF (v : Value) (xT : TypeId) (w : World) : (Instr.typeAssert (.iface 85 v) xT 142 true).run Tryd.prog w = .ok (.tuple #[.nilIface, .bool false]) w := run_typeAssert_lacksB Tryd.underlying142 (by kernel_rfl) (by kernel_rfl) v xT w
theorem noUnE (v : Value) (xT : TypeId) (w : World) : (Instr.typeAssert (.iface 44 v) xT 145 true).run Tryd.prog w = .ok (.tuple #[.nilIface, .bool false]) w := run_typeAssert_lacksB Tryd.underlying145 (by kernel_rfl) (by kernel_rfl) v xT w
theorem noUnsE (v : Value) (xT : TypeId) (w : World) : (Instr.typeAssert (.iface 44 v) xT 147 true).run Tryd.prog w = .ok (.tuple #[.nilIface, .bool false]) w := run_typeAssert_lacksB Tryd.underlying147 (by kernel_rfl) (by kernel_rfl) v xT w
theorem hasUnF (v : Value) (xT : TypeId) (w : World) : (Instr.typeAssert (.iface 85 v) xT 145 true).run Tryd.prog w = .ok (.tuple #[.iface 85 v, .bool true]) w := run_typeAssert_hasB Tryd.underlying145 (by kernel_rfl) v xT w
theorem methodUnwrapF (c n : Value) (w : World) : (Go.method 307 85 (.agg #[c, n]) "Unwrap").run Tryd.prog w = .ok (126, .agg #[c, n]) w := by kernel_rfl

/-! ### The target *Fault -/
theorem valueOfPF (t : Addr) (w : World) : (ReflectliteValue.unpack (.iface 126 (.pointer (some t)))).run Tryd.prog w
    = .ok (.agg #[.pointer (some ⟨1, 126, none⟩), .pointer (some ⟨w.heap.size, 0, none⟩), .int .u64 150]) (w.alloc (.cells #[.pointer (some t)] 126)) := by kernel_rfl
theorem typePF (a : Addr) (w : World) : (ReflectliteValue.methodAny (ReflectliteValue.valueError "reflectlite.Value.Type" 0) (fun t _ _ _ => ReflectliteType.toType t) #[.agg #[.pointer (some ⟨1, 126, none⟩), .pointer (some a), .int .u64 150]]).run Tryd.prog w
    = .ok (.iface 137 (.agg #[.pointer (some ⟨1, 126, none⟩)])) w := by kernel_rfl
theorem kindPF (w : World) : ((ReflectliteType.abiMethod fun t => Functor.map         (fun a:Nat=>Value.int .u8 a) <| Rtype.kind t) #[.pointer (some ⟨1, 126, none⟩)]).run Tryd.prog w = .ok (.int .u8 22) w := by kernel_rfl
theorem kindF (w : World) : ((ReflectliteType.abiMethod fun t => Functor.map         (fun a:Nat=>Value.int .u8 a) <| Rtype.kind t) #[.pointer (some ⟨1, 85, none⟩)]).run Tryd.prog w = .ok (.int .u8 25) w := by kernel_rfl
theorem partsPF (a : Addr) (w : World) : (ReflectliteValue.parts (.agg #[.pointer (some ⟨1, 126, none⟩), .pointer (some a), .int .u64 150])).run Tryd.prog w = .ok (some (126, a, 150)) w := by kernel_rfl
theorem isNilPF (a p : Addr) (W : World) (ha : W.cell? a = some (.pointer (some p))) :
    (ReflectliteValue.method (ReflectliteValue.valueError "reflectlite.Value.IsNil" 0) ReflectliteValue.isNil #[.agg #[.pointer (some ⟨1, 126, none⟩), .pointer (some a), .int .u64 150]]).run Tryd.prog W = .ok (.bool false) W := by
  rw [rlm]
  simp only [Sem.run_bind, partsPF, Result.andThen]
  simp [ReflectliteValue.isNil, loadVar, isAgg, underlying, Tryd.underlying126, ha, Result.andThen]
theorem elemTPF (w : World) : (ReflectliteType.method ReflectliteType.elem #[.agg #[.pointer (some ⟨1, 126, none⟩)]]).run Tryd.prog w = .ok (.iface 137 (.agg #[.pointer (some ⟨1, 85, none⟩)])) w := by kernel_rfl
theorem implementsF (w : World) : (ReflectliteType.relation "Implements" ReflectliteType.implements_ #[.agg #[.pointer (some ⟨1, 85, none⟩)], .iface 137 (.agg #[.pointer (some ⟨1, 32, none⟩)])]).run Tryd.prog w = .ok (.bool true) w := by kernel_rfl
theorem assignableFF (w : World) : (ReflectliteType.relation "AssignableTo" ReflectliteType.assignableTo #[.agg #[.pointer (some ⟨1, 85, none⟩)], .iface 137 (.agg #[.pointer (some ⟨1, 85, none⟩)])]).run Tryd.prog w = .ok (.bool true) w := by kernel_rfl
theorem elemOfPF (w : World) : (Rtype.elem? 126).run Tryd.prog w = .ok (some 85) w := by kernel_rfl
theorem mkF (p : Addr) (w : World) : (ReflectliteValue.mk 85 p ReflectliteValue.flagAddr).run Tryd.prog w = .ok (.agg #[.pointer (some ⟨1, 85, none⟩), .pointer (some p), .int .u64 409]) w := by kernel_rfl
theorem elemVPF (a p : Addr) (W : World) (ha : W.cell? a = some (.pointer (some p))) :
    (ReflectliteValue.method (ReflectliteValue.valueError "reflectlite.Value.Elem" 0) ReflectliteValue.elem #[.agg #[.pointer (some ⟨1, 126, none⟩), .pointer (some a), .int .u64 150]]).run Tryd.prog W
      = .ok (.agg #[.pointer (some ⟨1, 85, none⟩), .pointer (some p), .int .u64 409]) W := by
  rw [rlm]
  simp only [Sem.run_bind, partsPF, Result.andThen]
  simp [ReflectliteValue.elem, loadVar, isAgg, underlying, Tryd.underlying126, ha, Result.andThen, elemOfPF, mkF]
theorem partsFa (a : Addr) (w : World) : (ReflectliteValue.parts (.agg #[.pointer (some ⟨1, 85, none⟩), .pointer (some a), .int .u64 409])).run Tryd.prog w = .ok (some (85, a, 409)) w := by kernel_rfl
theorem partsF (a : Addr) (w : World) : (ReflectliteValue.parts (.agg #[.pointer (some ⟨1, 85, none⟩), .pointer (some a), .int .u64 153])).run Tryd.prog w = .ok (some (85, a, 153)) w := by kernel_rfl
theorem directFF (w : World) : (Rtype.directlyAssignable 85 85).run Tryd.prog w = .ok true w := by kernel_rfl
theorem setF (ta b : Nat) (c n : Int) (o1 o2 : Value) (W : World) (hb : W.heap[b]? = some (.cells #[.int .i64 c, .int .i64 n] 85 (0, 0))) (ht : W.heap[ta]? = some (.cells #[o1, o2] 85 (0, 0))) :
    (ReflectliteValue.set #[.agg #[.pointer (some ⟨1, 85, none⟩), .pointer (some ⟨ta, 0, none⟩), .int .u64 409], .agg #[.pointer (some ⟨1, 85, none⟩), .pointer (some ⟨b, 0, none⟩), .int .u64 153]]).run Tryd.prog W
      = .ok (.tuple #[]) ((W.setCell ⟨ta, 0, none⟩ (.int .i64 c)).setCell ⟨ta, 1, none⟩ (.int .i64 n)) := by
  rw [rls]
  simp only [Sem.run_bind, partsFa, partsF, Result.andThen]
  have b0 : W.cell? ⟨b, 0, none⟩ = some (.int .i64 c) := by simp [World.cell?, hb]
  have b1 : W.cell? ⟨b, 1, none⟩ = some (.int .i64 n) := by simp [World.cell?, hb]
  have t0 : W.cell? ⟨ta, 0, none⟩ = some o1 := by simp [World.cell?, ht]
  have t1 : W.cell? ⟨ta, 1, none⟩ = some o2 := by simp [World.cell?, ht]
  have f0 : ∀ j, W.frozen? ⟨ta, j, none⟩ = false := by intro j; simp [World.frozen?, ht]
  have hl := run_loadCells_list (P := Tryd.prog) W ⟨b, 0, none⟩ [.int .i64 c, .int .i64 n] (by
    intro j v hj
    match j, hj with
    | 0, hj => simp at hj; subst hj; simpa [Addr.add] using b0
    | 1, hj => simp at hj; subst hj; simpa [Addr.add] using b1)
  have hs := run_storeCells_cells (P := Tryd.prog) ta 0 [.int .i64 c, .int .i64 n] 0 W (by
    intro j hj
    have : j = 0 ∨ j = 1 := by simp at hj; omega
    rcases this with rfl | rfl
    · simp [t0]
    · simp [t1]) (fun j _ => by simpa using f0 (0 + 0 + j)) (by intro u hu; simp at hu; rcases hu with rfl | rfl <;> rfl)
  simp at hl hs
  simp [ReflectliteValue.flagAddr, loadVar, isAgg, underlying, Tryd.underlying85, Result.andThen, directFF, storeVar, Value.cells, hl, hs]
  rfl
end Go.Proofs.YtppeogalaikopaaDoor
namespace Go.Proofs.YtppeogalaikopaaDoor
open Go.RowKit Go.Extern.Stop Go.Stop Go.Extern

set_option maxHeartbeats 8000000 in
theorem as_FE (c n : Int) (t : Addr) (old : Value) (w : World) (hg : Laid w) (ht0 : w.cell? t = some old) (hf0 : w.frozen? t = false) :
    Calls Tryd.prog 34 #[.iface 85 (.agg #[.int .i64 c, .int .i64 n]), .iface 77 (.pointer (some t))] w fun ev w' => ev = .returned (.bool true) ∧ ∃ w1, Below w.heap.size w w1 ∧ w' = w1.setCell t (.int .i64 c) := by
  have h6 := @run_callFunc_extern Tryd.prog 57 _ (fun args => ReflectliteValue.unpack (args.getD 0 (.tuple #[]))) Tryd.func57 (by kernel_rfl) (by kernel_rfl) (by kernel_rfl) (by kernel_rfl)
  have h7 := @run_callFunc_extern Tryd.prog 58 _ (ReflectliteValue.methodAny (ReflectliteValue.valueError "reflectlite.Value.Type" 0) (fun t _ _ _ => ReflectliteType.toType t)) Tryd.func58 (by kernel_rfl) (by kernel_rfl) (by kernel_rfl) (by kernel_rfl)
  have h8 := @run_callFunc_extern Tryd.prog 59 _ (ReflectliteValue.method (ReflectliteValue.valueError "reflectlite.Value.IsNil" 0) ReflectliteValue.isNil) Tryd.func59 (by kernel_rfl) (by kernel_rfl) (by kernel_rfl) (by kernel_rfl)
  have h27 := @run_callFunc_extern Tryd.prog 121 _ (ReflectliteType.abiMethod fun t => do pure (.int .u8 (← Rtype.kind t))) Tryd.func121 (by kernel_rfl) (by kernel_rfl) (by kernel_rfl) (by kernel_rfl)
  have h37 := @run_callFunc_extern Tryd.prog 134 _ (ReflectliteType.method ReflectliteType.elem) Tryd.func134 (by kernel_rfl) (by kernel_rfl) (by kernel_rfl) (by kernel_rfl)
  have h38 := @run_callFunc_extern Tryd.prog 135 _ (ReflectliteType.relation "Implements" ReflectliteType.implements_) Tryd.func135 (by kernel_rfl) (by kernel_rfl) (by kernel_rfl) (by kernel_rfl)
  have h10 := @run_callFunc_extern Tryd.prog 74 _ ReflectliteType.typeOf Tryd.func74 (by kernel_rfl) (by kernel_rfl) (by kernel_rfl) (by kernel_rfl)
  have h35 := @run_callFunc_extern Tryd.prog 132 _ (ReflectliteType.relation "AssignableTo" ReflectliteType.assignableTo) Tryd.func132 (by kernel_rfl) (by kernel_rfl) (by kernel_rfl) (by kernel_rfl)
  have h11 := @run_callFunc_extern Tryd.prog 75 _ (ReflectliteValue.method (ReflectliteValue.valueError "reflectlite.Value.Elem" 0) ReflectliteValue.elem) Tryd.func75 (by kernel_rfl) (by kernel_rfl) (by kernel_rfl) (by kernel_rfl)
  have h12 := @run_callFunc_extern Tryd.prog 76 _ ReflectliteValue.set Tryd.func76 (by kernel_rfl) (by kernel_rfl) (by kernel_rfl) (by kernel_rfl)
  have mA := methodAssignableTo
  have mK := methodKind
  have mE := methodElem
  have mI := methodImplements
  have f6 := valueOfPE
  have f7 := typePE
  have kP := kindPE
  have kT := kindE
  have eP := elemTPE
  have iT := implementsE
  have n8 := isNilPE ⟨w.heap.size, 0, none⟩ t ((w.alloc (.cells #[.pointer (some t)] 77)).alloc (.cells #[.pointer (some ⟨1, 77, none⟩), .pointer (some ⟨w.heap.size, 0, none⟩), .int .u64 150] 112)) (by simp)
  have hg2 : ((w.alloc (.cells #[.pointer (some t)] 77)).alloc (.cells #[.pointer (some ⟨1, 77, none⟩), .pointer (some ⟨w.heap.size, 0, none⟩), .int .u64 150] 112)).cell? ⟨0, 0, none⟩ = some (.iface 137 (.agg #[.pointer (some ⟨1, 32, none⟩)])) := (hg.alloc _).alloc _
  have tO := typeOfE
  have tF := typeOfF
  have aT := assignableFE
  have aE := assignableEE
  have vE := valueOfE
  have nA := noAsF
  have nU := hasUnF
  have mU := methodUnwrapF
  have htl : t.block < w.heap.size := by
    rcases Nat.lt_or_ge t.block w.heap.size with h | h
    · exact h
    · simp [World.cell?, Array.getElem?_eq_none h] at ht0
  have el := elemVPE ⟨w.heap.size, 0, none⟩ t ((((w.alloc (.cells #[.pointer (some t)] 77)).alloc (.cells #[.pointer (some ⟨1, 77, none⟩), .pointer (some ⟨w.heap.size, 0, none⟩), .int .u64 150] 112)).alloc (.cells #[.pointer (some ⟨1, 77, none⟩), .pointer (some ⟨w.heap.size, 0, none⟩), .int .u64 150] 112)).alloc (.cells #[.int .i64 c, .int .i64 n] 85)) (by rw [World.cell?_alloc_lt _ _ ⟨w.heap.size, 0, none⟩ (by simp; omega), World.cell?_alloc_lt _ _ ⟨w.heap.size, 0, none⟩ (by simp; omega)]; simp)
  have st := setE t ⟨w.heap.size + 1 + 1 + 1 + 1, 0, none⟩ c old (((((w.alloc (.cells #[.pointer (some t)] 77)).alloc (.cells #[.pointer (some ⟨1, 77, none⟩), .pointer (some ⟨w.heap.size, 0, none⟩), .int .u64 150] 112)).alloc (.cells #[.pointer (some ⟨1, 77, none⟩), .pointer (some ⟨w.heap.size, 0, none⟩), .int .u64 150] 112)).alloc (.cells #[.int .i64 c, .int .i64 n] 85)).alloc (.cells #[.int .i64 c] 44))
    (by rw [World.cell?_alloc_at _ _ _ _ (by simp)]; rfl)
    (by rw [World.cell?_alloc_lt _ _ t (by simp; omega), World.cell?_alloc_lt _ _ t (by simp; omega), World.cell?_alloc_lt _ _ t (by simp; omega), World.cell?_alloc_lt _ _ t (by simp; omega), World.cell?_alloc_lt _ _ t htl]; exact ht0)
    (by rw [World.frozen?_alloc_old _ _ t (by simp; omega), World.frozen?_alloc_old _ _ t (by simp; omega), World.frozen?_alloc_old _ _ t (by simp; omega), World.frozen?_alloc_old _ _ t (by simp; omega), World.frozen?_alloc_old _ _ t (Nat.ne_of_lt htl)]; exact hf0)
  clear hg ht0 hf0
  go_enter Tryd.func34, Tryd.ntmps34
  go_wp2
  refine wp_loop_rounds 2 ?_
  rw [rounds_succ]
  go_wp2
  rw [rounds_succ]
  go_wp2
  go_ret
  exact ⟨rfl, _, bl_alloc (bl_alloc (bl_alloc (bl_alloc (bl_alloc (Below.refl _ _) _) _) _) _) _, rfl⟩
theorem code_F (c n : Int) (w : World) (hg : Laid w) :
    Calls Tryd.prog 20 #[.iface 85 (.agg #[.int .i64 c, .int .i64 n])] w fun e w' => e = .returned (.int .i64 c) ∧ Below w.heap.size w w' := by
  have HA := hide (as_FE c n ⟨w.heap.size, 0, none⟩ (.int .i64 0) (w.alloc (.cells #[.int .i64 0] 44)) (hg.alloc _) (by simp) (by simp))
  clear hg
  go_enter Tryd.func20, Tryd.ntmps20
  go_wp2_with fail
  refine HA.out.mono ?_
  rintro e w' ⟨rfl, w1, b1, rfl⟩
  have hr : w1.heap[w.heap.size]? = some (.cells #[.int .i64 0] 44 (0, 0)) := (b1.block _ (by simp)).trans (heap_new_at _ _ rfl)
  have k0 : (w1.setCell ⟨w.heap.size, 0, none⟩ (.int .i64 c)).cell? ⟨w.heap.size, 0, none⟩ = some (.int .i64 c) := by
    have := heap_setCell_same _ _ 0 _ _ (.int .i64 c) hr
    simp [World.cell?, this]
  have B := hide (bl_set (bl_trans (bl_alloc (Below.refl w.heap.size w) (.cells #[.int .i64 0] 44)) b1) (p := ⟨w.heap.size, 0, none⟩) (Nat.le_refl _) (.int .i64 c))
  clear b1 hr
  obtain ⟨w2, e2⟩ : ∃ w2, w1.setCell ⟨w.heap.size, 0, none⟩ (.int .i64 c) = w2 := ⟨_, rfl⟩
  rw [e2] at k0 B ⊢
  clear e2
  go_wp2
  go_ret
  exact ⟨rfl, B.out⟩
end Go.Proofs.YtppeogalaikopaaDoor
namespace Go.Proofs.YtppeogalaikopaaDoor
open Go.RowKit Go.Extern.Stop Go.Stop Go.Extern

set_option maxHeartbeats 4000000 in
theorem as_EF (c : Int) (t : Addr) (w : World) (hg : Laid w) :
    Calls Tryd.prog 34 #[.iface 44 (.int .i64 c), .iface 126 (.pointer (some t))] w fun ev w' => ev = .returned (.bool false) ∧ Below w.heap.size w w' := by
  have h6 := @run_callFunc_extern Tryd.prog 57 _ (fun args => ReflectliteValue.unpack (args.getD 0 (.tuple #[]))) Tryd.func57 (by kernel_rfl) (by kernel_rfl) (by kernel_rfl) (by kernel_rfl)
  have h7 := @run_callFunc_extern Tryd.prog 58 _ (ReflectliteValue.methodAny (ReflectliteValue.valueError "reflectlite.Value.Type" 0) (fun t _ _ _ => ReflectliteType.toType t)) Tryd.func58 (by kernel_rfl) (by kernel_rfl) (by kernel_rfl) (by kernel_rfl)
  have h8 := @run_callFunc_extern Tryd.prog 59 _ (ReflectliteValue.method (ReflectliteValue.valueError "reflectlite.Value.IsNil" 0) ReflectliteValue.isNil) Tryd.func59 (by kernel_rfl) (by kernel_rfl) (by kernel_rfl) (by kernel_rfl)
  have h27 := @run_callFunc_extern Tryd.prog 121 _ (ReflectliteType.abiMethod fun t => do pure (.int .u8 (← Rtype.kind t))) Tryd.func121 (by kernel_rfl) (by kernel_rfl) (by kernel_rfl) (by kernel_rfl)
  have h37 := @run_callFunc_extern Tryd.prog 134 _ (ReflectliteType.method ReflectliteType.elem) Tryd.func134 (by kernel_rfl) (by kernel_rfl) (by kernel_rfl) (by kernel_rfl)
  have h38 := @run_callFunc_extern Tryd.prog 135 _ (ReflectliteType.relation "Implements" ReflectliteType.implements_) Tryd.func135 (by kernel_rfl) (by kernel_rfl) (by kernel_rfl) (by kernel_rfl)
  have h10 := @run_callFunc_extern Tryd.prog 74 _ ReflectliteType.typeOf Tryd.func74 (by kernel_rfl) (by kernel_rfl) (by kernel_rfl) (by kernel_rfl)
  have h35 := @run_callFunc_extern Tryd.prog 132 _ (ReflectliteType.relation "AssignableTo" ReflectliteType.assignableTo) Tryd.func132 (by kernel_rfl) (by kernel_rfl) (by kernel_rfl) (by kernel_rfl)
  have h11 := @run_callFunc_extern Tryd.prog 75 _ (ReflectliteValue.method (ReflectliteValue.valueError "reflectlite.Value.Elem" 0) ReflectliteValue.elem) Tryd.func75 (by kernel_rfl) (by kernel_rfl) (by kernel_rfl) (by kernel_rfl)
  have h12 := @run_callFunc_extern Tryd.prog 76 _ ReflectliteValue.set Tryd.func76 (by kernel_rfl) (by kernel_rfl) (by kernel_rfl) (by kernel_rfl)
  have mA := methodAssignableTo
  have mK := methodKind
  have mE := methodElem
  have mI := methodImplements
  have f6 := valueOfPF
  have f7 := typePF
  have kP := kindPF
  have kT := kindF
  have eP := elemTPF
  have iT := implementsF
  have n8 := isNilPF ⟨w.heap.size, 0, none⟩ t ((w.alloc (.cells #[.pointer (some t)] 126)).alloc (.cells #[.pointer (some ⟨1, 126, none⟩), .pointer (some ⟨w.heap.size, 0, none⟩), .int .u64 150] 112)) (by simp)
  have hg2 : ((w.alloc (.cells #[.pointer (some t)] 126)).alloc (.cells #[.pointer (some ⟨1, 126, none⟩), .pointer (some ⟨w.heap.size, 0, none⟩), .int .u64 150] 112)).cell? ⟨0, 0, none⟩ = some (.iface 137 (.agg #[.pointer (some ⟨1, 32, none⟩)])) := (hg.alloc _).alloc _
  have tO := typeOfE
  have aT := assignableEF
  have nA := noAsE
  have nU := noUnE
  have nS := noUnsE
  clear hg
  go_enter Tryd.func34, Tryd.ntmps34
  go_wp2
  refine wp_loop_rounds 1 ?_
  rw [rounds_succ]
  go_wp2
  go_ret
  exact ⟨rfl, bl_alloc (bl_alloc (bl_alloc (Below.refl _ _) _) _) _⟩

set_option maxHeartbeats 4000000 in
theorem as_FF (c n : Int) (ta : Nat) (o1 o2 : Value) (w : World) (hg : Laid w) (ht : w.heap[ta]? = some (.cells #[o1, o2] 85 (0, 0))) :
    Calls Tryd.prog 34 #[.iface 85 (.agg #[.int .i64 c, .int .i64 n]), .iface 126 (.pointer (some ⟨ta, 0, none⟩))] w fun ev w' => ev = .returned (.bool true) ∧ ∃ w1, Below w.heap.size w w1 ∧ w' = (w1.setCell ⟨ta, 0, none⟩ (.int .i64 c)).setCell ⟨ta, 1, none⟩ (.int .i64 n) := by
  have h6 := @run_callFunc_extern Tryd.prog 57 _ (fun args => ReflectliteValue.unpack (args.getD 0 (.tuple #[]))) Tryd.func57 (by kernel_rfl) (by kernel_rfl) (by kernel_rfl) (by kernel_rfl)
  have h7 := @run_callFunc_extern Tryd.prog 58 _ (ReflectliteValue.methodAny (ReflectliteValue.valueError "reflectlite.Value.Type" 0) (fun t _ _ _ => ReflectliteType.toType t)) Tryd.func58 (by kernel_rfl) (by kernel_rfl) (by kernel_rfl) (by kernel_rfl)
  have h8 := @run_callFunc_extern Tryd.prog 59 _ (ReflectliteValue.method (ReflectliteValue.valueError "reflectlite.Value.IsNil" 0) ReflectliteValue.isNil) Tryd.func59 (by kernel_rfl) (by kernel_rfl) (by kernel_rfl) (by kernel_rfl)
  have h27 := @run_callFunc_extern Tryd.prog 121 _ (ReflectliteType.abiMethod fun t => do pure (.int .u8 (← Rtype.kind t))) Tryd.func121 (by kernel_rfl) (by kernel_rfl) (by kernel_rfl) (by kernel_rfl)
  have h37 := @run_callFunc_extern Tryd.prog 134 _ (ReflectliteType.method ReflectliteType.elem) Tryd.func134 (by kernel_rfl) (by kernel_rfl) (by kernel_rfl) (by kernel_rfl)
  have h38 := @run_callFunc_extern Tryd.prog 135 _ (ReflectliteType.relation "Implements" ReflectliteType.implements_) Tryd.func135 (by kernel_rfl) (by kernel_rfl) (by kernel_rfl) (by kernel_rfl)
  have h10 := @run_callFunc_extern Tryd.prog 74 _ ReflectliteType.typeOf Tryd.func74 (by kernel_rfl) (by kernel_rfl) (by kernel_rfl) (by kernel_rfl)
  have h35 := @run_callFunc_extern Tryd.prog 132 _ (ReflectliteType.relation "AssignableTo" ReflectliteType.assignableTo) Tryd.func132 (by kernel_rfl) (by kernel_rfl) (by kernel_rfl) (by kernel_rfl)
  have h11 := @run_callFunc_extern Tryd.prog 75 _ (ReflectliteValue.method (ReflectliteValue.valueError "reflectlite.Value.Elem" 0) ReflectliteValue.elem) Tryd.func75 (by kernel_rfl) (by kernel_rfl) (by kernel_rfl) (by kernel_rfl)
  have h12 := @run_callFunc_extern Tryd.prog 76 _ ReflectliteValue.set Tryd.func76 (by kernel_rfl) (by kernel_rfl) (by kernel_rfl) (by kernel_rfl)
  have mA := methodAssignableTo
  have mK := methodKind
  have mE := methodElem
  have mI := methodImplements
  have f6 := valueOfPF
  have f7 := typePF
  have kP := kindPF
  have kT := kindF
  have eP := elemTPF
  have iT := implementsF
  have n8 := isNilPF ⟨w.heap.size, 0, none⟩ ⟨ta, 0, none⟩ ((w.alloc (.cells #[.pointer (some ⟨ta, 0, none⟩)] 126)).alloc (.cells #[.pointer (some ⟨1, 126, none⟩), .pointer (some ⟨w.heap.size, 0, none⟩), .int .u64 150] 112)) (by simp)
  have hg2 : ((w.alloc (.cells #[.pointer (some ⟨ta, 0, none⟩)] 126)).alloc (.cells #[.pointer (some ⟨1, 126, none⟩), .pointer (some ⟨w.heap.size, 0, none⟩), .int .u64 150] 112)).cell? ⟨0, 0, none⟩ = some (.iface 137 (.agg #[.pointer (some ⟨1, 32, none⟩)])) := (hg.alloc _).alloc _
  have tO := typeOfF
  have aT := assignableFF
  have vF := valueOfF
  have htl := Blk_lt ht
  have el := elemVPF ⟨w.heap.size, 0, none⟩ ⟨ta, 0, none⟩ (((w.alloc (.cells #[.pointer (some ⟨ta, 0, none⟩)] 126)).alloc (.cells #[.pointer (some ⟨1, 126, none⟩), .pointer (some ⟨w.heap.size, 0, none⟩), .int .u64 150] 112)).alloc (.cells #[.pointer (some ⟨1, 126, none⟩), .pointer (some ⟨w.heap.size, 0, none⟩), .int .u64 150] 112)) (by rw [World.cell?_alloc_lt _ _ ⟨w.heap.size, 0, none⟩ (by simp; omega)]; simp)
  have st := setF ta (w.heap.size + 1 + 1 + 1) c n o1 o2 ((((w.alloc (.cells #[.pointer (some ⟨ta, 0, none⟩)] 126)).alloc (.cells #[.pointer (some ⟨1, 126, none⟩), .pointer (some ⟨w.heap.size, 0, none⟩), .int .u64 150] 112)).alloc (.cells #[.pointer (some ⟨1, 126, none⟩), .pointer (some ⟨w.heap.size, 0, none⟩), .int .u64 150] 112)).alloc (.cells #[.int .i64 c, .int .i64 n] 85)) (heap_new_at _ _ (by simp)) (heap_old_at _ _ (by simp; omega) (heap_old_at _ _ (by simp; omega) (heap_old_at _ _ (by simp; omega) (heap_old_at _ _ htl ht))))
  clear hg ht
  go_enter Tryd.func34, Tryd.ntmps34
  go_wp2
  refine wp_loop_rounds 1 ?_
  rw [rounds_succ]
  go_wp2
  go_ret
  exact ⟨rfl, _, bl_alloc (bl_alloc (bl_alloc (bl_alloc (Below.refl _ _) _) _) _) _, rfl⟩

theorem find_nil (w : World) :
    Calls Tryd.prog 41 #[.nilIface] w fun e w' => e = .returned (.tuple #[.agg #[.int .i64 0, .int .i64 0], .bool false]) ∧ Below w.heap.size w w' := by
  go_enter Tryd.func41, Tryd.ntmps41
  go_wp2_with fail
  refine (as_nil _ _).mono ?_
  rintro e w' ⟨rfl, rfl⟩
  go_wp2
  exact bodyPost_ret (v := .tuple #[.agg #[.int .i64 0, .int .i64 0], .bool false]) (by simp [results, Tryd.results41, go_sem]) rfl ⟨rfl, bl_alloc (bl_alloc (Below.refl _ _) _) _⟩
theorem find_E (c : Int) (w : World) (hg : Laid w) :
    Calls Tryd.prog 41 #[.iface 44 (.int .i64 c)] w fun e w' => e = .returned (.tuple #[.agg #[.int .i64 0, .int .i64 0], .bool false]) ∧ Below w.heap.size w w' := by
  have HA := hide (as_EF c ⟨w.heap.size + 1, 0, none⟩ ((w.alloc (.cells #[.int .i64 0, .int .i64 0] 85)).alloc (.cells #[.int .i64 0, .int .i64 0] 85)) ((hg.alloc _).alloc _))
  clear hg
  go_enter Tryd.func41, Tryd.ntmps41
  go_wp2_with fail
  refine HA.out.mono ?_
  rintro e w' ⟨rfl, b1⟩
  have r0 : w'.heap[w.heap.size]? = some (.cells #[.int .i64 0, .int .i64 0] 85 (0, 0)) := (b1.block _ (by simp; omega)).trans (heap_old_at _ _ (by simp) (heap_new_at _ _ rfl))
  have r1 : w'.heap[w.heap.size + 1]? = some (.cells #[.int .i64 0, .int .i64 0] 85 (0, 0)) := (b1.block _ (by simp)).trans (heap_new_at _ _ (by simp))
  have k0 : w'.cell? ⟨w.heap.size + 1, 0, none⟩ = some (.int .i64 0) := by simp [World.cell?, r1]
  have k1 : w'.cell? ⟨w.heap.size + 1, 1, none⟩ = some (.int .i64 0) := by simp [World.cell?, r1]
  have m0 : w'.cell? ⟨w.heap.size, 0, none⟩ = some (.int .i64 0) := by simp [World.cell?, r0]
  have m1 : w'.cell? ⟨w.heap.size, 1, none⟩ = some (.int .i64 0) := by simp [World.cell?, r0]
  have f0 : ∀ j, w'.frozen? ⟨w.heap.size, j, none⟩ = false := by intro j; simp [World.frozen?, r0]
  have hb := bl_trans (bl_alloc (bl_alloc (Below.refl w.heap.size w) _) _) b1
  have e0 := heap_setCell_same _ _ 1 _ _ (.int .i64 0) (heap_setCell_same _ _ 0 _ _ (.int .i64 0) r0)
  clear b1 r0 r1
  go_wp2
  exact bodyPost_ret (v := .tuple #[.agg #[.int .i64 0, .int .i64 0], .bool false]) (by simp [results, Tryd.results41, go_sem, World.cell?, e0]) rfl ⟨rfl, bl_set (bl_set hb (p := ⟨w.heap.size, 0, none⟩) (Nat.le_refl _) _) (p := ⟨w.heap.size, 1, none⟩) (Nat.le_refl _) _⟩
theorem find_F (c n : Int) (w : World) (hg : Laid w) :
    Calls Tryd.prog 41 #[.iface 85 (.agg #[.int .i64 c, .int .i64 n])] w fun e w' => e = .returned (.tuple #[.agg #[.int .i64 c, .int .i64 n], .bool true]) ∧ Below w.heap.size w w' := by
  have HA := hide (as_FF c n (w.heap.size + 1) (.int .i64 0) (.int .i64 0) ((w.alloc (.cells #[.int .i64 0, .int .i64 0] 85)).alloc (.cells #[.int .i64 0, .int .i64 0] 85)) ((hg.alloc _).alloc _) (heap_new_at _ _ (by simp)))
  clear hg
  go_enter Tryd.func41, Tryd.ntmps41
  go_wp2_with fail
  refine HA.out.mono ?_
  rintro e w' ⟨rfl, w1, b1, rfl⟩
  have r0 : w1.heap[w.heap.size]? = some (.cells #[.int .i64 0, .int .i64 0] 85 (0, 0)) := (b1.block _ (by simp; omega)).trans (heap_old_at _ _ (by simp) (heap_new_at _ _ rfl))
  have r1 : w1.heap[w.heap.size + 1]? = some (.cells #[.int .i64 0, .int .i64 0] 85 (0, 0)) := (b1.block _ (by simp)).trans (heap_new_at _ _ (by simp))
  have r1' := heap_setCell_same _ _ 1 _ _ (.int .i64 n) (heap_setCell_same _ _ 0 _ _ (.int .i64 c) r1)
  have r0' := (Below.heap_setCell (w1.setCell ⟨w.heap.size + 1, 0, none⟩ (.int .i64 c)) ⟨w.heap.size + 1, 1, none⟩ (.int .i64 n) w.heap.size (by show w.heap.size ≠ w.heap.size + 1; omega)).trans ((Below.heap_setCell w1 ⟨w.heap.size + 1, 0, none⟩ (.int .i64 c) w.heap.size (by show w.heap.size ≠ w.heap.size + 1; omega)).trans r0)
  have hb := hide (bl_set (bl_set (bl_trans (bl_alloc (bl_alloc (Below.refl w.heap.size w) _) _) b1) (p := ⟨w.heap.size + 1, 0, none⟩) (by show _ ≤ w.heap.size + 1; omega) (.int .i64 c)) (p := ⟨w.heap.size + 1, 1, none⟩) (by show _ ≤ w.heap.size + 1; omega) (.int .i64 n))
  obtain ⟨w2, e2⟩ : ∃ w2, (w1.setCell ⟨w.heap.size + 1, 0, none⟩ (.int .i64 c)).setCell ⟨w.heap.size + 1, 1, none⟩ (.int .i64 n) = w2 := ⟨_, rfl⟩
  rw [e2] at r0' r1' hb ⊢
  clear e2 r0 r1 b1
  have k0 : w2.cell? ⟨w.heap.size + 1, 0, none⟩ = some (.int .i64 c) := by simp [World.cell?, r1']
  have k1 : w2.cell? ⟨w.heap.size + 1, 1, none⟩ = some (.int .i64 n) := by simp [World.cell?, r1']
  have m0 : w2.cell? ⟨w.heap.size, 0, none⟩ = some (.int .i64 0) := by simp [World.cell?, r0']
  have m1 : w2.cell? ⟨w.heap.size, 1, none⟩ = some (.int .i64 0) := by simp [World.cell?, r0']
  have f0 : ∀ j, w2.frozen? ⟨w.heap.size, j, none⟩ = false := by intro j; simp [World.frozen?, r0']
  have e0 := heap_setCell_same _ _ 1 _ _ (.int .i64 n) (heap_setCell_same _ _ 0 _ _ (.int .i64 c) r0')
  clear r0' r1'
  go_wp2
  exact bodyPost_ret (v := .tuple #[.agg #[.int .i64 c, .int .i64 n], .bool true]) (by simp [results, Tryd.results41, go_sem, World.cell?, e0]) rfl ⟨rfl, bl_set (bl_set hb.out (p := ⟨w.heap.size, 0, none⟩) (Nat.le_refl _) _) (p := ⟨w.heap.size, 1, none⟩) (Nat.le_refl _) _⟩

theorem at_nil (w : World) :
    Calls Tryd.prog 21 #[.nilIface] w fun e w' => e = .returned (.int .i64 (-1)) ∧ Below w.heap.size w w' := by
  go_enter Tryd.func21, Tryd.ntmps21
  go_wp2_with fail
  refine (find_nil _).mono ?_
  rintro e w1 ⟨rfl, b1⟩
  go_wp2
  go_ret
  exact ⟨rfl, bl_alloc b1 _⟩
theorem at_E (c : Int) (w : World) (hg : Laid w) :
    Calls Tryd.prog 21 #[.iface 44 (.int .i64 c)] w fun e w' => e = .returned (.int .i64 (-1)) ∧ Below w.heap.size w w' := by
  have H := hide hg
  clear hg
  go_enter Tryd.func21, Tryd.ntmps21
  go_wp2_with fail
  refine (find_E c _ H.out).mono ?_
  rintro e w1 ⟨rfl, b1⟩
  go_wp2
  go_ret
  exact ⟨rfl, bl_alloc b1 _⟩
theorem at_F (c n : Int) (w : World) (hg : Laid w) :
    Calls Tryd.prog 21 #[.iface 85 (.agg #[.int .i64 c, .int .i64 n])] w fun e w' => e = .returned (.int .i64 n) ∧ Below w.heap.size w w' := by
  have H := hide hg
  clear hg
  go_enter Tryd.func21, Tryd.ntmps21
  go_wp2_with fail
  refine (find_F c n _ H.out).mono ?_
  rintro e w1 ⟨rfl, b1⟩
  go_wp2
  go_ret
  exact ⟨rfl, bl_alloc b1 _⟩
end Go.Proofs.YtppeogalaikopaaDoor
