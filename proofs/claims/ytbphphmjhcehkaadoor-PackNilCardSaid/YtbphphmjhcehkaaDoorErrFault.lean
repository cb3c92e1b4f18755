/- errors.As at the target '*Fault' and over faults: closed facts. -/
import Derived.Test.YtbphphmjhcehkaaDoorErrAsE
import Derived.Laws.Cells
import Derived.Laws.IdiomCopy
namespace Go.Proofs.YtbphphmjhcehkaaDoor
open Go.RowKit Go.Extern.Stop Go.Stop Go.Extern

theorem typeOfF (v : Value) (w : World) : (ReflectliteType.typeOf #[.iface 85 v]).run Tryd.prog w = .ok (.iface 137 (.agg #[.pointer (some ⟨1, 85, none⟩)])) w := by kernel_rfl
theorem valueOfF (c n : Int) (w : World) : (ReflectliteValue.unpack (.iface 85 (.agg #[.int .i64 c, .int .i64 n]))).run Tryd.prog w
    = .ok (.agg #[.pointer (some ⟨1, 85, none⟩), .pointer (some ⟨w.heap.size, 0, none⟩), .int .u64 153]) (w.alloc (.cells #[.int .i64 c, .int .i64 n] 85)) := by kernel_rfl
theorem assignableEF (w : World) : (ReflectliteType.relation "AssignableTo" ReflectliteType.assignableTo #[.agg #[.pointer (some ⟨1, 44, none⟩)], .iface 137 (.agg #[.pointer (some ⟨1, 85, none⟩)])]).run Tryd.prog w = .ok (.bool false) w := by kernel_rfl
theorem assignableFE (w : World) : (ReflectliteType.relation "AssignableTo" ReflectliteType.assignableTo #[.agg #[.pointer (some ⟨1, 85, none⟩)], .iface 137 (.agg #[.pointer (some ⟨1, 44, none⟩)])]).run Tryd.prog w = .ok (.bool false) w := by kernel_rfl
theorem noAsE (v : Value) (xT : TypeId) (w : World) : (Instr.typeAssert (.iface 44 v) xT 142 true).run Tryd.prog w = .ok (.tuple #[.nilIface, .bool false]) w := run_typeAssert_lacksB Tryd.underlying142 (by kernel_rfl) (by kernel_rfl) v xT w
theorem noAsF (v : Value) (xT : TypeId) (w : World) : (Instr.typeAssert (.iface 85 v) xT 142 true).run Tryd.prog w = .ok (.tuple #[.nilIface, .bool false]) w := run_typeAssert_lacksB Tryd.underlying142 (by kernel_rfl) (by kernel_rfl) v xT w
theorem noUnE (v : Value) (xT : TypeId) (w : World) : (Instr.typeAssert (.iface 44 v) xT 145 true).run Tryd.prog w = .ok (.tuple #[.nilIface, .bool false]) w := run_typeAssert_lacksB Tryd.underlying145 (by kernel_rfl) (by kernel_rfl) v xT w
theorem noUnsE (v : Value) (xT : TypeId) (w : World) : (Instr.typeAssert (.iface 44 v) xT 147 true).run Tryd.prog w = .ok (.tuple #[.nilIface, .bool false]) w := run_typeAssert_lacksB Tryd.underlying147 (by kernel_rfl) (by kernel_rfl) v xT w
theorem hasUnF (v : Value) (xT : TypeId) (w : World) : (Instr.typeAssert (.iface 85 v) xT 145 true).run Tryd.prog w = .ok (.tuple #[.iface 85 v, .bool true]) w := run_typeAssert_hasB Tryd.underlying145 (by kernel_rfl) v xT w
theorem methodUnwrapF (c n : Value) (w : World) : (Go.method 307 85 (.agg #[c, n]) "Unwrap").run Tryd.prog w = .ok (126, .agg #[c, n]) w := by kernel_rfl

/-! ### The target *Fault -/
theorem valueOfPF (t : Addr) (w : World) : (ReflectliteValue.unpack (.iface 126 (.pointer (some t)))).run Tryd.prog w
    = .ok (.agg #[.pointer (some ⟨1, 126, none⟩), .pointer (some ⟨w.heap.size, 0, none⟩), .int .u64 150]) (w.alloc (.cells #[.pointer (some t)] 126)) := by kernel_rfl
theorem typePF (a : Addr) (w : World) : (ReflectliteValue.methodAny (ReflectliteValue.valueError "reflectlite.Value.Type" 0) (fun t _ _ _ => ReflectliteType.toType t) #[.agg #[.pointer (some ⟨1, 126, none⟩), .pointer (some a), .int .u64 150]]).run Tryd.prog w
    = .ok (.iface 137 (.agg #[.pointer (some ⟨1, 126, none⟩)])) w := by kernel_rfl
theorem kindPF (w : World) : ((ReflectliteType.abiMethod fun t => Functor.map         (fun a:Nat=>Value.int .u8 a) <| Rtype.kind t) #[.pointer (some ⟨1, 126, none⟩)]).run Tryd.prog w = .ok (.int .u8 22) w := by kernel_rfl
theorem kindF (w : World) : ((ReflectliteType.abiMethod fun t => Functor.map         (fun a:Nat=>Value.int .u8 a) <| Rtype.kind t) #[.pointer (some ⟨1, 85, none⟩)]).run Tryd.prog w = .ok (.int .u8 25) w := by kernel_rfl
theorem partsPF (a : Addr) (w : World) : (ReflectliteValue.parts (.agg #[.pointer (some ⟨1, 126, none⟩), .pointer (some a), .int .u64 150])).run Tryd.prog w = .ok (some (126, a, 150)) w := by kernel_rfl
theorem isNilPF (a p : Addr) (W : World) (ha : W.cell? a = some (.pointer (some p))) :
    (ReflectliteValue.method (ReflectliteValue.valueError "reflectlite.Value.IsNil" 0) ReflectliteValue.isNil #[.agg #[.pointer (some ⟨1, 126, none⟩), .pointer (some a), .int .u64 150]]).run Tryd.prog W = .ok (.bool false) W := by
  rw [rlm]
  simp only [Sem.run_bind, partsPF, Result.andThen]
  simp [ReflectliteValue.isNil, loadVar, isAgg, underlying, Tryd.underlying126, ha, Result.andThen]
theorem elemTPF (w : World) : (ReflectliteType.method ReflectliteType.elem #[.agg #[.pointer (some ⟨1, 126, none⟩)]]).run Tryd.prog w = .ok (.iface 137 (.agg #[.pointer (some ⟨1, 85, none⟩)])) w := by kernel_rfl
theorem implementsF (w : World) : (ReflectliteType.relation "Implements" ReflectliteType.implements_ #[.agg #[.pointer (some ⟨1, 85, none⟩)], .iface 137 (.agg #[.pointer (some ⟨1, 32, none⟩)])]).run Tryd.prog w = .ok (.bool true) w := by kernel_rfl
theorem assignableFF (w : World) : (ReflectliteType.relation "AssignableTo" ReflectliteType.assignableTo #[.agg #[.pointer (some ⟨1, 85, none⟩)], .iface 137 (.agg #[.pointer (some ⟨1, 85, none⟩)])]).run Tryd.prog w = .ok (.bool true) w := by kernel_rfl
theorem elemOfPF (w : World) : (Rtype.elem? 126).run Tryd.prog w = .ok (some 85) w := by kernel_rfl
theorem mkF (p : Addr) (w : World) : (ReflectliteValue.mk 85 p ReflectliteValue.flagAddr).run Tryd.prog w = .ok (.agg #[.pointer (some ⟨1, 85, none⟩), .pointer (some p), .int .u64 409]) w := by kernel_rfl
theorem elemVPF (a p : Addr) (W : World) (ha : W.cell? a = some (.pointer (some p))) :
    (ReflectliteValue.method (ReflectliteValue.valueError "reflectlite.Value.Elem" 0) ReflectliteValue.elem #[.agg #[.pointer (some ⟨1, 126, none⟩), .pointer (some a), .int .u64 150]]).run Tryd.prog W
      = .ok (.agg #[.pointer (some ⟨1, 85, none⟩), .pointer (some p), .int .u64 409]) W := by
  rw [rlm]
  simp only [Sem.run_bind, partsPF, Result.andThen]
  simp [ReflectliteValue.elem, loadVar, isAgg, underlying, Tryd.underlying126, ha, Result.andThen, elemOfPF, mkF]
theorem partsFa (a : Addr) (w : World) : (ReflectliteValue.parts (.agg #[.pointer (some ⟨1, 85, none⟩), .pointer (some a), .int .u64 409])).run Tryd.prog w = .ok (some (85, a, 409)) w := by kernel_rfl
theorem partsF (a : Addr) (w : World) : (ReflectliteValue.parts (.agg #[.pointer (some ⟨1, 85, none⟩), .pointer (some a), .int .u64 153])).run Tryd.prog w = .ok (some (85, a, 153)) w := by kernel_rfl
theorem directFF (w : World) : (Rtype.directlyAssignable 85 85).run Tryd.prog w = .ok true w := by kernel_rfl
theorem setF (ta b : Nat) (c n : Int) (o1 o2 : Value) (W : World) (hb : W.heap[b]? = some (.cells #[.int .i64 c, .int .i64 n] 85 (0, 0))) (ht : W.heap[ta]? = some (.cells #[o1, o2] 85 (0, 0))) :
    (ReflectliteValue.set #[.agg #[.pointer (some ⟨1, 85, none⟩), .pointer (some ⟨ta, 0, none⟩), .int .u64 409], .agg #[.pointer (some ⟨1, 85, none⟩), .pointer (some ⟨b, 0, none⟩), .int .u64 153]]).run Tryd.prog W
      = .ok (.tuple #[]) ((W.setCell ⟨ta, 0, none⟩ (.int .i64 c)).setCell ⟨ta, 1, none⟩ (.int .i64 n)) := by
  rw [rls]
  simp only [Sem.run_bind, partsFa, partsF, Result.andThen]
  have b0 : W.cell? ⟨b, 0, none⟩ = some (.int .i64 c) := by simp [World.cell?, hb]
  have b1 : W.cell? ⟨b, 1, none⟩ = some (.int .i64 n) := by simp [World.cell?, hb]
  have t0 : W.cell? ⟨ta, 0, none⟩ = some o1 := by simp [World.cell?, ht]
  have t1 : W.cell? ⟨ta, 1, none⟩ = some o2 := by simp [World.cell?, ht]
  have f0 : ∀ j, W.frozen? ⟨ta, j, none⟩ = false := by intro j; simp [World.frozen?, ht]
  have hl := run_loadCells_list (P := Tryd.prog) W ⟨b, 0, none⟩ [.int .i64 c, .int .i64 n] (by
    intro j v hj
    match j, hj with
    | 0, hj => simp at hj; subst hj; simpa [Addr.add] using b0
    | 1, hj => simp at hj; subst hj; simpa [Addr.add] using b1)
  have hs := run_storeCells_cells (P := Tryd.prog) ta 0 [.int .i64 c, .int .i64 n] 0 W (by
    intro j hj
    have : j = 0 ∨ j = 1 := by simp at hj; omega
    rcases this with rfl | rfl
    · simp [t0]
    · simp [t1]) (fun j _ => by simpa using f0 (0 + 0 + j)) (by intro u hu; simp at hu; rcases hu with rfl | rfl <;> rfl)
  simp at hl hs
  simp [ReflectliteValue.flagAddr, loadVar, isAgg, underlying, Tryd.underlying85, Result.andThen, directFF, storeVar, Value.cells, hl, hs]
  rfl
end Go.Proofs.YtbphphmjhcehkaaDoor
