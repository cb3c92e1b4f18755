/- The errors of this program as data: codes, faults, texts, names in front; the closed facts of the kinds that the chapters' examples add. -/
import Derived.Test.YtgggnjgcbmpibaaDoorErrFault
namespace Go.Proofs.YtgggnjgcbmpibaaDoor
open Go.RowKit Go.Extern.Stop Go.Stop Go.Extern

/-- An error: a code, a fault, a text of errors.New, a name in front of an error. -/
inductive Er where
  | e (c : Int)
  | f (c n : Int)
  | s (p : Nat)
  | w (name : ByteArray) (x : Er)
def Er.tid : Er → TypeId
  | .e _ => 31
  | .f _ _ => 40
  | .s _ => 57
  | .w _ _ => 61
def Er.dat : Er → Value
  | .e c => .int .i64 c
  | .f c n => .agg #[.int .i64 c, .int .i64 n]
  | .s p => .pointer (some ⟨p, 0, none⟩)
  | .w n x => .agg #[.string n, .iface x.tid x.dat]
/-- The value of an error. -/
def Er.v (x : Er) : Value := .iface x.tid x.dat
theorem Er.inj : ∀ x y : Er, x.v = y.v → x = y := by
  intro x
  induction x with
  | e c => intro y h; cases y <;> simp [Er.v, Er.tid, Er.dat] at h ⊢; exact h
  | f c n => intro y h; cases y <;> simp [Er.v, Er.tid, Er.dat] at h ⊢; exact h
  | s p => intro y h; cases y <;> simp [Er.v, Er.tid, Er.dat] at h ⊢; exact h
  | w n x ih =>
    intro y h
    cases y with
    | w m z =>
      change Value.iface 61 (.agg #[.string n, x.v]) = .iface 61 (.agg #[.string m, z.v]) at h
      injection h with _ h
      injection h with h
      simp at h
      rw [h.1, ih z h.2]
    | _ => simp [Er.v, Er.tid, Er.dat] at h
/-- How many names are in front. -/
def Er.depth : Er → Nat
  | .w _ x => x.depth + 2
  | .f _ _ => 1
  | _ => 0
open Classical in
noncomputable def dep (v : Value) : Nat := if h : ∃ y : Er, v = y.v then (Classical.choose h).depth else 0
theorem dep_v (y : Er) : dep y.v = y.depth := by
  have h : ∃ z : Er, y.v = z.v := ⟨y, rfl⟩
  unfold dep
  rw [dif_pos h, ← Er.inj _ _ (Classical.choose_spec h)]
/-- The code that errors.As finds, the fault that it finds. -/
def Er.code : Er → Option Int
  | .e c => some c
  | .f c _ => some c
  | .s _ => none
  | .w _ x => x.code
def Er.fault : Er → Option (Int × Int)
  | .e _ => none
  | .f c n => some (c, n)
  | .s _ => none
  | .w _ x => x.fault

/-! ### Closed facts -/
theorem typeOfN (v : Value) (w : World) : (ReflectliteType.typeOf #[.iface 61 v]).run Tryd.prog w = .ok (.iface 83 (.agg #[.pointer (some ⟨1, 61, none⟩)])) w := by kernel_rfl
theorem assignableNE (w : World) : (ReflectliteType.relation "AssignableTo" ReflectliteType.assignableTo #[.agg #[.pointer (some ⟨1, 61, none⟩)], .iface 83 (.agg #[.pointer (some ⟨1, 31, none⟩)])]).run Tryd.prog w = .ok (.bool false) w := by kernel_rfl
theorem assignableNF (w : World) : (ReflectliteType.relation "AssignableTo" ReflectliteType.assignableTo #[.agg #[.pointer (some ⟨1, 61, none⟩)], .iface 83 (.agg #[.pointer (some ⟨1, 40, none⟩)])]).run Tryd.prog w = .ok (.bool false) w := by kernel_rfl
theorem noAsN (v : Value) (xT : TypeId) (w : World) : (Instr.typeAssert (.iface 61 v) xT 92 true).run Tryd.prog w = .ok (.tuple #[.nilIface, .bool false]) w := run_typeAssert_lacksB Tryd.underlying92 (by kernel_rfl) (by kernel_rfl) v xT w
theorem hasUnN (v : Value) (xT : TypeId) (w : World) : (Instr.typeAssert (.iface 61 v) xT 79 true).run Tryd.prog w = .ok (.tuple #[.iface 61 v, .bool true]) w := run_typeAssert_hasB Tryd.underlying79 (by kernel_rfl) v xT w
theorem methodUnwrapN (a b : Value) (w : World) : (Go.method 224 61 (.agg #[a, b]) "Unwrap").run Tryd.prog w = .ok (58, .agg #[a, b]) w := by kernel_rfl
theorem typeOfS (v : Value) (w : World) : (ReflectliteType.typeOf #[.iface 57 v]).run Tryd.prog w = .ok (.iface 83 (.agg #[.pointer (some ⟨1, 57, none⟩)])) w := by kernel_rfl
theorem assignableSE (w : World) : (ReflectliteType.relation "AssignableTo" ReflectliteType.assignableTo #[.agg #[.pointer (some ⟨1, 57, none⟩)], .iface 83 (.agg #[.pointer (some ⟨1, 31, none⟩)])]).run Tryd.prog w = .ok (.bool false) w := by kernel_rfl
theorem assignableSF (w : World) : (ReflectliteType.relation "AssignableTo" ReflectliteType.assignableTo #[.agg #[.pointer (some ⟨1, 57, none⟩)], .iface 83 (.agg #[.pointer (some ⟨1, 40, none⟩)])]).run Tryd.prog w = .ok (.bool false) w := by kernel_rfl
theorem noAsS (v : Value) (xT : TypeId) (w : World) : (Instr.typeAssert (.iface 57 v) xT 92 true).run Tryd.prog w = .ok (.tuple #[.nilIface, .bool false]) w := run_typeAssert_lacksB Tryd.underlying92 (by kernel_rfl) (by kernel_rfl) v xT w
theorem noUnS (v : Value) (xT : TypeId) (w : World) : (Instr.typeAssert (.iface 57 v) xT 79 true).run Tryd.prog w = .ok (.tuple #[.nilIface, .bool false]) w := run_typeAssert_lacksB Tryd.underlying79 (by kernel_rfl) (by kernel_rfl) v xT w
theorem noUnsS (v : Value) (xT : TypeId) (w : World) : (Instr.typeAssert (.iface 57 v) xT 88 true).run Tryd.prog w = .ok (.tuple #[.nilIface, .bool false]) w := run_typeAssert_lacksB Tryd.underlying88 (by kernel_rfl) (by kernel_rfl) v xT w
end Go.Proofs.YtgggnjgcbmpibaaDoor
