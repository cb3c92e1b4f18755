/- errors.Is over any error, at a code. -/
import Derived.Test.YtgggnjgcbmpibaaDoorFaultAlive
import Derived.Lib.IfaceEq
namespace Go.Proofs.YtgggnjgcbmpibaaDoor
open Go.RowKit Go.Extern.Stop Go.Stop Go.Extern

/-- Whether a code is found in an error. -/
def Er.has (c : Int) : Er → Bool
  | .e d => decide (d = c)
  | .f d _ => decide (d = c)
  | .s _ => false
  | .w _ x => x.has c

theorem noIsE (v : Value) (xT : TypeId) (w : World) : (Instr.typeAssert (.iface 31 v) xT 85 true).run Tryd.prog w = .ok (.tuple #[.nilIface, .bool false]) w := run_typeAssert_lacksB Tryd.underlying85 (by kernel_rfl) (by kernel_rfl) v xT w
theorem noIsF (v : Value) (xT : TypeId) (w : World) : (Instr.typeAssert (.iface 40 v) xT 85 true).run Tryd.prog w = .ok (.tuple #[.nilIface, .bool false]) w := run_typeAssert_lacksB Tryd.underlying85 (by kernel_rfl) (by kernel_rfl) v xT w
theorem noIsN (v : Value) (xT : TypeId) (w : World) : (Instr.typeAssert (.iface 61 v) xT 85 true).run Tryd.prog w = .ok (.tuple #[.nilIface, .bool false]) w := run_typeAssert_lacksB Tryd.underlying85 (by kernel_rfl) (by kernel_rfl) v xT w
theorem noIsS (v : Value) (xT : TypeId) (w : World) : (Instr.typeAssert (.iface 57 v) xT 85 true).run Tryd.prog w = .ok (.tuple #[.nilIface, .bool false]) w := run_typeAssert_lacksB Tryd.underlying85 (by kernel_rfl) (by kernel_rfl) v xT w

theorem eqEE (a b : Int) (w : World) : (binOp .eql 28 (.iface 31 (.int .i64 a)) (.iface 31 (.int .i64 b))).run Tryd.prog w = .ok (.bool (a == b)) w :=
  Lib.run_eql_iface_int w a b Tryd.underlying28 (by kernel_rfl) Tryd.underlying31
theorem run_eql_other {P : Program} (w : World) {t tx ty : TypeId} {ms : Array (String × TypeId)} (vx vy : Value) (ht : P.underlying t = some (.interface ms)) (hne : tx ≠ ty) :
    (binOp .eql t (.iface tx vx) (.iface ty vy)).run P w = .ok (.bool false) w := by
  have h : ∀ d : Nat, (Op.equalIn (d + 1) t (.iface tx vx) (.iface ty vy)).run P w = .ok false w := fun d => by
    simp [Op.equalIn, run_underlying ht, hne]
  simp only [binOp]
  simp [Op.equal, Op.maxDepth, h 9999]
theorem eqFE (v u : Value) (w : World) : (binOp .eql 28 (.iface 40 v) (.iface 31 u)).run Tryd.prog w = .ok (.bool false) w := run_eql_other w v u Tryd.underlying28 (by decide)
theorem eqNE (v u : Value) (w : World) : (binOp .eql 28 (.iface 61 v) (.iface 31 u)).run Tryd.prog w = .ok (.bool false) w := run_eql_other w v u Tryd.underlying28 (by decide)
theorem eqSE (v u : Value) (w : World) : (binOp .eql 28 (.iface 57 v) (.iface 31 u)).run Tryd.prog w = .ok (.bool false) w := run_eql_other w v u Tryd.underlying28 (by decide)

set_option maxHeartbeats 8000000 in
theorem loop_is (x : Er) (c : Int) (w : World) :
    Calls Tryd.prog 30 #[x.v, .iface 31 (.int .i64 c), .bool true] w fun ev w' => ev = .returned (.bool (x.has c)) ∧ Below w.heap.size w w' := by
  have nE := noIsE
  have nF := noIsF
  have nN := noIsN
  have nS := noIsS
  have uE := noUnE
  have qE := noUnsE
  have uF := hasUnF
  have uN := hasUnN
  have uS := noUnS
  have qS := noUnsS
  have mF := methodUnwrapF
  have mN := methodUnwrapN
  have e1 := eqEE
  have e2 := eqFE
  have e3 := eqNE
  have e4 := eqSE
  go_enter Tryd.func30, Tryd.ntmps30
  go_wp2_with fail
  go_loopw [0] (fun cc wr => ∃ y : Er, cc = y.v ∧ y.has c = x.has c ∧ Below w.heap.size w wr)
    (fun cc _ => dep cc)
  case atStart => exact ⟨x, rfl, rfl, Below.refl _ _⟩
  case round =>
    obtain ⟨y, rfl, hy, hb⟩ := hrel
    have HY := hide hy
    have HB := hide hb
    clear hy hb
    cases y with
    | e d =>
      simp only [Er.v, Er.tid, Er.dat]
      by_cases h : d = c
      · subst h
        go_wp2
        go_ret
        exact ⟨ret_bool (by rw [← HY.out]; simp [Er.has]), HB.out⟩
      · have q : (d == c) = false := by simp [h]
        have R := hide (show false = x.has c by rw [← HY.out]; simp [Er.has, h])
        clear h
        go_wp2
        go_ret
        exact ⟨ret_bool R.out, HB.out⟩
    | f d n =>
      simp only [Er.v, Er.tid, Er.dat]
      go_wp2
      go_roundw
      case rel => exact ⟨.e d, rfl, HY.out, by repeat (first | exact HB.out | refine bl_alloc ?_ _)⟩
      case measure =>
        show dep (Er.v (.e d)) < dep (Er.v (.f d n))
        rw [dep_v, dep_v]
        simp [Er.depth]
    | s p =>
      have R := hide (show false = x.has c by rw [← HY.out]; rfl)
      simp only [Er.v, Er.tid, Er.dat]
      go_wp2
      go_ret
      exact ⟨ret_bool R.out, HB.out⟩
    | w nm z =>
      simp only [Er.v, Er.tid, Er.dat]
      go_wp2
      go_roundw
      case rel => exact ⟨z, rfl, HY.out, by repeat (first | exact HB.out | refine bl_alloc ?_ _)⟩
      case measure =>
        show dep z.v < dep (Er.v (.w nm z))
        rw [dep_v, dep_v]
        simp [Er.depth]

theorem methodComparable (h : Value) (w : World) : (Go.method 224 83 (.agg #[h]) "Comparable").run Tryd.prog w = .ok (64, .agg #[h]) w := by kernel_rfl
theorem callComparable (w : World) : (callFunc 64 #[.agg #[.pointer (some ⟨1, 31, none⟩)]]).run Tryd.prog w = .ok (.value (.bool true)) w := by kernel_rfl

set_option maxHeartbeats 8000000 in
theorem is_any (x : Er) (c : Int) (w : World) :
    Calls Tryd.prog 22 #[x.v, .iface 31 (.int .i64 c)] w fun ev w' => ev = .returned (.bool (x.has c)) ∧ Below w.heap.size w w' := by
  have h10 := @run_callFunc_extern Tryd.prog 29 _ ReflectliteType.typeOf Tryd.func29 (by kernel_rfl) (by kernel_rfl) (by kernel_rfl) (by kernel_rfl)
  have tE := typeOfE
  have mC := methodComparable
  have cE := callComparable
  have K := hide (loop_is x c)
  unfold Er.v at K ⊢
  go_enter Tryd.func22, Tryd.ntmps22
  go_wp2_with fail
  refine (K.out _).mono ?_
  rintro e w1 ⟨rfl, b1⟩
  go_wp2
  go_ret
  exact ⟨rfl, b1⟩
end Go.Proofs.YtgggnjgcbmpibaaDoor
