/- The loop of errors.As over an error without a code, at the target '*Errno'. -/
import Derived.Test.YtgggnjgcbmpibaaDoorErrLoop
namespace Go.Proofs.YtgggnjgcbmpibaaDoor
open Go.RowKit Go.Extern.Stop Go.Stop Go.Extern

set_option maxHeartbeats 8000000 in
/-- The error has no code. -/
theorem loop_E_no (x : Er) (t sl : Addr) (w : World) (hx : x.code = none) :
    Calls Tryd.prog 34 #[x.v, .iface 62 (.pointer (some t)), .agg #[.pointer (some ⟨1, 62, none⟩), .pointer (some sl), .int .u64 150], .iface 83 (.agg #[.pointer (some ⟨1, 31, none⟩)])] w fun ev w' => ev = .returned (.bool false) ∧ Below w.heap.size w w' := by
  have h10 := @run_callFunc_extern Tryd.prog 29 _ ReflectliteType.typeOf Tryd.func29 (by kernel_rfl) (by kernel_rfl) (by kernel_rfl) (by kernel_rfl)
  have h35 := @run_callFunc_extern Tryd.prog 63 _ (ReflectliteType.relation "AssignableTo" ReflectliteType.assignableTo) Tryd.func63 (by kernel_rfl) (by kernel_rfl) (by kernel_rfl) (by kernel_rfl)
  have mA := methodAssignableTo
  have tS := typeOfS
  have tN := typeOfN
  have aS := assignableSE
  have aN := assignableNE
  have nS := noAsS
  have vS := noUnS
  have qS := noUnsS
  have nN := noAsN
  have uN := hasUnN
  have mN := methodUnwrapN
  go_enter Tryd.func34, Tryd.ntmps34
  go_wp2_with fail
  have hb0 : (w.alloc (.cells #[.pointer (some ⟨1, 62, none⟩), .pointer (some sl), .int .u64 150] 72)).heap[w.heap.size]? = some (.cells #[.pointer (some ⟨1, 62, none⟩), .pointer (some sl), .int .u64 150] 72 (0, 0)) := heap_new_at _ _ rfl
  have bl0 := bl_alloc (Below.refl w.heap.size w) (.cells #[.pointer (some ⟨1, 62, none⟩), .pointer (some sl), .int .u64 150] 72)
  obtain ⟨W0, eW⟩ : ∃ W0, w.alloc (.cells #[.pointer (some ⟨1, 62, none⟩), .pointer (some sl), .int .u64 150] 72) = W0 := ⟨_, rfl⟩
  rw [eW] at hb0 bl0 ⊢
  clear eW
  go_loopw [0] (fun c wr => ∃ y : Er, c = y.v ∧ y.code = none ∧ Below W0.heap.size W0 wr)
    (fun c _ => dep c)
  case atStart => exact ⟨x, rfl, hx, Below.refl _ _⟩
  case round =>
    obtain ⟨y, rfl, hy, hb⟩ := hrel
    have hBl := hide (bl_trans bl0 hb)
    have HB := hide hb
    clear hb hb0 bl0
    cases y with
    | e c => simp [Er.code] at hy
    | f c n => simp [Er.code] at hy
    | s p =>
      simp only [Er.v, Er.tid, Er.dat]
      go_wp2
      go_ret
      exact ⟨rfl, hBl.out⟩
    | w nm z =>
      simp only [Er.v, Er.tid, Er.dat]
      go_wp2
      go_roundw
      case rel => exact ⟨z, rfl, hy, by repeat (first | exact HB.out | refine bl_alloc ?_ _)⟩
      case measure =>
        show dep z.v < dep (Er.v (.w nm z))
        rw [dep_v, dep_v]
        simp [Er.depth]
end Go.Proofs.YtgggnjgcbmpibaaDoor
