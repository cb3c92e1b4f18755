/- The loop of errors.As over any error, at the target '*Fault'. -/
import Derived.Test.YtgggnjgcbmpibaaDoorErrLoop
namespace Go.Proofs.YtgggnjgcbmpibaaDoor
open Go.RowKit Go.Extern.Stop Go.Stop Go.Extern

set_option maxHeartbeats 8000000 in
/-- The error has a fault: it is laid in the target. -/
theorem loop_F (x : Er) (cd at' : Int) (t : Nat) (sl : Addr) (o1 o2 : Value) (w : World) (hx : x.fault = some (cd, at')) (hs : w.cell? sl = some (.pointer (some ⟨t, 0, none⟩))) (ht0 : w.heap[t]? = some (.cells #[o1, o2] 40 (0, 0))) :
    Calls Tryd.prog 34 #[x.v, .iface 54 (.pointer (some ⟨t, 0, none⟩)), .agg #[.pointer (some ⟨1, 54, none⟩), .pointer (some sl), .int .u64 150], .iface 83 (.agg #[.pointer (some ⟨1, 40, none⟩)])] w fun ev w' => ev = .returned (.bool true) ∧ ∃ w1, Below w.heap.size w w1 ∧ w' = (w1.setCell ⟨t, 0, none⟩ (.int .i64 cd)).setCell ⟨t, 1, none⟩ (.int .i64 at') := by
  have h10 := @run_callFunc_extern Tryd.prog 29 _ ReflectliteType.typeOf Tryd.func29 (by kernel_rfl) (by kernel_rfl) (by kernel_rfl) (by kernel_rfl)
  have h35 := @run_callFunc_extern Tryd.prog 63 _ (ReflectliteType.relation "AssignableTo" ReflectliteType.assignableTo) Tryd.func63 (by kernel_rfl) (by kernel_rfl) (by kernel_rfl) (by kernel_rfl)
  have h6 := @run_callFunc_extern Tryd.prog 31 _ (fun args => ReflectliteValue.unpack (args.getD 0 (.tuple #[]))) Tryd.func31 (by kernel_rfl) (by kernel_rfl) (by kernel_rfl) (by kernel_rfl)
  have h11 := @run_callFunc_extern Tryd.prog 35 _ (ReflectliteValue.method (ReflectliteValue.valueError "reflectlite.Value.Elem" 0) ReflectliteValue.elem) Tryd.func35 (by kernel_rfl) (by kernel_rfl) (by kernel_rfl) (by kernel_rfl)
  have h12 := @run_callFunc_extern Tryd.prog 36 _ ReflectliteValue.set Tryd.func36 (by kernel_rfl) (by kernel_rfl) (by kernel_rfl) (by kernel_rfl)
  have mA := methodAssignableTo
  have tF := typeOfF
  have tN := typeOfN
  have aF := assignableFF
  have aN := assignableNF
  have vF := valueOfF
  have nN := noAsN
  have uN := hasUnN
  have mN := methodUnwrapN
  have htl := Blk_lt ht0
  have hsl := World.block_lt_of_cell? _ _ hs
  go_enter Tryd.func34, Tryd.ntmps34
  go_wp2_with fail
  have hb0 : (w.alloc (.cells #[.pointer (some ⟨1, 54, none⟩), .pointer (some sl), .int .u64 150] 72)).heap[w.heap.size]? = some (.cells #[.pointer (some ⟨1, 54, none⟩), .pointer (some sl), .int .u64 150] 72 (0, 0)) := heap_new_at _ _ rfl
  have bl0 := bl_alloc (Below.refl w.heap.size w) (.cells #[.pointer (some ⟨1, 54, none⟩), .pointer (some sl), .int .u64 150] 72)
  obtain ⟨W0, eW⟩ : ∃ W0, w.alloc (.cells #[.pointer (some ⟨1, 54, none⟩), .pointer (some sl), .int .u64 150] 72) = W0 := ⟨_, rfl⟩
  rw [eW] at hb0 bl0 ⊢
  clear eW
  go_loopw [0] (fun c wr => ∃ y : Er, c = y.v ∧ y.fault = some (cd, at') ∧ Below W0.heap.size W0 wr)
    (fun c _ => dep c)
  case atStart => exact ⟨x, rfl, hx, Below.refl _ _⟩
  case round =>
    obtain ⟨y, rfl, hy, hb⟩ := hrel
    have hr := row_kept' hb hb0
    obtain ⟨k0, k1, k2⟩ := cells_three hr
    have hlt := Blk_lt hr
    have hBl := bl_trans bl0 hb
    have hs' := (hBl.cell (p := sl) hsl).trans hs
    have ht' := row_kept' hBl ht0
    have htl' := Blk_lt ht'
    have HB := hide hb
    clear hr hb hb0 bl0
    cases y with
    | e c => simp [Er.fault] at hy
    | f c n =>
      obtain ⟨rfl, rfl⟩ : c = cd ∧ n = at' := by simpa [Er.fault] using hy
      have el := elemVPF sl ⟨t, 0, none⟩ wr hs'
      have st := setF t wr.heap.size c n o1 o2 (wr.alloc (.cells #[.int .i64 c, .int .i64 n] 40)) (heap_new_at _ _ rfl) (heap_old_at _ _ htl' ht')
      clear htl' ht' htl ht0
      simp only [Er.v, Er.tid, Er.dat]
      go_wp2
      go_ret
      exact ⟨rfl, _, bl_alloc hBl _, rfl⟩
    | s p => simp [Er.fault] at hy
    | w nm z =>
      simp only [Er.v, Er.tid, Er.dat]
      go_wp2
      go_roundw
      case rel => exact ⟨z, rfl, hy, by repeat (first | exact HB.out | refine bl_alloc ?_ _)⟩
      case measure =>
        show dep z.v < dep (Er.v (.w nm z))
        rw [dep_v, dep_v]
        simp [Er.depth]
set_option maxHeartbeats 8000000 in
/-- The error has no fault. -/
theorem loop_F_no (x : Er) (t sl : Addr) (w : World) (hx : x.fault = none) :
    Calls Tryd.prog 34 #[x.v, .iface 54 (.pointer (some t)), .agg #[.pointer (some ⟨1, 54, none⟩), .pointer (some sl), .int .u64 150], .iface 83 (.agg #[.pointer (some ⟨1, 40, none⟩)])] w fun ev w' => ev = .returned (.bool false) ∧ Below w.heap.size w w' := by
  have h10 := @run_callFunc_extern Tryd.prog 29 _ ReflectliteType.typeOf Tryd.func29 (by kernel_rfl) (by kernel_rfl) (by kernel_rfl) (by kernel_rfl)
  have h35 := @run_callFunc_extern Tryd.prog 63 _ (ReflectliteType.relation "AssignableTo" ReflectliteType.assignableTo) Tryd.func63 (by kernel_rfl) (by kernel_rfl) (by kernel_rfl) (by kernel_rfl)
  have mA := methodAssignableTo
  have tS := typeOfS
  have tN := typeOfN
  have aS := assignableSF
  have tE := typeOfE
  have aE := assignableEF
  have nE := noAsE
  have vE := noUnE
  have qE := noUnsE
  have aN := assignableNF
  have nS := noAsS
  have vS := noUnS
  have qS := noUnsS
  have nN := noAsN
  have uN := hasUnN
  have mN := methodUnwrapN
  go_enter Tryd.func34, Tryd.ntmps34
  go_wp2_with fail
  have hb0 : (w.alloc (.cells #[.pointer (some ⟨1, 54, none⟩), .pointer (some sl), .int .u64 150] 72)).heap[w.heap.size]? = some (.cells #[.pointer (some ⟨1, 54, none⟩), .pointer (some sl), .int .u64 150] 72 (0, 0)) := heap_new_at _ _ rfl
  have bl0 := bl_alloc (Below.refl w.heap.size w) (.cells #[.pointer (some ⟨1, 54, none⟩), .pointer (some sl), .int .u64 150] 72)
  obtain ⟨W0, eW⟩ : ∃ W0, w.alloc (.cells #[.pointer (some ⟨1, 54, none⟩), .pointer (some sl), .int .u64 150] 72) = W0 := ⟨_, rfl⟩
  rw [eW] at hb0 bl0 ⊢
  clear eW
  go_loopw [0] (fun c wr => ∃ y : Er, c = y.v ∧ y.fault = none ∧ Below W0.heap.size W0 wr)
    (fun c _ => dep c)
  case atStart => exact ⟨x, rfl, hx, Below.refl _ _⟩
  case round =>
    obtain ⟨y, rfl, hy, hb⟩ := hrel
    have hBl := hide (bl_trans bl0 hb)
    have HB := hide hb
    clear hb hb0 bl0
    cases y with
    | e c =>
      simp only [Er.v, Er.tid, Er.dat]
      go_wp2
      go_ret
      exact ⟨rfl, hBl.out⟩
    | f c n => simp [Er.fault] at hy
    | s p =>
      simp only [Er.v, Er.tid, Er.dat]
      go_wp2
      go_ret
      exact ⟨rfl, hBl.out⟩
    | w nm z =>
      simp only [Er.v, Er.tid, Er.dat]
      go_wp2
      go_roundw
      case rel => exact ⟨z, rfl, hy, by repeat (first | exact HB.out | refine bl_alloc ?_ _)⟩
      case measure =>
        show dep z.v < dep (Er.v (.w nm z))
        rw [dep_v, dep_v]
        simp [Er.depth]
end Go.Proofs.YtgggnjgcbmpibaaDoor
