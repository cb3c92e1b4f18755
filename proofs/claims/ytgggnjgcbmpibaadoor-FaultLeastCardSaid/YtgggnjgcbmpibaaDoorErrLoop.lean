/- The loop of errors.As over any error, at the target '*Errno'. -/
import Derived.Test.YtgggnjgcbmpibaaDoorErr
namespace Go.Proofs.YtgggnjgcbmpibaaDoor
open Go.RowKit Go.Extern.Stop Go.Stop Go.Extern

theorem row_kept' {X Y : World} {b : Nat} {o : Obj} (hb : Below X.heap.size X Y) (h : X.heap[b]? = some o) : Y.heap[b]? = some o := (hb.block _ (Blk_lt h)).trans h
theorem cells_three {w : World} {b : Nat} {x y z : Value} {t : TypeId} (h : w.heap[b]? = some (.cells #[x, y, z] t (0, 0))) :
    w.cell? ⟨b, 0, none⟩ = some x ∧ w.cell? ⟨b, 1, none⟩ = some y ∧ w.cell? ⟨b, 2, none⟩ = some z :=
  ⟨by simp [World.cell?, h], by simp [World.cell?, h], by simp [World.cell?, h]⟩

set_option maxHeartbeats 8000000 in
/-- The error has a code: it is laid in the target. -/
theorem loop_E (x : Er) (cd : Int) (t sl : Addr) (old : Value) (w : World) (hx : x.code = some cd) (hs : w.cell? sl = some (.pointer (some t))) (ht0 : w.cell? t = some old) (hf0 : w.frozen? t = false) :
    Calls Tryd.prog 34 #[x.v, .iface 62 (.pointer (some t)), .agg #[.pointer (some ⟨1, 62, none⟩), .pointer (some sl), .int .u64 150], .iface 83 (.agg #[.pointer (some ⟨1, 31, none⟩)])] w fun ev w' => ev = .returned (.bool true) ∧ ∃ w1, Below w.heap.size w w1 ∧ w' = w1.setCell t (.int .i64 cd) := by
  have h10 := @run_callFunc_extern Tryd.prog 29 _ ReflectliteType.typeOf Tryd.func29 (by kernel_rfl) (by kernel_rfl) (by kernel_rfl) (by kernel_rfl)
  have h35 := @run_callFunc_extern Tryd.prog 63 _ (ReflectliteType.relation "AssignableTo" ReflectliteType.assignableTo) Tryd.func63 (by kernel_rfl) (by kernel_rfl) (by kernel_rfl) (by kernel_rfl)
  have h6 := @run_callFunc_extern Tryd.prog 31 _ (fun args => ReflectliteValue.unpack (args.getD 0 (.tuple #[]))) Tryd.func31 (by kernel_rfl) (by kernel_rfl) (by kernel_rfl) (by kernel_rfl)
  have h11 := @run_callFunc_extern Tryd.prog 35 _ (ReflectliteValue.method (ReflectliteValue.valueError "reflectlite.Value.Elem" 0) ReflectliteValue.elem) Tryd.func35 (by kernel_rfl) (by kernel_rfl) (by kernel_rfl) (by kernel_rfl)
  have h12 := @run_callFunc_extern Tryd.prog 36 _ ReflectliteValue.set Tryd.func36 (by kernel_rfl) (by kernel_rfl) (by kernel_rfl) (by kernel_rfl)
  have mA := methodAssignableTo
  have tE := typeOfE
  have tF := typeOfF
  have tN := typeOfN
  have aE := assignableEE
  have aF := assignableFE
  have aN := assignableNE
  have vE := valueOfE
  have nF := noAsF
  have nN := noAsN
  have uF := hasUnF
  have uN := hasUnN
  have mF := methodUnwrapF
  have mN := methodUnwrapN
  have htl := World.block_lt_of_cell? _ _ ht0
  have hsl := World.block_lt_of_cell? _ _ hs
  go_enter Tryd.func34, Tryd.ntmps34
  go_wp2_with fail
  have hb0 : (w.alloc (.cells #[.pointer (some ⟨1, 62, none⟩), .pointer (some sl), .int .u64 150] 72)).heap[w.heap.size]? = some (.cells #[.pointer (some ⟨1, 62, none⟩), .pointer (some sl), .int .u64 150] 72 (0, 0)) := heap_new_at _ _ rfl
  have bl0 := bl_alloc (Below.refl w.heap.size w) (.cells #[.pointer (some ⟨1, 62, none⟩), .pointer (some sl), .int .u64 150] 72)
  obtain ⟨W0, eW⟩ : ∃ W0, w.alloc (.cells #[.pointer (some ⟨1, 62, none⟩), .pointer (some sl), .int .u64 150] 72) = W0 := ⟨_, rfl⟩
  rw [eW] at hb0 bl0 ⊢
  clear eW
  go_loopw [0] (fun c wr => ∃ y : Er, c = y.v ∧ y.code = some cd ∧ Below W0.heap.size W0 wr)
    (fun c _ => dep c)
  case atStart => exact ⟨x, rfl, hx, Below.refl _ _⟩
  case round =>
    obtain ⟨y, rfl, hy, hb⟩ := hrel
    have hr := row_kept' hb hb0
    obtain ⟨k0, k1, k2⟩ := cells_three hr
    have hlt := Blk_lt hr
    have hBl := bl_trans bl0 hb
    have hs' := (hBl.cell (p := sl) hsl).trans hs
    have ht' := (hBl.cell (p := t) htl).trans ht0
    have hf' := (hBl.frozen (p := t) htl).trans hf0
    have htl' := keep_lt hBl htl
    have HB := hide hb
    clear hr hb hb0 bl0
    cases y with
    | e c =>
      obtain rfl : c = cd := by simpa [Er.code] using hy
      have el := elemVPE sl t wr hs'
      have st := setE t ⟨wr.heap.size, 0, none⟩ c old (wr.alloc (.cells #[.int .i64 c] 31)) (by simp) (by rw [World.cell?_alloc_lt _ _ t htl']; exact ht') (by rw [World.frozen?_alloc_old _ _ t (Nat.ne_of_lt htl')]; exact hf')
      simp only [Er.v, Er.tid, Er.dat]
      go_wp2
      go_ret
      exact ⟨rfl, _, bl_alloc hBl _, rfl⟩
    | f c n =>
      simp only [Er.v, Er.tid, Er.dat]
      go_wp2
      go_roundw
      case rel => exact ⟨.e c, rfl, hy, by repeat (first | exact HB.out | refine bl_alloc ?_ _)⟩
      case measure =>
        show dep (Er.v (.e c)) < dep (Er.v (.f c n))
        rw [dep_v, dep_v]
        simp [Er.depth]
    | s p => simp [Er.code] at hy
    | w nm z =>
      simp only [Er.v, Er.tid, Er.dat]
      go_wp2
      go_roundw
      case rel => exact ⟨z, rfl, hy, by repeat (first | exact HB.out | refine bl_alloc ?_ _)⟩
      case measure =>
        show dep z.v < dep (Er.v (.w nm z))
        rw [dep_v, dep_v]
        simp [Er.depth]
end Go.Proofs.YtgggnjgcbmpibaaDoor
