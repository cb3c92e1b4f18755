/- errors.As at the target '*Errno' over a Fault; fault.Code over a Fault. -/
import Derived.Test.YtjdlcdfnagbblaaDoorErrFault
namespace Go.Proofs.YtjdlcdfnagbblaaDoor
open Go.RowKit Go.Extern.Stop Go.Stop Go.Extern

set_option maxHeartbeats 8000000 in
theorem as_FE (c n : Int) (t : Addr) (old : Value) (w : World) (hg : Laid w) (ht0 : w.cell? t = some old) (hf0 : w.frozen? t = false) :
    Calls Tryd.prog 25 #[.iface 54 (.agg #[.int .i64 c, .int .i64 n]), .iface 52 (.pointer (some t))] w fun ev w' => ev = .returned (.bool true) ∧ ∃ w1, Below w.heap.size w w1 ∧ w' = w1.setCell t (.int .i64 c) := by
  have h6 := @run_callFunc_extern Tryd.prog 27 _ (fun args => ReflectliteValue.unpack (args.getD 0 (.tuple #[]))) Tryd.func27 (by kernel_rfl) (by kernel_rfl) (by kernel_rfl) (by kernel_rfl)
  have h7 := @run_callFunc_extern Tryd.prog 28 _ (ReflectliteValue.methodAny (ReflectliteValue.valueError "reflectlite.Value.Type" 0) (fun t _ _ _ => ReflectliteType.toType t)) Tryd.func28 (by kernel_rfl) (by kernel_rfl) (by kernel_rfl) (by kernel_rfl)
  have h8 := @run_callFunc_extern Tryd.prog 29 _ (ReflectliteValue.method (ReflectliteValue.valueError "reflectlite.Value.IsNil" 0) ReflectliteValue.isNil) Tryd.func29 (by kernel_rfl) (by kernel_rfl) (by kernel_rfl) (by kernel_rfl)
  have h27 := @run_callFunc_extern Tryd.prog 48 _ (ReflectliteType.abiMethod fun t => do pure (.int .u8 (← Rtype.kind t))) Tryd.func48 (by kernel_rfl) (by kernel_rfl) (by kernel_rfl) (by kernel_rfl)
  have h37 := @run_callFunc_extern Tryd.prog 60 _ (ReflectliteType.method ReflectliteType.elem) Tryd.func60 (by kernel_rfl) (by kernel_rfl) (by kernel_rfl) (by kernel_rfl)
  have h38 := @run_callFunc_extern Tryd.prog 61 _ (ReflectliteType.relation "Implements" ReflectliteType.implements_) Tryd.func61 (by kernel_rfl) (by kernel_rfl) (by kernel_rfl) (by kernel_rfl)
  have h10 := @run_callFunc_extern Tryd.prog 31 _ ReflectliteType.typeOf Tryd.func31 (by kernel_rfl) (by kernel_rfl) (by kernel_rfl) (by kernel_rfl)
  have h35 := @run_callFunc_extern Tryd.prog 58 _ (ReflectliteType.relation "AssignableTo" ReflectliteType.assignableTo) Tryd.func58 (by kernel_rfl) (by kernel_rfl) (by kernel_rfl) (by kernel_rfl)
  have h11 := @run_callFunc_extern Tryd.prog 32 _ (ReflectliteValue.method (ReflectliteValue.valueError "reflectlite.Value.Elem" 0) ReflectliteValue.elem) Tryd.func32 (by kernel_rfl) (by kernel_rfl) (by kernel_rfl) (by kernel_rfl)
  have h12 := @run_callFunc_extern Tryd.prog 33 _ ReflectliteValue.set Tryd.func33 (by kernel_rfl) (by kernel_rfl) (by kernel_rfl) (by kernel_rfl)
  have mA := methodAssignableTo
  have mK := methodKind
  have mE := methodElem
  have mI := methodImplements
  have f6 := valueOfPE
  have f7 := typePE
  have kP := kindPE
  have kT := kindE
  have eP := elemTPE
  have iT := implementsE
  have n8 := isNilPE ⟨w.heap.size, 0, none⟩ t ((w.alloc (.cells #[.pointer (some t)] 52)).alloc (.cells #[.pointer (some ⟨1, 52, none⟩), .pointer (some ⟨w.heap.size, 0, none⟩), .int .u64 150] 60)) (by simp)
  have hg2 : ((w.alloc (.cells #[.pointer (some t)] 52)).alloc (.cells #[.pointer (some ⟨1, 52, none⟩), .pointer (some ⟨w.heap.size, 0, none⟩), .int .u64 150] 60)).cell? ⟨0, 0, none⟩ = some (.iface 71 (.agg #[.pointer (some ⟨1, 30, none⟩)])) := (hg.alloc _).alloc _
  have tO := typeOfE
  have tF := typeOfF
  have aT := assignableFE
  have aE := assignableEE
  have vE := valueOfE
  have nA := noAsF
  have nU := hasUnF
  have mU := methodUnwrapF
  have htl : t.block < w.heap.size := by
    rcases Nat.lt_or_ge t.block w.heap.size with h | h
    · exact h
    · simp [World.cell?, Array.getElem?_eq_none h] at ht0
  have el := elemVPE ⟨w.heap.size, 0, none⟩ t ((((w.alloc (.cells #[.pointer (some t)] 52)).alloc (.cells #[.pointer (some ⟨1, 52, none⟩), .pointer (some ⟨w.heap.size, 0, none⟩), .int .u64 150] 60)).alloc (.cells #[.pointer (some ⟨1, 52, none⟩), .pointer (some ⟨w.heap.size, 0, none⟩), .int .u64 150] 60)).alloc (.cells #[.int .i64 c, .int .i64 n] 54)) (by rw [World.cell?_alloc_lt _ _ ⟨w.heap.size, 0, none⟩ (by simp; omega), World.cell?_alloc_lt _ _ ⟨w.heap.size, 0, none⟩ (by simp; omega)]; simp)
  have st := setE t ⟨w.heap.size + 1 + 1 + 1 + 1, 0, none⟩ c old (((((w.alloc (.cells #[.pointer (some t)] 52)).alloc (.cells #[.pointer (some ⟨1, 52, none⟩), .pointer (some ⟨w.heap.size, 0, none⟩), .int .u64 150] 60)).alloc (.cells #[.pointer (some ⟨1, 52, none⟩), .pointer (some ⟨w.heap.size, 0, none⟩), .int .u64 150] 60)).alloc (.cells #[.int .i64 c, .int .i64 n] 54)).alloc (.cells #[.int .i64 c] 45))
    (by rw [World.cell?_alloc_at _ _ _ _ (by simp)]; rfl)
    (by rw [World.cell?_alloc_lt _ _ t (by simp; omega), World.cell?_alloc_lt _ _ t (by simp; omega), World.cell?_alloc_lt _ _ t (by simp; omega), World.cell?_alloc_lt _ _ t (by simp; omega), World.cell?_alloc_lt _ _ t htl]; exact ht0)
    (by rw [World.frozen?_alloc_old _ _ t (by simp; omega), World.frozen?_alloc_old _ _ t (by simp; omega), World.frozen?_alloc_old _ _ t (by simp; omega), World.frozen?_alloc_old _ _ t (by simp; omega), World.frozen?_alloc_old _ _ t (Nat.ne_of_lt htl)]; exact hf0)
  clear hg ht0 hf0
  go_enter Tryd.func25, Tryd.ntmps25
  go_wp2
  refine wp_loop_rounds 2 ?_
  rw [rounds_succ]
  go_wp2
  rw [rounds_succ]
  go_wp2
  go_ret
  exact ⟨rfl, _, bl_alloc (bl_alloc (bl_alloc (bl_alloc (bl_alloc (Below.refl _ _) _) _) _) _) _, rfl⟩
theorem code_F (c n : Int) (w : World) (hg : Laid w) :
    Calls Tryd.prog 21 #[.iface 54 (.agg #[.int .i64 c, .int .i64 n])] w fun e w' => e = .returned (.int .i64 c) ∧ Below w.heap.size w w' := by
  have HA := hide (as_FE c n ⟨w.heap.size, 0, none⟩ (.int .i64 0) (w.alloc (.cells #[.int .i64 0] 45)) (hg.alloc _) (by simp) (by simp))
  clear hg
  go_enter Tryd.func21, Tryd.ntmps21
  go_wp2_with fail
  refine HA.out.mono ?_
  rintro e w' ⟨rfl, w1, b1, rfl⟩
  have hr : w1.heap[w.heap.size]? = some (.cells #[.int .i64 0] 45 (0, 0)) := (b1.block _ (by simp)).trans (heap_new_at _ _ rfl)
  have k0 : (w1.setCell ⟨w.heap.size, 0, none⟩ (.int .i64 c)).cell? ⟨w.heap.size, 0, none⟩ = some (.int .i64 c) := by
    have := heap_setCell_same _ _ 0 _ _ (.int .i64 c) hr
    simp [World.cell?, this]
  have B := hide (bl_set (bl_trans (bl_alloc (Below.refl w.heap.size w) (.cells #[.int .i64 0] 45)) b1) (p := ⟨w.heap.size, 0, none⟩) (Nat.le_refl _) (.int .i64 c))
  clear b1 hr
  obtain ⟨w2, e2⟩ : ∃ w2, w1.setCell ⟨w.heap.size, 0, none⟩ (.int .i64 c) = w2 := ⟨_, rfl⟩
  rw [e2] at k0 B ⊢
  clear e2
  go_wp2
  go_ret
  exact ⟨rfl, B.out⟩
end Go.Proofs.YtjdlcdfnagbblaaDoor
