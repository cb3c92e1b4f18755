/- errors.As at the targets '*Fault' and '*Errno' over an Errno and over a Fault; fault.find, fault.At, fault.Code. -/
import Derived.Test.YtbphphmjhcehkaaDoorErrFault
namespace Go.Proofs.YtbphphmjhcehkaaDoor
open Go.RowKit Go.Extern.Stop Go.Stop Go.Extern

set_option maxHeartbeats 4000000 in
theorem as_EF (c : Int) (t : Addr) (w : World) (hg : Laid w) :
    Calls Tryd.prog 34 #[.iface 44 (.int .i64 c), .iface 126 (.pointer (some t))] w fun ev w' => ev = .returned (.bool false) ∧ Below w.heap.size w w' := by
  have h6 := @run_callFunc_extern Tryd.prog 57 _ (fun args => ReflectliteValue.unpack (args.getD 0 (.tuple #[]))) Tryd.func57 (by kernel_rfl) (by kernel_rfl) (by kernel_rfl) (by kernel_rfl)
  have h7 := @run_callFunc_extern Tryd.prog 58 _ (ReflectliteValue.methodAny (ReflectliteValue.valueError "reflectlite.Value.Type" 0) (fun t _ _ _ => ReflectliteType.toType t)) Tryd.func58 (by kernel_rfl) (by kernel_rfl) (by kernel_rfl) (by kernel_rfl)
  have h8 := @run_callFunc_extern Tryd.prog 59 _ (ReflectliteValue.method (ReflectliteValue.valueError "reflectlite.Value.IsNil" 0) ReflectliteValue.isNil) Tryd.func59 (by kernel_rfl) (by kernel_rfl) (by kernel_rfl) (by kernel_rfl)
  have h27 := @run_callFunc_extern Tryd.prog 121 _ (ReflectliteType.abiMethod fun t => do pure (.int .u8 (← Rtype.kind t))) Tryd.func121 (by kernel_rfl) (by kernel_rfl) (by kernel_rfl) (by kernel_rfl)
  have h37 := @run_callFunc_extern Tryd.prog 134 _ (ReflectliteType.method ReflectliteType.elem) Tryd.func134 (by kernel_rfl) (by kernel_rfl) (by kernel_rfl) (by kernel_rfl)
  have h38 := @run_callFunc_extern Tryd.prog 135 _ (ReflectliteType.relation "Implements" ReflectliteType.implements_) Tryd.func135 (by kernel_rfl) (by kernel_rfl) (by kernel_rfl) (by kernel_rfl)
  have h10 := @run_callFunc_extern Tryd.prog 74 _ ReflectliteType.typeOf Tryd.func74 (by kernel_rfl) (by kernel_rfl) (by kernel_rfl) (by kernel_rfl)
  have h35 := @run_callFunc_extern Tryd.prog 132 _ (ReflectliteType.relation "AssignableTo" ReflectliteType.assignableTo) Tryd.func132 (by kernel_rfl) (by kernel_rfl) (by kernel_rfl) (by kernel_rfl)
  have h11 := @run_callFunc_extern Tryd.prog 75 _ (ReflectliteValue.method (ReflectliteValue.valueError "reflectlite.Value.Elem" 0) ReflectliteValue.elem) Tryd.func75 (by kernel_rfl) (by kernel_rfl) (by kernel_rfl) (by kernel_rfl)
  have h12 := @run_callFunc_extern Tryd.prog 76 _ ReflectliteValue.set Tryd.func76 (by kernel_rfl) (by kernel_rfl) (by kernel_rfl) (by kernel_rfl)
  have mA := methodAssignableTo
  have mK := methodKind
  have mE := methodElem
  have mI := methodImplements
  have f6 := valueOfPF
  have f7 := typePF
  have kP := kindPF
  have kT := kindF
  have eP := elemTPF
  have iT := implementsF
  have n8 := isNilPF ⟨w.heap.size, 0, none⟩ t ((w.alloc (.cells #[.pointer (some t)] 126)).alloc (.cells #[.pointer (some ⟨1, 126, none⟩), .pointer (some ⟨w.heap.size, 0, none⟩), .int .u64 150] 112)) (by simp)
  have hg2 : ((w.alloc (.cells #[.pointer (some t)] 126)).alloc (.cells #[.pointer (some ⟨1, 126, none⟩), .pointer (some ⟨w.heap.size, 0, none⟩), .int .u64 150] 112)).cell? ⟨0, 0, none⟩ = some (.iface 137 (.agg #[.pointer (some ⟨1, 32, none⟩)])) := (hg.alloc _).alloc _
  have tO := typeOfE
  have aT := assignableEF
  have nA := noAsE
  have nU := noUnE
  have nS := noUnsE
  clear hg
  go_enter Tryd.func34, Tryd.ntmps34
  go_wp2
  refine wp_loop_rounds 1 ?_
  rw [rounds_succ]
  go_wp2
  go_ret
  exact ⟨rfl, bl_alloc (bl_alloc (bl_alloc (Below.refl _ _) _) _) _⟩

set_option maxHeartbeats 4000000 in
theorem as_FF (c n : Int) (ta : Nat) (o1 o2 : Value) (w : World) (hg : Laid w) (ht : w.heap[ta]? = some (.cells #[o1, o2] 85 (0, 0))) :
    Calls Tryd.prog 34 #[.iface 85 (.agg #[.int .i64 c, .int .i64 n]), .iface 126 (.pointer (some ⟨ta, 0, none⟩))] w fun ev w' => ev = .returned (.bool true) ∧ ∃ w1, Below w.heap.size w w1 ∧ w' = (w1.setCell ⟨ta, 0, none⟩ (.int .i64 c)).setCell ⟨ta, 1, none⟩ (.int .i64 n) := by
  have h6 := @run_callFunc_extern Tryd.prog 57 _ (fun args => ReflectliteValue.unpack (args.getD 0 (.tuple #[]))) Tryd.func57 (by kernel_rfl) (by kernel_rfl) (by kernel_rfl) (by kernel_rfl)
  have h7 := @run_callFunc_extern Tryd.prog 58 _ (ReflectliteValue.methodAny (ReflectliteValue.valueError "reflectlite.Value.Type" 0) (fun t _ _ _ => ReflectliteType.toType t)) Tryd.func58 (by kernel_rfl) (by kernel_rfl) (by kernel_rfl) (by kernel_rfl)
  have h8 := @run_callFunc_extern Tryd.prog 59 _ (ReflectliteValue.method (ReflectliteValue.valueError "reflectlite.Value.IsNil" 0) ReflectliteValue.isNil) Tryd.func59 (by kernel_rfl) (by kernel_rfl) (by kernel_rfl) (by kernel_rfl)
  have h27 := @run_callFunc_extern Tryd.prog 121 _ (ReflectliteType.abiMethod fun t => do pure (.int .u8 (← Rtype.kind t))) Tryd.func121 (by kernel_rfl) (by kernel_rfl) (by kernel_rfl) (by kernel_rfl)
  have h37 := @run_callFunc_extern Tryd.prog 134 _ (ReflectliteType.method ReflectliteType.elem) Tryd.func134 (by kernel_rfl) (by kernel_rfl) (by kernel_rfl) (by kernel_rfl)
  have h38 := @run_callFunc_extern Tryd.prog 135 _ (ReflectliteType.relation "Implements" ReflectliteType.implements_) Tryd.func135 (by kernel_rfl) (by kernel_rfl) (by kernel_rfl) (by kernel_rfl)
  have h10 := @run_callFunc_extern Tryd.prog 74 _ ReflectliteType.typeOf Tryd.func74 (by kernel_rfl) (by kernel_rfl) (by kernel_rfl) (by kernel_rfl)
  have h35 := @run_callFunc_extern Tryd.prog 132 _ (ReflectliteType.relation "AssignableTo" ReflectliteType.assignableTo) Tryd.func132 (by kernel_rfl) (by kernel_rfl) (by kernel_rfl) (by kernel_rfl)
  have h11 := @run_callFunc_extern Tryd.prog 75 _ (ReflectliteValue.method (ReflectliteValue.valueError "reflectlite.Value.Elem" 0) ReflectliteValue.elem) Tryd.func75 (by kernel_rfl) (by kernel_rfl) (by kernel_rfl) (by kernel_rfl)
  have h12 := @run_callFunc_extern Tryd.prog 76 _ ReflectliteValue.set Tryd.func76 (by kernel_rfl) (by kernel_rfl) (by kernel_rfl) (by kernel_rfl)
  have mA := methodAssignableTo
  have mK := methodKind
  have mE := methodElem
  have mI := methodImplements
  have f6 := valueOfPF
  have f7 := typePF
  have kP := kindPF
  have kT := kindF
  have eP := elemTPF
  have iT := implementsF
  have n8 := isNilPF ⟨w.heap.size, 0, none⟩ ⟨ta, 0, none⟩ ((w.alloc (.cells #[.pointer (some ⟨ta, 0, none⟩)] 126)).alloc (.cells #[.pointer (some ⟨1, 126, none⟩), .pointer (some ⟨w.heap.size, 0, none⟩), .int .u64 150] 112)) (by simp)
  have hg2 : ((w.alloc (.cells #[.pointer (some ⟨ta, 0, none⟩)] 126)).alloc (.cells #[.pointer (some ⟨1, 126, none⟩), .pointer (some ⟨w.heap.size, 0, none⟩), .int .u64 150] 112)).cell? ⟨0, 0, none⟩ = some (.iface 137 (.agg #[.pointer (some ⟨1, 32, none⟩)])) := (hg.alloc _).alloc _
  have tO := typeOfF
  have aT := assignableFF
  have vF := valueOfF
  have htl := Blk_lt ht
  have el := elemVPF ⟨w.heap.size, 0, none⟩ ⟨ta, 0, none⟩ (((w.alloc (.cells #[.pointer (some ⟨ta, 0, none⟩)] 126)).alloc (.cells #[.pointer (some ⟨1, 126, none⟩), .pointer (some ⟨w.heap.size, 0, none⟩), .int .u64 150] 112)).alloc (.cells #[.pointer (some ⟨1, 126, none⟩), .pointer (some ⟨w.heap.size, 0, none⟩), .int .u64 150] 112)) (by rw [World.cell?_alloc_lt _ _ ⟨w.heap.size, 0, none⟩ (by simp; omega)]; simp)
  have st := setF ta (w.heap.size + 1 + 1 + 1) c n o1 o2 ((((w.alloc (.cells #[.pointer (some ⟨ta, 0, none⟩)] 126)).alloc (.cells #[.pointer (some ⟨1, 126, none⟩), .pointer (some ⟨w.heap.size, 0, none⟩), .int .u64 150] 112)).alloc (.cells #[.pointer (some ⟨1, 126, none⟩), .pointer (some ⟨w.heap.size, 0, none⟩), .int .u64 150] 112)).alloc (.cells #[.int .i64 c, .int .i64 n] 85)) (heap_new_at _ _ (by simp)) (heap_old_at _ _ (by simp; omega) (heap_old_at _ _ (by simp; omega) (heap_old_at _ _ (by simp; omega) (heap_old_at _ _ htl ht))))
  clear hg ht
  go_enter Tryd.func34, Tryd.ntmps34
  go_wp2
  refine wp_loop_rounds 1 ?_
  rw [rounds_succ]
  go_wp2
  go_ret
  exact ⟨rfl, _, bl_alloc (bl_alloc (bl_alloc (bl_alloc (Below.refl _ _) _) _) _) _, rfl⟩

theorem find_nil (w : World) :
    Calls Tryd.prog 41 #[.nilIface] w fun e w' => e = .returned (.tuple #[.agg #[.int .i64 0, .int .i64 0], .bool false]) ∧ Below w.heap.size w w' := by
  go_enter Tryd.func41, Tryd.ntmps41
  go_wp2_with fail
  refine (as_nil _ _).mono ?_
  rintro e w' ⟨rfl, rfl⟩
  go_wp2
  exact bodyPost_ret (v := .tuple #[.agg #[.int .i64 0, .int .i64 0], .bool false]) (by simp [results, Tryd.results41, go_sem]) rfl ⟨rfl, bl_alloc (bl_alloc (Below.refl _ _) _) _⟩
theorem find_E (c : Int) (w : World) (hg : Laid w) :
    Calls Tryd.prog 41 #[.iface 44 (.int .i64 c)] w fun e w' => e = .returned (.tuple #[.agg #[.int .i64 0, .int .i64 0], .bool false]) ∧ Below w.heap.size w w' := by
  have HA := hide (as_EF c ⟨w.heap.size + 1, 0, none⟩ ((w.alloc (.cells #[.int .i64 0, .int .i64 0] 85)).alloc (.cells #[.int .i64 0, .int .i64 0] 85)) ((hg.alloc _).alloc _))
  clear hg
  go_enter Tryd.func41, Tryd.ntmps41
  go_wp2_with fail
  refine HA.out.mono ?_
  rintro e w' ⟨rfl, b1⟩
  have r0 : w'.heap[w.heap.size]? = some (.cells #[.int .i64 0, .int .i64 0] 85 (0, 0)) := (b1.block _ (by simp; omega)).trans (heap_old_at _ _ (by simp) (heap_new_at _ _ rfl))
  have r1 : w'.heap[w.heap.size + 1]? = some (.cells #[.int .i64 0, .int .i64 0] 85 (0, 0)) := (b1.block _ (by simp)).trans (heap_new_at _ _ (by simp))
  have k0 : w'.cell? ⟨w.heap.size + 1, 0, none⟩ = some (.int .i64 0) := by simp [World.cell?, r1]
  have k1 : w'.cell? ⟨w.heap.size + 1, 1, none⟩ = some (.int .i64 0) := by simp [World.cell?, r1]
  have m0 : w'.cell? ⟨w.heap.size, 0, none⟩ = some (.int .i64 0) := by simp [World.cell?, r0]
  have m1 : w'.cell? ⟨w.heap.size, 1, none⟩ = some (.int .i64 0) := by simp [World.cell?, r0]
  have f0 : ∀ j, w'.frozen? ⟨w.heap.size, j, none⟩ = false := by intro j; simp [World.frozen?, r0]
  have hb := bl_trans (bl_alloc (bl_alloc (Below.refl w.heap.size w) _) _) b1
  have e0 := heap_setCell_same _ _ 1 _ _ (.int .i64 0) (heap_setCell_same _ _ 0 _ _ (.int .i64 0) r0)
  clear b1 r0 r1
  go_wp2
  exact bodyPost_ret (v := .tuple #[.agg #[.int .i64 0, .int .i64 0], .bool false]) (by simp [results, Tryd.results41, go_sem, World.cell?, e0]) rfl ⟨rfl, bl_set (bl_set hb (p := ⟨w.heap.size, 0, none⟩) (Nat.le_refl _) _) (p := ⟨w.heap.size, 1, none⟩) (Nat.le_refl _) _⟩
theorem find_F (c n : Int) (w : World) (hg : Laid w) :
    Calls Tryd.prog 41 #[.iface 85 (.agg #[.int .i64 c, .int .i64 n])] w fun e w' => e = .returned (.tuple #[.agg #[.int .i64 c, .int .i64 n], .bool true]) ∧ Below w.heap.size w w' := by
  have HA := hide (as_FF c n (w.heap.size + 1) (.int .i64 0) (.int .i64 0) ((w.alloc (.cells #[.int .i64 0, .int .i64 0] 85)).alloc (.cells #[.int .i64 0, .int .i64 0] 85)) ((hg.alloc _).alloc _) (heap_new_at _ _ (by simp)))
  clear hg
  go_enter Tryd.func41, Tryd.ntmps41
  go_wp2_with fail
  refine HA.out.mono ?_
  rintro e w' ⟨rfl, w1, b1, rfl⟩
  have r0 : w1.heap[w.heap.size]? = some (.cells #[.int .i64 0, .int .i64 0] 85 (0, 0)) := (b1.block _ (by simp; omega)).trans (heap_old_at _ _ (by simp) (heap_new_at _ _ rfl))
  have r1 : w1.heap[w.heap.size + 1]? = some (.cells #[.int .i64 0, .int .i64 0] 85 (0, 0)) := (b1.block _ (by simp)).trans (heap_new_at _ _ (by simp))
  have r1' := heap_setCell_same _ _ 1 _ _ (.int .i64 n) (heap_setCell_same _ _ 0 _ _ (.int .i64 c) r1)
  have r0' := (Below.heap_setCell (w1.setCell ⟨w.heap.size + 1, 0, none⟩ (.int .i64 c)) ⟨w.heap.size + 1, 1, none⟩ (.int .i64 n) w.heap.size (by show w.heap.size ≠ w.heap.size + 1; omega)).trans ((Below.heap_setCell w1 ⟨w.heap.size + 1, 0, none⟩ (.int .i64 c) w.heap.size (by show w.heap.size ≠ w.heap.size + 1; omega)).trans r0)
  have hb := hide (bl_set (bl_set (bl_trans (bl_alloc (bl_alloc (Below.refl w.heap.size w) _) _) b1) (p := ⟨w.heap.size + 1, 0, none⟩) (by show _ ≤ w.heap.size + 1; omega) (.int .i64 c)) (p := ⟨w.heap.size + 1, 1, none⟩) (by show _ ≤ w.heap.size + 1; omega) (.int .i64 n))
  obtain ⟨w2, e2⟩ : ∃ w2, (w1.setCell ⟨w.heap.size + 1, 0, none⟩ (.int .i64 c)).setCell ⟨w.heap.size + 1, 1, none⟩ (.int .i64 n) = w2 := ⟨_, rfl⟩
  rw [e2] at r0' r1' hb ⊢
  clear e2 r0 r1 b1
  have k0 : w2.cell? ⟨w.heap.size + 1, 0, none⟩ = some (.int .i64 c) := by simp [World.cell?, r1']
  have k1 : w2.cell? ⟨w.heap.size + 1, 1, none⟩ = some (.int .i64 n) := by simp [World.cell?, r1']
  have m0 : w2.cell? ⟨w.heap.size, 0, none⟩ = some (.int .i64 0) := by simp [World.cell?, r0']
  have m1 : w2.cell? ⟨w.heap.size, 1, none⟩ = some (.int .i64 0) := by simp [World.cell?, r0']
  have f0 : ∀ j, w2.frozen? ⟨w.heap.size, j, none⟩ = false := by intro j; simp [World.frozen?, r0']
  have e0 := heap_setCell_same _ _ 1 _ _ (.int .i64 n) (heap_setCell_same _ _ 0 _ _ (.int .i64 c) r0')
  clear r0' r1'
  go_wp2
  exact bodyPost_ret (v := .tuple #[.agg #[.int .i64 c, .int .i64 n], .bool true]) (by simp [results, Tryd.results41, go_sem, World.cell?, e0]) rfl ⟨rfl, bl_set (bl_set hb.out (p := ⟨w.heap.size, 0, none⟩) (Nat.le_refl _) _) (p := ⟨w.heap.size, 1, none⟩) (Nat.le_refl _) _⟩

theorem at_nil (w : World) :
    Calls Tryd.prog 21 #[.nilIface] w fun e w' => e = .returned (.int .i64 (-1)) ∧ Below w.heap.size w w' := by
  go_enter Tryd.func21, Tryd.ntmps21
  go_wp2_with fail
  refine (find_nil _).mono ?_
  rintro e w1 ⟨rfl, b1⟩
  go_wp2
  go_ret
  exact ⟨rfl, bl_alloc b1 _⟩
theorem at_E (c : Int) (w : World) (hg : Laid w) :
    Calls Tryd.prog 21 #[.iface 44 (.int .i64 c)] w fun e w' => e = .returned (.int .i64 (-1)) ∧ Below w.heap.size w w' := by
  have H := hide hg
  clear hg
  go_enter Tryd.func21, Tryd.ntmps21
  go_wp2_with fail
  refine (find_E c _ H.out).mono ?_
  rintro e w1 ⟨rfl, b1⟩
  go_wp2
  go_ret
  exact ⟨rfl, bl_alloc b1 _⟩
theorem at_F (c n : Int) (w : World) (hg : Laid w) :
    Calls Tryd.prog 21 #[.iface 85 (.agg #[.int .i64 c, .int .i64 n])] w fun e w' => e = .returned (.int .i64 n) ∧ Below w.heap.size w w' := by
  have H := hide hg
  clear hg
  go_enter Tryd.func21, Tryd.ntmps21
  go_wp2_with fail
  refine (find_F c n _ H.out).mono ?_
  rintro e w1 ⟨rfl, b1⟩
  go_wp2
  go_ret
  exact ⟨rfl, bl_alloc b1 _⟩
end Go.Proofs.YtbphphmjhcehkaaDoor
