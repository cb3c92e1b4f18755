/- pack's Reader: Put over any state function; Vector, Begin, Unlimited. -/
import Derived.Test.YtbphphmjhcehkaaDoorPackSteps
namespace Go.Proofs.YtbphphmjhcehkaaDoor
open Go Go.RowKit

/-- Is the vector complete? -/
def Ph.isFin : Ph → Bool
  | .fin => true
  | _ => false
structure Enters (F : FuncId) : Prop where
  run : ∀ (args : Array Value) (w : World), (callFunc F args).run Tryd.prog w = .ok (.enter F args) w
theorem ent0 : Enters 44 := ⟨fun _ _ => by kernel_rfl⟩
theorem ent1 : Enters 66 := ⟨fun _ _ => by kernel_rfl⟩
theorem ent2 : Enters 81 := ⟨fun _ _ => by kernel_rfl⟩
theorem ent3 : Enters 90 := ⟨fun _ _ => by kernel_rfl⟩
theorem ent4 : Enters 102 := ⟨fun _ _ => by kernel_rfl⟩
theorem ent5 : Enters 104 := ⟨fun _ _ => by kernel_rfl⟩
theorem fn_ne (F : Fn) (x y : Array Value) (w : World) : (binOp .neq 91 (.func F x y) .nilFunc).run Tryd.prog w = .ok (.bool true) w := by kernel_rfl
theorem fn_eq (F : Fn) (x y : Array Value) (w : World) : (binOp .eql 91 (.func F x y) .nilFunc).run Tryd.prog w = .ok (.bool false) w := by kernel_rfl
theorem nf_ne (w : World) : (binOp .neq 91 .nilFunc .nilFunc).run Tryd.prog w = .ok (.bool false) w := by kernel_rfl
theorem nf_eq (w : World) : (binOp .eql 91 .nilFunc .nilFunc).run Tryd.prog w = .ok (.bool true) w := by kernel_rfl

set_option maxRecDepth 100000 in
set_option maxHeartbeats 1600000 in
theorem rput_err (lm : Lim) (r : Nat) (F : FuncId) (c : Int) (x rest : Int) (v cp : Value) (ents hls : Int) (P : World → Prop) (w : World) (hR : RdR w r lm (fnV r F) .nilIface v ents hls cp)
    (KF : Calls Tryd.prog F #[.pointer (some ⟨r, 0, none⟩), .int .u64 x, .int .i64 rest] w fun e w1 => e = .returned (.tuple #[.nilFunc, (.iface 44 (.int .i64 c))]) ∧ P w1) (hP : ∀ w1, P w1 → ∃ v cp en hl, RdR w1 r lm (fnV r F) .nilIface v en hl cp) (hF : Enters F) :
    Calls Tryd.prog 25 #[.pointer (some ⟨r, 0, none⟩), .int .u64 x, .int .i64 rest] w fun e w' => e = .returned (.tuple #[.bool true, (.iface 44 (.int .i64 c))]) ∧ ∃ w1, P w1 ∧ Below ((w1.setCell ⟨r, 5, none⟩ .nilFunc).setCell ⟨r, 6, none⟩ (.iface 44 (.int .i64 c))).heap.size ((w1.setCell ⟨r, 5, none⟩ .nilFunc).setCell ⟨r, 6, none⟩ (.iface 44 (.int .i64 c))) w' := by
  have c5 := hR.c5
  have c6 := hR.c6
  have K := hide KF
  have HP := hide hP
  have hE := hF.run
  clear KF hP hR hF
  unfold fnV at *
  have q1 := fn_ne
  have q2 := fn_eq
  have q3 := nf_ne
  have q4 := nf_eq
  go_enter Tryd.func25, Tryd.ntmps25
  go_wp2_with fail
  refine K.out.mono ?_
  rintro e w1 ⟨rfl, hp⟩
  obtain ⟨v1, cp1, en1, hl1, hR1⟩ := HP.out w1 hp
  have d5 := hR1.c5
  have f1 := hR1.free
  have hR2 := hR1.s5 .nilFunc
  have d6 := hR2.c6
  have f2 := hR2.free
  have hR3 := hR2.s6 (.iface 44 (.int .i64 c))
  have e5 := hR3.c5
  have e6 := hR3.c6
  have HPP := hide hp
  clear hR1 hR2 hR3 c5 c6 hp
  go_wp2_with fail
  go_quiet (fail)
  go_wp2
  go_ret2
  exact ⟨rfl, w1, HPP.out, bl_drewN (Below.refl _ _) _⟩

set_option maxRecDepth 100000 in
set_option maxHeartbeats 1600000 in
theorem rput_next (lm : Lim) (r : Nat) (F : FuncId) (G : FuncId) (x rest : Int) (v cp : Value) (ents hls : Int) (P : World → Prop) (w : World) (hR : RdR w r lm (fnV r F) .nilIface v ents hls cp)
    (KF : Calls Tryd.prog F #[.pointer (some ⟨r, 0, none⟩), .int .u64 x, .int .i64 rest] w fun e w1 => e = .returned (.tuple #[(.func (.func G) #[.pointer (some ⟨r, 0, none⟩)] #[]), .nilIface]) ∧ P w1) (hP : ∀ w1, P w1 → ∃ v cp en hl, RdR w1 r lm (fnV r F) .nilIface v en hl cp) (hF : Enters F) :
    Calls Tryd.prog 25 #[.pointer (some ⟨r, 0, none⟩), .int .u64 x, .int .i64 rest] w fun e w' => e = .returned (.tuple #[.bool false, .nilIface]) ∧ ∃ w1, P w1 ∧ Below ((w1.setCell ⟨r, 5, none⟩ (.func (.func G) #[.pointer (some ⟨r, 0, none⟩)] #[])).setCell ⟨r, 6, none⟩ .nilIface).heap.size ((w1.setCell ⟨r, 5, none⟩ (.func (.func G) #[.pointer (some ⟨r, 0, none⟩)] #[])).setCell ⟨r, 6, none⟩ .nilIface) w' := by
  have c5 := hR.c5
  have c6 := hR.c6
  have K := hide KF
  have HP := hide hP
  have hE := hF.run
  clear KF hP hR hF
  unfold fnV at *
  have q1 := fn_ne
  have q2 := fn_eq
  have q3 := nf_ne
  have q4 := nf_eq
  go_enter Tryd.func25, Tryd.ntmps25
  go_wp2_with fail
  refine K.out.mono ?_
  rintro e w1 ⟨rfl, hp⟩
  obtain ⟨v1, cp1, en1, hl1, hR1⟩ := HP.out w1 hp
  have d5 := hR1.c5
  have f1 := hR1.free
  have hR2 := hR1.s5 (.func (.func G) #[.pointer (some ⟨r, 0, none⟩)] #[])
  have d6 := hR2.c6
  have f2 := hR2.free
  have hR3 := hR2.s6 .nilIface
  have e5 := hR3.c5
  have e6 := hR3.c6
  have HPP := hide hp
  clear hR1 hR2 hR3 c5 c6 hp
  go_wp2_with fail
  go_quiet (fail)
  go_wp2
  go_ret2
  exact ⟨rfl, w1, HPP.out, bl_drewN (Below.refl _ _) _⟩

set_option maxRecDepth 100000 in
set_option maxHeartbeats 1600000 in
theorem rput_fin (lm : Lim) (r : Nat) (F : FuncId) (x rest : Int) (v cp : Value) (ents hls : Int) (P : World → Prop) (w : World) (hR : RdR w r lm (fnV r F) .nilIface v ents hls cp)
    (KF : Calls Tryd.prog F #[.pointer (some ⟨r, 0, none⟩), .int .u64 x, .int .i64 rest] w fun e w1 => e = .returned (.tuple #[.nilFunc, .nilIface]) ∧ P w1) (hP : ∀ w1, P w1 → ∃ v cp en hl, RdR w1 r lm (fnV r F) .nilIface v en hl cp) (hF : Enters F) :
    Calls Tryd.prog 25 #[.pointer (some ⟨r, 0, none⟩), .int .u64 x, .int .i64 rest] w fun e w' => e = .returned (.tuple #[.bool true, .nilIface]) ∧ ∃ w1, P w1 ∧ Below ((w1.setCell ⟨r, 5, none⟩ .nilFunc).setCell ⟨r, 6, none⟩ .nilIface).heap.size ((w1.setCell ⟨r, 5, none⟩ .nilFunc).setCell ⟨r, 6, none⟩ .nilIface) w' := by
  have c5 := hR.c5
  have c6 := hR.c6
  have K := hide KF
  have HP := hide hP
  have hE := hF.run
  clear KF hP hR hF
  unfold fnV at *
  have q1 := fn_ne
  have q2 := fn_eq
  have q3 := nf_ne
  have q4 := nf_eq
  go_enter Tryd.func25, Tryd.ntmps25
  go_wp2_with fail
  refine K.out.mono ?_
  rintro e w1 ⟨rfl, hp⟩
  obtain ⟨v1, cp1, en1, hl1, hR1⟩ := HP.out w1 hp
  have d5 := hR1.c5
  have f1 := hR1.free
  have hR2 := hR1.s5 .nilFunc
  have d6 := hR2.c6
  have f2 := hR2.free
  have hR3 := hR2.s6 .nilIface
  have e5 := hR3.c5
  have e6 := hR3.c6
  have HPP := hide hp
  clear hR1 hR2 hR3 c5 c6 hp
  go_wp2_with fail
  go_quiet (fail)
  go_wp2
  go_ret2
  exact ⟨rfl, w1, HPP.out, bl_drewN (Below.refl _ _) _⟩

set_option maxRecDepth 100000 in
set_option maxHeartbeats 1600000 in
theorem rput_over_err (lm : Lim) (r : Nat) (c : Int) (x rest : Int) (v cp : Value) (ents hls : Int) (w : World) (hR : RdR w r lm .nilFunc (.iface 44 (.int .i64 c)) v ents hls cp) :
    Calls Tryd.prog 25 #[.pointer (some ⟨r, 0, none⟩), .int .u64 x, .int .i64 rest] w fun e w' => e = .returned (.tuple #[.bool true, (.iface 44 (.int .i64 c))]) ∧ Below w.heap.size w w' := by
  have c5 := hR.c5
  have c6 := hR.c6
  clear hR
  have q1 := fn_ne
  have q2 := fn_eq
  have q3 := nf_ne
  have q4 := nf_eq
  go_enter Tryd.func25, Tryd.ntmps25
  go_wp2_with fail
  go_quiet (fail)
  go_wp2
  go_ret2
  exact ⟨rfl, bl_drewN (Below.refl _ _) _⟩

set_option maxRecDepth 100000 in
set_option maxHeartbeats 1600000 in
theorem rput_over_fin (lm : Lim) (r : Nat) (x rest : Int) (v cp : Value) (ents hls : Int) (w : World) (hR : RdR w r lm .nilFunc .nilIface v ents hls cp) :
    Calls Tryd.prog 25 #[.pointer (some ⟨r, 0, none⟩), .int .u64 x, .int .i64 rest] w fun e w' => e = .returned (.tuple #[.bool true, .nilIface]) ∧ Below w.heap.size w w' := by
  have c5 := hR.c5
  have c6 := hR.c6
  clear hR
  have q1 := fn_ne
  have q2 := fn_eq
  have q3 := nf_ne
  have q4 := nf_eq
  go_enter Tryd.func25, Tryd.ntmps25
  go_wp2_with fail
  go_quiet (fail)
  go_wp2
  go_ret2
  exact ⟨rfl, bl_drewN (Below.refl _ _) _⟩

set_option maxRecDepth 100000 in
theorem rput_nil (x rest : Int) (w : World) :
    Calls Tryd.prog 25 #[.pointer none, .int .u64 x, .int .i64 rest] w fun e w' => e = .returned (.tuple #[.bool true, .iface 44 (.int .i64 1)]) ∧ Below w.heap.size w w' := by
  go_enter Tryd.func25, Tryd.ntmps25
  go_wp2
  go_ret2
  exact ⟨rfl, Below.refl _ _⟩
set_option maxRecDepth 100000 in
theorem vector_nil (w : World) :
    Calls Tryd.prog 26 #[.pointer none] w fun e w' => e = .returned (.slice none 0 0) ∧ Below w.heap.size w w' := by
  have q1 := fn_ne
  have q3 := nf_ne
  go_enter Tryd.func26, Tryd.ntmps26
  go_wp2
  go_ret
  exact ⟨rfl, Below.refl _ _⟩
set_option maxRecDepth 100000 in
theorem vector_open (lm : Lim) (r : Nat) (F : FuncId) (er v cp : Value) (ents hls : Int) (w : World) (hR : RdR w r lm (fnV r F) er v ents hls cp) :
    Calls Tryd.prog 26 #[.pointer (some ⟨r, 0, none⟩)] w fun e w' => e = .returned (.slice none 0 0) ∧ Below w.heap.size w w' := by
  have c5 := hR.c5
  unfold fnV at c5
  have q1 := fn_ne
  have q3 := nf_ne
  go_enter Tryd.func26, Tryd.ntmps26
  go_wp2
  go_ret
  exact ⟨rfl, Below.refl _ _⟩
set_option maxRecDepth 100000 in
theorem vector_err (lm : Lim) (r : Nat) (c : Int) (v cp : Value) (ents hls : Int) (w : World) (hR : RdR w r lm .nilFunc (.iface 44 (.int .i64 c)) v ents hls cp) :
    Calls Tryd.prog 26 #[.pointer (some ⟨r, 0, none⟩)] w fun e w' => e = .returned (.slice none 0 0) ∧ Below w.heap.size w w' := by
  have c5 := hR.c5
  have c6 := hR.c6
  have q1 := fn_ne
  have q3 := nf_ne
  go_enter Tryd.func26, Tryd.ntmps26
  go_wp2
  go_ret
  exact ⟨rfl, Below.refl _ _⟩
set_option maxRecDepth 100000 in
theorem vector_fin (lm : Lim) (r : Nat) (v cp : Value) (ents hls : Int) (w : World) (hR : RdR w r lm .nilFunc .nilIface v ents hls cp) :
    Calls Tryd.prog 26 #[.pointer (some ⟨r, 0, none⟩)] w fun e w' => e = .returned v ∧ Below w.heap.size w w' := by
  have c5 := hR.c5
  have c6 := hR.c6
  have c7 := hR.c7
  have q1 := fn_ne
  have q3 := nf_ne
  go_enter Tryd.func26, Tryd.ntmps26
  go_wp2
  go_ret
  exact ⟨rfl, Below.refl _ _⟩
set_option maxRecDepth 100000 in
theorem unlimited_any (w : World) :
    Calls Tryd.prog 17 #[] w fun e w' => e = .returned (.agg #[.int .i64 9223372036854775807, .int .i64 9223372036854775807, .int .i64 9223372036854775807, .int .i64 9223372036854775807, .int .i64 9223372036854775807]) ∧ Below w.heap.size w w' := by
  go_enter Tryd.func17, Tryd.ntmps17
  go_wp2
  refine bodyPost_ret (v := .agg #[.int .i64 9223372036854775807, .int .i64 9223372036854775807, .int .i64 9223372036854775807, .int .i64 9223372036854775807, .int .i64 9223372036854775807]) ?_ rfl ⟨rfl, bl_alloc (Below.refl _ _) _⟩
  simp [results, Tryd.results17, go_sem]
def St0 : St := ⟨.count, [], ⟨0, 0, []⟩, 0, 0⟩
set_option maxRecDepth 100000 in
theorem begin_any (lm : Lim) (base : Nat) (w : World) (hbase : base ≤ w.heap.size) :
    Calls Tryd.prog 24 #[.agg #[.int .i64 lm.f, .int .i64 lm.ve, .int .i64 lm.en, .int .i64 lm.ho, .int .i64 lm.se]] w fun e w' => ∃ r, e = .returned (.pointer (some ⟨r, 0, none⟩)) ∧ w.heap.size ≤ r ∧ MemF w' base r lm (Ph.count.fn r) .nilIface St0 ∧ Below w.heap.size w w' := by
  go_enter Tryd.func24, Tryd.ntmps24
  go_wp2
  go_ret
  exact ⟨w.heap.size + 1, rfl, by omega, ⟨by omega, .slice none 0 0, .pointer none, heap_new_at _ _ (by simp), rfl, rfl⟩, bl_alloc (bl_alloc (Below.refl _ _) _) _⟩
end Go.Proofs.YtbphphmjhcehkaaDoor
