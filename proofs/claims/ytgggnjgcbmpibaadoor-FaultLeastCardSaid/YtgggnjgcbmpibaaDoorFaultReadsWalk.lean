/- The walk of the law FaultReads. -/
import Derived.Test.YtgggnjgcbmpibaaDoorFaultBuild
import Derived.Test.YtgggnjgcbmpibaaDoorTake
namespace Go.Proofs.YtgggnjgcbmpibaaDoor
open Go.RowKit

theorem rcode_any (nil has : Bool) (code at' : Int) (a : Option Addr) (len cap : Nat) (w : World) :
    Calls Tryd.prog 23 #[Dsc nil has code at' a len cap] w fun e w' => e = .returned (.int .i64 (if nil = true then 0 else code)) ∧ Below w.heap.size w w' := by
  unfold Dsc
  cases nil with
  | true =>
    go_enter Tryd.func23, Tryd.ntmps23
    go_wp2
    go_ret
    exact ⟨rfl, bl_alloc (Below.refl _ _) _⟩
  | false =>
    go_enter Tryd.func23, Tryd.ntmps23
    go_wp2
    go_ret
    exact ⟨rfl, bl_alloc (Below.refl _ _) _⟩
theorem rat_any (nil has : Bool) (code at' : Int) (a : Option Addr) (len cap : Nat) (w : World) :
    Calls Tryd.prog 20 #[Dsc nil has code at' a len cap] w fun e w' => e = .returned (.int .i64 (if nil = true ∨ has = false then -1 else at')) ∧ Below w.heap.size w w' := by
  unfold Dsc
  cases nil with
  | true =>
    cases has with
    | true =>
      go_enter Tryd.func20, Tryd.ntmps20
      go_wp2
      go_ret
      exact ⟨by simp, bl_alloc (Below.refl _ _) _⟩
    | false =>
      go_enter Tryd.func20, Tryd.ntmps20
      go_wp2
      go_ret
      exact ⟨by simp, bl_alloc (Below.refl _ _) _⟩
  | false =>
    cases has with
    | true =>
      go_enter Tryd.func20, Tryd.ntmps20
      go_wp2
      go_ret
      exact ⟨by simp, bl_alloc (Below.refl _ _) _⟩
    | false =>
      go_enter Tryd.func20, Tryd.ntmps20
      go_wp2
      go_ret
      exact ⟨by simp, bl_alloc (Below.refl _ _) _⟩

theorem eqNil (v : Value) (w : World) : (binOp .eql 28 .nilIface (.iface 31 v)).run Tryd.prog w = .ok (.bool false) w := by
  have h : ∀ d : Nat, (Op.equalIn (d + 1) 28 .nilIface (.iface 31 v)).run Tryd.prog w = .ok false w := fun d => by
    simp [Op.equalIn, run_underlying Tryd.underlying28]
  simp only [binOp]
  simp [Op.equal, Op.maxDepth, h 9999]
theorem is_nil (c : Int) (w : World) :
    Calls Tryd.prog 22 #[.nilIface, .iface 31 (.int .i64 c)] w fun ev w' => ev = .returned (.bool false) ∧ Below w.heap.size w w' := by
  have e1 := eqNil
  go_enter Tryd.func22, Tryd.ntmps22
  go_wp2
  go_ret
  exact ⟨rfl, Below.refl _ _⟩

/-- fault.Has over no code, one, two. -/
theorem has_none (ev : Value) (w : World) : Calls Tryd.prog 24 #[ev, .slice none 0 0] w fun e w' => e = .returned (.bool false) ∧ Below w.heap.size w w' := by
  go_enter Tryd.func24, Tryd.ntmps24
  go_wp2
  refine wp_loop_rounds 1 ?_
  rw [rounds_succ]
  go_wp2
  go_ret
  exact ⟨rfl, Below.refl _ _⟩
theorem has_one (ev : Value) (hv : Int → Bool) (c : Int) (b : Nat) (w : World) (hI : ∀ c W, Calls Tryd.prog 22 #[ev, .iface 31 (.int .i64 c)] W fun e w' => e = .returned (.bool (hv c)) ∧ Below W.heap.size W w') (hb : w.heap[b]? = some (.cells #[.int .i64 c] 31 (0, 0))) (h0 : hv c = false) :
    Calls Tryd.prog 24 #[ev, .slice (some ⟨b, 0, none⟩) 1 1] w fun e w' => e = .returned (.bool false) ∧ Below w.heap.size w w' := by
  have K := hide (fun W => hI c W)
  rw [h0] at K
  have c0 : w.cell? ⟨b, 0, none⟩ = some (.int .i64 c) := by simp [World.cell?, hb]
  clear hI h0 hb
  go_enter Tryd.func24, Tryd.ntmps24
  go_wp2
  refine wp_loop_rounds 2 ?_
  rw [rounds_succ]
  go_wp2_with fail
  refine (K.out _).mono ?_
  rintro e w1 ⟨rfl, b1⟩
  go_wp2
  rw [rounds_succ]
  go_wp2
  go_ret
  exact ⟨rfl, b1⟩
theorem has_two (ev : Value) (hv : Int → Bool) (c d : Int) (b : Nat) (w : World) (hI : ∀ c W, Calls Tryd.prog 22 #[ev, .iface 31 (.int .i64 c)] W fun e w' => e = .returned (.bool (hv c)) ∧ Below W.heap.size W w') (hb : w.heap[b]? = some (.cells #[.int .i64 c, .int .i64 d] 31 (0, 0))) (h0 : hv c = false) :
    Calls Tryd.prog 24 #[ev, .slice (some ⟨b, 0, none⟩) 2 2] w fun e w' => e = .returned (.bool (hv d)) ∧ Below w.heap.size w w' := by
  have K := hide (fun W => hI c W)
  rw [h0] at K
  have K2 := hide (fun W => hI d W)
  have c0 : w.cell? ⟨b, 0, none⟩ = some (.int .i64 c) := by simp [World.cell?, hb]
  have lb := Blk_lt hb
  obtain ⟨r, er⟩ : ∃ r, r = hv d := ⟨_, rfl⟩
  rw [← er] at K2 ⊢
  clear hI h0 er
  cases r with
  | true =>
    go_enter Tryd.func24, Tryd.ntmps24
    go_wp2
    refine wp_loop_rounds 3 ?_
    rw [rounds_succ]
    go_wp2_with fail
    refine (K.out _).mono ?_
    rintro e w1 ⟨rfl, b1⟩
    have d1 : w1.cell? ⟨b, 1, none⟩ = some (.int .i64 d) := keep_cell b1 lb (by simp [World.cell?, hb])
    go_wp2
    rw [rounds_succ]
    go_wp2_with fail
    refine (K2.out _).mono ?_
    rintro e w2 ⟨rfl, b2⟩
    go_wp2
    go_ret
    exact ⟨rfl, bl_trans b1 b2⟩
  | false =>
    go_enter Tryd.func24, Tryd.ntmps24
    go_wp2
    refine wp_loop_rounds 3 ?_
    rw [rounds_succ]
    go_wp2_with fail
    refine (K.out _).mono ?_
    rintro e w1 ⟨rfl, b1⟩
    have d1 : w1.cell? ⟨b, 1, none⟩ = some (.int .i64 d) := keep_cell b1 lb (by simp [World.cell?, hb])
    go_wp2
    rw [rounds_succ]
    go_wp2_with fail
    refine (K2.out _).mono ?_
    rintro e w2 ⟨rfl, b2⟩
    go_wp2
    rw [rounds_succ]
    go_wp2
    go_ret
    exact ⟨rfl, bl_trans b1 b2⟩

/-- The description's box, in every world of the region. -/
structure HeldD (w : World) (nil has : Bool) (code at' : Int) (a : Option Addr) (len cap : Nat) (W : World) : Prop where
  c0 : W.cell? ⟨w.heap.size, 0, none⟩ = some (.bool nil)
  c1 : W.cell? ⟨w.heap.size, 1, none⟩ = some (.int .i64 code)
  c2 : W.cell? ⟨w.heap.size, 2, none⟩ = some (.bool has)
  c3 : W.cell? ⟨w.heap.size, 3, none⟩ = some (.int .i64 at')
  c4 : W.cell? ⟨w.heap.size, 4, none⟩ = some (.slice a len cap)
  bl : Below w.heap.size w W
theorem HeldD.below {w W W' : World} {nil has : Bool} {code at' : Int} {a : Option Addr} {len cap : Nat} (h : HeldD w nil has code at' a len cap W) (hb : Below W.heap.size W W') : HeldD w nil has code at' a len cap W' :=
  ⟨keep_cs hb h.c0, keep_cs hb h.c1, keep_cs hb h.c2, keep_cs hb h.c3, keep_cs hb h.c4, bl_trans h.bl hb⟩
theorem HeldD.alloc {w W : World} {nil has : Bool} {code at' : Int} {a : Option Addr} {len cap : Nat} (h : HeldD w nil has code at' a len cap W) (o : Obj) : HeldD w nil has code at' a len cap (W.alloc o) := h.below ((Below.refl _ _).alloc (Nat.le_refl _) o)
theorem HeldD.drew {w W : World} {nil has : Bool} {code at' : Int} {a : Option Addr} {len cap : Nat} (h : HeldD w nil has code at' a len cap W) : HeldD w nil has code at' a len cap W.drew := ⟨h.c0, h.c1, h.c2, h.c3, h.c4, bl_drew h.bl⟩

set_option maxHeartbeats 4000000 in
theorem reads_core (ev : Value) (hv : Int → Bool) (cv av : Int) (nil has : Bool) (code at' : Int) (a : Option Addr) (len cap : Nat) (ss : List ByteArray) (w : World) (hF : FewL ss len) (h : Strs w a len ss) (hg : Laid w)
    (kB : ∀ W, Below w.heap.size w W → Calls Tryd.prog 16 #[Dsc nil has code at' a len cap] W fun e w' => e = .returned ev ∧ Below W.heap.size W w')
    (kC : ∀ W, Below w.heap.size w W → Calls Tryd.prog 13 #[ev] W fun e w' => e = .returned (.int .i64 cv) ∧ Below W.heap.size W w')
    (kA : ∀ W, Below w.heap.size w W → Calls Tryd.prog 14 #[ev] W fun e w' => e = .returned (.int .i64 av) ∧ Below W.heap.size W w')
    (kI : ∀ c W, Calls Tryd.prog 22 #[ev, .iface 31 (.int .i64 c)] W fun e w' => e = .returned (.bool (hv c)) ∧ Below W.heap.size W w')
    (hcv : cv = if nil = true then 0 else code) (hav : av = if nil = true ∨ has = false then -1 else at') (h1 : hv (IntKind.i64.wrap (code + 1)) = false) (h0 : hv code = !nil) :
    Calls Tryd.prog 7 #[Dsc nil has code at' a len cap] w fun e w' => e = .returned (.bool true) ∧ Below w.heap.size w w' := by
  have HA := hide (fun W (hb : Below w.heap.size w W) => alive_any W (hg.below hb))
  have KF := hide (fun W (hb : Below w.heap.size w W) => few_yes nil has code at' a len cap ss W (h.below (w1 := W) hb) hF)
  have KB := hide kB
  have KC := hide kC
  have KA := hide kA
  have KRC := hide (fun W => rcode_any nil has code at' a len cap W)
  have KRA := hide (fun W => rat_any nil has code at' a len cap W)
  rw [← hcv] at KRC
  rw [← hav] at KRA
  obtain ⟨c1, e1⟩ : ∃ c1, c1 = IntKind.i64.wrap (code + 1) := ⟨_, rfl⟩
  rw [← e1] at h1
  have KH2 := hide (fun W b hb => has_two ev hv c1 code b W kI hb h1)
  rw [h0] at KH2
  have KH1 := hide (fun W b hb => has_one ev hv c1 b W kI hb h1)
  have KH0 := hide (fun W => has_none ev W)
  have e1' := e1.symm
  clear hF h hg kB kC kA kI hcv hav h1 h0 e1
  unfold Dsc at KF KB KRC KRA ⊢
  go_enter Tryd.func7, Tryd.ntmps7
  go_wp2_with fail
  have B0 := bl_alloc (Below.refl w.heap.size w) (.cells #[.bool nil, .int .i64 code, .bool has, .int .i64 at', .slice a len cap] 25)
  have R0 := heap_new_at w (.cells #[.bool nil, .int .i64 code, .bool has, .int .i64 at', .slice a len cap] 25) rfl
  refine (KF.out _ B0).mono ?_
  rintro e w1 ⟨rfl, b1⟩
  have B1 := bl_trans B0 b1
  have R1 := row_kept' b1 R0
  obtain ⟨c0, c1', c2, c3, c4⟩ := cells_five R1
  clear b1 R0 B0
  go_wp2_with fail
  refine (KB.out _ B1).mono ?_
  rintro e w2 ⟨rfl, b2⟩
  have B2 := bl_trans B1 b2
  have R2 := row_kept' b2 R1
  clear b2 R1 B1 c0 c1' c2 c3 c4
  obtain ⟨c0, c1', c2, c3, c4⟩ := cells_five R2
  clear R2
  have hS : HeldD w nil has code at' a len cap w2 := ⟨c0, c1', c2, c3, c4, B2⟩
  have hmx : Tryd.prog.follows .mixedOrders = true := by kernel_rfl
  go_wp2_with fail
  clear c0 c1' c2 c3 c4 B2
  refine wp_region_held_drew (S := HeldD w nil has code at' a len cap) hmx hS.drew (fun hS => ?_)
  refine wpAnyH_ready (rs := [0]) (by kernel_rfl) (by simp) ?_
  refine AllReadyH.cons (o := _) rfl (fun K hK => ?_) AllReadyH.nil
  go_simp
  refine (HA.out _ hS.bl).mono ?_
  rintro e wq ⟨rfl, hb⟩
  have hS := hS.below hb
  clear hb
  go_simp
  refine hK.out _ _ hS (fun _ => ?_)
  clear hK K
  refine wpAnyH_takeD (i := 1) (d := some 14) (v := (.bool true)) rfl rfl (by kernel_rfl) (by kernel_rfl) (by kernel_rfl) (fun _ _ _ h => h) (Or.inl ⟨by rfl, ?_⟩) (by assumption) ?_
  · intro X hX; obtain ⟨c0, c1, c2, c3, c4, hb0⟩ := hX; go_simp
  simp only [Act.put, List.setIfInBounds_toArray, List.set_cons_zero, List.set_cons_succ]
  refine wpAnyH_takeD (i := 2) (d := some 15) (v := ev) rfl rfl (by kernel_rfl) (by kernel_rfl) (by kernel_rfl) (fun _ _ _ h => h) (Or.inl ⟨by rfl, ?_⟩) (by assumption) ?_
  · intro X hX; obtain ⟨c0, c1, c2, c3, c4, hb0⟩ := hX; go_simp
  simp only [Act.put, List.setIfInBounds_toArray, List.set_cons_zero, List.set_cons_succ]
  refine wpAnyH_takeD (i := 4) (d := some 17) (v := (.agg #[.bool nil, .int .i64 code, .bool has, .int .i64 at', .slice a len cap])) rfl rfl (by kernel_rfl) (by kernel_rfl) (by kernel_rfl) (fun _ _ _ h => h) (Or.inl ⟨by rfl, ?_⟩) (by assumption) ?_
  · intro X hX; obtain ⟨c0, c1, c2, c3, c4, hb0⟩ := hX; go_simp
  simp only [Act.put, List.setIfInBounds_toArray, List.set_cons_zero, List.set_cons_succ]
  refine wpAnyH_ready (rs := [3]) (by kernel_rfl) (by simp) ?_
  refine AllReadyH.cons (o := _) rfl (fun K hK => ?_) AllReadyH.nil
  go_simp
  refine (KC.out _ hS.bl).mono ?_
  rintro e wq ⟨rfl, hb⟩
  have hS := hS.below hb
  clear hb
  go_simp
  refine hK.out _ _ hS (fun _ => ?_)
  clear hK K
  refine wpAnyH_ready (rs := [5]) (by kernel_rfl) (by simp) ?_
  refine AllReadyH.cons (o := _) rfl (fun K hK => ?_) AllReadyH.nil
  go_simp
  refine (KRC.out _).mono ?_
  rintro e wq ⟨rfl, hb⟩
  have hS := hS.below hb
  clear hb
  go_simp
  refine hK.out _ _ hS (fun _ => ?_)
  clear hK K
  refine wpAnyH_takeD (i := 6) (d := some 19) (v := (.bool true)) rfl rfl (by kernel_rfl) (by kernel_rfl) (by kernel_rfl) (fun _ _ _ h => h) (Or.inl ⟨by rfl, ?_⟩) (by assumption) ?_
  · intro X hX; obtain ⟨c0, c1, c2, c3, c4, hb0⟩ := hX; go_simp
  simp only [Act.put, List.setIfInBounds_toArray, List.set_cons_zero, List.set_cons_succ]
  refine wpAnyH_takeD (i := 7) (d := some 20) (v := (.bool true)) rfl rfl (by kernel_rfl) (by kernel_rfl) (by kernel_rfl) (fun _ _ _ h => h) (Or.inl ⟨by rfl, ?_⟩) (by assumption) ?_
  · intro X hX; obtain ⟨c0, c1, c2, c3, c4, hb0⟩ := hX; go_simp
  simp only [Act.put, List.setIfInBounds_toArray, List.set_cons_zero, List.set_cons_succ]
  refine wpAnyH_takeD (i := 8) (d := some 21) (v := (.bool true)) rfl rfl (by kernel_rfl) (by kernel_rfl) (by kernel_rfl) (fun _ _ _ h => h) (Or.inl ⟨by rfl, ?_⟩) (by assumption) ?_
  · intro X hX; obtain ⟨c0, c1, c2, c3, c4, hb0⟩ := hX; go_simp
  simp only [Act.put, List.setIfInBounds_toArray, List.set_cons_zero, List.set_cons_succ]
  refine wpAnyH_takeD (i := 9) (d := some 22) (v := ev) rfl rfl (by kernel_rfl) (by kernel_rfl) (by kernel_rfl) (fun _ _ _ h => h) (Or.inl ⟨by rfl, ?_⟩) (by assumption) ?_
  · intro X hX; obtain ⟨c0, c1, c2, c3, c4, hb0⟩ := hX; go_simp
  simp only [Act.put, List.setIfInBounds_toArray, List.set_cons_zero, List.set_cons_succ]
  refine wpAnyH_takeD (i := 11) (d := some 24) (v := (.agg #[.bool nil, .int .i64 code, .bool has, .int .i64 at', .slice a len cap])) rfl rfl (by kernel_rfl) (by kernel_rfl) (by kernel_rfl) (fun _ _ _ h => h) (Or.inl ⟨by rfl, ?_⟩) (by assumption) ?_
  · intro X hX; obtain ⟨c0, c1, c2, c3, c4, hb0⟩ := hX; go_simp
  simp only [Act.put, List.setIfInBounds_toArray, List.set_cons_zero, List.set_cons_succ]
  refine wpAnyH_ready (rs := [10]) (by kernel_rfl) (by simp) ?_
  refine AllReadyH.cons (o := _) rfl (fun K hK => ?_) AllReadyH.nil
  go_simp
  refine (KA.out _ hS.bl).mono ?_
  rintro e wq ⟨rfl, hb⟩
  have hS := hS.below hb
  clear hb
  go_simp
  refine hK.out _ _ hS (fun _ => ?_)
  clear hK K
  refine wpAnyH_ready (rs := [12]) (by kernel_rfl) (by simp) ?_
  refine AllReadyH.cons (o := _) rfl (fun K hK => ?_) AllReadyH.nil
  go_simp
  refine (KRA.out _).mono ?_
  rintro e wq ⟨rfl, hb⟩
  have hS := hS.below hb
  clear hb
  go_simp
  refine hK.out _ _ hS (fun _ => ?_)
  clear hK K
  refine wpAnyH_takeD (i := 13) (d := some 26) (v := (.bool true)) rfl rfl (by kernel_rfl) (by kernel_rfl) (by kernel_rfl) (fun _ _ _ h => h) (Or.inl ⟨by rfl, ?_⟩) (by assumption) ?_
  · intro X hX; obtain ⟨c0, c1, c2, c3, c4, hb0⟩ := hX; go_simp
  simp only [Act.put, List.setIfInBounds_toArray, List.set_cons_zero, List.set_cons_succ]
  refine wpAnyH_takeD (i := 14) (d := some 27) (v := (.bool true)) rfl rfl (by kernel_rfl) (by kernel_rfl) (by kernel_rfl) (fun _ _ _ h => h) (Or.inl ⟨by rfl, ?_⟩) (by assumption) ?_
  · intro X hX; obtain ⟨c0, c1, c2, c3, c4, hb0⟩ := hX; go_simp
  simp only [Act.put, List.setIfInBounds_toArray, List.set_cons_zero, List.set_cons_succ]
  refine wpAnyH_takeD (i := 15) (d := some 28) (v := (.bool true)) rfl rfl (by kernel_rfl) (by kernel_rfl) (by kernel_rfl) (fun _ _ _ h => h) (Or.inl ⟨by rfl, ?_⟩) (by assumption) ?_
  · intro X hX; obtain ⟨c0, c1, c2, c3, c4, hb0⟩ := hX; go_simp
  simp only [Act.put, List.setIfInBounds_toArray, List.set_cons_zero, List.set_cons_succ]
  refine wpAnyH_takeD (i := 16) (d := some 29) (v := ev) rfl rfl (by kernel_rfl) (by kernel_rfl) (by kernel_rfl) (fun _ _ _ h => h) (Or.inl ⟨by rfl, ?_⟩) (by assumption) ?_
  · intro X hX; obtain ⟨c0, c1, c2, c3, c4, hb0⟩ := hX; go_simp
  simp only [Act.put, List.setIfInBounds_toArray, List.set_cons_zero, List.set_cons_succ]
  refine wpAnyH_takeD (i := 17) (d := some 30) (v := (.int .i64 code)) rfl rfl (by kernel_rfl) (by kernel_rfl) (by kernel_rfl) (fun _ _ _ h => h) (Or.inl ⟨by rfl, ?_⟩) (by assumption) ?_
  · intro X hX; obtain ⟨c0, c1, c2, c3, c4, hb0⟩ := hX; go_simp
  simp only [Act.put, List.setIfInBounds_toArray, List.set_cons_zero, List.set_cons_succ]
  refine wpAnyH_takeD (i := 18) (d := some 31) (v := (.int .i64 c1)) rfl rfl (by kernel_rfl) (by kernel_rfl) (by kernel_rfl) (fun _ _ _ h => h) (Or.inl ⟨by rfl, ?_⟩) (by assumption) ?_
  · intro X hX; obtain ⟨c0, c1, c2, c3, c4, hb0⟩ := hX; go_simp
  simp only [Act.put, List.setIfInBounds_toArray, List.set_cons_zero, List.set_cons_succ]
  refine wpAnyH_takeD (i := 19) (d := some 32) (v := (.int .i64 code)) rfl rfl (by kernel_rfl) (by kernel_rfl) (by kernel_rfl) (fun _ _ _ h => h) (Or.inl ⟨by rfl, ?_⟩) (by assumption) ?_
  · intro X hX; obtain ⟨c0, c1, c2, c3, c4, hb0⟩ := hX; go_simp
  simp only [Act.put, List.setIfInBounds_toArray, List.set_cons_zero, List.set_cons_succ]
  refine wpAnyH_takeD (i := 22) (d := some 35) (v := (.pointer (some ⟨w.heap.size, 0, none⟩))) rfl rfl (by kernel_rfl) (by kernel_rfl) (by kernel_rfl) (fun _ _ _ h => h) (Or.inl ⟨by rfl, ?_⟩) (by assumption) ?_
  · intro X hX; obtain ⟨c0, c1, c2, c3, c4, hb0⟩ := hX; go_simp
  simp only [Act.put, List.setIfInBounds_toArray, List.set_cons_zero, List.set_cons_succ]
  refine wpAnyH_takeD (i := 23) (d := some 36) (v := (.bool nil)) rfl rfl (by kernel_rfl) (by kernel_rfl) (by kernel_rfl) (fun _ _ _ h => h) (Or.inl ⟨by rfl, ?_⟩) (by assumption) ?_
  · intro X hX; obtain ⟨c0, c1, c2, c3, c4, hb0⟩ := hX; go_simp
  simp only [Act.put, List.setIfInBounds_toArray, List.set_cons_zero, List.set_cons_succ]
  refine wpAnyH_takeD (i := 24) (d := some 37) (v := (.bool !nil)) rfl rfl (by kernel_rfl) (by kernel_rfl) (by kernel_rfl) (fun _ _ _ h => h) (Or.inl ⟨by rfl, ?_⟩) (by assumption) ?_
  · intro X hX; obtain ⟨c0, c1, c2, c3, c4, hb0⟩ := hX; go_simp
  simp only [Act.put, List.setIfInBounds_toArray, List.set_cons_zero, List.set_cons_succ]
  refine wpAnyH_ready (rs := [20]) (by kernel_rfl) (by simp) ?_
  refine AllReadyH.cons (o := _) rfl (fun K hK => ?_) AllReadyH.nil
  go_simp
  have hS := hS.alloc (.cells #[.int .i64 c1, .int .i64 code] 31)
  refine hK.out _ _ hS (fun _ => ?_)
  clear hK K
  refine wpAnyH_ready (rs := [21]) (by kernel_rfl) (by simp) ?_
  refine AllReadyH.cons (o := _) rfl (fun K hK => ?_) AllReadyH.nil
  go_simp
  refine (KH2.out _ _ (heap_new_at _ _ rfl)).mono ?_
  rintro e wq ⟨rfl, hb⟩
  have hS := hS.below hb
  clear hb
  go_simp
  refine hK.out _ _ hS (fun _ => ?_)
  clear hK K
  refine wpAnyH_takeD (i := 25) (d := some 38) (v := (.bool true)) rfl rfl (by kernel_rfl) (by kernel_rfl) (by kernel_rfl) (fun _ _ _ h => h) (Or.inl ⟨by rfl, ?_⟩) (by assumption) ?_
  · intro X hX; obtain ⟨c0, c1, c2, c3, c4, hb0⟩ := hX; go_simp
  simp only [Act.put, List.setIfInBounds_toArray, List.set_cons_zero, List.set_cons_succ]
  refine wpAnyH_takeD (i := 26) (d := some 39) (v := (.bool true)) rfl rfl (by kernel_rfl) (by kernel_rfl) (by kernel_rfl) (fun _ _ _ h => h) (Or.inl ⟨by rfl, ?_⟩) (by assumption) ?_
  · intro X hX; obtain ⟨c0, c1, c2, c3, c4, hb0⟩ := hX; go_simp
  simp only [Act.put, List.setIfInBounds_toArray, List.set_cons_zero, List.set_cons_succ]
  refine wpAnyH_takeD (i := 27) (d := some 40) (v := (.bool true)) rfl rfl (by kernel_rfl) (by kernel_rfl) (by kernel_rfl) (fun _ _ _ h => h) (Or.inl ⟨by rfl, ?_⟩) (by assumption) ?_
  · intro X hX; obtain ⟨c0, c1, c2, c3, c4, hb0⟩ := hX; go_simp
  simp only [Act.put, List.setIfInBounds_toArray, List.set_cons_zero, List.set_cons_succ]
  refine wpAnyH_takeD (i := 28) (d := some 41) (v := ev) rfl rfl (by kernel_rfl) (by kernel_rfl) (by kernel_rfl) (fun _ _ _ h => h) (Or.inl ⟨by rfl, ?_⟩) (by assumption) ?_
  · intro X hX; obtain ⟨c0, c1, c2, c3, c4, hb0⟩ := hX; go_simp
  simp only [Act.put, List.setIfInBounds_toArray, List.set_cons_zero, List.set_cons_succ]
  refine wpAnyH_takeD (i := 29) (d := some 42) (v := (.int .i64 code)) rfl rfl (by kernel_rfl) (by kernel_rfl) (by kernel_rfl) (fun _ _ _ h => h) (Or.inl ⟨by rfl, ?_⟩) (by assumption) ?_
  · intro X hX; obtain ⟨c0, c1, c2, c3, c4, hb0⟩ := hX; go_simp
  simp only [Act.put, List.setIfInBounds_toArray, List.set_cons_zero, List.set_cons_succ]
  refine wpAnyH_takeD (i := 30) (d := some 43) (v := (.int .i64 c1)) rfl rfl (by kernel_rfl) (by kernel_rfl) (by kernel_rfl) (fun _ _ _ h => h) (Or.inl ⟨by rfl, ?_⟩) (by assumption) ?_
  · intro X hX; obtain ⟨c0, c1, c2, c3, c4, hb0⟩ := hX; go_simp
  simp only [Act.put, List.setIfInBounds_toArray, List.set_cons_zero, List.set_cons_succ]
  refine wpAnyH_ready (rs := [31]) (by kernel_rfl) (by simp) ?_
  refine AllReadyH.cons (o := _) rfl (fun K hK => ?_) AllReadyH.nil
  go_simp
  have hS := hS.alloc (.cells #[.int .i64 c1] 31)
  refine hK.out _ _ hS (fun _ => ?_)
  clear hK K
  refine wpAnyH_ready (rs := [32]) (by kernel_rfl) (by simp) ?_
  refine AllReadyH.cons (o := _) rfl (fun K hK => ?_) AllReadyH.nil
  go_simp
  refine (KH1.out _ _ (heap_new_at _ _ rfl)).mono ?_
  rintro e wq ⟨rfl, hb⟩
  have hS := hS.below hb
  clear hb
  go_simp
  refine hK.out _ _ hS (fun _ => ?_)
  clear hK K
  refine wpAnyH_takeD (i := 33) (d := some 46) (v := (.bool true)) rfl rfl (by kernel_rfl) (by kernel_rfl) (by kernel_rfl) (fun _ _ _ h => h) (Or.inl ⟨by rfl, ?_⟩) (by assumption) ?_
  · intro X hX; obtain ⟨c0, c1, c2, c3, c4, hb0⟩ := hX; go_simp
  simp only [Act.put, List.setIfInBounds_toArray, List.set_cons_zero, List.set_cons_succ]
  refine wpAnyH_takeD (i := 34) (d := some 47) (v := (.bool true)) rfl rfl (by kernel_rfl) (by kernel_rfl) (by kernel_rfl) (fun _ _ _ h => h) (Or.inl ⟨by rfl, ?_⟩) (by assumption) ?_
  · intro X hX; obtain ⟨c0, c1, c2, c3, c4, hb0⟩ := hX; go_simp
  simp only [Act.put, List.setIfInBounds_toArray, List.set_cons_zero, List.set_cons_succ]
  refine wpAnyH_takeD (i := 35) (d := some 48) (v := (.bool true)) rfl rfl (by kernel_rfl) (by kernel_rfl) (by kernel_rfl) (fun _ _ _ h => h) (Or.inl ⟨by rfl, ?_⟩) (by assumption) ?_
  · intro X hX; obtain ⟨c0, c1, c2, c3, c4, hb0⟩ := hX; go_simp
  simp only [Act.put, List.setIfInBounds_toArray, List.set_cons_zero, List.set_cons_succ]
  refine wpAnyH_takeD (i := 36) (d := some 49) (v := ev) rfl rfl (by kernel_rfl) (by kernel_rfl) (by kernel_rfl) (fun _ _ _ h => h) (Or.inl ⟨by rfl, ?_⟩) (by assumption) ?_
  · intro X hX; obtain ⟨c0, c1, c2, c3, c4, hb0⟩ := hX; go_simp
  simp only [Act.put, List.setIfInBounds_toArray, List.set_cons_zero, List.set_cons_succ]
  refine wpAnyH_ready (rs := [37]) (by kernel_rfl) (by simp) ?_
  refine AllReadyH.cons (o := _) rfl (fun K hK => ?_) AllReadyH.nil
  go_simp
  refine (KH0.out _).mono ?_
  rintro e wq ⟨rfl, hb⟩
  have hS := hS.below hb
  clear hb
  go_simp
  refine hK.out _ _ hS (fun _ => ?_)
  clear hK K
  refine wpAnyH_takeD (i := 38) (d := some 51) (v := (.bool true)) rfl rfl (by kernel_rfl) (by kernel_rfl) (by kernel_rfl) (fun _ _ _ h => h) (Or.inl ⟨by rfl, ?_⟩) (by assumption) ?_
  · intro X hX; obtain ⟨c0, c1, c2, c3, c4, hb0⟩ := hX; go_simp
  simp only [Act.put, List.setIfInBounds_toArray, List.set_cons_zero, List.set_cons_succ]
  refine wpAnyH_takeD (i := 39) (d := some 52) (v := (.bool true)) rfl rfl (by kernel_rfl) (by kernel_rfl) (by kernel_rfl) (fun _ _ _ h => h) (Or.inl ⟨by rfl, ?_⟩) (by assumption) ?_
  · intro X hX; obtain ⟨c0, c1, c2, c3, c4, hb0⟩ := hX; go_simp
  simp only [Act.put, List.setIfInBounds_toArray, List.set_cons_zero, List.set_cons_succ]
  refine wpAnyH_takeD (i := 40) (d := some 2) (v := (.bool true)) rfl rfl (by kernel_rfl) (by kernel_rfl) (by kernel_rfl) (fun _ _ _ h => h) (Or.inl ⟨by rfl, ?_⟩) (by assumption) ?_
  · intro X hX; obtain ⟨c0, c1, c2, c3, c4, hb0⟩ := hX; go_simp
  simp only [Act.put, List.setIfInBounds_toArray, List.set_cons_zero, List.set_cons_succ]
  refine wpAnyH_done (by kernel_rfl) ?_ _
  go_wp2
  go_ret
  exact ⟨rfl, hS.bl⟩

theorem i64_wf {x : Int} (h : (Lit.int .i64 x).wf = true) : -9223372036854775808 ≤ x ∧ x ≤ 9223372036854775807 := by
  simp [Lit.wf, IntKind.min, IntKind.max, IntKind.signed, IntKind.bits] at h
  omega
theorem faultReads_walk (nil has : Bool) (code at' : Int) (a : Option Addr) (len cap : Nat) (ss : List ByteArray) (w : World) (h : Strs w a len ss) (hc : (Lit.int .i64 code).wf = true) (_ha : (Lit.int .i64 at').wf = true) (hg : Laid w) :
    Calls Tryd.prog 7 #[Dsc nil has code at' a len cap] w fun e w' => e = .returned (.bool true) ∧ Below w.heap.size w w' := by
  by_cases hF : FewL ss len
  · have hne : ¬ code = IntKind.i64.wrap (code + 1) := by
      have := i64_wf hc
      rw [IntKind.wrap_i64]
      omega
    cases nil with
    | true =>
      exact reads_core .nilIface (fun _ => false) 0 (-1) true has code at' a len cap ss w hF h hg
        (fun W _ => build_nil has code at' a len cap W) (fun W _ => code_nil W) (fun W _ => at_nil W) (fun c W => is_nil c W) rfl (by simp) rfl rfl
    | false =>
      refine reads_core (chn (bas has code at') ss len).v (fun c => (chn (bas has code at') ss len).has c) code (if has = true then at' else -1) false has code at' a len cap ss w hF h hg
        (fun W hb => build_any has code at' a len cap ss W (h.below hb)) (fun W hb => ?_) (fun W hb => ?_) (fun c W => is_any _ c W) rfl (by cases has <;> simp) ?_ ?_
      · have := code_any (chn (bas has code at') ss len) W (hg.below hb)
        rw [chn_cd] at this
        cases has <;> exact this
      · have := at_any (chn (bas has code at') ss len) W (hg.below hb)
        rw [chn_at] at this
        cases has <;> exact this
      · show (chn (bas has code at') ss len).has _ = false
        rw [chn_has]
        cases has <;> simp [bas, Er.has, hne]
      · show (chn (bas has code at') ss len).has _ = true
        rw [chn_has]
        cases has <;> simp [bas, Er.has]
  · have HA := hide (fun W (hb : Below w.heap.size w W) => alive_any W (hg.below hb))
    have KF := hide (fun W (hb : Below w.heap.size w W) => few_no nil has code at' a len cap ss W (h.below (w1 := W) hb) hF)
    clear h hg hF hc _ha
    unfold Dsc at KF ⊢
    go_enter Tryd.func7, Tryd.ntmps7
    go_wp2_with fail
    have B0 := bl_alloc (Below.refl w.heap.size w) (.cells #[.bool nil, .int .i64 code, .bool has, .int .i64 at', .slice a len cap] 25)
    refine (KF.out _ B0).mono ?_
    rintro e w1 ⟨rfl, b1⟩
    have B1 := bl_trans B0 b1
    clear b1 B0
    go_wp2_with fail
    refine (HA.out _ B1).mono ?_
    rintro e w2 ⟨rfl, b2⟩
    have B2 := bl_trans B1 b2
    clear b2 B1
    go_wp2
    go_ret
    exact ⟨rfl, B2⟩
end Go.Proofs.YtgggnjgcbmpibaaDoor
