/- The law VarintOnce. -/
import Derived.Test.YtjdlcdfnagbblaaDoorVarAlive
import Derived.Test.YtjdlcdfnagbblaaDoorVarPlain
import Derived.Test.YtjdlcdfnagbblaaDoorFrameIntShape
import Derived.Test.YtjdlcdfnagbblaaDoorTake
namespace Go.Proofs.YtjdlcdfnagbblaaDoor
open Go.RowKit

theorem ints_take {k : IntKind} {w : World} {a : Option Addr} {len : Nat} {zs : List Int} (h : Ints k w a len zs) (n : Nat) (hn : n ≤ len) : Ints k w a n (zs.take n) where
  length := by rw [List.length_take, h.length]; omega
  most := by have := h.most; omega
  wf := fun z hz => h.wf z (List.mem_of_mem_take hz)
  cells := fun i hi => by
    have e : (zs.take n).getD i 0 = zs.getD i 0 := by simp [List.getD, hi]
    rw [e]
    exact h.cells i (by omega)
theorem byteAt_wf {w : World} {a : Option Addr} {len : Nat} {zs : List Int} (h : Ints .u8 w a len zs) (i : Nat) : 0 ≤ byteAt zs i ∧ byteAt zs i ≤ 255 := by
  simp only [byteAt, List.getD]
  cases e : zs[i]? with
  | none => simp
  | some z => simpa using byte_of_wf (h.wf z (List.mem_of_getElem? e))

set_option maxHeartbeats 1600000 in
theorem once_bad (c : Int) (a : Option Addr) (len cap : Nat) (zs : List Int) (w : World) (g : ¬ 100 < (len : Int)) (h : Ints .u8 w a len zs) (hg : Laid w)
    (R : ∀ W, Ints .u8 W a len zs → Calls Tryd.prog 14 #[.slice a len cap, .int .i64 0] W fun e w' => e = .returned (.tuple #[.int .u64 0, .int .i64 0, .iface 54 (.agg #[.int .i64 c, .int .i64 0])]) ∧ Below W.heap.size W w') :
    Calls Tryd.prog 4 #[.slice a len cap] w fun e w' => e = .returned (.bool true) ∧ Below w.heap.size w w' := by
  have H := hide h
  have HG := hide hg
  have RR := hide R
  clear h hg R
  go_enter Tryd.func4, Tryd.ntmps4
  go_wp2_with fail
  refine (RR.out _ H.out).mono ?_
  rintro e w1 ⟨rfl, b1⟩
  have B1 := hide b1
  clear b1
  go_wp2_with fail
  refine (alive_any _ (HG.out.below B1.out)).mono ?_
  rintro e w2 ⟨rfl, b2⟩
  go_wp2
  go_ret
  exact ⟨rfl, bl_trans B1.out b2⟩

set_option maxHeartbeats 1600000 in
theorem once_good (x : Int) (n : Nat) (L : List Int) (a : Option Addr) (len cap : Nat) (w : World) (g : ¬ 100 < (len : Int)) (h0 : 0 < n) (h1 : n ≤ len) (hsh : len ≤ cap) (hx : Word x) (hL : L.length = n) (hv : vb 10 x = L) (h : Ints .u8 w a n L) (hg : Laid w)
    (R : ∀ W, Below w.heap.size w W → Calls Tryd.prog 14 #[.slice a len cap, .int .i64 0] W fun e w' => e = .returned (.tuple #[.int .u64 x, .int .i64 n, .nilIface]) ∧ Below W.heap.size W w') :
    Calls Tryd.prog 4 #[.slice a len cap] w fun e w' => e = .returned (.bool true) ∧ Below w.heap.size w w' := by
  have AP : Hid (∀ W, Calls Tryd.prog 10 #[.slice none 0 0, .int .u64 x] W fun e w' => ∃ a2 c2, e = .returned (.slice a2 n c2) ∧ Ints .u8 w' a2 n L ∧ Below W.heap.size W w') := by
    refine hide fun W => (append_any W (.slice none 0 0) [] x W (OwnB.nil _ _) (Below.refl _ _) hx (by simp)).mono ?_
    rintro e w1 ⟨v1, rfl, hO, b1⟩
    rw [List.nil_append, hv] at hO
    obtain ⟨a2, c2, rfl, hI, _⟩ := hO.ints (by omega)
    rw [hL] at hI ⊢
    exact ⟨a2, c2, rfl, hI, b1⟩
  have EQ := hide (fun W a2 c2 (h1 : Ints .u8 W a2 n L) (h2 : Ints .u8 W a n L) => equal_any a2 a n c2 n cap L L W h1 h2)
  rw [show eqI L L = true from decide_eq_true rfl] at EQ
  have H := hide h
  have HG := hide hg
  have RR := hide R
  have q0 : ¬ (n : Int) < 1 := by omega
  have q1 : ¬ (len : Int) < (n : Int) := by omega
  have q2 : (n : Int) ≤ (cap : Int) := by omega
  have q3 : ¬ (n : Int) < 0 := by omega
  have hmx : Tryd.prog.follows .mixedOrders = true := by kernel_rfl
  clear h hg R hv hL hx
  go_enter Tryd.func4, Tryd.ntmps4
  go_wp2_with fail
  refine (RR.out _ (Below.refl _ _)).mono ?_
  rintro e w1 ⟨rfl, b1⟩
  have B2 := hide b1
  clear b1
  go_wp2_with fail
  refine wp_region_held_drew (S := Below w.heap.size w) hmx (bl_drew B2.out) (fun hS => ?_)
  refine wpAnyH_ready (rs := [0]) (by kernel_rfl) (by simp) ?_
  refine AllReadyH.cons (o := _) rfl (fun K hK => ?_) AllReadyH.nil
  go_simp
  refine (alive_any _ (HG.out.below hS)).mono ?_
  rintro e wq ⟨rfl, hb⟩
  have hS := bl_trans hS hb
  clear hb
  go_simp
  refine hK.out _ _ hS (fun _ => ?_)
  clear hK K
  refine wpAnyH_takeD (i := 1) (d := some 36) (v := (.bool true)) rfl rfl (by kernel_rfl) (by kernel_rfl) (by kernel_rfl) (fun _ _ _ h => h) (Or.inl ⟨by rfl, ?_⟩) (by assumption) ?_
  · intro X _; go_simp
  simp only [Act.put, List.setIfInBounds_toArray, List.set_cons_zero, List.set_cons_succ]
  refine wpAnyH_takeD (i := 2) (d := some 37) (v := (.int .u64 x)) rfl rfl (by kernel_rfl) (by kernel_rfl) (by kernel_rfl) (fun _ _ _ h => h) (Or.inl ⟨by rfl, ?_⟩) (by assumption) ?_
  · intro X _; go_simp
  simp only [Act.put, List.setIfInBounds_toArray, List.set_cons_zero, List.set_cons_succ]
  refine wpAnyH_takeD (i := 4) (d := some 39) (v := (.slice a len cap)) rfl rfl (by kernel_rfl) (by kernel_rfl) (by kernel_rfl) (fun _ _ _ h => h) (Or.inl ⟨by rfl, ?_⟩) (by assumption) ?_
  · intro X _; go_simp
  simp only [Act.put, List.setIfInBounds_toArray, List.set_cons_zero, List.set_cons_succ]
  refine wpAnyH_takeD (i := 5) (d := some 40) (v := (.int .i64 n)) rfl rfl (by kernel_rfl) (by kernel_rfl) (by kernel_rfl) (fun _ _ _ h => h) (Or.inl ⟨by rfl, ?_⟩) (by assumption) ?_
  · intro X _; go_simp
  simp only [Act.put, List.setIfInBounds_toArray, List.set_cons_zero, List.set_cons_succ]
  refine wpAnyH_takeD (i := 6) (d := some 41) (v := (.slice a n cap)) rfl rfl (by kernel_rfl) (by kernel_rfl) (by kernel_rfl) (fun _ _ _ h => h) (Or.inl ⟨by rfl, ?_⟩) (by assumption) ?_
  · intro X _; go_simp
  simp only [Act.put, List.setIfInBounds_toArray, List.set_cons_zero, List.set_cons_succ]
  refine wpAnyH_ready (rs := [3]) (by kernel_rfl) (by simp) ?_
  refine AllReadyH.cons (o := _) rfl (fun K hK => ?_) AllReadyH.nil
  go_simp
  refine (AP.out _).mono ?_
  rintro e wq ⟨a2, c2, rfl, hI, hb⟩
  have hS := bl_trans hS hb
  have I2 := hide hI
  clear hI
  clear hb
  go_simp
  refine hK.out _ _ hS (fun _ => ?_)
  clear hK K
  refine wpAnyH_ready (rs := [7]) (by kernel_rfl) (by simp) ?_
  refine AllReadyH.cons (o := _) rfl (fun K hK => ?_) AllReadyH.nil
  go_simp
  refine (EQ.out _ _ _ I2.out (H.out.below hS)).mono ?_
  rintro e wq ⟨rfl, hb⟩
  have hS := bl_trans hS hb
  clear hb
  go_simp
  refine hK.out _ _ hS (fun _ => ?_)
  clear hK K
  refine wpAnyH_takeD (i := 8) (d := some 43) (v := (.bool true)) rfl rfl (by kernel_rfl) (by kernel_rfl) (by kernel_rfl) (fun _ _ _ h => h) (Or.inl ⟨by rfl, ?_⟩) (by assumption) ?_
  · intro X _; go_simp
  simp only [Act.put, List.setIfInBounds_toArray, List.set_cons_zero, List.set_cons_succ]
  refine wpAnyH_takeD (i := 9) (d := some 2) (v := (.bool true)) rfl rfl (by kernel_rfl) (by kernel_rfl) (by kernel_rfl) (fun _ _ _ h => h) (Or.inl ⟨by rfl, ?_⟩) (by assumption) ?_
  · intro X _; go_simp
  simp only [Act.put, List.setIfInBounds_toArray, List.set_cons_zero, List.set_cons_succ]
  refine wpAnyH_done (by kernel_rfl) ?_ _
  go_wp2
  go_ret
  exact ⟨rfl, hS⟩

theorem varintOnce_walk (a : Option Addr) (len cap : Nat) (zs : List Int) (w : World) (h : Ints .u8 w a len zs) (hsh : Shaped a len cap) (hg : Laid w) :
    Calls Tryd.prog 4 #[.slice a len cap] w fun e w' => e = .returned (.bool true) ∧ Below w.heap.size w w' := by
  have hl := h.length
  by_cases g : 100 < (len : Int)
  · have HG := hide hg
    clear h hg hsh
    go_enter Tryd.func4, Tryd.ntmps4
    go_wp2_with fail
    refine (alive_any _ HG.out).mono ?_
    rintro e w1 ⟨rfl, b1⟩
    go_wp2
    go_ret
    exact ⟨rfl, b1⟩
  · have hb := byteAt_wf h
    by_cases g0 : len = 0
    · exact once_bad 5 a len cap zs w g h hg (fun W _ => read_out a len cap 0 W (.inr (by omega)) (by omega))
    · rcases stops_or zs 0 (by omega) with ⟨K, hK⟩ | ho
      · have r := fun W (hW : Ints .u8 W a len zs) => read_stop a len cap zs 0 K W hW (by omega) hsh.le (by omega) hK
        unfold readV at r
        by_cases h1 : putS K (byteAt zs ((0 : Int).toNat + K)) = 1
        · simp only [if_pos h1] at r
          obtain ⟨hx, hv⟩ := once_plain zs hb K hK h1
          have hk : K + 1 ≤ len := by have := hK.lt; omega
          have e : ((0 : Int) + ((K : Int) + 1)) = ((K + 1 : Nat) : Int) := by omega
          rw [e] at r
          exact once_good _ (K + 1) (zs.take (K + 1)) a len cap w g (by omega) hk hsh.le hx (by rw [List.length_take, hl]; omega) hv (ints_take h _ hk) hg (fun W hW => r W (h.below hW))
        · simp only [if_neg h1] at r
          exact once_bad 6 a len cap zs w g h hg r
      · exact once_bad 5 a len cap zs w g h hg (fun W hW => read_short a len cap zs 0 W hW (by omega) hsh.le (by omega) ho)
end Go.Proofs.YtjdlcdfnagbblaaDoor
