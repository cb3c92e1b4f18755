/- The reference's Read beside varint.Read. -/
import Derived.Test.YtjdlcdfnagbblaaDoorVarScan
namespace Go.Proofs.YtjdlcdfnagbblaaDoor
open Go.RowKit

def rshort : Value := .tuple #[.int .u64 0, .int .i64 0, .int .i64 5]
theorem rread_out (a : Option Addr) (len cap : Nat) (zs : List Int) (at' : Int) (w : World) (h : Ints .u8 w a len zs) (hlm : len ≤ 1000000) (ho : at' < 0 ∨ len < at') (hb : -1073741824 ≤ at' ∧ at' ≤ 1073741824) :
    Calls Tryd.prog 20 #[.slice a len cap, .int .i64 at'] w fun e w' => e = .returned rshort ∧ w = w' := by
  have hl := h.length
  have K := hide (fun (W : World) (hW : Ints .u8 W a len zs) => scan_open a len cap zs len len W hW (Nat.le_refl _) hlm (by omega) (fun i hi => absurd hi (by omega)) (Int.le_refl _))
  rw [if_pos rfl] at K
  have H := hide h
  clear h
  unfold rshort
  rcases ho with ho | ho
  · have q0 : at' < 0 := ho
    go_enter Tryd.func20, Tryd.ntmps20
    go_wp2_with fail
    refine (K.out _ H.out).mono ?_
    rintro e w1 ⟨rfl, rfl⟩
    go_wp2
    go_ret3
    exact ⟨rfl, rfl⟩
  · have q0 : ¬ at' < 0 := by omega
    go_enter Tryd.func20, Tryd.ntmps20
    go_wp2_with fail
    refine (K.out _ H.out).mono ?_
    rintro e w1 ⟨rfl, rfl⟩
    go_wp2
    go_ret3
    exact ⟨rfl, rfl⟩
theorem rread_short (a : Option Addr) (len cap : Nat) (zs : List Int) (at' : Int) (w : World) (h : Ints .u8 w a len zs) (hlm : len ≤ 1000000) (hb : 0 ≤ at' ∧ at' ≤ len) (hop : Opens zs at'.toNat (zs.length - at'.toNat)) :
    Calls Tryd.prog 20 #[.slice a len cap, .int .i64 at'] w fun e w' => e = .returned rshort ∧ w = w' := by
  have hl := h.length
  obtain ⟨a0, rfl⟩ : ∃ a0 : Nat, at' = a0 := ⟨at'.toNat, by omega⟩
  have K := hide (scan_open a len cap zs a0 len w h (by omega) hlm (by omega) (by rw [show (a0 : Int).toNat = a0 by omega] at hop; exact hop) (Int.le_refl _))
  rw [if_pos rfl] at K
  clear h hop
  unfold rshort
  have q1 : ¬ (len : Int) < (a0 : Int) := by omega
  go_enter Tryd.func20, Tryd.ntmps20
  go_wp2_with fail
  refine K.out.mono ?_
  rintro e w1 ⟨rfl, rfl⟩
  go_wp2
  go_ret3
  exact ⟨rfl, rfl⟩
theorem rread_stop (a : Option Addr) (len cap : Nat) (zs : List Int) (at' : Int) (k : Nat) (w : World) (h : Ints .u8 w a len zs) (hlm : len ≤ 1000000) (hb : 0 ≤ at' ∧ at' < len) (hst : Stops zs at'.toNat k) :
    Calls Tryd.prog 20 #[.slice a len cap, .int .i64 at'] w fun e w' => e = .returned (if putS k (byteAt zs (at'.toNat + k)) = 1 then .tuple #[.int .u64 (acc zs at'.toNat (k + 1)), .int .i64 (at' + (k + 1)), .int .i64 0] else .tuple #[.int .u64 0, .int .i64 0, .int .i64 6]) ∧ w = w' := by
  have hl := h.length
  obtain ⟨a0, rfl⟩ : ∃ a0 : Nat, at' = a0 := ⟨at'.toNat, by omega⟩
  have hx : (a0 : Int).toNat = a0 := by omega
  rw [hx] at hst ⊢
  have hlt := hst.lt
  have K := hide (scan_stop a len cap zs a0 len k w h (by omega) hlm (by omega) hst (by omega))
  have q1 : ¬ (len : Int) < (a0 : Int) := by omega
  have N0 := hst.stop
  clear h
  rcases putS_cases k (byteAt zs (a0 + k)) with h0 | h1 | h2
  · exact absurd h0 N0
  · rw [if_pos h1]
    unfold stopX at K
    rw [if_pos h1, h1] at K
    obtain ⟨x, ex⟩ : ∃ x, acc zs a0 (k + 1) = x := ⟨_, rfl⟩
    rw [ex] at K ⊢
    clear h1 hst N0 ex
    go_enter Tryd.func20, Tryd.ntmps20
    go_wp2_with fail
    refine K.out.mono ?_
    rintro e w1 ⟨rfl, rfl⟩
    go_wp2
    go_ret3
    refine ⟨?_, rfl⟩
    rw [← Int.add_assoc]
    rfl
  · rw [if_neg (by omega)]
    unfold stopX at K
    rw [if_neg (by omega), h2] at K
    clear h2 hst N0
    go_enter Tryd.func20, Tryd.ntmps20
    go_wp2_with fail
    refine K.out.mono ?_
    rintro e w1 ⟨rfl, rfl⟩
    go_wp2
    go_ret3
    exact ⟨rfl, rfl⟩

/-- The error value of a code at an index. -/
def errV (c at' : Int) : Value := if c = 0 then .nilIface else .iface 54 (.agg #[.int .i64 c, .int .i64 at'])
/-- Both functions answer alike. -/
theorem reads_same (a : Option Addr) (len cap : Nat) (zs : List Int) (at' : Int) (hcap : len ≤ cap) (hl : zs.length = len) (hlm : len ≤ 1000000) (hb : -1073741824 ≤ at' ∧ at' ≤ 1073741824) :
    ∃ x n c : Int, (c = 0 ∨ c = 5 ∨ c = 6) ∧
      (∀ W, Ints .u8 W a len zs → Calls Tryd.prog 14 #[.slice a len cap, .int .i64 at'] W fun e w' => e = .returned (.tuple #[.int .u64 x, .int .i64 n, errV c at']) ∧ Below W.heap.size W w') ∧
      (∀ W, Ints .u8 W a len zs → Calls Tryd.prog 20 #[.slice a len cap, .int .i64 at'] W fun e w' => e = .returned (.tuple #[.int .u64 x, .int .i64 n, .int .i64 c]) ∧ W = w') := by
  by_cases ho : at' < 0 ∨ len ≤ at'
  · refine ⟨0, 0, 5, by omega, fun W hW => ?_, fun W hW => ?_⟩
    · have := read_out a len cap at' W ho hb
      unfold shortV at this
      unfold errV
      rw [if_neg (by omega)]
      exact this
    · by_cases ho' : at' < 0 ∨ len < at'
      · exact rread_out a len cap zs at' W hW hlm ho' hb
      · exact rread_short a len cap zs at' W hW hlm (by omega) (fun i hi => absurd hi (by omega))
  · have ho1 : 0 ≤ at' := by omega
    have ho2 : at' < len := by omega
    rcases stops_or zs at'.toNat (by omega) with ⟨k, hk⟩ | hop
    · have R := fun W (hW : Ints .u8 W a len zs) => read_stop a len cap zs at' k W hW ⟨ho1, ho2⟩ hcap hlm hk
      have Q := fun W (hW : Ints .u8 W a len zs) => rread_stop a len cap zs at' k W hW hlm ⟨ho1, ho2⟩ hk
      unfold readV at R
      by_cases h1 : putS k (byteAt zs (at'.toNat + k)) = 1
      · rw [if_pos h1] at R Q
        exact ⟨_, _, 0, .inl rfl, by unfold errV; rw [if_pos rfl]; exact R, Q⟩
      · rw [if_neg h1] at R Q
        exact ⟨0, 0, 6, .inr (.inr rfl), by unfold errV; rw [if_neg (by omega)]; exact R, Q⟩
    · refine ⟨0, 0, 5, by omega, fun W hW => ?_, fun W hW => ?_⟩
      · have := read_short a len cap zs at' W hW ⟨ho1, ho2⟩ hcap hlm hop
        unfold shortV at this
        unfold errV
        rw [if_neg (by omega)]
        exact this
      · exact rread_short a len cap zs at' W hW hlm (by omega) hop
end Go.Proofs.YtjdlcdfnagbblaaDoor
