/- The law VarintNil. -/
import Derived.Test.YtjdlcdfnagbblaaDoorVarAlive
namespace Go.Proofs.YtjdlcdfnagbblaaDoor
open Go.RowKit

set_option maxHeartbeats 800000 in
theorem varintNil_walk (a : Option Addr) (len cap : Nat) (zs : List Int) (w : World) (h : Ints .u8 w a len zs) (hg : Laid w) :
    Calls Tryd.prog 7 #[.slice a len cap] w fun e w' => e = .returned (.bool true) ∧ Below w.heap.size w w' := by
  have H := hide h
  have HG := hide hg
  have hm := h.most
  clear h hg
  go_enter Tryd.func7, Tryd.ntmps7
  go_wp2
  go_loopw [8] (fun c wr => ∃ k : Nat, k ≤ len ∧ c = .int .i64 k ∧ wr = w)
    (fun c _ => len - (intOf c).toNat)
  case atStart => exact ⟨0, Nat.zero_le _, rfl, rfl⟩
  case round =>
    obtain ⟨k, hk, rfl, rfl⟩ := hrel
    have i0 : (0 : Int) ≤ (k : Int) := by omega
    by_cases hlt : k < len
    · obtain ⟨b, off, rfl, hbl, hcell⟩ := H.out.cells k hlt
      have i1 : (k : Int) < (len : Int) := by omega
      obtain ⟨x, ex⟩ : ∃ x, zs.getD k 0 = x := ⟨_, rfl⟩
      rw [ex] at hcell
      clear ex
      go_wp2_with fail
      refine (put_nil x _).mono ?_
      rintro e w1 ⟨rfl, rfl⟩
      go_wp2
      go_roundw
      case rel => exact ⟨k + 1, by omega, by go_num, trivial⟩
      case measure => simp [intOf]; omega
    · have i1 : ¬ (k : Int) < (len : Int) := by omega
      go_wp2_with fail
      refine (reset_nil _).mono ?_
      rintro e w1 ⟨⟨v, rfl⟩, rfl⟩
      go_wp2_with fail
      refine (alive_any _ HG.out).mono ?_
      rintro e w2 ⟨rfl, b2⟩
      go_wp2_with fail
      refine (value_nil _).mono ?_
      rintro e w3 ⟨rfl, rfl⟩
      go_wp2_with fail
      refine (len_nil _).mono ?_
      rintro e w3 ⟨rfl, rfl⟩
      go_wp2
      go_ret
      exact ⟨rfl, b2⟩
end Go.Proofs.YtjdlcdfnagbblaaDoor
