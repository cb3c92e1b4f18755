/- The walk of the law WordSteps: for every input the law returns true and changes nothing that was there. -/
import Derived.Test.YtjadnhibepdemaaWordAlive
namespace Go.Proofs.Ytjadnhibepdemaa
open Go.RowKit

theorem wordSteps_walk (x : Int) (w : World) (h1 : Word x) :
    Calls Try.prog 5 #[.int .u64 x] w fun e w' => e = .returned (.bool true) ∧ Below w.heap.size w w' := by
  have H1 := hide h1
  obtain ⟨a1, a2⟩ := h1
  by_cases hz : x = 0
  · subst hz
    go_enter Try.func5, Try.ntmps5
    go_wp2_with fail
    refine (next_lt 0 H1.out (by omega) _).mono ?_
    rintro e w1 ⟨rfl, rfl⟩
    go_wp2_with fail
    refine (prev_zero _).mono ?_
    rintro e w1 ⟨rfl, rfl⟩
    go_wp2_with fail
    refine (prev_pos _ ⟨by decide, by decide⟩ (by omega) _).mono ?_
    rintro e w1 ⟨rfl, rfl⟩
    go_wp2_with fail
    refine (alive_any _).mono ?_
    rintro e w3 ⟨rfl, b3⟩
    go_wp2_with fail
    go_ret
    exact ⟨rfl, b3⟩
  by_cases ht : x = 18446744073709551615
  · subst ht
    go_enter Try.func5, Try.ntmps5
    go_wp2_with fail
    refine (next_top _).mono ?_
    rintro e w1 ⟨rfl, rfl⟩
    go_wp2_with fail
    refine (prev_pos _ H1.out (by omega) _).mono ?_
    rintro e w1 ⟨rfl, rfl⟩
    go_wp2_with fail
    refine (prev_zero _).mono ?_
    rintro e w1 ⟨rfl, rfl⟩
    go_wp2_with fail
    refine (alive_any _).mono ?_
    rintro e w3 ⟨rfl, b3⟩
    go_wp2_with fail
    go_ret
    exact ⟨rfl, b3⟩
  · have p0 : 0 < x := by omega
    have p1 : x < 18446744073709551615 := by omega
    have hw : Hid (Word (x + 1)) := ⟨by omega, by omega⟩
    clear hz ht
    go_enter Try.func5, Try.ntmps5
    go_wp2_with fail
    refine (next_lt x H1.out p1 _).mono ?_
    rintro e w1 ⟨rfl, rfl⟩
    go_wp2_with fail
    refine (prev_pos x H1.out p0 _).mono ?_
    rintro e w1 ⟨rfl, rfl⟩
    go_wp2_with fail
    refine (prev_pos (x + 1) hw.out (by omega) _).mono ?_
    rintro e w1 ⟨rfl, rfl⟩
    go_wp2_with fail
    refine (alive_any _).mono ?_
    rintro e w3 ⟨rfl, b3⟩
    go_wp2_with fail
    go_ret
    exact ⟨rfl, b3⟩
end Go.Proofs.Ytjadnhibepdemaa
