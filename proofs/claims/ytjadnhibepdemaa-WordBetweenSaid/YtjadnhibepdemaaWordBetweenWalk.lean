/- The walk of the law WordBetween: for every input the law returns true and changes nothing that was there. -/
import Derived.Test.YtjadnhibepdemaaWordAlive
namespace Go.Proofs.Ytjadnhibepdemaa
open Go.RowKit

theorem bt_end (a b : Int) : ((b - a - 1 == 0) == (a + 1 == b)) = true := by
  have e : (b - a - 1 == 0) = (a + 1 == b) := by rw [Bool.eq_iff_iff, beq_iff_eq, beq_iff_eq]; omega
  rw [e]; simp
theorem wordBetween_walk (a b : Int) (w : World) (h1 : Word a) (h2 : Word b) :
    Calls Try.prog 6 #[.int .u64 a, .int .u64 b] w fun e w' => e = .returned (.bool true) ∧ Below w.heap.size w w' := by
  have H1 := hide h1; have H2 := hide h2
  obtain ⟨a1, a2⟩ := h1; obtain ⟨b1, b2⟩ := h2
  by_cases h : a < b
  · go_enter Try.func6, Try.ntmps6
    go_wp2_with fail
    refine (between_lt a b H1.out H2.out h _).mono ?_
    rintro e w1 ⟨rfl, rfl⟩
    go_wp2_with fail
    refine (rbetween_lt a b H1.out H2.out h _).mono ?_
    rintro e w1 ⟨rfl, rfl⟩
    go_wp2_with fail
    refine (next_lt a H1.out (by omega) _).mono ?_
    rintro e w1 ⟨rfl, rfl⟩
    go_wp2_with fail
    refine (alive_any _).mono ?_
    rintro e w3 ⟨rfl, b3⟩
    go_wp2_with fail
    go_ret
    exact ⟨ret_bool (bt_end a b), b3⟩
  · have h' : b ≤ a := by omega
    clear h
    go_enter Try.func6, Try.ntmps6
    go_wp2_with fail
    refine (between_ge a b H1.out H2.out h' _).mono ?_
    rintro e w1 ⟨rfl, rfl⟩
    go_wp2_with fail
    refine (rbetween_ge a b H1.out H2.out h' _).mono ?_
    rintro e w1 ⟨rfl, rfl⟩
    go_wp2_with fail
    refine (next_any a H1.out _).mono ?_
    rintro e w1 ⟨rfl, rfl⟩
    go_wp2_with fail
    refine (alive_any _).mono ?_
    rintro e w3 ⟨rfl, b3⟩
    go_wp2_with fail
    go_ret
    exact ⟨rfl, b3⟩
end Go.Proofs.Ytjadnhibepdemaa
