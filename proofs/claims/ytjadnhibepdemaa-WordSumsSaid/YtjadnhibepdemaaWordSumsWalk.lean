/- The walk of the law WordSums: for every list the law returns true and changes nothing that was there. -/
import Derived.Test.YtjadnhibepdemaaWordAlive
import Derived.Test.YtjadnhibepdemaaWordSum
namespace Go.Proofs.Ytjadnhibepdemaa
open Go.RowKit

theorem wordSums_walk (a : Option Addr) (len cap : Nat) (zs : List Int) (w : World) (h : Ints .u64 w a len zs) :
    Calls Try.prog 8 #[.slice a len cap] w fun e w' => e = .returned (.bool true) ∧ Below w.heap.size w w' := by
  have hm := h.most
  have H := hide h
  clear h
  go_enter Try.func8, Try.ntmps8
  by_cases hl : len ≤ 1000
  · go_wp2_with fail
    refine (sum_any a len cap zs _ H.out).mono ?_
    rintro e w1 ⟨rfl, b1⟩
    go_wp2_with fail
    refine (rsum_any a len cap zs _ (H.out.below b1)).mono ?_
    rintro e w2 ⟨rfl, b2⟩
    go_wp2_with fail
    refine (alive_any _).mono ?_
    rintro e w3 ⟨rfl, b3⟩
    go_wp2_with fail
    go_ret
    exact ⟨rfl, bl_trans (bl_trans b1 b2) b3⟩
  · have hl' : 1000 < len := by omega
    clear hl
    go_wp2_with fail
    refine (alive_any _).mono ?_
    rintro e w3 ⟨rfl, b3⟩
    go_wp2_with fail
    go_ret
    exact ⟨rfl, b3⟩
end Go.Proofs.Ytjadnhibepdemaa
