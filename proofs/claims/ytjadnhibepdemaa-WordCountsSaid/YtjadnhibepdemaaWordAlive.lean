/- The examples of the chapter word hold: the law's function alive returns true. -/
import Derived.Test.YtjadnhibepdemaaWordSmall
import Derived.Test.YtjadnhibepdemaaWordText
import Derived.Deep.RegionHeld3
import Derived.Deep.RegionWith
namespace Go.Proofs.Ytjadnhibepdemaa
open Go.RowKit

theorem txt_top : Dec.txt (val 1 0).toNat = [49, 56, 52, 52, 54, 55, 52, 52, 48, 55, 51, 55, 48, 57, 53, 53, 49, 54, 49, 54] := by decide +kernel
theorem txt_one : Dec.txt (val 0 1).toNat = [49] := by decide +kernel
theorem width_top (w : World) : Calls Try.prog 9 #[.int .u64 0, .int .u64 18446744073709551615] w fun e w' => e = .returned (.agg #[.int .u64 1, .int .u64 0]) ∧ Below w.heap.size w w' :=
  (width_any 0 18446744073709551615 ⟨by decide, by decide⟩ ⟨by decide, by decide⟩ w).mono fun _ _ ⟨he, hb⟩ => ⟨he.trans (ret_agg (by decide) (by decide)), hb⟩
theorem width_five (w : World) : Calls Try.prog 9 #[.int .u64 5, .int .u64 5] w fun e w' => e = .returned (.agg #[.int .u64 0, .int .u64 1]) ∧ Below w.heap.size w w' :=
  (width_any 5 5 ⟨by decide, by decide⟩ ⟨by decide, by decide⟩ w).mono fun _ _ ⟨he, hb⟩ => ⟨he.trans (ret_agg (by decide) (by decide)), hb⟩
theorem text_top (w : World) : Calls Try.prog 12 #[.agg #[.int .u64 1, .int .u64 0]] w fun e w' => e = .returned (.string ⟨#[49, 56, 52, 52, 54, 55, 52, 52, 48, 55, 51, 55, 48, 57, 53, 53, 49, 54, 49, 54]⟩) ∧ Below w.heap.size w w' :=
  (text_any 1 0 ⟨by decide, by decide⟩ ⟨by decide, by decide⟩ w).mono fun _ _ ⟨he, hb⟩ => ⟨he.trans (by rw [txt_top]), hb⟩
theorem text_one (w : World) : Calls Try.prog 12 #[.agg #[.int .u64 0, .int .u64 1]] w fun e w' => e = .returned (.string ⟨#[49]⟩) ∧ Below w.heap.size w w' :=
  (text_any 0 1 ⟨by decide, by decide⟩ ⟨by decide, by decide⟩ w).mono fun _ _ ⟨he, hb⟩ => ⟨he.trans (by rw [txt_one]), hb⟩

theorem alive_any (w : World) : Calls Try.prog 11 #[] w fun e w' => e = .returned (.bool true) ∧ Below w.heap.size w w' := by
  go_enter Try.func11, Try.ntmps11
  go_wp2_with fail
  refine (width_top _).mono ?_
  rintro e w1 ⟨rfl, b1⟩
  go_wp2_with fail
  refine (text_top _).mono ?_
  rintro e w2 ⟨rfl, b2⟩
  go_wp2_with fail
  refine (width_five _).mono ?_
  rintro e w3 ⟨rfl, b3⟩
  go_wp2_with fail
  refine (text_one _).mono ?_
  rintro e w4 ⟨rfl, b4⟩
  go_wp2_with fail
  go_ret
  exact ⟨rfl, bl_trans (bl_trans (bl_trans b1 b2) b3) b4⟩
end Go.Proofs.Ytjadnhibepdemaa
