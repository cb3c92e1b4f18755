/- Rows of two, three, four words that a call of Sum made for itself; what Sum returns over them. -/
import Derived.Test.YtplckfofdkmieaaDoorWordSum
namespace Go.Proofs.YtplckfofdkmieaaDoor
open Go.RowKit

theorem ints2 {w : World} {b : Nat} {x y : Int} (hx : Word x) (hy : Word y) (h : w.heap[b]? = some (.cells #[.int .u64 x, .int .u64 y] 22 (0, 0))) : Ints .u64 w (some ⟨b, 0, none⟩) 2 [x, y] := by
  refine ⟨rfl, by decide, ?_, ?_⟩
  · intro z hz
    simp at hz
    rcases hz with rfl | rfl <;> (simp [Lit.wf, IntKind.min, IntKind.max, IntKind.signed, IntKind.bits]; unfold Word at *; omega)
  · intro i hi
    have hb := Blk_lt h
    have : i = 0 ∨ i = 1 := by omega
    rcases this with rfl | rfl <;> exact ⟨b, 0, rfl, hb, by simp [World.cell?, h]⟩
theorem ints3 {w : World} {b : Nat} {x y z : Int} (hx : Word x) (hy : Word y) (hz : Word z) (h : w.heap[b]? = some (.cells #[.int .u64 x, .int .u64 y, .int .u64 z] 22 (0, 0))) : Ints .u64 w (some ⟨b, 0, none⟩) 3 [x, y, z] := by
  refine ⟨rfl, by decide, ?_, ?_⟩
  · intro z hz
    simp at hz
    rcases hz with rfl | rfl | rfl <;> (simp [Lit.wf, IntKind.min, IntKind.max, IntKind.signed, IntKind.bits]; unfold Word at *; omega)
  · intro i hi
    have hb := Blk_lt h
    have : i = 0 ∨ i = 1 ∨ i = 2 := by omega
    rcases this with rfl | rfl | rfl <;> exact ⟨b, 0, rfl, hb, by simp [World.cell?, h]⟩
theorem ints4 {w : World} {b : Nat} {x y z u : Int} (hx : Word x) (hy : Word y) (hz : Word z) (hu : Word u) (h : w.heap[b]? = some (.cells #[.int .u64 x, .int .u64 y, .int .u64 z, .int .u64 u] 22 (0, 0))) : Ints .u64 w (some ⟨b, 0, none⟩) 4 [x, y, z, u] := by
  refine ⟨rfl, by decide, ?_, ?_⟩
  · intro z hz
    simp at hz
    rcases hz with rfl | rfl | rfl | rfl <;> (simp [Lit.wf, IntKind.min, IntKind.max, IntKind.signed, IntKind.bits]; unfold Word at *; omega)
  · intro i hi
    have hb := Blk_lt h
    have : i = 0 ∨ i = 1 ∨ i = 2 ∨ i = 3 := by omega
    rcases this with rfl | rfl | rfl | rfl <;> exact ⟨b, 0, rfl, hb, by simp [World.cell?, h]⟩

/-- The sum of two, three, four words. -/
theorem sumV_two (x y : Int) : sumV [x, y] = if x + y < 18446744073709551616 then x + y else 0 := by simp [sumV]
theorem sumB_two (x y : Int) : sumB [x, y] = decide (x + y < 18446744073709551616) := by simp [sumB]
theorem sumV_four (x y z u : Int) : sumV [x, y, z, u] = if x + y + z + u < 18446744073709551616 then x + y + z + u else 0 := by
  unfold sumV; rw [show [x, y, z, u].sum = x + y + z + u by simp; omega]
theorem sumB_four (x y z u : Int) : sumB [x, y, z, u] = decide (x + y + z + u < 18446744073709551616) := by
  unfold sumB; rw [show [x, y, z, u].sum = x + y + z + u by simp; omega]
theorem one_word : Word 1 := ⟨by decide, by decide⟩
theorem zero_word : Word 0 := ⟨by decide, by decide⟩

theorem sum_yes (a : Option Addr) (len cap : Nat) (zs : List Int) (s : Int) (w : World) (h : Ints .u64 w a len zs) (es : zs.sum = s) (hs : s < 18446744073709551616) :
    Calls Tryd.prog 30 #[.slice a len cap] w fun e w' => e = .returned (.tuple #[.int .u64 s, .bool true]) ∧ Below w.heap.size w w' :=
  (sum_any a len cap zs w h).mono fun _ _ ⟨he, hb⟩ => ⟨he.trans (ret_ib (by unfold sumV; rw [es, if_pos hs]) (by unfold sumB; rw [es, decide_eq_true hs])), hb⟩
theorem sum_no (a : Option Addr) (len cap : Nat) (zs : List Int) (w : World) (h : Ints .u64 w a len zs) (hs : ¬ zs.sum < 18446744073709551616) :
    Calls Tryd.prog 30 #[.slice a len cap] w fun e w' => e = .returned (.tuple #[.int .u64 0, .bool false]) ∧ Below w.heap.size w w' :=
  (sum_any a len cap zs w h).mono fun _ _ ⟨he, hb⟩ => ⟨he.trans (ret_ib (by unfold sumV; rw [if_neg hs]) (by unfold sumB; rw [decide_eq_false hs])), hb⟩
theorem rsum_yes (a : Option Addr) (len cap : Nat) (zs : List Int) (s : Int) (w : World) (h : Ints .u64 w a len zs) (es : zs.sum = s) (hs : s < 18446744073709551616) :
    Calls Tryd.prog 31 #[.slice a len cap] w fun e w' => e = .returned (.tuple #[.int .u64 s, .bool true]) ∧ Below w.heap.size w w' :=
  (rsum_any a len cap zs w h).mono fun _ _ ⟨he, hb⟩ => ⟨he.trans (ret_ib (by unfold sumV; rw [es, if_pos hs]) (by unfold sumB; rw [es, decide_eq_true hs])), hb⟩
theorem rsum_no (a : Option Addr) (len cap : Nat) (zs : List Int) (w : World) (h : Ints .u64 w a len zs) (hs : ¬ zs.sum < 18446744073709551616) :
    Calls Tryd.prog 31 #[.slice a len cap] w fun e w' => e = .returned (.tuple #[.int .u64 0, .bool false]) ∧ Below w.heap.size w w' :=
  (rsum_any a len cap zs w h).mono fun _ _ ⟨he, hb⟩ => ⟨he.trans (ret_ib (by unfold sumV; rw [if_neg hs]) (by unfold sumB; rw [decide_eq_false hs])), hb⟩
end Go.Proofs.YtplckfofdkmieaaDoor
