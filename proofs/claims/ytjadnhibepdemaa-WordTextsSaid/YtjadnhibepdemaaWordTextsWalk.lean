/- The walk of the law WordTexts: for every count the law returns true and changes nothing that was there. -/
import Derived.Test.YtjadnhibepdemaaWordAlive
import Derived.Test.YtjadnhibepdemaaRefText
import Derived.Deep.RegionHeld3
namespace Go.Proofs.Ytjadnhibepdemaa
open Go.RowKit

theorem wordTexts_walk (h l : Int) (w : World) (h1 : Word h) (h2 : Word l) :
    Calls Try.prog 4 #[.agg #[.int .u64 h, .int .u64 l]] w fun e w' => e = .returned (.bool true) ∧ Below w.heap.size w w' := by
  have ht : ∀ W : World, Calls Try.prog 12 #[.agg #[.int .u64 h, .int .u64 l]] W fun e w' => e = .returned (.string ⟨(Dec.txt (val h l).toNat).toArray⟩) ∧ Below W.heap.size W w' := text_any h l h1 h2
  have hr : ∀ W : World, Calls Try.prog 13 #[.int .u64 h, .int .u64 l] W fun e w' => e = .returned (.string ⟨(Dec.txt (val h l).toNat).toArray⟩) ∧ Below W.heap.size W w' := by
    obtain ⟨a, rfl⟩ := Int.eq_ofNat_of_zero_le h1.1
    obtain ⟨b, rfl⟩ := Int.eq_ofNat_of_zero_le h2.1
    have e : (val a b).toNat = a * 18446744073709551616 + b := by unfold val; omega
    rw [e]
    exact rtext_any a b (by have := h1.2; omega) (by have := h2.2; omega)
  obtain ⟨T, eT⟩ : ∃ T : ByteArray, T = ⟨(Dec.txt (val h l).toNat).toArray⟩ := ⟨_, rfl⟩
  rw [← eT] at ht hr
  have HT := hide ht
  have HR := hide hr
  clear eT ht hr h1 h2
  go_enter Try.func4, Try.ntmps4
  go_wp2
  go_region_held3 (fun w' => w'.cell? ⟨w.heap.size, 0, none⟩ = some (.int .u64 h) ∧ w'.cell? ⟨w.heap.size, 1, none⟩ = some (.int .u64 l) ∧ w.heap.size < w'.heap.size) ((go_split_ands; refine ⟨?_, ?_, ?_⟩ <;> first | (simp [*]; done) | (simp; omega) | (simp at *; omega)))
    (first
      | (go_at_call 11; refine (alive_any _).mono ?_; rintro e w1 ⟨rfl, hb1⟩; obtain ⟨hc1, hf1⟩ := bcell hb1; have hz1 := hb1.size)
      | (go_at_call 12; refine (HT.out _).mono ?_; rintro e w1 ⟨rfl, hb1⟩; obtain ⟨hc1, hf1⟩ := bcell hb1; have hz1 := hb1.size)
      | (go_at_call 13; refine (HR.out _).mono ?_; rintro e w1 ⟨rfl, hb1⟩; obtain ⟨hc1, hf1⟩ := bcell hb1; have hz1 := hb1.size))
  all_goals go_wp2
  all_goals go_ret
  all_goals exact ⟨rfl, by repeat (first | exact Below.refl _ _ | refine bl_drew ?_ | refine bl_alloc ?_ _ | refine bl_trans ?_ (by assumption))⟩
end Go.Proofs.Ytjadnhibepdemaa
