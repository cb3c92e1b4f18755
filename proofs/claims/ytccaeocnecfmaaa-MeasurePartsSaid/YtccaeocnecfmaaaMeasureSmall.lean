/- The contracts of measure.Nth, Hull, First and Last over a correct list, and of the law's own function right. -/
import Derived.Test.YtccaeocnecfmaaaMeasureFind
import Derived.Test.YtccaeocnecfmaaaRef04
import Derived.Deep.RegionWith
namespace Go.Proofs.Ytccaeocnecfmaaa
open Go.RowKit

theorem nth_any (a : Option Addr) (len cap : Nat) (zs : List Iv) (rk : Int) (m : Nat) (w : World) (h : Prs w a len zs) (hc : CorTo zs len) (hx : Word rk) (hm : At zs rk len m) :
    Calls Try.prog 14 #[.slice a len cap, .int .u64 rk] w fun e w' => e = .returned (.tuple #[.int .u64 (fVal zs rk len m), .bool (decide (m < len))]) ∧ Below w.heap.size w w' := by
  have hf : ∀ W : World, Below w.heap.size w W → Calls Try.prog 31 #[.slice a len cap, .int .u64 rk] W _ := fun W hb => find_any a len cap zs rk m W (h.below hb) hc hx hm
  have HF := hide hf
  have ed : (decide ((m : Int) < (len : Int)) = decide (m < len)) := by simp
  clear hf h hc hx hm
  go_enter Try.func14, Try.ntmps14
  go_wp2_with fail
  refine (HF.out _ (by first | exact Below.refl _ _ | assumption)).mono ?_
  rintro e w1 ⟨rfl, hb⟩
  go_wp2
  go_ret2
  exact ⟨by simp, hb⟩

theorem hull_nil (a : Option Addr) (cap : Nat) (w : World) :
    Calls Try.prog 20 #[.slice a 0 cap] w fun e w' => e = .returned (.tuple #[.agg #[.int .u64 0, .int .u64 0], .bool false]) ∧ Below w.heap.size w w' := by
  go_enter Try.func20, Try.ntmps20
  go_wp2
  refine bodyPost_ret (v := .tuple #[.agg #[.int .u64 0, .int .u64 0], .bool false]) (by simp [results, Try.results20, go_sem]) rfl ⟨rfl, bl_alloc (Below.refl _ _) _⟩

set_option maxHeartbeats 800000 in
theorem hull_any (a : Option Addr) (len cap : Nat) (zs : List Iv) (w : World) (h : Prs w a len zs) (hl : 0 < len) :
    Calls Try.prog 20 #[.slice a len cap] w fun e w' => e = .returned (.tuple #[.agg #[.int .u64 (Lo zs 0), .int .u64 (Hi zs (len - 1))], .bool true]) ∧ Below w.heap.size w w' := by
  obtain ⟨b, off, rfl, hbl, hc1, _⟩ := h.cells 0 hl
  obtain ⟨b', off', eb, _, _, hc2⟩ := h.cells (len - 1) (by omega)
  obtain ⟨rfl, rfl⟩ : b = b' ∧ off = off' := by simpa using eb
  have hm := h.most
  obtain ⟨d, hd⟩ : ∃ d, d = len - 1 := ⟨_, rfl⟩
  rw [← hd] at hc2 ⊢
  clear eb h
  have i0 : (0 : Int) < (len : Int) := by omega
  have i1 : IntKind.i64.wrap ((len : Int) - 1) = (d : Int) := by rw [IntWalk.i64_in _ (by omega)]; omega
  have i2 : (d : Int) < (len : Int) := by omega
  have i3 : ¬ (len : Int) = 0 := by omega
  have i4 : (0 : Int) ≤ (d : Int) := by omega
  have i5 : len ≠ 0 := by omega
  obtain ⟨lo, elo⟩ : ∃ lo, lo = Lo zs 0 := ⟨_, rfl⟩
  obtain ⟨hi, ehi⟩ : ∃ hi, hi = Hi zs d := ⟨_, rfl⟩
  rw [← elo] at hc1 ⊢
  rw [← ehi] at hc2 ⊢
  have ELO := hide elo; have EHI := hide ehi
  clear elo ehi
  have hmx : Try.prog.follows .mixedOrders = true := by kernel_rfl
  clear hd
  simp only [Nat.zero_mul, Nat.add_zero] at hc1
  go_enter Try.func20, Try.ntmps20
  go_wp2
  have hc1' := keep_cell ((Below.refl _ w).alloc (Nat.le_refl _) (.cells #[.int .u64 0, .int .u64 0] 39)) hbl hc1
  have hc2' := keep_cell ((Below.refl _ w).alloc (Nat.le_refl _) (.cells #[.int .u64 0, .int .u64 0] 39)) hbl hc2
  go_region_with fail
  all_goals
    go_wp2
    refine bodyPost_ret (v := .tuple #[.agg #[.int .u64 lo, .int .u64 hi], .bool true]) (by simp [results, Try.results20, go_sem]) rfl ⟨rfl, (bl_alloc (Below.refl _ _) _).drew⟩

/-- What First and Last return. -/
def endV (len : Nat) (v : Int) : Int := if len = 0 then 0 else v
theorem first_any (a : Option Addr) (len cap : Nat) (zs : List Iv) (w : World) (h : Prs w a len zs) :
    Calls Try.prog 18 #[.slice a len cap] w fun e w' => e = .returned (.tuple #[.int .u64 (endV len (Lo zs 0)), .bool (decide (0 < len))]) ∧ Below w.heap.size w w' := by
  by_cases hl : len = 0
  · subst hl
    clear h
    go_enter Try.func18, Try.ntmps18
    go_wp2_with fail
    refine (hull_nil a cap _).mono ?_
    rintro e w1 ⟨rfl, hb⟩
    go_wp2
    go_ret2
    exact ⟨rfl, bl_alloc hb _⟩
  · have HF := hide (fun W hb => hull_any a len cap zs W (h.below (w1 := W) hb) (by omega))
    have e1 : endV len (Lo zs 0) = Lo zs 0 := if_neg hl
    have e2 : decide (0 < len) = true := by simp; omega
    rw [e1, e2]
    clear h hl e1 e2
    go_enter Try.func18, Try.ntmps18
    go_wp2_with fail
    refine (HF.out _ (Below.refl _ _)).mono ?_
    rintro e w1 ⟨rfl, hb⟩
    go_wp2
    go_ret2
    exact ⟨rfl, bl_alloc hb _⟩
theorem last_any (a : Option Addr) (len cap : Nat) (zs : List Iv) (w : World) (h : Prs w a len zs) :
    Calls Try.prog 19 #[.slice a len cap] w fun e w' => e = .returned (.tuple #[.int .u64 (endV len (Hi zs (len - 1))), .bool (decide (0 < len))]) ∧ Below w.heap.size w w' := by
  by_cases hl : len = 0
  · subst hl
    clear h
    go_enter Try.func19, Try.ntmps19
    go_wp2_with fail
    refine (hull_nil a cap _).mono ?_
    rintro e w1 ⟨rfl, hb⟩
    go_wp2
    go_ret2
    exact ⟨rfl, bl_alloc hb _⟩
  · have HF := hide (fun W hb => hull_any a len cap zs W (h.below (w1 := W) hb) (by omega))
    have e1 : endV len (Hi zs (len - 1)) = Hi zs (len - 1) := if_neg hl
    have e2 : decide (0 < len) = true := by simp; omega
    rw [e1, e2]
    clear h hl e1 e2
    obtain ⟨hi, ehi⟩ : ∃ hi, hi = Hi zs (len - 1) := ⟨_, rfl⟩
    rw [← ehi] at HF ⊢
    clear ehi
    go_enter Try.func19, Try.ntmps19
    go_wp2_with fail
    refine (HF.out _ (Below.refl _ _)).mono ?_
    rintro e w1 ⟨rfl, hb⟩
    go_wp2
    go_ret2
    exact ⟨rfl, bl_alloc hb _⟩

theorem right_yes (a : Option Addr) (len cap : Nat) (zs : List Iv) (w : World) (h : Prs w a len zs) (hC : Cor zs) (hl : len ≤ 60) :
    Calls Try.prog 9 #[.slice a len cap] w fun e w' => e = .returned (.bool true) ∧ Below w.heap.size w w' := by
  have HF := hide (fun W hb => rcor_yes a len cap zs W (h.below (w1 := W) hb) hC)
  have i1 : (len : Int) ≤ 60 := by omega
  clear h hC
  go_enter Try.func9, Try.ntmps9
  go_wp2_with fail
  refine (HF.out _ (Below.refl _ _)).mono ?_
  rintro e w1 ⟨rfl, hb⟩
  go_wp2
  go_ret
  exact ⟨rfl, hb⟩
theorem right_no (a : Option Addr) (len cap : Nat) (zs : List Iv) (w : World) (h : Prs w a len zs) (hC : ¬ (Cor zs ∧ len ≤ 60)) :
    Calls Try.prog 9 #[.slice a len cap] w fun e w' => e = .returned (.bool false) ∧ Below w.heap.size w w' := by
  by_cases hl : len ≤ 60
  · have HF := hide (fun W hb => rcor_no a len cap zs W (h.below (w1 := W) hb) (fun hc => hC ⟨hc, hl⟩))
    have i1 : (len : Int) ≤ 60 := by omega
    clear h hC
    go_enter Try.func9, Try.ntmps9
    go_wp2_with fail
    refine (HF.out _ (Below.refl _ _)).mono ?_
    rintro e w1 ⟨rfl, hb⟩
    go_wp2
    go_ret
    exact ⟨rfl, hb⟩
  · have i1 : ¬ (len : Int) ≤ 60 := by omega
    clear h hC hl
    go_enter Try.func9, Try.ntmps9
    go_wp2_with fail
    go_ret
    exact ⟨rfl, Below.refl _ _⟩
end Go.Proofs.Ytccaeocnecfmaaa
