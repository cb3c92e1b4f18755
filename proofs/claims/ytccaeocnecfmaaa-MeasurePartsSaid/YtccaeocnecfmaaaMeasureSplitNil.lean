/- The contract of measure.Split over an empty list. -/
import Derived.Test.YtccaeocnecfmaaaMeasureSplit
namespace Go.Proofs.Ytccaeocnecfmaaa
open Go.RowKit

theorem prs_nil (w : World) (a : Option Addr) : Prs w a 0 [] := ⟨rfl, by omega, by simp, fun i hi => absurd hi (by omega)⟩
set_option maxHeartbeats 1600000 in
theorem split_nil (a : Option Addr) (cap : Nat) (rk : Int) (w : World) (hx : Word rk) (hn : a = none → cap = 0) (hcap2 : cap ≤ 9223372036854775807) :
    Calls Try.prog 21 #[.slice a 0 cap, .int .u64 rk] w fun e w' => ∃ va vb, e = .returned (.tuple #[va, vb]) ∧ Two w w' va vb [] [] := by
  have HF := hide (find_any a 0 cap [] rk 0 w (prs_nil w a) (fun i hi => absurd hi (by omega)) hx ⟨Nat.le_refl _, fun k hk => absurd hk (by omega), fun h => absurd h (by omega)⟩)
  have HD := hide (fun (W : World) (ad : Addr) c => clone_any (some ad) 0 c [] W (prs_nil W _) (fun e => by cases e) (by omega))
  have HN := hide (fun (W : World) => clone_any none 0 0 [] W (prs_nil W _) (fun _ => rfl) (by omega))
  have i2 : (0 : Int) ≤ (cap : Int) := by omega
  have hmx : Try.prog.follows .mixedOrders = true := by kernel_rfl
  obtain ⟨x, ex⟩ : ∃ x, x = fVal [] rk 0 0 := ⟨_, rfl⟩
  rw [← ex] at HF
  clear ex hx
  cases a with
  | none =>
    obtain rfl : cap = 0 := hn rfl
    clear hn
    go_enter Try.func21, Try.ntmps21
    go_wp2_with fail
    refine HF.out.mono ?_
    rintro e w1 ⟨rfl, b1⟩
    go_wp2_with fail
    have b2 := hide (bl_drew b1)
    go_region_with (go_at_call 33; refine (HN.out _).mono ?_; rintro e w2 ⟨vb, rfl, hO, hb2⟩)
    go_wp2_with fail
    refine (HN.out _).mono ?_
    rintro e w3 ⟨va, rfl, hO3, hb3⟩
    go_wp2
    go_ret2
    exact ⟨va, vb, rfl, two_of b2.out hO hb2 hO3 hb3⟩
  | some ad =>
    clear hn
    by_cases hc : cap = 0
    · subst hc
      go_enter Try.func21, Try.ntmps21
      go_wp2_with fail
      refine HF.out.mono ?_
      rintro e w1 ⟨rfl, b1⟩
      go_wp2_with fail
      have b2 := hide (bl_drew b1)
      go_region_with (go_at_call 33; refine (HD.out _ _ _).mono ?_; rintro e w2 ⟨vb, rfl, hO, hb2⟩)
      go_wp2_with fail
      refine (HD.out _ _ _).mono ?_
      rintro e w3 ⟨va, rfl, hO3, hb3⟩
      go_wp2
      go_ret2
      exact ⟨va, vb, rfl, two_of b2.out hO hb2 hO3 hb3⟩
    · have hc' : ¬ (cap : Int) = 0 := by omega
      have hc2 : ¬ 0 = cap := by omega
      go_enter Try.func21, Try.ntmps21
      go_wp2_with fail
      refine HF.out.mono ?_
      rintro e w1 ⟨rfl, b1⟩
      go_wp2_with fail
      have b2 := hide (bl_drew b1)
      go_region_with (go_at_call 33; refine (HD.out _ _ _).mono ?_; rintro e w2 ⟨vb, rfl, hO, hb2⟩)
      go_wp2_with fail
      refine (HD.out _ _ _).mono ?_
      rintro e w3 ⟨va, rfl, hO3, hb3⟩
      go_wp2
      go_ret2
      exact ⟨va, vb, rfl, two_of b2.out hO hb2 hO3 hb3⟩
end Go.Proofs.Ytccaeocnecfmaaa
