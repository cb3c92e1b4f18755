/- Contracts of fault.New, Wrap; the example of the chapter holds. -/
import Derived.Test.YtgggnjgcbmpibaaDoorErrText
namespace Go.Proofs.YtgggnjgcbmpibaaDoor
open Go.RowKit

theorem new_ok (n : Int) (w : World) : Calls Tryd.prog 21 #[.int .i64 0, .int .i64 n] w fun e w' => e = .returned .nilIface ∧ w = w' := by
  go_enter Tryd.func21, Tryd.ntmps21
  go_wp2
  go_ret
  exact ⟨rfl, rfl⟩
theorem new_any (c n : Int) (hc : c ≠ 0) (w : World) : Calls Tryd.prog 21 #[.int .i64 c, .int .i64 n] w fun e w' => e = .returned (Er.f c n).v ∧ w = w' := by
  have q0 : (c == 0) = false := by simp [hc]
  clear hc
  go_enter Tryd.func21, Tryd.ntmps21
  go_wp2
  go_ret
  exact ⟨rfl, rfl⟩
theorem wrap_nil (s : ByteArray) (w : World) : Calls Tryd.prog 12 #[.string s, .nilIface] w fun e w' => e = .returned .nilIface ∧ w = w' := by
  go_enter Tryd.func12, Tryd.ntmps12
  go_wp2
  go_ret
  exact ⟨rfl, rfl⟩
theorem wrap_any (s : ByteArray) (x : Er) (w : World) : Calls Tryd.prog 12 #[.string s, x.v] w fun e w' => e = .returned (Er.w s x).v ∧ w = w' := by
  unfold Er.v
  go_enter Tryd.func12, Tryd.ntmps12
  go_wp2
  go_ret
  exact ⟨rfl, rfl⟩

abbrev frameT : ByteArray := ⟨#[102, 114, 97, 109, 101]⟩
theorem alive_text : (Er.w frameT (.f 14 7)).txt = ⟨#[102, 114, 97, 109, 101, 58, 32, 101, 114, 114, 111, 114, 32, 49, 52]⟩ := by rfl

set_option maxHeartbeats 1600000 in
theorem alive_any (w : World) (hg : Laid w) : Calls Tryd.prog 10 #[] w fun e w' => e = .returned (.bool true) ∧ Below w.heap.size w w' := by
  have HG := hide (fun W (hb : Below w.heap.size w W) => hg.below hb)
  clear hg
  have K1 := hide (fun W => new_any 14 7 (by decide) W)
  have K2 := hide (fun W => wrap_any frameT (.f 14 7) W)
  have K3 : Hid (∀ W, Calls Tryd.prog 57 #[.agg #[.string frameT, .iface 40 (.agg #[.int .i64 14, .int .i64 7])]] W fun e w' => e = .returned (.string ⟨#[102, 114, 97, 109, 101, 58, 32, 101, 114, 114, 111, 114, 32, 49, 52]⟩) ∧ Below W.heap.size W w') :=
    hide (fun W => text_any (.w frameT (.f 14 7)) W ⟨by decide, by show (errS 14).size ≤ _; exact Nat.le_trans (errS_size 14 (by decide)) (by decide), by show (14 : Int) ≤ 9223372036854775807; decide⟩)
  have K4 := hide (fun W h => code_any (.w frameT (.f 14 7)) W h)
  have K5 := hide (fun W h => at_any (.w frameT (.f 14 7)) W h)
  have M := methodErrorN
  go_enter Tryd.func10, Tryd.ntmps10
  go_wp2_with fail
  refine (K1.out _).mono ?_
  rintro e w1 ⟨rfl, rfl⟩
  go_wp2_with fail
  refine (K2.out _).mono ?_
  rintro e w1 ⟨rfl, rfl⟩
  simp only [Er.v, Er.tid, Er.dat] at K4 K5 ⊢
  go_wp2_with fail
  refine (K3.out _).mono ?_
  rintro e w1 ⟨rfl, b1⟩
  go_wp2_with fail
  refine (K4.out _ (HG.out _ b1)).mono ?_
  rintro e w2 ⟨rfl, b2⟩
  have B2 := bl_trans b1 b2
  go_wp2_with fail
  refine (K5.out _ (HG.out _ B2)).mono ?_
  rintro e w3 ⟨rfl, b3⟩
  have B3 := bl_trans B2 b3
  go_wp2_with fail
  refine (code_nil _).mono ?_
  rintro e w4 ⟨rfl, b4⟩
  have B4 := bl_trans B3 b4
  go_wp2_with fail
  refine (at_nil _).mono ?_
  rintro e w5 ⟨rfl, b5⟩
  have B5 := bl_trans B4 b5
  clear b1 b2 b3 b4 b5
  go_wp2
  go_ret
  exact ⟨rfl, B5⟩
end Go.Proofs.YtgggnjgcbmpibaaDoor
