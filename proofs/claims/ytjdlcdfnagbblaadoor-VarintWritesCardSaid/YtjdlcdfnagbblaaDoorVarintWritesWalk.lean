/- The law VarintWrites. -/
import Derived.Test.YtjdlcdfnagbblaaDoorVarAlive
import Derived.Test.YtjdlcdfnagbblaaDoorVarPlain
import Derived.Test.YtjdlcdfnagbblaaDoorVarAppB
import Derived.Test.YtjdlcdfnagbblaaDoorFrameIntShape
namespace Go.Proofs.YtjdlcdfnagbblaaDoor
open Go.RowKit

set_option maxHeartbeats 1600000 in
theorem varintWrites_walk (a : Option Addr) (len cap : Nat) (zs : List Int) (x : Int) (w : World) (h : Ints .u8 w a len zs) (hsh : Shaped a len cap) (hx : Word x) (hg : Laid w) :
    Calls Tryd.prog 3 #[.slice a len cap, .int .u64 x] w fun e w' => e = .returned (.bool true) ∧ Below w.heap.size w w' := by
  have H := hide h
  have HG := hide hg
  have hm := h.most
  have hl := h.length
  have HN := hide hsh.none
  clear hsh h hg
  by_cases g : 100 < (len : Int)
  · go_enter Tryd.func3, Tryd.ntmps3
    go_wp2_with fail
    refine (alive_any _ HG.out).mono ?_
    rintro e w1 ⟨rfl, b1⟩
    go_wp2
    go_ret
    exact ⟨rfl, b1⟩
  · obtain ⟨K, k1, k2, k3, k4⟩ := writes_plain zs x hx
    have SZ := hide (fun W => size_any x W hx)
    have v1 := vb_len 10 x (by omega)
    have v2 := vb_most 10 x
    have HX := hide hx
    have p10 : x < 128 ^ 10 := by have := hx.2; omega
    have RB := hide (fun W => rbytes_any 10 x W hx p10 (by omega) (by omega))
    have AP := hide (fun W v W' (hO : OwnB W' W.heap.size v zs) (hb : Below W.heap.size W W') => append_any W v zs x W' hO hb hx (by omega))
    obtain ⟨L, eL⟩ : ∃ L, vb 10 x = L := ⟨_, rfl⟩
    rw [eL] at k1 k2 k3 k4 SZ v1 v2 RB
    have AP2 : ∀ W v W', OwnB W' W.heap.size v zs → Below W.heap.size W W' → Calls Tryd.prog 10 #[v, .int .u64 x] W' fun e w' => ∃ v', e = .returned v' ∧ OwnB w' W.heap.size v' (zs ++ L) ∧ Below W.heap.size W w' := by
      intro W v W' h1 h2
      rw [← eL]
      exact AP.out W v W' h1 h2
    clear AP eL
    obtain ⟨m, em⟩ : ∃ m, L.length = m := ⟨_, rfl⟩
    have hLL : (zs ++ L).length = len + m := by simp [hl, em]
    have EM := hide em
    obtain ⟨LL, eLL⟩ : ∃ LL, zs ++ L = LL := ⟨_, rfl⟩
    rw [eLL] at k2 k3 k4 hLL AP2
    have ELL := hide eLL
    rw [em] at k1 SZ v1 v2
    obtain ⟨n, en⟩ : ∃ n, n = len + m := ⟨_, rfl⟩
    rw [← en] at hLL
    have HLL := hide hLL
    have AP3 := hide AP2
    have RD : Hid (∀ W a' cap', Ints .u8 W a' n LL → n ≤ cap' → Calls Tryd.prog 14 #[.slice a' n cap', .int .i64 len] W fun e w' => e = .returned (.tuple #[.int .u64 x, .int .i64 n, .nilIface]) ∧ Below W.heap.size W w') := by
      refine hide fun W a' cap' hW hc => ?_
      have r := read_stop a' n cap' LL (len : Int) K W hW ⟨by omega, by omega⟩ hc (by omega) (by rw [Int.toNat_natCast, ← hl]; exact k2)
      unfold readV at r
      rw [Int.toNat_natCast, ← hl, if_pos k3, k4, hl, show (len : Int) + ((K : Int) + 1) = n by omega] at r
      exact r
    clear k1 k2 k3 k4 eLL em hLL AP2 hx p10
    have q0 : IntKind.i64.wrap ((n : Int) - (len : Int)) = (m : Int) := by rw [IntWalk.i64_in _ (by omega)]; omega
    have q1 : ¬ (10 : Int) < (m : Int) := by omega
    have NE := hide (show n ≤ 9223372036854775807 by omega)
    clear en
    go_enter Tryd.func3, Tryd.ntmps3
    go_wp2_with (at_builtin; refine wpList_append_bytes rfl _ _ rfl w.heap.size _ [] rfl ?o1 a len cap zs rfl ?o2 ?o3 ?o4 ?o5 ?_)
    case o1 => exact ⟨World.ownsRow_made w (base := w.heap.size) (e := 5) (size := 1) #[] 0 (Nat.le_refl _) (by decide) rfl, by simp⟩
    case o2 => exact H.out.below (bl_alloc (Below.refl _ _) _)
    case o3 => exact HN.out
    case o4 => first | omega | (simp; omega)
    intro v1 w1 hO1 hg1
    have O1 := hide hO1
    have B1 := hide ((bl_alloc (Below.refl w.heap.size w) (.cells #[] 5)).grown hg1 (by simp) (fun g hg => by simp [Value.ownBlock] at hg; omega))
    clear hO1 hg1
    go_wp2_with fail
    refine (AP3.out w _ _ O1.out B1.out).mono ?_
    rintro e w2 ⟨v2, rfl, hO2, b2⟩
    have B2 := hide b2
    have hi2 := hO2.ints (by rw [HLL.out]; exact NE.out)
    rw [HLL.out] at hi2
    obtain ⟨a2, c2, rfl, hI2, hc2⟩ := hi2
    have I2 := hide hI2
    clear hI2 hO2 b2
    go_wp2_with (at_builtin; refine wpList_append_bytes rfl _ _ rfl w2.heap.size _ [] rfl ?u1 a len cap zs rfl ?u2 ?u3 ?u4 ?u5 ?_)
    case u1 => exact ⟨World.ownsRow_made w2 (base := w2.heap.size) (e := 5) (size := 1) #[] 0 (Nat.le_refl _) (by decide) rfl, by simp⟩
    case u2 => exact (H.out.below B2.out).below (bl_alloc (Below.refl _ _) _)
    case u3 => exact HN.out
    case u4 => first | omega | (simp; omega)
    case u5 => simp
    intro v3 w3 hO3 hg3
    have B3 := hide ((bl_alloc (Below.refl w2.heap.size w2) (.cells #[] 5)).grown hg3 (by simp) (fun g hg => by simp [Value.ownBlock] at hg; omega))
    have O3 := hide hO3
    clear hO3 hg3
    go_wp2_with fail
    refine (RB.out _).mono ?_
    rintro e w4 ⟨v4, rfl, hO4, b4⟩
    have hi4 := hO4.ints (by rw [EM.out]; omega)
    rw [EM.out] at hi4
    obtain ⟨a4, c4, rfl, hI4, hc4⟩ := hi4
    have hn4 : a4 = none → c4 = 0 := by
      rintro rfl
      rcases hO4.row.2 with ⟨e1, _⟩ | ⟨g, cap, cur, e1, _⟩
      · cases e1; rfl
      · cases e1
    have N4 := hide hn4
    have I4 := hide hI4
    have O4 := hide (O3.out.below b4)
    have B4 := hide (bl_trans B3.out b4)
    have hs4 := B4.out.size
    clear hI4 hO4 b4 hn4
    go_wp2_with (at_builtin; refine wpList_append_bytes rfl _ _ rfl w2.heap.size _ zs rfl ?y1 a4 m c4 L rfl ?y2 ?y3 ?y4 ?y5 ?_)
    case y1 => exact O4.out
    case y2 => exact I4.out
    case y3 => exact N4.out
    case y4 => omega
    case y5 => exact hs4
    intro v5 w5 hO5 hg5
    have B5 := hide (B4.out.grown hg5 hs4 (fun q hq => (O4.out.row.lt q hq).1))
    rw [ELL.out] at hO5
    have hi5 := hO5.ints (by rw [HLL.out]; exact NE.out)
    rw [HLL.out] at hi5
    obtain ⟨a5, c5, rfl, hI5, hc5⟩ := hi5
    have I5 := hide hI5
    clear hI5 hO5 hg5
    have EQ := hide (fun W (h1 : Ints .u8 W a2 n LL) (h2 : Ints .u8 W a5 n LL) => equal_any a2 a5 n c2 n c5 LL LL W h1 h2)
    rw [show eqI LL LL = true from decide_eq_true rfl] at EQ
    go_wp2_with fail
    refine (EQ.out _ (I2.out.below B5.out) I5.out).mono ?_
    rintro e w6 ⟨rfl, b6⟩
    have B6 := hide (bl_trans B5.out b6)
    clear b6
    go_wp2_with fail
    refine (SZ.out _).mono ?_
    rintro e w7 ⟨rfl, rfl⟩
    go_wp2_with fail
    refine (SZ.out _).mono ?_
    rintro e w7 ⟨rfl, rfl⟩
    go_wp2_with fail
    refine (RD.out _ _ _ (I2.out.below B6.out) hc2).mono ?_
    rintro e w7 ⟨rfl, b7⟩
    have B7 := hide (bl_trans (bl_trans B2.out B6.out) b7)
    clear b7
    go_wp2_with fail
    refine (alive_any _ (HG.out.below B7.out)).mono ?_
    rintro e w8 ⟨rfl, b8⟩
    go_wp2
    go_ret
    exact ⟨rfl, bl_trans B7.out b8⟩
end Go.Proofs.YtjdlcdfnagbblaaDoor
