/- The example of the chapter delta holds: the law's function alive returns true. -/
import Derived.Test.YtpoodkihngnhpaaDeltaRef
import Derived.Test.YtpoodkihngnhpaaDeltaRefSums
import Derived.Test.YtpoodkihngnhpaaRef04
namespace Go.Proofs.Ytpoodkihngnhpaa
open Go.RowKit

theorem equal_own {w : World} {b1 : Nat} {va : Value} {xs ys : List Int} {a : Option Addr} {len cap : Nat} (hA : OwnI w b1 va xs) (hm : xs.length ≤ 9223372036854775807) (hB : Ints .u64 w a len ys) (e : xs = ys) :
    Calls Try.prog 13 #[va, .slice a len cap] w fun e w' => e = .returned (.bool true) ∧ Below w.heap.size w w' := by
  obtain ⟨a', c', rfl, hI, _⟩ := hA.ints hm
  exact (equal_any a' a _ c' len cap xs ys w hI hB).mono fun _ _ ⟨he, hb⟩ => ⟨he.trans (ret_bool (decide_eq_true e)), hb⟩
theorem equal_owns {w : World} {b1 b2 : Nat} {va vb : Value} {xs : List Int} (hA : OwnI w b1 va xs) (hB : OwnI w b2 vb xs) (hm : xs.length ≤ 9223372036854775807) :
    Calls Try.prog 13 #[va, vb] w fun e w' => e = .returned (.bool true) ∧ Below w.heap.size w w' := by
  obtain ⟨a', c', rfl, hI, _⟩ := hB.ints hm
  exact equal_own hA hm hI rfl
theorem same_list {w : World} {b1 : Nat} {va : Value} {zs ys : List Iv} {a : Option Addr} {len cap : Nat} (hA : OwnL w b1 44 va zs) (hB : Prs w a len ys) (e : zs = ys) :
    Calls Try.prog 15 #[va, .slice a len cap] w fun e w' => e = .returned (.bool true) ∧ Below w.heap.size w w' := by
  obtain ⟨a', c', rfl, hP, _⟩ := hA.prs
  exact (same_any a' a _ c' len cap zs ys w hP hB).mono fun _ _ ⟨he, hb⟩ => ⟨he.trans (ret_bool (decide_eq_true e)), hb⟩
theorem same_owns {w : World} {b1 b2 : Nat} {va vb : Value} {zs : List Iv} (hA : OwnL w b1 44 va zs) (hB : OwnL w b2 44 vb zs) :
    Calls Try.prog 15 #[va, vb] w fun e w' => e = .returned (.bool true) ∧ Below w.heap.size w w' := by
  obtain ⟨a', c', rfl, hP, _⟩ := hB.prs
  exact same_list hA hP rfl

theorem diffs_yes (a : Option Addr) (len cap : Nat) (zs : List Iv) (ap : Int) (w : World) (h : Prs w a len zs) (ha : Word ap) (hs : len ≤ 1000) (hA : ApTo zs ap len) :
    Calls Try.prog 10 #[.slice a len cap, .int .u64 ap] w fun e w' => ∃ v, e = .returned (.tuple #[v, .bool true]) ∧ OwnI w' w.heap.size v (dif zs ap len) ∧ Below w.heap.size w w' := by
  refine (diffs_any a len cap zs ap w h ha hs).mono ?_
  rintro e w' ⟨hb, ⟨_, v, he, hO⟩ | ⟨hn, _⟩⟩
  · exact ⟨v, he, hO, hb⟩
  · exact absurd hA hn
theorem diffs_no (a : Option Addr) (len cap : Nat) (zs : List Iv) (ap : Int) (w : World) (h : Prs w a len zs) (ha : Word ap) (hs : len ≤ 1000) (hA : ¬ ApTo zs ap len) :
    Calls Try.prog 10 #[.slice a len cap, .int .u64 ap] w fun e w' => e = .returned (.tuple #[.slice none 0 0, .bool false]) ∧ Below w.heap.size w w' := by
  refine (diffs_any a len cap zs ap w h ha hs).mono ?_
  rintro e w' ⟨hb, ⟨hy, _⟩ | ⟨_, he⟩⟩
  · exact absurd hy hA
  · exact ⟨he, hb⟩
theorem sums_yes (a : Option Addr) (len cap : Nat) (ds : List Int) (ap : Int) (w : World) (h : Ints .u64 w a len ds) (ha : Word ap) (hs : len ≤ 1000) (hA : SumsOk ds ap) :
    Calls Try.prog 12 #[.slice a len cap, .int .u64 ap] w fun e w' => ∃ v, e = .returned (.tuple #[v, .bool true]) ∧ OwnL w' w.heap.size 44 v (ivs ds ap (ds.length / 2)) ∧ Below w.heap.size w w' := by
  refine (sums_any a len cap ds ap w h ha hs).mono ?_
  rintro e w' ⟨hb, ⟨_, v, he, hO⟩ | ⟨hn, _⟩⟩
  · exact ⟨v, he, hO, hb⟩
  · exact absurd hA hn
theorem sums_no (a : Option Addr) (len cap : Nat) (ds : List Int) (ap : Int) (w : World) (h : Ints .u64 w a len ds) (ha : Word ap) (hs : len ≤ 1000) (hA : ¬ SumsOk ds ap) :
    Calls Try.prog 12 #[.slice a len cap, .int .u64 ap] w fun e w' => e = .returned (.tuple #[.slice none 0 0, .bool false]) ∧ Below w.heap.size w w' := by
  refine (sums_any a len cap ds ap w h ha hs).mono ?_
  rintro e w' ⟨hb, ⟨hy, _⟩ | ⟨_, he⟩⟩
  · exact absurd hy hA
  · exact ⟨he, hb⟩
theorem rsums_yes (a : Option Addr) (len cap : Nat) (ds : List Int) (ap : Int) (w : World) (h : Ints .u64 w a len ds) (ha : Word ap) (hs : len ≤ 1000) (hA : SumsOk ds ap) :
    Calls Try.prog 16 #[.slice a len cap, .int .u64 ap] w fun e w' => ∃ v, e = .returned (.tuple #[v, .bool true]) ∧ OwnL w' w.heap.size 44 v (ivs ds ap (ds.length / 2)) ∧ Below w.heap.size w w' := by
  refine (rsums_any a len cap ds ap w h ha hs).mono ?_
  rintro e w' ⟨hb, ⟨_, v, he, hO⟩ | ⟨hn, _⟩⟩
  · exact ⟨v, he, hO, hb⟩
  · exact absurd hA hn
theorem rsums_not (a : Option Addr) (len cap : Nat) (ds : List Int) (ap : Int) (w : World) (h : Ints .u64 w a len ds) (ha : Word ap) (hs : len ≤ 1000) (hA : ¬ SumsOk ds ap) :
    Calls Try.prog 16 #[.slice a len cap, .int .u64 ap] w fun e w' => e = .returned (.tuple #[.slice none 0 0, .bool false]) ∧ Below w.heap.size w w' := by
  refine (rsums_any a len cap ds ap w h ha hs).mono ?_
  rintro e w' ⟨hb, ⟨hy, _⟩ | ⟨_, he⟩⟩
  · exact absurd hy hA
  · exact ⟨he, hb⟩

abbrev zsD : List Iv := [(2, 4), (7, 7)]
abbrev dsD : List Int := [2, 2, 1, 0]
theorem prsD {w : World} {b : Nat} (h : w.heap[b]? = some (.cells #[.int .u64 2, .int .u64 4, .int .u64 7, .int .u64 7] 44 (0, 0))) : Prs w (some ⟨b, 0, none⟩) 2 zsD :=
  ⟨rfl, by decide, by intro z hz; simp at hz; rcases hz with rfl | rfl <;> exact ⟨⟨by decide, by decide⟩, ⟨by decide, by decide⟩⟩, fun i hi => by
    have hb := Blk_lt h
    have : i = 0 ∨ i = 1 := by omega
    rcases this with rfl | rfl <;> exact ⟨b, 0, rfl, hb, by simp [World.cell?, h, Lo], by simp [World.cell?, h, Hi]⟩⟩
theorem apD : ApTo zsD 1 2 := by
  intro i hi
  have : i = 0 ∨ i = 1 := by omega
  rcases this with rfl | rfl <;> exact ⟨by decide, by decide⟩
theorem difD : dif zsD 1 2 = dsD := by decide
theorem okD : SumsOk dsD 1 := by
  refine ⟨by decide, fun j hj => ?_, fun j hj => ?_⟩
  all_goals
    have : j = 0 ∨ j = 1 := by simp at hj; omega
    rcases this with rfl | rfl <;> decide
theorem ivsD : ivs dsD 1 2 = zsD := by decide
theorem intsD {w : World} {b : Nat} (h : w.heap[b]? = some (.cells #[.int .u64 2, .int .u64 2, .int .u64 1, .int .u64 0] 24 (0, 0))) : Ints .u64 w (some ⟨b, 0, none⟩) 4 dsD :=
  ints4 ⟨by decide, by decide⟩ ⟨by decide, by decide⟩ one_word zero_word h

set_option maxHeartbeats 800000 in
theorem alive_any (w : World) : Calls Try.prog 9 #[] w fun e w' => e = .returned (.bool true) ∧ Below w.heap.size w w' := by
  go_enter Try.func9, Try.ntmps9
  go_wp2_with fail
  have hP : Prs (w.alloc (.cells #[.int .u64 2, .int .u64 4, .int .u64 7, .int .u64 7] 44)) (some ⟨w.heap.size, 0, none⟩) 2 zsD := prsD (heap_new_at _ _ rfl)
  have B0 := bl_alloc (Below.refl w.heap.size w) (.cells #[.int .u64 2, .int .u64 4, .int .u64 7, .int .u64 7] 44)
  obtain ⟨w0, e0⟩ : ∃ w0, w.alloc (.cells #[.int .u64 2, .int .u64 4, .int .u64 7, .int .u64 7] 44) = w0 := ⟨_, rfl⟩
  rw [e0] at hP B0 ⊢
  clear e0
  have P0 := hide hP
  clear hP
  refine (diffs_yes _ 2 2 zsD 1 _ P0.out one_word (by decide) apD).mono ?_
  rintro e w1 ⟨vd, rfl, hd, b1⟩
  have P1 := hide (P0.out.below b1)
  rw [difD] at hd
  have D1 := hide hd
  have B1 := hide (bl_trans B0 b1)
  clear hd B0 b1
  go_wp2_with fail
  refine (sums_yes (some ⟨w1.heap.size, 0, none⟩) 4 4 dsD 1 _ (intsD (heap_new_at _ _ rfl)) one_word (by decide) okD).mono ?_
  rintro e w2 ⟨vm, rfl, hm, b2⟩
  have b2' := bl_trans (bl_alloc (Below.refl w1.heap.size w1) (.cells #[.int .u64 2, .int .u64 2, .int .u64 1, .int .u64 0] 24)) b2
  have P2 := hide (P1.out.below b2')
  have D2 := hide (D1.out.below b2')
  have B2 := hide (bl_trans B1.out b2')
  rw [show dsD.length / 2 = 2 from rfl, ivsD] at hm
  have M2 := hide hm
  clear hm b2 b2'
  go_wp2_with fail
  refine (start_any 1 _).mono ?_
  rintro e w3 ⟨rfl, hC, b3⟩
  have C3 := hide hC
  have hl3 := hide b3.size
  have B3 := hide b3
  clear hC b3
  go_wp2_with fail
  refine (hi_shut _ 0 _ _ _ _ _ _ _ C3.out).mono ?_
  rintro e w4 ⟨rfl, b4⟩
  have C4 := hide ((C3.out.below b4).below (bl_alloc (Below.refl _ _) (.cells #[.int .u64 0, .int .u64 0] 44)))
  have k0 : (w4.alloc (.cells #[.int .u64 0, .int .u64 0] 44)).heap.size = w4.heap.size + 1 := by simp
  have B4 := hide (bl_alloc (bl_trans B3.out b4) (.cells #[.int .u64 0, .int .u64 0] 44))
  clear b4 k0
  go_wp2_with fail
  refine (lo_first _ 2 _ _ _ _ _ C4.out).mono ?_
  rintro e w5 ⟨rfl, _, hO⟩
  have B5 := hide (B4.out.trans (hO.below B4.out.size (fun k hk => by omega)))
  have P5 := hide (P2.out.below B5.out)
  have D5 := hide (D2.out.below B5.out)
  have M5 := hide (M2.out.keep B5.out)
  have F5 := hide (bl_trans B2.out B5.out)
  clear hO
  go_wp2_with fail
  refine (equal_own (D5.out.below (bl_alloc (Below.refl _ _) _)) (by decide) (intsD (heap_new_at w5 _ rfl)) rfl).mono ?_
  rintro e w6 ⟨rfl, b6⟩
  have b6' := bl_trans (bl_alloc (Below.refl w5.heap.size w5) (.cells #[.int .u64 2, .int .u64 2, .int .u64 1, .int .u64 0] 24)) b6
  go_wp2_with fail
  refine (same_list (M5.out.keep b6') (P5.out.below b6') rfl).mono ?_
  rintro e w7 ⟨rfl, b7⟩
  go_wp2_with fail
  go_ret
  exact ⟨rfl, bl_trans (bl_trans F5.out b6') b7⟩
end Go.Proofs.Ytpoodkihngnhpaa
