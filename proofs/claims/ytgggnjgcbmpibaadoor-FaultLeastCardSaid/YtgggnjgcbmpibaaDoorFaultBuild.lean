/- The law's functions few and build; errors.New. -/
import Derived.Test.YtgggnjgcbmpibaaDoorErrIs
import Derived.Test.YtgggnjgcbmpibaaDoorStrs
namespace Go.Proofs.YtgggnjgcbmpibaaDoor
open Go.RowKit

/-- An error has few names, and short ones. -/
def FewL (ss : List ByteArray) (len : Nat) : Prop := (∀ i, i < len → (ss.getD i ByteArray.empty).size ≤ 100) ∧ len ≤ 20
/-- The value of a description. -/
def Dsc (nil has : Bool) (code at' : Int) (a : Option Addr) (len cap : Nat) : Value := .agg #[.bool nil, .int .i64 code, .bool has, .int .i64 at', .slice a len cap]
theorem cells_five {w : World} {b : Nat} {x0 x1 x2 x3 x4 : Value} {t : TypeId} (h : w.heap[b]? = some (.cells #[x0, x1, x2, x3, x4] t (0, 0))) :
    w.cell? ⟨b, 0, none⟩ = some x0 ∧ w.cell? ⟨b, 1, none⟩ = some x1 ∧ w.cell? ⟨b, 2, none⟩ = some x2 ∧ w.cell? ⟨b, 3, none⟩ = some x3 ∧ w.cell? ⟨b, 4, none⟩ = some x4 :=
  ⟨by simp [World.cell?, h], by simp [World.cell?, h], by simp [World.cell?, h], by simp [World.cell?, h], by simp [World.cell?, h]⟩

set_option maxHeartbeats 1600000 in
theorem few_any (nil has : Bool) (code at' : Int) (a : Option Addr) (len cap : Nat) (ss : List ByteArray) (w : World) (h : Strs w a len ss) :
    Calls Tryd.prog 9 #[Dsc nil has code at' a len cap] w fun e w' => (∃ b, e = .returned (.bool b) ∧ (b = true ↔ FewL ss len)) ∧ Below w.heap.size w w' := by
  have hm := h.most
  have H := hide h
  clear h
  unfold Dsc
  go_enter Tryd.func9, Tryd.ntmps9
  go_wp2_with fail
  have B0 := bl_alloc (Below.refl w.heap.size w) (.cells #[.bool nil, .int .i64 code, .bool has, .int .i64 at', .slice a len cap] 25)
  have c4 : (w.alloc (.cells #[.bool nil, .int .i64 code, .bool has, .int .i64 at', .slice a len cap] 25)).cell? ⟨w.heap.size, 4, none⟩ = some (.slice a len cap) := by simp
  obtain ⟨W, eW⟩ : ∃ W, w.alloc (.cells #[.bool nil, .int .i64 code, .bool has, .int .i64 at', .slice a len cap] 25) = W := ⟨_, rfl⟩
  rw [eW] at B0 c4 ⊢
  clear eW
  go_loopw [8] (fun c wr => ∃ k : Nat, k ≤ len ∧ c = .int .i64 k ∧ (∀ i, i < k → (ss.getD i ByteArray.empty).size ≤ 100) ∧ wr = W)
    (fun c _ => len - (intOf c).toNat)
  case atStart => exact ⟨0, Nat.zero_le _, rfl, fun i hi => absurd hi (by omega), rfl⟩
  case round =>
    obtain ⟨k, hk, rfl, hs, rfl⟩ := hrel
    have HS := hide hs
    clear hs
    by_cases hlt : k < len
    · obtain ⟨b, off, rfl, hbl, hc1⟩ := (H.out.below B0).cells k hlt
      have hz := H.out.size hlt
      have i0 : (0 : Int) ≤ (k : Int) := by omega
      have i1 : (k : Int) < (len : Int) := by omega
      obtain ⟨s, es⟩ : ∃ s, s = ss.getD k ByteArray.empty := ⟨_, rfl⟩
      rw [← es] at hc1 hz
      have ES := hide es
      clear es
      by_cases h1 : s.size ≤ 100
      · have j1 : (s.size : Int) ≤ 100 := by omega
        go_wp2
        go_roundw
        case rel => exact ⟨k + 1, by omega, by go_num, (fun i hi => by
          by_cases e : i = k
          · subst e; rw [← ES.out]; exact h1
          · exact HS.out i (by omega)), trivial⟩
        case measure => simp [intOf]; omega
      · have j1 : 100 < (s.size : Int) := by omega
        have R := hide (show ¬ FewL ss len from fun hF => h1 (by rw [ES.out]; exact hF.1 k hlt))
        go_wp2
        go_ret
        exact ⟨⟨false, rfl, ⟨(fun h => by cases h), fun h => absurd h R.out⟩⟩, B0⟩
    · have : k = len := by omega
      subst this
      go_wp2
      go_ret
      exact ⟨⟨_, rfl, by rw [decide_eq_true_iff]; exact ⟨fun h => ⟨HS.out, by omega⟩, fun h => by have := h.2; omega⟩⟩, B0⟩
theorem few_yes (nil has : Bool) (code at' : Int) (a : Option Addr) (len cap : Nat) (ss : List ByteArray) (w : World) (h : Strs w a len ss) (hF : FewL ss len) :
    Calls Tryd.prog 9 #[Dsc nil has code at' a len cap] w fun e w' => e = .returned (.bool true) ∧ Below w.heap.size w w' :=
  (few_any nil has code at' a len cap ss w h).mono fun _ _ ⟨⟨_, he, hb⟩, hw⟩ => ⟨he.trans (ret_bool (hb.2 hF)), hw⟩
theorem few_no (nil has : Bool) (code at' : Int) (a : Option Addr) (len cap : Nat) (ss : List ByteArray) (w : World) (h : Strs w a len ss) (hF : ¬ FewL ss len) :
    Calls Tryd.prog 9 #[Dsc nil has code at' a len cap] w fun e w' => e = .returned (.bool false) ∧ Below w.heap.size w w' :=
  (few_any nil has code at' a len cap ss w h).mono fun _ _ ⟨⟨b, he, hb⟩, hw⟩ => ⟨he.trans (ret_bool (by cases b with | false => rfl | true => exact absurd (hb.1 rfl) hF)), hw⟩

/-- An error with the first k names in front. -/
def chn (x : Er) (ss : List ByteArray) : Nat → Er
  | 0 => x
  | k + 1 => .w (ss.getD k ByteArray.empty) (chn x ss k)
theorem chn_code (x : Er) (ss : List ByteArray) : ∀ k, (chn x ss k).code = x.code
  | 0 => rfl
  | k + 1 => chn_code x ss k
theorem chn_fault (x : Er) (ss : List ByteArray) : ∀ k, (chn x ss k).fault = x.fault
  | 0 => rfl
  | k + 1 => chn_fault x ss k
theorem chn_has (x : Er) (ss : List ByteArray) (c : Int) : ∀ k, (chn x ss k).has c = x.has c
  | 0 => rfl
  | k + 1 => chn_has x ss c k
theorem chn_cd (x : Er) (ss : List ByteArray) (k : Nat) : (chn x ss k).cd = x.cd := by unfold Er.cd; rw [chn_code]
theorem chn_at (x : Er) (ss : List ByteArray) (k : Nat) : (chn x ss k).at' = x.at' := by unfold Er.at'; rw [chn_fault]
theorem chn_fine (x : Er) (ss : List ByteArray) (len : Nat) (hF : FewL ss len) (hx : x.fine) (hs : x.txt.size ≤ 1152921504606846983) : ∀ k, k ≤ len → (chn x ss k).fine ∧ (chn x ss k).txt.size ≤ 1152921504606846983 + 102 * k
  | 0, _ => ⟨hx, by simpa [chn] using hs⟩
  | k + 1, hk => by
    obtain ⟨h1, h2⟩ := chn_fine x ss len hF hx hs k (by omega)
    have h3 := hF.1 k (by omega)
    have h4 := hF.2
    refine ⟨⟨by omega, by omega, h1⟩, ?_⟩
    show (ss.getD k ByteArray.empty ++ ⟨#[58, 32]⟩ ++ (chn x ss k).txt).size ≤ _
    rw [ByteArray.size_append, ByteArray.size_append]
    show (ss.getD k ByteArray.empty).size + 2 + (chn x ss k).txt.size ≤ _
    omega

/-- The error of a description, without its names. -/
def bas (has : Bool) (code at' : Int) : Er := if has = true then .f code at' else .e code
theorem build_nil (has : Bool) (code at' : Int) (a : Option Addr) (len cap : Nat) (w : World) :
    Calls Tryd.prog 16 #[Dsc true has code at' a len cap] w fun e w' => e = .returned .nilIface ∧ Below w.heap.size w w' := by
  unfold Dsc
  go_enter Tryd.func16, Tryd.ntmps16
  go_wp2
  go_ret
  exact ⟨rfl, bl_alloc (Below.refl _ _) _⟩
set_option maxHeartbeats 1600000 in
theorem build_any (has : Bool) (code at' : Int) (a : Option Addr) (len cap : Nat) (ss : List ByteArray) (w : World) (h : Strs w a len ss) :
    Calls Tryd.prog 16 #[Dsc false has code at' a len cap] w fun e w' => e = .returned (chn (bas has code at') ss len).v ∧ Below w.heap.size w w' := by
  have hm := h.most
  have H := hide h
  clear h
  unfold Dsc
  cases has with
  | true =>
    go_enter Tryd.func16, Tryd.ntmps16
    go_wp2_with fail
    have B0 := bl_alloc (Below.refl w.heap.size w) (.cells #[.bool false, .int .i64 code, .bool true, .int .i64 at', .slice a len cap] 25)
    obtain ⟨W, eW⟩ : ∃ W, w.alloc (.cells #[.bool false, .int .i64 code, .bool true, .int .i64 at', .slice a len cap] 25) = W := ⟨_, rfl⟩
    rw [eW] at B0 ⊢
    clear eW
    go_loopw [3, 22] (fun er c wr => ∃ k : Nat, k ≤ len ∧ c = .int .i64 k ∧ er = (chn (bas true code at') ss k).v ∧ wr = W)
      (fun _ c _ => len - (intOf c).toNat)
    case atStart => exact ⟨0, Nat.zero_le _, rfl, rfl, rfl⟩
    case round =>
      obtain ⟨k, hk, rfl, rfl, rfl⟩ := hrel
      by_cases hlt : k < len
      · obtain ⟨b, off, rfl, hbl, hc1⟩ := (H.out.below B0).cells k hlt
        have i0 : (0 : Int) ≤ (k : Int) := by omega
        have i1 : (k : Int) < (len : Int) := by omega
        obtain ⟨s, es⟩ : ∃ s, s = ss.getD k ByteArray.empty := ⟨_, rfl⟩
        rw [← es] at hc1
        have ES := hide es
        clear es
        go_wp2_with fail
        refine (wrap_any s _ _).mono ?_
        rintro e w1 ⟨rfl, rfl⟩
        go_wp2
        go_roundw
        case rel => exact ⟨k + 1, by omega, by go_num, by rw [ES.out]; rfl, trivial⟩
        case measure => simp [intOf]; omega
      · have : k = len := by omega
        subst this
        go_wp2
        go_ret
        exact ⟨rfl, B0⟩
  | false =>
    go_enter Tryd.func16, Tryd.ntmps16
    go_wp2_with fail
    have B0 := bl_alloc (Below.refl w.heap.size w) (.cells #[.bool false, .int .i64 code, .bool false, .int .i64 at', .slice a len cap] 25)
    obtain ⟨W, eW⟩ : ∃ W, w.alloc (.cells #[.bool false, .int .i64 code, .bool false, .int .i64 at', .slice a len cap] 25) = W := ⟨_, rfl⟩
    rw [eW] at B0 ⊢
    clear eW
    go_loopw [3, 22] (fun er c wr => ∃ k : Nat, k ≤ len ∧ c = .int .i64 k ∧ er = (chn (bas false code at') ss k).v ∧ wr = W)
      (fun _ c _ => len - (intOf c).toNat)
    case atStart => exact ⟨0, Nat.zero_le _, rfl, rfl, rfl⟩
    case round =>
      obtain ⟨k, hk, rfl, rfl, rfl⟩ := hrel
      by_cases hlt : k < len
      · obtain ⟨b, off, rfl, hbl, hc1⟩ := (H.out.below B0).cells k hlt
        have i0 : (0 : Int) ≤ (k : Int) := by omega
        have i1 : (k : Int) < (len : Int) := by omega
        obtain ⟨s, es⟩ : ∃ s, s = ss.getD k ByteArray.empty := ⟨_, rfl⟩
        rw [← es] at hc1
        have ES := hide es
        clear es
        go_wp2_with fail
        refine (wrap_any s _ _).mono ?_
        rintro e w1 ⟨rfl, rfl⟩
        go_wp2
        go_roundw
        case rel => exact ⟨k + 1, by omega, by go_num, by rw [ES.out]; rfl, trivial⟩
        case measure => simp [intOf]; omega
      · have : k = len := by omega
        subst this
        go_wp2
        go_ret
        exact ⟨rfl, B0⟩

theorem errNew (s : ByteArray) (w : World) : Calls Tryd.prog 11 #[.string s] w fun e w' => e = .returned (Er.s w.heap.size).v ∧ Below w.heap.size w w' := by
  go_enter Tryd.func11, Tryd.ntmps11
  go_wp2
  go_ret
  exact ⟨rfl, bl_alloc (Below.refl _ _) _⟩
end Go.Proofs.YtgggnjgcbmpibaaDoor
