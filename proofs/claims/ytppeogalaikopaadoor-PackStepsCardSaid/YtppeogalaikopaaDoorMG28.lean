/- The reference's Few and Canonical of a vector. The reference's Canonical of a vector. A vector's bytes that are cut off are too short. No program in sight. -/
import Derived.Test.YtppeogalaikopaaDoorMG13
import Derived.Test.YtppeogalaikopaaDoorMG17
import Derived.BigQuiet
import Derived.Deep.QuietTactic
namespace Go.Proofs.YtppeogalaikopaaDoor
open Go Go.RowKit
set_option linter.unusedSimpArgs false

/-- A truth that says P. -/
def BoolPost (P : Prop) (e : Ending) : Prop := ∃ b, e = .returned (.bool b) ∧ (b = true → P)
theorem bool_f (P : Prop) : BoolPost P (.returned (.bool false)) := ⟨false, rfl, fun h => by cases h⟩
theorem bool_t {P : Prop} (h : P) : BoolPost P (.returned (.bool true)) := ⟨true, rfl, fun _ => h⟩
/-- Few entries with few holes. -/
def FewV (es : List Ent) : Prop := es.length ≤ 20 ∧ ∀ i, i < es.length → (es.getD i Ent.z).hs.length ≤ 30
set_option maxHeartbeats 800000 in
theorem few_any (a : Option Addr) (len cap : Nat) (l : List EV) (w : World) (h : EntsAt w a len l) :
    Calls Tryd.prog 9 #[.slice a len cap] w fun e w' => BoolPost (FewV (l.map (·.1))) e ∧ Below w.heap.size w w' := by
  have H := hide h
  have hl := hide h.length
  have hm := h.most
  clear h
  go_enter Tryd.func9, Tryd.ntmps9
  go_wp2
  go_loopw [3] (fun c wr => ∃ k : Nat, k ≤ len ∧ c = .int .i64 k ∧ (∀ i, i < k → (l.getD i EV.z).1.hs.length ≤ 30) ∧ Below w.heap.size w wr)
    (fun c _ => len - (intOf c).toNat)
  case atStart => exact ⟨0, Nat.zero_le _, rfl, fun i hi => absurd hi (by omega), Below.refl _ _⟩
  case round =>
    obtain ⟨k, hk, rfl, hno, hb⟩ := hrel
    have HN := hide hno
    have HB := hide hb
    clear hno
    have i0 : (0 : Int) ≤ (k : Int) := by omega
    by_cases hlt : k < len
    · obtain ⟨b, off, rfl, hbl, hc1, hc2, hc3⟩ := (H.out.below hb).cells k hlt
      obtain ⟨ha, hcap, eh, _, _⟩ := (H.out.holes _ (H.out.mem hlt)).at'
      have i1 : (k : Int) < (len : Int) := by omega
      rw [eh] at hc3
      obtain ⟨n, en⟩ : ∃ n, (l.getD k EV.z).1.hs.length = n := ⟨_, rfl⟩
      rw [en] at hc3
      have EN := hide en
      clear en eh hc1 hc2 hb
      by_cases hn : 30 < (n : Int)
      · go_wp2
        go_ret
        exact ⟨bool_f _, HB.out⟩
      · have HS := hide (show ∀ i, i < k + 1 → (l.getD i EV.z).1.hs.length ≤ 30 from fun i hi => by
          by_cases e : i = k
          · subst e; rw [EN.out]; omega
          · exact HN.out i (by omega))
        go_wp2
        go_roundw
        case rel => exact ⟨k + 1, by omega, by go_num, HS.out, HB.out⟩
        case measure => simp [intOf]; omega
    · obtain rfl : k = len := by omega
      have HS := hide (fun (h20 : k ≤ 20) => show FewV (l.map (·.1)) from ⟨by rw [List.length_map, hl.out]; exact h20, fun i hi => by
        rw [getD_map]
        exact HN.out i (by rw [List.length_map, hl.out] at hi; exact hi)⟩)
      by_cases h20 : (k : Int) ≤ 20
      · go_wp2
        go_ret
        exact ⟨bool_t (HS.out (by omega)), HB.out⟩
      · go_wp2
        go_ret
        exact ⟨bool_f _, HB.out⟩

/-! ### The reference's checks of an entry -/
/-- A code and an index; a code of 0 says P. -/
def CodePost (P : Prop) (e : Ending) : Prop := ∃ c i : Int, e = .returned (.tuple #[.int .i64 c, .int .i64 i]) ∧ (c = 0 → P)
def RightE (e : Ent) : Prop := Cor e.hs ∧ ∀ i, i < e.hs.length → Hi e.hs i ≤ e.mx
set_option maxHeartbeats 1600000 in
theorem r7check_any (p : EV) (w : World) (h : HolesAt w p) :
    Calls Tryd.prog 71 #[aggE p] w fun e w' => CodePost (RightE p.1) e ∧ Below w.heap.size w w' := by
  obtain ⟨⟨x, y, z⟩, hv⟩ := p
  obtain ⟨a, cap, e1, h1, h2⟩ := h.at'
  simp only at e1 h1 h2
  subst e1
  unfold aggE
  simp only
  have H := hide h1
  have hmost := h1.most
  have KC := hide (fun W (hb : Below w.heap.size w W) => check_any a z.length cap z W (h1.below hb))
  obtain ⟨n, en⟩ : ∃ n, z.length = n := ⟨_, rfl⟩
  rw [en] at KC hmost H ⊢
  have EN := hide en
  clear h h1 h2 en
  go_enter Tryd.func71, Tryd.ntmps71
  go_wp2_with fail
  refine (KC.out _ (bl_alloc (Below.refl _ _) _)).mono ?_
  rintro e w1 ⟨⟨c, i, rfl, hor⟩, hb1⟩
  have B1 := hide (bl_trans (bl_alloc (Below.refl w.heap.size w) _) hb1)
  have R1 : w1.heap[w.heap.size]? = some (.cells #[.int .u64 x, .int .u64 y, .slice a n cap] 65 (0, 0)) := (hb1.block _ (by simp)).trans (heap_new_at _ _ rfl)
  have HR := hide R1
  clear hb1 R1
  by_cases hc : c = 0
  · subst hc
    have HC := hide (show Cor z from by
      rcases hor with ⟨_, h⟩ | ⟨h, _⟩
      · exact h
      · rcases h with h | h <;> cases h)
    clear hor
    go_wp2
    go_loopw [6] (fun c wr => ∃ k : Nat, k ≤ n ∧ c = .int .i64 k ∧ (∀ i, i < k → Hi z i ≤ y) ∧ Below w1.heap.size w1 wr)
      (fun c _ => n - (intOf c).toNat)
    case atStart => exact ⟨0, Nat.zero_le _, rfl, fun i hi => absurd hi (by omega), Below.refl _ _⟩
    case round =>
      obtain ⟨k, hk, rfl, hno, hb⟩ := hrel
      have HN := hide hno
      have HB := hide (bl_trans B1.out hb)
      have HB1 := hide hb
      have R2 := (hb.block _ (Blk_lt HR.out)).trans HR.out
      have r1 : wr.cell? ⟨w.heap.size, 1, none⟩ = some (.int .u64 y) := by simp [World.cell?, R2]
      have r2 : wr.cell? ⟨w.heap.size, 2, none⟩ = some (.slice a n cap) := by simp [World.cell?, R2]
      clear hno R2
      have i0 : (0 : Int) ≤ (k : Int) := by omega
      by_cases hlt : k < n
      · obtain ⟨b, off, rfl, hbl, hc1, hc2⟩ := (H.out.below HB.out).cells k hlt
        have i1 : (k : Int) < (n : Int) := by omega
        obtain ⟨hi, ehi⟩ : ∃ hi, Hi z k = hi := ⟨_, rfl⟩
        rw [ehi] at hc2
        have EHI := hide ehi
        clear ehi hc1 hb
        by_cases hgt : y < hi
        · go_wp2_with fail
          go_quiet (fail)
          go_wp2
          go_ret2
          exact ⟨⟨4, k, rfl, fun h => by cases h⟩, bl_drewN HB.out _⟩
        · have HS := hide (show ∀ i, i < k + 1 → Hi z i ≤ y from fun i hi' => by
            by_cases e : i = k
            · subst e; rw [EHI.out]; omega
            · exact HN.out i (by omega))
          go_wp2_with fail
          go_quiet (fail)
          go_wp2
          go_roundw
          case rel => exact ⟨k + 1, by omega, by go_num, HS.out, below_drewN HB1.out _⟩
          case measure => simp [intOf]; omega
      · obtain rfl : k = n := by omega
        have OK := hide (show RightE ⟨x, y, z⟩ from ⟨HC.out, fun i hi => HN.out i (by simp only at hi; rw [EN.out] at hi; exact hi)⟩)
        go_wp2
        go_ret2
        exact ⟨⟨0, -1, rfl, fun _ => OK.out⟩, HB.out⟩
  · have q : (c != 0) = true := by simpa using hc
    have HC := hide hc
    clear hor hc
    go_wp2
    go_ret2
    exact ⟨⟨c, i, rfl, fun h => absurd h HC.out⟩, B1.out⟩
theorem r7right_any (p : EV) (w : World) (h : HolesAt w p) :
    Calls Tryd.prog 49 #[aggE p] w fun e w' => BoolPost (RightE p.1) e ∧ Below w.heap.size w w' := by
  obtain ⟨⟨x, y, z⟩, hv⟩ := p
  have K := hide (fun W (hb : Below w.heap.size w W) => r7check_any (⟨x, y, z⟩, hv) W (h.below hb))
  obtain ⟨a, cap, e1, h1, h2⟩ := h.at'
  simp only at e1
  subst e1
  unfold aggE at K ⊢
  simp only at K ⊢
  obtain ⟨n, en⟩ : ∃ n, z.length = n := ⟨_, rfl⟩
  rw [en] at K ⊢
  clear h h1 h2 en
  go_enter Tryd.func49, Tryd.ntmps49
  go_wp2_with fail
  refine (K.out _ (bl_alloc (Below.refl _ _) _)).mono ?_
  rintro e w1 ⟨⟨c, i, rfl, hor⟩, hb1⟩
  have B1 := hide (bl_trans (bl_alloc (Below.refl w.heap.size w) _) hb1)
  clear hb1
  by_cases hc : c = 0
  · subst hc
    have OK := hide (hor rfl)
    clear hor
    go_wp2
    go_ret
    exact ⟨bool_t OK.out, B1.out⟩
  · have q : (c == 0) = false := by simpa using hc
    clear hor hc
    go_wp2
    go_ret
    exact ⟨bool_f _, B1.out⟩
theorem r7canon_any (p : EV) (w : World) (h : HolesAt w p) (hw : EntW p.1) :
    Calls Tryd.prog 28 #[aggE p] w fun e w' => BoolPost (EntC p.1) e ∧ Below w.heap.size w w' := by
  obtain ⟨⟨x, y, z⟩, hv⟩ := p
  have K := hide (fun W (hb : Below w.heap.size w W) => r7right_any (⟨x, y, z⟩, hv) W (h.below hb))
  obtain ⟨a, cap, e1, h1, h2⟩ := h.at'
  have wy : Word y := hw.mx
  simp only at e1
  subst e1
  have KH := hide (fun W (hb : Below w.heap.size w W) => hasL_any a z.length cap z y W (h1.below hb) wy)
  have FIN := hide (fun (hr : RightE ⟨x, y, z⟩) (hh : hasL z y = false) => show EntC ⟨x, y, z⟩ from ⟨hr.1, fun i hi => by
    have h3 := hr.2 i hi
    have h4 := hr.1 i hi
    simp only at h3 h4 hi ⊢
    have h5 : hasI (Lo z i) (Hi z i) y = false := by
      cases e : hasI (Lo z i) (Hi z i) y with
      | false => rfl
      | true => rw [hasL_yes hi e] at hh; cases hh
    unfold hasI at h5
    have h6 := of_decide_eq_false h5
    omega⟩)
  unfold aggE at K ⊢
  simp only at K ⊢
  obtain ⟨n, en⟩ : ∃ n, z.length = n := ⟨_, rfl⟩
  rw [en] at K KH ⊢
  clear h h1 h2 en hw wy
  go_enter Tryd.func28, Tryd.ntmps28
  go_wp2_with fail
  refine (K.out _ (bl_alloc (Below.refl _ _) _)).mono ?_
  rintro e w1 ⟨⟨b, rfl, hor⟩, hb1⟩
  have B1 := hide (bl_trans (bl_alloc (Below.refl w.heap.size w) _) hb1)
  have R1 : w1.heap[w.heap.size]? = some (.cells #[.int .u64 x, .int .u64 y, .slice a n cap] 65 (0, 0)) := (hb1.block _ (by simp)).trans (heap_new_at _ _ rfl)
  have r1 : w1.cell? ⟨w.heap.size, 1, none⟩ = some (.int .u64 y) := by simp [World.cell?, R1]
  have r2 : w1.cell? ⟨w.heap.size, 2, none⟩ = some (.slice a n cap) := by simp [World.cell?, R1]
  clear hb1 R1
  cases b with
  | false =>
    clear hor
    go_wp2
    go_ret
    exact ⟨bool_f _, B1.out⟩
  | true =>
    have RE := hide (hor rfl)
    clear hor
    go_wp2_with fail
    refine (KH.out _ B1.out).mono ?_
    rintro e w2 ⟨rfl, hb2⟩
    have B2 := hide (bl_trans B1.out hb2)
    clear hb2
    cases hh : hasL z y with
    | true =>
      clear hh
      go_wp2
      go_ret
      exact ⟨bool_f _, B2.out⟩
    | false =>
      have OK := hide (FIN.out RE.out hh)
      clear hh
      go_wp2
      go_ret
      exact ⟨bool_t OK.out, B2.out⟩
end Go.Proofs.YtppeogalaikopaaDoor
namespace Go.Proofs.YtppeogalaikopaaDoor
open Go Go.RowKit
set_option linter.unusedSimpArgs false

/-- Ascending replicas. -/
def AscV (es : List Ent) : Prop := ∀ i, 0 < i → i < es.length → (es.getD (i - 1) Ent.z).rep < (es.getD i Ent.z).rep
def AscTo (l : List EV) (k : Nat) : Prop := ∀ i, 0 < i → i < k → (l.getD (i - 1) EV.z).1.rep < (l.getD i EV.z).1.rep
theorem AscTo.succ {l : List EV} {k : Nat} (h : AscTo l k) (h1 : 0 < k → (l.getD (k - 1) EV.z).1.rep < (l.getD k EV.z).1.rep) : AscTo l (k + 1) := fun i h0 hi => by
  by_cases e : i = k
  · subst e; exact h1 h0
  · exact h i h0 (by omega)
set_option maxHeartbeats 1600000 in
theorem r9check_any (a : Option Addr) (len cap : Nat) (l : List EV) (w : World) (h : EntsAt w a len l) :
    Calls Tryd.prog 51 #[.slice a len cap] w fun e w' => CodePost (AscTo l len) e ∧ Below w.heap.size w w' := by
  have H := hide h
  have hm := h.most
  clear h
  go_enter Tryd.func51, Tryd.ntmps51
  go_wp2
  go_loopw [4] (fun c wr => ∃ k : Nat, k ≤ len ∧ c = .int .i64 k ∧ AscTo l k ∧ Below w.heap.size w wr)
    (fun c _ => len - (intOf c).toNat)
  case atStart => exact ⟨0, Nat.zero_le _, rfl, (fun i _ hi => absurd hi (by omega)), Below.refl _ _⟩
  case round =>
    obtain ⟨k, hk, rfl, hno, hb⟩ := hrel
    have HN := hide hno
    have HB := hide hb
    clear hno
    have i0 : (0 : Int) ≤ (k : Int) := by omega
    by_cases hlt : k < len
    · obtain ⟨b, off, rfl, hbl, hc1, hc2, hc3⟩ := (H.out.below hb).cells k hlt
      have i1 : (k : Int) < (len : Int) := by omega
      have KE := hide (fun W (hW : Below wr.heap.size wr W) => r7check_any (l.getD k EV.z) W (((H.out.below hb).below hW).holes _ (H.out.mem hlt)))
      unfold aggE at KE
      obtain ⟨x, ex⟩ : ∃ x, (l.getD k EV.z).1.rep = x := ⟨_, rfl⟩
      obtain ⟨y, ey⟩ : ∃ x, (l.getD k EV.z).1.mx = x := ⟨_, rfl⟩
      obtain ⟨hv, ev⟩ : ∃ x, (l.getD k EV.z).2 = x := ⟨_, rfl⟩
      rw [ex, ey, ev] at KE
      rw [ex] at hc1
      rw [ey] at hc2
      rw [ev] at hc3
      have EX := hide ex
      clear ex ey ev
      by_cases hk0 : k = 0
      · have n0 : ¬ (0 : Int) < (k : Int) := by omega
        have n1 : decide ((0 : Int) < (k : Int)) = false := decide_eq_false n0
        have n2 : decide (0 < k) = false := decide_eq_false (by omega)
        have HS := hide (HN.out.succ (fun h => by omega))
        clear hk0 hb
        go_wp2_with fail
        refine (KE.out _ (Below.refl _ _)).mono ?_
        rintro e w1 ⟨⟨c, i, rfl, _⟩, hb1⟩
        have B1 := hide (bl_trans HB.out hb1)
        clear hb1
        by_cases hc : c = 0
        · subst hc
          go_wp2_with fail
          go_quiet (fail)
          go_wp2
          go_roundw
          case rel => exact ⟨k + 1, by omega, by go_num, HS.out, bl_drewN B1.out _⟩
          case measure => simp [intOf]; omega
        · have q : (c != 0) = true := by simpa using hc
          have HC := hide hc
          clear hc
          go_wp2
          go_ret2
          exact ⟨⟨c, k, rfl, fun h => absurd h HC.out⟩, B1.out⟩
      · obtain ⟨b2, off2, eb, _, hp0, _, _⟩ := (H.out.below hb).cells (k - 1) (by omega)
        obtain ⟨rfl, rfl⟩ : b = b2 ∧ off = off2 := by simpa using eb
        obtain ⟨q, eq⟩ : ∃ x, (l.getD (k - 1) EV.z).1.rep = x := ⟨_, rfl⟩
        rw [eq] at hp0
        have EQ := hide eq
        have n0 : (0 : Int) < (k : Int) := by omega
        have n1 : (0 : Int) ≤ (k : Int) - 1 := by omega
        have n2 : (k : Int) - 1 < (len : Int) := by omega
        have n3 : IntKind.i64.wrap ((k : Int) - 1) = (k : Int) - 1 := IntWalk.i64_in _ (by omega)
        have n4 : ((k : Int) - 1).toNat = k - 1 := by omega
        have hk1 : 0 < k := by omega
        have HS := hide (fun (hh : q < x) => HN.out.succ (fun _ => by rw [EX.out, EQ.out]; exact hh))
        clear eb eq hk0 hb
        go_wp2_with fail
        refine (KE.out _ (Below.refl _ _)).mono ?_
        rintro e w1 ⟨⟨c, i, rfl, _⟩, hb1⟩
        have B1 := hide (bl_trans HB.out hb1)
        have d1 := keep_c hb1 hc1
        have d0 := keep_c hb1 hp0
        clear hb1 hc1 hc2 hc3 hp0
        by_cases hc : c = 0
        · subst hc
          by_cases hle : x ≤ q
          · go_wp2_with fail
            go_quiet (fail)
            go_wp2
            go_ret2
            exact ⟨⟨3, k, rfl, fun h => by cases h⟩, bl_drewN B1.out _⟩
          · have HS' := hide (HS.out (by omega))
            have hled : decide (x ≤ q) = false := decide_eq_false hle
            clear HS
            go_wp2_with fail
            go_quiet (fail)
            go_wp2
            go_roundw
            case rel => exact ⟨k + 1, by omega, by go_num, HS'.out, bl_drewN B1.out _⟩
            case measure => simp [intOf]; omega
        · have q : (c != 0) = true := by simpa using hc
          have HC := hide hc
          clear hc
          go_wp2
          go_ret2
          exact ⟨⟨c, k, rfl, fun h => absurd h HC.out⟩, B1.out⟩
    · obtain rfl : k = len := by omega
      go_wp2
      go_ret2
      exact ⟨⟨0, -1, rfl, fun _ => HN.out⟩, HB.out⟩
theorem r9right_any (a : Option Addr) (len cap : Nat) (l : List EV) (w : World) (h : EntsAt w a len l) :
    Calls Tryd.prog 29 #[.slice a len cap] w fun e w' => BoolPost (AscTo l len) e ∧ Below w.heap.size w w' := by
  have K := hide (r9check_any a len cap l w h)
  clear h
  go_enter Tryd.func29, Tryd.ntmps29
  go_wp2_with fail
  refine K.out.mono ?_
  rintro e w1 ⟨⟨c, i, rfl, hor⟩, hb1⟩
  have B1 := hide hb1
  clear hb1
  by_cases hc : c = 0
  · subst hc
    have OK := hide (hor rfl)
    clear hor
    go_wp2
    go_ret
    exact ⟨bool_t OK.out, B1.out⟩
  · have q : (c == 0) = false := by simpa using hc
    clear hor hc
    go_wp2
    go_ret
    exact ⟨bool_f _, B1.out⟩
set_option maxHeartbeats 1600000 in
theorem r9canon_any (a : Option Addr) (len cap : Nat) (l : List EV) (w : World) (h : EntsAt w a len l) :
    Calls Tryd.prog 10 #[.slice a len cap] w fun e w' => BoolPost (CanV (l.map (·.1))) e ∧ Below w.heap.size w w' := by
  have H := hide h
  have hm := h.most
  have hl := hide h.length
  clear h
  go_enter Tryd.func10, Tryd.ntmps10
  go_wp2
  go_loopw [3] (fun c wr => ∃ k : Nat, k ≤ len ∧ c = .int .i64 k ∧ (∀ i, i < k → EntC (l.getD i EV.z).1) ∧ Below w.heap.size w wr)
    (fun c _ => len - (intOf c).toNat)
  case atStart => exact ⟨0, Nat.zero_le _, rfl, (fun i hi => absurd hi (by omega)), Below.refl _ _⟩
  case round =>
    obtain ⟨k, hk, rfl, hno, hb⟩ := hrel
    have HN := hide hno
    have HB := hide hb
    clear hno
    have i0 : (0 : Int) ≤ (k : Int) := by omega
    by_cases hlt : k < len
    · obtain ⟨b, off, rfl, hbl, hc1, hc2, hc3⟩ := (H.out.below hb).cells k hlt
      have i1 : (k : Int) < (len : Int) := by omega
      have KE := hide (fun W (hW : Below wr.heap.size wr W) => r7canon_any (l.getD k EV.z) W (((H.out.below hb).below hW).holes _ (H.out.mem hlt)) (H.out.words _ (H.out.mem hlt)))
      have HS := hide (fun (hh : EntC (l.getD k EV.z).1) => show ∀ i, i < k + 1 → EntC (l.getD i EV.z).1 from fun i hi => by
        by_cases e : i = k
        · subst e; exact hh
        · exact HN.out i (by omega))
      unfold aggE at KE
      obtain ⟨P, eP⟩ : ∃ P, EntC (l.getD k EV.z).1 = P := ⟨_, rfl⟩
      rw [eP] at KE HS
      obtain ⟨x, ex⟩ : ∃ x, (l.getD k EV.z).1.rep = x := ⟨_, rfl⟩
      obtain ⟨y, ey⟩ : ∃ x, (l.getD k EV.z).1.mx = x := ⟨_, rfl⟩
      obtain ⟨hv, ev⟩ : ∃ x, (l.getD k EV.z).2 = x := ⟨_, rfl⟩
      rw [ex, ey, ev] at KE
      rw [ex] at hc1
      rw [ey] at hc2
      rw [ev] at hc3
      clear ex ey ev eP hb
      go_wp2_with fail
      refine (KE.out _ (Below.refl _ _)).mono ?_
      rintro e w1 ⟨⟨b', rfl, hor⟩, hb1⟩
      have B1 := hide (bl_trans HB.out hb1)
      clear hb1
      cases b' with
      | false =>
        clear hor
        go_wp2
        go_ret
        exact ⟨bool_f _, B1.out⟩
      | true =>
        have HS' := hide (HS.out (hor rfl))
        clear hor HS
        go_wp2
        go_roundw
        case rel => exact ⟨k + 1, by omega, by go_num, HS'.out, B1.out⟩
        case measure => simp [intOf]; omega
    · obtain rfl : k = len := by omega
      have FIN := hide (fun (hA : AscTo l k) => show CanV (l.map (·.1)) from ⟨fun i hi => by rw [getD_map]; exact HN.out i (by rw [List.length_map, hl.out] at hi; exact hi), fun i h0 hi => by rw [getD_map, getD_map]; exact hA i h0 (by rw [List.length_map, hl.out] at hi; exact hi)⟩)
      go_wp2_with fail
      refine (r9right_any a k cap l _ (H.out.below HB.out)).mono ?_
      rintro e w1 ⟨⟨b', rfl, hor⟩, hb1⟩
      have B1 := hide (bl_trans HB.out hb1)
      clear hb1
      cases b' with
      | false =>
        clear hor
        go_wp2
        go_ret
        exact ⟨bool_f _, B1.out⟩
      | true =>
        have OK := hide (FIN.out (hor rfl))
        clear hor FIN
        go_wp2
        go_ret
        exact ⟨bool_t OK.out, B1.out⟩
end Go.Proofs.YtppeogalaikopaaDoor
namespace Go.Proofs.YtppeogalaikopaaDoor

theorem few_nums {es : List Ent} (h : FewV es) : (numsV es).length ≤ 1261 := by
  have go : ∀ k, k ≤ es.length → (numsTo es k).length ≤ 1 + 63 * k := by
    intro k
    induction k with
    | zero => intro _; simp [numsTo]
    | succ k ih =>
      intro hk
      rw [show numsTo es (k + 1) = numsTo es k ++ numE (repN es k) (es.getD k Ent.z) from rfl, List.length_append, numE_length]
      have := ih (by omega)
      have := h.2 k (by omega)
      omega
  have := go es.length (Nat.le_refl _)
  have := h.1
  show (numsTo es es.length).length ≤ _
  omega
theorem few_hs {es : List Ent} (h : FewV es) : ∀ e ∈ es, e.hs.length ≤ 30 := by
  intro e he
  obtain ⟨i, hi, rfl⟩ := List.mem_iff_getElem.1 he
  have := h.2 i hi
  simpa [List.getD, List.getElem?_eq_getElem hi] using this
theorem limitC_rest {x l n n' : Int} (h : limitC x l n = 0) : limitC x l n' = 0 ∨ limitC x l n' = 5 := by
  unfold limitC at *
  split at h
  · cases h
  · rename_i h1
    rw [if_neg h1]
    split
    · exact .inr rfl
    · exact .inl rfl
/-- With fewer bytes behind it, a number that was right is right or too great. -/
theorem step_rest {lm : Lim} {s s' : St} {x r r' : Int} (h : stepS lm s x r = .ok s') : stepS lm s x r' = .ok s' ∨ stepS lm s x r' = .error 5 := by
  obtain ⟨ph, es, cur, ents, hls⟩ := s
  cases ph with
  | count =>
    have e : ∀ r, stepS lm ⟨.count, es, cur, ents, hls⟩ x r = if limitC x lm.en r ≠ 0 then .error (limitC x lm.en r) else if x = 0 then .error 9 else .ok ⟨.rep, es, cur, x, hls⟩ := fun _ => rfl
    rw [e] at h ⊢
    split at h
    · cases h
    · rename_i h1
      rcases limitC_rest (n' := r') (by simpa using h1) with h2 | h2
      · left; rw [h2, if_neg (by simp)]; exact h
      · right; rw [h2, if_pos (by decide)]
  | op =>
    have e : ∀ r, stepS lm ⟨.op, es, cur, ents, hls⟩ x r = if limitC x lm.ho r ≠ 0 then .error (limitC x lm.ho r) else .ok (holeS ⟨.op, es, cur, ents, x⟩) := fun _ => rfl
    rw [e] at h ⊢
    split at h
    · cases h
    · rename_i h1
      rcases limitC_rest (n' := r') (by simpa using h1) with h2 | h2
      · left; rw [h2, if_neg (by simp)]; exact h
      · right; rw [h2, if_pos (by decide)]
  | rep => exact .inl h
  | top => exact .inl h
  | lo => exact .inl h
  | hi l => exact .inl h
  | fin => exact .inl h
theorem run_cut {lm : Lim} {o : Except (Int × Int) (List Ent × Int)} {m : Nat} {es : List Ent} : ∀ (xs pre : List Int) (s : St), (∀ x ∈ xs, Word x) → pre.length ≤ m → m < (pre ++ joinB xs).length →
    walkN lm ((pre ++ joinB xs).length) xs s pre.length = .ok (.inl (es, ((pre ++ joinB xs).length : Int))) → Run lm ((pre ++ joinB xs).take m) s pre.length o → ∃ at', o = .error (5, at')
  | [], pre, s, _, _, _, h, _ => by cases h
  | x :: xs, pre, s, hw, hp, hm, h, hr => by
    have hx : Word x := hw x (by simp)
    have e0 : pre ++ joinB (x :: xs) = pre ++ vb 10 x ++ joinB xs := by rw [joinB_cons]; simp
    by_cases hc : m < pre.length + (vb 10 x).length
    · have hq := rd_cut pre (joinB xs) x hx m hp hc
      rw [← e0] at hq
      exact ⟨_, run_err hr hq⟩
    · have hlm : ((pre ++ joinB (x :: xs)).take m).length = m := by rw [List.length_take]; omega
      have e1 : (pre ++ joinB (x :: xs)).take m = pre ++ vb 10 x ++ (joinB xs).take (m - (pre ++ vb 10 x).length) := by
        rw [e0, List.take_append, List.take_of_length_le (by rw [List.length_append]; omega)]
      have hq := rd_vb pre ((joinB xs).take (m - (pre ++ vb 10 x).length)) x hx
      rw [← e1] at hq
      cases hs : stepS lm s x ((pre ++ joinB (x :: xs)).length - (pre.length + (vb 10 x).length)) with
      | error c => rw [walkN_err hs] at h; cases h
      | ok s' =>
        rcases step_rest (r' := ((pre ++ joinB (x :: xs)).take m).length - (pre.length + (vb 10 x).length)) hs with h2 | h2
        · cases hf : s'.ph.isFin with
          | true =>
            rw [walkN_fin hs hf] at h
            injection h with h
            injection h with h
            injection h with h3 h4
            omega
          | false =>
            rw [walkN_cons hs hf] at h
            have hn := run_next hr hq h2 hf
            have e2 : ((pre.length : Int) + (vb 10 x).length) = ((pre ++ vb 10 x).length : Nat) := by rw [List.length_append]; omega
            rw [e2, e0] at h hn
            rw [e0] at hm
            exact run_cut xs (pre ++ vb 10 x) s' (fun y hy => hw y (by simp [hy])) (by rw [List.length_append]; omega) hm h hn
        · exact ⟨_, run_stop hr hq h2⟩
end Go.Proofs.YtppeogalaikopaaDoor
