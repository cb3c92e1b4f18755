/- Contracts of the reference of layer 4 that the laws on lists use: a list is correct, has a number, is the same as another one. -/
import Derived.Test.YtppeogalaikopaaDoorMG1
import Derived.Deep.RegionHeld3
import Derived.BigQuiet
import Derived.Deep.QuietTactic
namespace Go.Proofs.YtppeogalaikopaaDoor
open Go.RowKit

/-- What Check returns: 0 if the list is correct, else another code. -/
def CheckPost (zs : List Iv) (e : Ending) : Prop := ∃ c i : Int, e = .returned (.tuple #[.int .i64 c, .int .i64 i]) ∧ ((c = 0 ∧ Cor zs) ∨ ((c = 2 ∨ c = 3) ∧ ¬ Cor zs))
theorem rel0 {al ah bl bh : Int} (_h1 : al ≤ ah) (_h2 : bl ≤ bh) : relI al ah bl bh = 0 ↔ ah + 1 < bl := by
  unfold relI; split <;> (try split) <;> (try split) <;> omega
set_option maxHeartbeats 800000 in
theorem check_any (a : Option Addr) (len cap : Nat) (zs : List Iv) (w : World) (h : Prs w a len zs) :
    Calls Tryd.prog 87 #[.slice a len cap] w fun e w' => CheckPost zs e ∧ Below w.heap.size w w' := by
  have hm := h.most
  have hl := hide h.length
  have H := hide h
  clear h
  go_enter Tryd.func87, Tryd.ntmps87
  go_wp2
  go_loopw [4] (fun c wr => ∃ k : Nat, k ≤ len ∧ c = .int .i64 k ∧ CorTo zs k ∧ Below w.heap.size w wr)
    (fun c _ => len - (intOf c).toNat)
  case atStart => exact ⟨0, Nat.zero_le _, rfl, fun i hi => absurd hi (by omega), Below.refl _ _⟩
  case round =>
    obtain ⟨k, hk, rfl, hcor, hb⟩ := hrel
    have HC := hide hcor
    clear hcor
    by_cases hlt : k < len
    · obtain ⟨b, off, rfl, hbl, hc1, hc2⟩ := (H.out.below hb).cells k hlt
      obtain ⟨⟨l0, l1⟩, ⟨u0, u1⟩⟩ := H.out.word hlt
      obtain ⟨lo, elo⟩ : ∃ lo, lo = Lo zs k := ⟨_, rfl⟩
      obtain ⟨hi, ehi⟩ : ∃ hi, hi = Hi zs k := ⟨_, rfl⟩
      rw [← elo] at hc1 l0 l1
      rw [← ehi] at hc2 u0 u1
      have ELO := hide elo; have EHI := hide ehi
      clear elo ehi
      have i0 : (0 : Int) ≤ (k : Int) := by omega
      have i1 : (k : Int) < (len : Int) := by omega
      by_cases hle : lo ≤ hi
      · by_cases hk0 : 0 < k
        · obtain ⟨b', off', eb, _, hd1, hd2⟩ := (H.out.below hb).cells (k - 1) (by omega)
          obtain ⟨rfl, rfl⟩ : b = b' ∧ off = off' := by simpa using eb
          clear eb
          obtain ⟨⟨m0, m1⟩, ⟨n0, n1⟩⟩ := H.out.word (i := k - 1) (by omega)
          obtain ⟨plo, eplo⟩ : ∃ lo, lo = Lo zs (k - 1) := ⟨_, rfl⟩
          obtain ⟨phi, ephi⟩ : ∃ hi, hi = Hi zs (k - 1) := ⟨_, rfl⟩
          rw [← eplo] at hd1 m0 m1
          rw [← ephi] at hd2 n0 n1
          have EPLO := hide eplo; have EPHI := hide ephi
          clear eplo ephi
          have hple : Hid (plo ≤ phi) := by have := (HC.out (k - 1) (by omega)).1; rw [← EPLO.out, ← EPHI.out] at this; exact this
          have j0 : (0 : Int) ≤ (k : Int) - 1 := by omega
          have j1 : (k : Int) - 1 < (len : Int) := by omega
          have j2 : IntKind.i64.wrap ((k : Int) - 1) = (k : Int) - 1 := IntWalk.i64_in _ (by omega)
          have j3 : ((k : Int) - 1).toNat = k - 1 := by omega
          have j4 : (0 : Int) < (k : Int) := by omega
          have j5 : (1 : Int) ≤ (k : Int) := by omega
          have j6 : 1 ≤ k := by omega
          have j7 : (k : Int) ≤ (len : Int) := by omega
          go_wp2_with (go_at_call 95; refine (rright_yes lo hi ⟨l0, l1⟩ ⟨u0, u1⟩ hle _).mono ?_; rintro e w1 ⟨rfl, hb1⟩; have hx1 := keep_cell hb1 hbl hc1; have hx2 := keep_cell hb1 hbl hc2; have hx3 := keep_cell hb1 hbl hd1; have hx4 := keep_cell hb1 hbl hd2; have hx5 := keep_lt hb1 hbl)
          have HR : Hid (∀ W : World, Calls Tryd.prog 96 #[.agg #[.int .u64 plo, .int .u64 phi], .agg #[.int .u64 lo, .int .u64 hi]] W fun e w' => e = .returned (.int .i64 (relI plo phi lo hi)) ∧ Below W.heap.size W w') := rrelate_any plo phi lo hi ⟨m0, m1⟩ ⟨n0, n1⟩ ⟨l0, l1⟩ ⟨u0, u1⟩
          have hrel := hide (rel0 hple.out hle)
          obtain ⟨r, er⟩ : ∃ r, r = relI plo phi lo hi := ⟨_, rfl⟩
          rw [← er] at HR hrel
          clear er hc1 hc2 hd1 hd2
          by_cases hr : r = 0
          · subst hr
            go_region_held3 (fun w' => w'.cell? ⟨b, off + k * 2, none⟩ = some (.int .u64 lo) ∧ w'.cell? ⟨b, off + k * 2 + 1, none⟩ = some (.int .u64 hi) ∧ w'.cell? ⟨b, off + (k - 1) * 2, none⟩ = some (.int .u64 plo) ∧ w'.cell? ⟨b, off + (k - 1) * 2 + 1, none⟩ = some (.int .u64 phi) ∧ b < w'.heap.size)
              (first | (go_split_ands; exact ⟨keep_cell hb3 (by assumption) (by assumption), keep_cell hb3 (by assumption) (by assumption), keep_cell hb3 (by assumption) (by assumption), keep_cell hb3 (by assumption) (by assumption), keep_lt hb3 (by assumption)⟩) | (refine ⟨?_, ?_, ?_, ?_, ?_⟩ <;> first | assumption | (simp [*]; done)))
              (first | (go_at_call 96; refine (HR.out _).mono ?_; rintro e w3 ⟨rfl, hb3⟩))
            go_wp2
            go_roundw
            case rel => exact ⟨k + 1, by omega, by go_num, HC.out.succ (by rw [← ELO.out, ← EHI.out]; exact hle) (fun _ => by rw [← ELO.out, ← EPHI.out]; first | exact hrel.out.1 rfl | exact hrel.out.1 trivial), by repeat (first | exact Below.refl _ _ | assumption | refine bl_drew ?_ | refine bl_trans ?_ (by assumption))⟩
            case measure => simp [intOf]; omega
          · have hne : (r != 0) = true := by simpa using hr
            have HN := hide hr
            clear hr
            go_region_held3 (fun w' => w'.cell? ⟨b, off + k * 2, none⟩ = some (.int .u64 lo) ∧ w'.cell? ⟨b, off + k * 2 + 1, none⟩ = some (.int .u64 hi) ∧ w'.cell? ⟨b, off + (k - 1) * 2, none⟩ = some (.int .u64 plo) ∧ w'.cell? ⟨b, off + (k - 1) * 2 + 1, none⟩ = some (.int .u64 phi) ∧ b < w'.heap.size)
              (first | (go_split_ands; exact ⟨keep_cell hb3 (by assumption) (by assumption), keep_cell hb3 (by assumption) (by assumption), keep_cell hb3 (by assumption) (by assumption), keep_cell hb3 (by assumption) (by assumption), keep_lt hb3 (by assumption)⟩) | (refine ⟨?_, ?_, ?_, ?_, ?_⟩ <;> first | assumption | (simp [*]; done)))
              (first | (go_at_call 96; refine (HR.out _).mono ?_; rintro e w3 ⟨rfl, hb3⟩))
            go_wp2
            go_ret2
            refine ⟨⟨3, _, rfl, .inr ⟨.inr rfl, fun hC => ?_⟩⟩, by repeat (first | exact Below.refl _ _ | assumption | refine bl_drew ?_ | refine bl_trans ?_ (by assumption))⟩
            have := (hC k (by rw [hl.out]; exact hlt)).2 hk0
            rw [← ELO.out, ← EPHI.out] at this
            exact HN.out (hrel.out.2 this)
        · obtain rfl : k = 0 := by omega
          have i2 : decide ((0 : Int) < 0) = false := by decide
          simp only [Nat.zero_mul, Nat.add_zero] at hc1 hc2
          go_wp2_with (go_at_call 95; refine (rright_yes lo hi ⟨l0, l1⟩ ⟨u0, u1⟩ hle _).mono ?_; rintro e w1 ⟨rfl, hb1⟩)
          go_quiet (fail)
          go_wp2
          go_roundw
          case rel => exact ⟨1, by omega, by go_num, HC.out.succ (by rw [← ELO.out, ← EHI.out]; exact hle) (fun h => absurd h (by omega)), by repeat (first | exact Below.refl _ _ | assumption | refine bl_drewN ?_ _ | refine bl_drew ?_ | refine bl_trans ?_ (by assumption))⟩
          case measure => simp [intOf]; omega
      · have hgt : hi < lo := by omega
        clear hle
        go_wp2_with (go_at_call 95; refine (rright_no lo hi ⟨l0, l1⟩ ⟨u0, u1⟩ hgt _).mono ?_; rintro e w1 ⟨rfl, hb1⟩)
        go_ret2
        refine ⟨⟨2, _, rfl, .inr ⟨.inl rfl, fun hC => ?_⟩⟩, bl_trans hb hb1⟩
        have := (hC k (by rw [hl.out]; exact hlt)).1
        rw [← ELO.out, ← EHI.out] at this
        omega
    · have : k = len := by omega
      subst this
      go_wp2
      go_ret2
      exact ⟨⟨0, -1, rfl, .inl ⟨rfl, by unfold Cor; rw [hl.out]; exact HC.out⟩⟩, hb⟩

/-- A number is in one of the intervals. -/
def hasL (zs : List Iv) (x : Int) : Bool := zs.any fun z => hasI z.1 z.2 x
theorem hasL_yes {zs : List Iv} {x : Int} {k : Nat} (hk : k < zs.length) (h : hasI (Lo zs k) (Hi zs k) x = true) : hasL zs x = true := by
  unfold hasL
  rw [List.any_eq_true]
  refine ⟨zs[k], List.getElem_mem _, ?_⟩
  have e : zs.getD k (0, 0) = zs[k] := by simp [List.getD, List.getElem?_eq_getElem hk]
  unfold Lo Hi at h
  rw [e] at h
  exact h
theorem hasL_no {zs : List Iv} {x : Int} (h : ∀ i, i < zs.length → hasI (Lo zs i) (Hi zs i) x = false) : hasL zs x = false := by
  unfold hasL
  rw [List.any_eq_false]
  intro z hz
  obtain ⟨i, hi, rfl⟩ := List.getElem_of_mem hz
  have := h i hi
  have e : zs.getD i (0, 0) = zs[i] := by simp [List.getD, List.getElem?_eq_getElem hi]
  unfold Lo Hi at this
  rw [e] at this
  rw [this]; decide
set_option maxHeartbeats 400000 in
theorem hasL_any (a : Option Addr) (len cap : Nat) (zs : List Iv) (x : Int) (w : World) (h : Prs w a len zs) (hx : Word x) :
    Calls Tryd.prog 50 #[.slice a len cap, .int .u64 x] w fun e w' => e = .returned (.bool (hasL zs x)) ∧ Below w.heap.size w w' := by
  have hm := h.most
  have hl := hide h.length
  have H := hide h
  have HX := hide hx
  clear h hx
  go_enter Tryd.func50, Tryd.ntmps50
  go_wp2
  go_loopw [5] (fun c wr => ∃ k : Nat, k ≤ len ∧ c = .int .i64 k ∧ (∀ i, i < k → hasI (Lo zs i) (Hi zs i) x = false) ∧ Below w.heap.size w wr)
    (fun c _ => len - (intOf c).toNat)
  case atStart => exact ⟨0, Nat.zero_le _, rfl, fun i hi => absurd hi (by omega), Below.refl _ _⟩
  case round =>
    obtain ⟨k, hk, rfl, hno, hb⟩ := hrel
    have HN := hide hno
    clear hno
    by_cases hlt : k < len
    · obtain ⟨b, off, rfl, hbl, hc1, hc2⟩ := (H.out.below hb).cells k hlt
      have hw := hide (H.out.word hlt)
      obtain ⟨lo, elo⟩ : ∃ lo, lo = Lo zs k := ⟨_, rfl⟩
      obtain ⟨hi, ehi⟩ : ∃ hi, hi = Hi zs k := ⟨_, rfl⟩
      rw [← elo] at hc1
      rw [← ehi] at hc2
      rw [← elo, ← ehi] at hw
      have ELO := hide elo; have EHI := hide ehi
      clear elo ehi
      have HH : Hid (∀ W : World, Calls Tryd.prog 72 #[.agg #[.int .u64 lo, .int .u64 hi], .int .u64 x] W fun e w' => e = .returned (.bool (hasI lo hi x)) ∧ Below W.heap.size W w') := rhas_any lo hi x hw.out.1 hw.out.2 HX.out
      have i0 : (0 : Int) ≤ (k : Int) := by omega
      have i1 : (k : Int) < (len : Int) := by omega
      obtain ⟨r, er⟩ : ∃ r, r = hasI lo hi x := ⟨_, rfl⟩
      rw [← er] at HH
      have ER := hide er
      clear er
      cases r
      · go_wp2_with (go_at_call 72; refine (HH.out _).mono ?_; rintro e w1 ⟨rfl, hb1⟩)
        go_roundw
        case rel =>
          refine ⟨k + 1, by omega, by go_num, fun i hi => ?_, bl_trans hb hb1⟩
          by_cases e : i = k
          · subst e; rw [← ELO.out, ← EHI.out]; exact ER.out.symm
          · exact HN.out i (by omega)
        case measure => simp [intOf]; omega
      · go_wp2_with (go_at_call 72; refine (HH.out _).mono ?_; rintro e w1 ⟨rfl, hb1⟩)
        go_ret
        refine ⟨?_, bl_trans hb hb1⟩
        rw [hasL_yes (by rw [hl.out]; exact hlt) (by rw [← ELO.out, ← EHI.out]; exact ER.out.symm)]
        rfl
    · have : k = len := by omega
      subst this
      go_wp2
      go_ret
      refine ⟨?_, hb⟩
      rw [hasL_no (by rw [hl.out]; exact HN.out)]
      rfl

/-- Two lists are the same. -/
def sameL (zs ys : List Iv) : Bool := decide (zs = ys)
theorem list_ext_iv {zs ys : List Iv} (hl : zs.length = ys.length) (h : ∀ i, i < zs.length → Lo zs i = Lo ys i ∧ Hi zs i = Hi ys i) : zs = ys := by
  refine List.ext_getElem hl fun i h1 h2 => ?_
  obtain ⟨a, b⟩ := h i h1
  unfold Lo at a; unfold Hi at b
  have e1 : zs.getD i (0, 0) = zs[i] := by simp [List.getD, List.getElem?_eq_getElem h1]
  have e2 : ys.getD i (0, 0) = ys[i] := by simp [List.getD, List.getElem?_eq_getElem h2]
  rw [e1, e2] at a b
  exact Prod.ext a b
set_option maxHeartbeats 800000 in
theorem same_any (a a' : Option Addr) (len cap len' cap' : Nat) (zs ys : List Iv) (w : World) (h : Prs w a len zs) (h' : Prs w a' len' ys) :
    Calls Tryd.prog 61 #[.slice a len cap, .slice a' len' cap'] w fun e w' => e = .returned (.bool (sameL zs ys)) ∧ Below w.heap.size w w' := by
  have hm := h.most
  have hm' := h'.most
  have hl := hide h.length
  have hl' := hide h'.length
  have H := hide h
  have H' := hide h'
  clear h h'
  by_cases hn : len = len'
  · subst hn
    go_enter Tryd.func61, Tryd.ntmps61
    go_wp2
    go_loopw [5] (fun c wr => ∃ k : Nat, k ≤ len ∧ c = .int .i64 k ∧ (∀ i, i < k → Lo zs i = Lo ys i ∧ Hi zs i = Hi ys i) ∧ Below w.heap.size w wr)
      (fun c _ => len - (intOf c).toNat)
    case atStart => exact ⟨0, Nat.zero_le _, rfl, fun i hi => absurd hi (by omega), Below.refl _ _⟩
    case round =>
      obtain ⟨k, hk, rfl, hno, hb⟩ := hrel
      have HN := hide hno
      clear hno
      by_cases hlt : k < len
      · obtain ⟨b, off, rfl, hbl, hc1, hc2⟩ := (H.out.below hb).cells k hlt
        obtain ⟨b', off', rfl, hbl', hd1, hd2⟩ := (H'.out.below hb).cells k hlt
        have i0 : (0 : Int) ≤ (k : Int) := by omega
        have i1 : (k : Int) < (len : Int) := by omega
        obtain ⟨x1, e1⟩ : ∃ x, x = Lo zs k := ⟨_, rfl⟩
        obtain ⟨x2, e2⟩ : ∃ x, x = Hi zs k := ⟨_, rfl⟩
        obtain ⟨y1, e3⟩ : ∃ x, x = Lo ys k := ⟨_, rfl⟩
        obtain ⟨y2, e4⟩ : ∃ x, x = Hi ys k := ⟨_, rfl⟩
        rw [← e1] at hc1
        rw [← e2] at hc2
        rw [← e3] at hd1
        rw [← e4] at hd2
        have E1 := hide e1; have E2 := hide e2; have E3 := hide e3; have E4 := hide e4
        clear e1 e2 e3 e4
        have bad : Hid ((x1 ≠ y1 ∨ x2 ≠ y2) → sameL zs ys = false) := by
          intro hor
          unfold sameL
          refine decide_eq_false fun e => ?_
          subst e
          rw [← E3.out] at E1
          rw [← E4.out] at E2
          rcases hor with h | h
          · exact h E1.out
          · exact h E2.out
        by_cases g1 : x1 = y1
        · by_cases g2 : x2 = y2
          · subst g1; subst g2
            go_wp2
            go_quiet (fail)
            go_wp2
            go_roundw
            case rel =>
              refine ⟨k + 1, by omega, by go_num, fun i hi => ?_, below_drewN hb _⟩
              by_cases e : i = k
              · subst e; exact ⟨E1.out.symm.trans E3.out, E2.out.symm.trans E4.out⟩
              · exact HN.out i (by omega)
            case measure => simp [intOf]; omega
          · have f2 : (x2 == y2) = false := by simpa using g2
            have BAD := hide (bad.out (.inr g2))
            subst g1
            clear g2
            go_wp2
            go_quiet (fail)
            go_wp2
            go_ret
            exact ⟨by rw [BAD.out]; rfl, below_drewN hb _⟩
        · have f1 : (x1 == y1) = false := by simpa using g1
          have BAD := hide (bad.out (.inl g1))
          clear g1
          go_wp2
          go_quiet (fail)
          go_wp2
          go_ret
          exact ⟨by rw [BAD.out]; rfl, below_drewN hb _⟩
      · have : k = len := by omega
        subst this
        go_wp2
        go_ret
        refine ⟨?_, hb⟩
        have : zs = ys := list_ext_iv (by rw [hl.out, hl'.out]) (by rw [hl.out]; exact HN.out)
        have e : sameL zs ys = true := decide_eq_true this
        rw [e]
        rfl
  · have hne : ((len : Int) != (len' : Int)) = true := by simpa using (show ¬ (len : Int) = (len' : Int) by omega)
    have BAD := hide (show sameL zs ys = false from decide_eq_false (fun e => hn (by rw [← hl.out, ← hl'.out, e])))
    clear hn
    go_enter Tryd.func61, Tryd.ntmps61
    go_wp2
    go_ret
    exact ⟨by rw [BAD.out]; rfl, Below.refl _ _⟩
end Go.Proofs.YtppeogalaikopaaDoor
