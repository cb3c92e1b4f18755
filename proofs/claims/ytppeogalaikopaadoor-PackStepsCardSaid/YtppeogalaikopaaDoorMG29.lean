/- Contracts of the reference of layer 17: Apart, Diffs. -/
import Derived.Test.YtppeogalaikopaaDoorMG19
import Derived.Deep.RegionLaw
namespace Go.Proofs.YtppeogalaikopaaDoor
open Go.RowKit

/-- What Apart returns. -/
def ApartPost (w : World) (zs : List Iv) (ap : Int) (len : Nat) (e : Ending) (w' : World) : Prop :=
  Below w.heap.size w w' ∧ ((ApTo zs ap len ∧ e = .returned (.bool true)) ∨ (¬ ApTo zs ap len ∧ e = .returned (.bool false)))

theorem own_two {w w3 : World} {base : Nat} {v v3 : Value} {xs ys : List Int} {x y : Int} (e : ys = xs ++ [x, y]) (h : OwnI w base v xs) (hr : w3.ownsRow base 51 1 v3 (xs.length + 1 + 1) (xs.map (Value.int .u64) ++ [.int .u64 x] ++ [.int .u64 y])) (wx : Word x) (wy : Word y) : OwnI w3 base v3 ys := by
  subst e
  refine ⟨by simpa using hr, fun z hz => ?_⟩
  simp at hz
  rcases hz with hz | rfl | rfl
  · exact h.words z hz
  · exact wx
  · exact wy

set_option maxRecDepth 100000 in
set_option maxHeartbeats 3200000 in
theorem rdiffs_any (a : Option Addr) (len cap : Nat) (zs : List Iv) (ap : Int) (w : World) (h : Prs w a len zs) (ha : Word ap) (hA : ApTo zs ap len) (hs : len ≤ 1000) :
    Calls Tryd.prog 42 #[.slice a len cap, .int .u64 ap] w fun e w' => ∃ v, e = .returned v ∧ OwnI w' w.heap.size v (dif zs ap len) ∧ Below w.heap.size w w' := by
  obtain ⟨i0', hi0, hz0, hz1, hz2⟩ := info_parts info_u64
  have H := hide h
  have HA := hide ha
  have HT := hide hA
  clear h ha hA
  go_enter Tryd.func42, Tryd.ntmps42
  go_wp2
  go_loopw [5, 6] (fun o c wr => ∃ k : Nat, k ≤ len ∧ c = .int .i64 k ∧ OwnI wr w.heap.size o (dif zs ap k) ∧ Below w.heap.size w wr)
    (fun _ c _ => len - (intOf c).toNat)
  case atStart => exact ⟨0, Nat.zero_le _, rfl, OwnI.nil _ _, Below.refl _ _⟩
  case round =>
    obtain ⟨k, hk, rfl, hO, hb⟩ := hrel
    have HO := hide hO
    clear hO
    by_cases hlt : k < len
    · obtain ⟨b, off, rfl, hbl, hc1, hc2⟩ := (H.out.below hb).cells k hlt
      have hw := H.out.word hlt
      have i0 : (0 : Int) ≤ (k : Int) := by omega
      have i1 : (k : Int) < (len : Int) := by omega
      have hsz := hb.size
      have hdl := hide (dif_length zs ap k)
      have eD : Hid (dif zs ap (k + 1) = dif zs ap k ++ [gapD zs ap k, Hi zs k - Lo zs k]) := rfl
      have hT := HT.out k hlt
      have WG := hide (ApTo.gap H.out hlt HA.out hT.2)
      have eG := hide (show gapD zs ap k = if k = 0 then Lo zs 0 else Lo zs k - Hi zs (k - 1) - 1 - ap from rfl)
      have WD : Hid (Word (Hi zs k - Lo zs k)) := hide (by unfold Word at *; omega)
      by_cases hk0 : k = 0
      · obtain ⟨lo, elo⟩ : ∃ lo, lo = Lo zs k := ⟨_, rfl⟩
        obtain ⟨hi, ehi⟩ : ∃ hi, hi = Hi zs k := ⟨_, rfl⟩
        have eg1 : gapD zs ap k = Lo zs k := by rw [eG.out, if_pos hk0, hk0]
        rw [eg1] at eD WG
        rw [← elo] at hc1 hw eD WD WG
        rw [← ehi] at hc2 hw eD WD
        have HB := hide hb
        have ELO := hide elo; have EHI := hide ehi
        have n0 : ((k : Int) == 0) = true := by simp; omega
        have d4 : IntKind.u64.wrap (hi - lo) = hi - lo := wrap_word WD.out
        have e63 := hide (show (dif zs ap k).length + 1 ≤ maxLen ∧ ((dif zs ap k).length + 1) * 8 ≤ 140737488355328 by rw [hdl.out]; unfold maxLen; omega)
        have e64 := hide (show (dif zs ap k).length + 1 + 1 ≤ maxLen ∧ ((dif zs ap k).length + 1 + 1) * 8 ≤ 140737488355328 by rw [hdl.out]; unfold maxLen; omega)
        clear elo ehi hk0 hw eG eg1 hb hT
        go_wp2_with (at_builtin; refine wpList_append_own_at _ rfl _ _ 49 rfl w.heap.size 51 i0' (.int .u64 0) 1 8 Tryd.underlying49 hi0 hz0 hz1 hz2 rfl (by decide) _ _ _ rfl (HO.out.row.alloc _) ⟨wr.heap.size, 0, none⟩ 1 1 [.int .u64 lo] rfl rfl ?s1 ?s2 ?s3 ?s4 ?s5 ?_)
        case s1 => exact cell_one_new wr _ _
        case s2 => intro u hu; simp at hu; subst hu; rfl
        case s3 => exact e63.out.1
        case s4 => exact e63.out.2
        case s5 => exact (bl_alloc HB.out _).size
        intro v' w2 hown hgrow _ _
        have hb2 := (bl_alloc HB.out _).grown hgrow (bl_alloc HB.out _).size (fun g hg => (HO.out.row.lt g hg).1)
        have HB2 := hide hb2
        obtain ⟨b3, off3, eb3, _, k1, k2⟩ := (H.out.below hb2).cells k hlt
        obtain ⟨rfl, rfl⟩ : b = b3 ∧ off = off3 := by simpa using eb3
        rw [← ELO.out] at k1
        rw [← EHI.out] at k2
        have HR := hide hown
        clear eb3 hown hgrow hc1 hc2 hb2
        go_wp2_with fail
        go_region_law (refine step_append_lies _ rfl _ _ 49 rfl w.heap.size 51 i0' (.int .u64 0) 1 8 Tryd.underlying49 hi0 hz0 hz1 hz2 rfl (by decide) _ _ _ rfl (HR.out.alloc _).drew ⟨w2.heap.size, 0, none⟩ 1 1 [.int .u64 (hi - lo)] rfl rfl ?_ ?_ (by decide) ?_ ?_ ?_ (w2.heap.size + 1) ?_ ?_; exact cell_one_new w2 _ _; (intro u hu; simp at hu; subst hu; rfl); exact e64.out.1; exact e64.out.2; (exact (bl_drew (bl_alloc HB2.out _)).size); simp; intro g3 cp3 w3 hown hgrow hat hlt3)
        all_goals
          have hb3 := (bl_drew (bl_alloc HB2.out _)).grown hgrow (bl_drew (bl_alloc HB2.out _)).size (fun g hg => (HR.out.lt g hg).1)
          have HO3 := hide (own_two eD.out HO.out hown WG.out WD.out)
          clear hown hgrow hat hlt3
          go_wp2
          go_roundw
          case rel => exact ⟨k + 1, by omega, by go_num, HO3.out, hb3⟩
          case measure => simp [intOf]; omega
      · obtain ⟨b2, off2, eb, _, _, hp0⟩ := (H.out.below hb).cells (k - 1) (by omega)
        obtain ⟨rfl, rfl⟩ : b = b2 ∧ off = off2 := by simpa using eb
        have hwp := (H.out.word (i := k - 1) (by omega)).2
        have hT2 := hT.2 (by omega)
        obtain ⟨lo, elo⟩ : ∃ lo, lo = Lo zs k := ⟨_, rfl⟩
        obtain ⟨hi, ehi⟩ : ∃ hi, hi = Hi zs k := ⟨_, rfl⟩
        obtain ⟨pr, epr⟩ : ∃ pr, pr = Hi zs (k - 1) := ⟨_, rfl⟩
        have eg1 := eG.out
        rw [if_neg hk0] at eg1
        rw [eg1] at eD WG
        rw [← elo] at hc1 hw hT eD WD WG hT2
        rw [← ehi] at hc2 hw hT eD WD
        rw [← epr] at hp0 hwp eD WG hT2
        have HW := hide hw; have HP := hide hwp; have HB := hide hb
        have n0 : ¬ (k : Int) = 0 := by omega
        have n1 : (0 : Int) ≤ (k : Int) - 1 := by omega
        have n2 : (k : Int) - 1 < (len : Int) := by omega
        have n3 : IntKind.i64.wrap ((k : Int) - 1) = (k : Int) - 1 := IntWalk.i64_in _ (by omega)
        have n4 : ((k : Int) - 1).toNat = k - 1 := by omega
        have d1 : IntKind.u64.wrap (lo - pr) = lo - pr := wrap_word (by have := HW.out; have := HP.out; unfold Word at *; omega)
        have d2 : IntKind.u64.wrap (lo - pr - 1) = lo - pr - 1 := wrap_word (by have := HW.out; have := HP.out; unfold Word at *; omega)
        have d3 : IntKind.u64.wrap (lo - pr - 1 - ap) = lo - pr - 1 - ap := wrap_word WG.out
        have d4 : IntKind.u64.wrap (hi - lo) = hi - lo := wrap_word WD.out
        have ELO := hide elo; have EHI := hide ehi
        clear eb elo ehi epr hk0 hw hwp eG eg1 hb hT hT2
        go_wp2_with fail
        have e63 := hide (show (dif zs ap k).length + 1 ≤ maxLen ∧ ((dif zs ap k).length + 1) * 8 ≤ 140737488355328 by rw [hdl.out]; unfold maxLen; omega)
        have e64 := hide (show (dif zs ap k).length + 1 + 1 ≤ maxLen ∧ ((dif zs ap k).length + 1 + 1) * 8 ≤ 140737488355328 by rw [hdl.out]; unfold maxLen; omega)
        have hsz' := hide hsz
        have j5 : (1 : Int) ≤ (k : Int) := by omega
        have j6 : 1 ≤ k := by omega
        have j7 : (k : Int) ≤ (len : Int) := by omega
        go_region_law (refine step_append_lies _ rfl _ _ 49 rfl w.heap.size 51 i0' (.int .u64 0) 1 8 Tryd.underlying49 hi0 hz0 hz1 hz2 rfl (by decide) _ _ _ rfl (HO.out.row.alloc _).drew ⟨wr.heap.size, 0, none⟩ 1 1 [.int .u64 (lo - pr - 1 - ap)] rfl rfl ?_ ?_ (by decide) ?_ ?_ ?_ (wr.heap.size + 1) ?_ ?_; exact cell_one_new wr _ _; (intro u hu; simp at hu; subst hu; rfl); exact e63.out.1; exact e63.out.2; (exact (bl_drew (bl_alloc HB.out _)).size); simp; intro g cp w2 hown hgrow hat hlt2)
        all_goals
          have hb2 := (bl_drew (bl_alloc HB.out _)).grown hgrow (bl_drew (bl_alloc HB.out _)).size (fun g hg => (HO.out.row.lt g hg).1)
          have HB2 := hide hb2
          obtain ⟨b3, off3, eb3, _, k1, k2⟩ := (H.out.below hb2).cells k hlt
          obtain ⟨rfl, rfl⟩ : b = b3 ∧ off = off3 := by simpa using eb3
          rw [← ELO.out] at k1
          rw [← EHI.out] at k2
          have HR := hide hown
          clear eb3 hown hgrow hat hlt2 hc1 hc2 hp0 hb2
          go_wp2_with fail
          go_region_law (refine step_append_lies _ rfl _ _ 49 rfl w.heap.size 51 i0' (.int .u64 0) 1 8 Tryd.underlying49 hi0 hz0 hz1 hz2 rfl (by decide) _ _ _ rfl (HR.out.alloc _).drew ⟨w2.heap.size, 0, none⟩ 1 1 [.int .u64 (hi - lo)] rfl rfl ?_ ?_ (by decide) ?_ ?_ ?_ (w2.heap.size + 1) ?_ ?_; exact cell_one_new w2 _ _; (intro u hu; simp at hu; subst hu; rfl); exact e64.out.1; exact e64.out.2; (exact (bl_drew (bl_alloc HB2.out _)).size); simp; intro g3 cp3 w3 hown hgrow hat hlt3)
          all_goals
            have hb3 := (bl_drew (bl_alloc HB2.out _)).grown hgrow (bl_drew (bl_alloc HB2.out _)).size (fun g hg => (HR.out.lt g hg).1)
            have HO3 := hide (own_two eD.out HO.out hown WG.out WD.out)
            clear hown hgrow hat hlt3
            go_wp2
            go_roundw
            case rel => exact ⟨k + 1, by omega, by go_num, HO3.out, hb3⟩
            case measure => simp [intOf]; omega
    · obtain rfl : k = len := by omega
      go_wp2
      go_ret
      exact ⟨_, rfl, HO.out, hb⟩
end Go.Proofs.YtppeogalaikopaaDoor
