/- The reference's Numbers, Join and Bytes of a canonical vector. -/
import Derived.Test.YtppeogalaikopaaDoorMG20
import Derived.Test.YtppeogalaikopaaDoorMG29
import Derived.Test.YtppeogalaikopaaDoorMG10
namespace Go.Proofs.YtppeogalaikopaaDoor
open Go Go.RowKit
set_option linter.unusedSimpArgs false

theorem own_add {w w3 : World} {base m : Nat} {v v3 : Value} {xs ys : List Int} (h : OwnI w base v xs) (hm : ys.length = m) (hr : w3.ownsRow base 51 1 v3 (xs.length + m) (xs.map (Value.int .u64) ++ ys.map (Value.int .u64))) (hw : ∀ y ∈ ys, Word y) : OwnI w3 base v3 (xs ++ ys) := by
  subst hm
  refine ⟨by rw [List.length_append, List.map_append]; exact hr, fun z hz => ?_⟩
  rcases List.mem_append.1 hz with hz | hz
  · exact h.words z hz
  · exact hw z hz

set_option maxHeartbeats 1600000 in
theorem rjoin_any (a : Option Addr) (len cap : Nat) (xs : List Int) (w : World) (h : Ints .u64 w a len xs) (hs : len ≤ 90000) :
    Calls Tryd.prog 23 #[.slice a len cap] w fun e w' => ∃ v, e = .returned v ∧ OwnB w' w.heap.size v (joinB xs) ∧ Below w.heap.size w w' := by
  have H := hide h
  have hl := h.length
  have HL := hide hl
  clear h hl
  go_enter Tryd.func23, Tryd.ntmps23
  go_wp2
  go_loopw [3, 4] (fun o c wr => ∃ k : Nat, k ≤ len ∧ c = .int .i64 k ∧ OwnB wr w.heap.size o (joinB (xs.take k)) ∧ Below w.heap.size w wr)
    (fun _ c _ => len - (intOf c).toNat)
  case atStart => exact ⟨0, Nat.zero_le _, rfl, OwnB.nil _ _, Below.refl _ _⟩
  case round =>
    obtain ⟨k, hk, rfl, hO, hb⟩ := hrel
    have HO := hide hO
    have HB := hide hb
    have i0 : (0 : Int) ≤ (k : Int) := by omega
    by_cases hlt : k < len
    · obtain ⟨b, off, rfl, hbl, hc⟩ := (H.out.below hb).cells k hlt
      have i1 : (k : Int) < (len : Int) := by omega
      have hx : Word (xs.getD k 0) := word_of_wf (H.out.getD_wf hlt)
      have TK := hide (show joinB (xs.take (k + 1)) = joinB (xs.take k) ++ vb 10 (xs.getD k 0) by
        have hj' : k < xs.length := by rw [HL.out]; exact hlt
        rw [List.take_succ_eq_append_getElem hj', joinB_snoc]
        simp [List.getD, List.getElem?_eq_getElem hj'])
      have LT := hide (show (joinB (xs.take k)).length ≤ 10 * k by
        have := joinB_most (xs.take k)
        rw [List.length_take] at this
        omega)
      obtain ⟨x, ex⟩ : ∃ x, xs.getD k 0 = x := ⟨_, rfl⟩
      rw [ex] at hc hx TK
      have KB := hide (fun W => rbytes_any 10 x W hx (by have := hx.2; omega) (by decide) (by decide))
      have VM := hide (vb_most 10 x)
      clear ex hx hO hb
      go_wp2_with fail
      refine (KB.out _).mono ?_
      rintro e w1 ⟨v1, rfl, hO1, hb1⟩
      obtain ⟨a1, c1, rfl, hI1, hc1⟩ := hO1.ints (by have := VM.out; omega)
      have I1 := hide hI1
      have CN := hide (show a1 = none → c1 = 0 from fun e => by subst e; exact own_cap0 hO1.row)
      have O1 := hide (HO.out.below hb1)
      have B1 := hide (bl_trans HB.out hb1)
      clear hO1 hI1 hb1 hc1 hc
      go_wp2_with (at_builtin; refine wpList_append_bytes rfl _ _ rfl w.heap.size _ (joinB (xs.take k)) rfl O1.out a1 (vb 10 x).length c1 (vb 10 x) rfl I1.out CN.out ?o1 ?o2 ?_)
      case o1 => have := LT.out; have := VM.out; omega
      case o2 => exact B1.out.size
      intro v2 w2 hO2 hg2
      rw [← TK.out] at hO2
      have O2 := hide hO2
      have B2 := hide (B1.out.grown hg2 B1.out.size (fun q hq => (O1.out.row.lt q hq).1))
      clear hO2 hg2
      go_wp2
      go_roundw
      case rel => first | exact ⟨k + 1, by omega, by go_num, O2.out, B2.out⟩ | ((repeat apply Exists.intro); exact ⟨⟨k + 1, by omega, by go_num, O2.out, B2.out⟩, rfl⟩)
      case measure => simp [intOf]; omega
    · obtain rfl : k = len := by omega
      have O2 := HO.out
      rw [← HL.out, List.take_length] at O2
      have O2 := hide O2
      clear hO
      go_wp2
      go_ret
      exact ⟨_, rfl, O2.out, HB.out⟩
set_option maxRecDepth 100000 in
set_option maxHeartbeats 6400000 in
theorem rnumbers_any (a : Option Addr) (len cap : Nat) (l : List EV) (es : List Ent) (w : World) (hE : EntsAt w a len l) (hes : l.map (·.1) = es) (hC : CanV es) (hn : ∀ e ∈ es, e.hs.length ≤ 1000) (hmost : (numsV es).length ≤ 90000) :
    Calls Tryd.prog 22 #[.slice a len cap] w fun e w' => ∃ v, e = .returned v ∧ OwnI w' w.heap.size v (numsV es) ∧ Below w.heap.size w w' := by
  obtain ⟨i0', hi0, hz0, hz1, hz2⟩ := info_parts info_u64
  have hl : len = es.length := by rw [← hes, List.length_map, hE.length]
  have hlen : es.length ≤ (numsV es).length := by
    have : ∀ k, k ≤ (numsTo es k).length := fun k => by
      induction k with
      | zero => omega
      | succ k ih => rw [show numsTo es (k + 1) = numsTo es k ++ numE (repN es k) (es.getD k Ent.z) from rfl, List.length_append, numE_length]; omega
    exact this es.length
  have hwd : ∀ e ∈ es, EntW e := fun e he => by
    rw [← hes] at he
    obtain ⟨p, hp, rfl⟩ := List.mem_map.1 he
    exact hE.words p hp
  have E := hide hE
  have CAN := hide hC
  have ES := hide hes
  have HN := hide hn
  have WD := hide hwd
  have MOST := hide hmost
  have w64 : IntKind.u64.wrap (len : Int) = len := wrap_word ⟨by omega, by omega⟩
  have WL : Hid (Word (len : Int)) := hide ⟨by omega, by omega⟩
  have hlm : len ≤ 90000 := by omega
  have HL := hide hl
  have HR := hide (World.ownsRow_lit (base := w.heap.size) (e := 51) (size := 1) w #[.int .u64 (len : Int)] 1 (Nat.le_refl _) (by decide) rfl)
  have O0 : Hid (OwnI (w.alloc (.cells #[.int .u64 (len : Int)] 51)) w.heap.size (.slice (some ⟨w.heap.size, 0, none⟩) 1 1) (numsTo es 0)) := hide (by
    rw [show numsTo es 0 = [(es.length : Int)] from rfl, ← HL.out]
    exact ⟨HR.out, fun z hz => by simp at hz; subst hz; exact WL.out⟩)
  clear hE hes hC hn hwd hmost hl hlen HR
  go_enter Tryd.func22, Tryd.ntmps22
  go_wp2
  go_loopw [3, 4] (fun o c wr => ∃ k : Nat, k ≤ len ∧ c = .int .i64 k ∧ OwnI wr w.heap.size o (numsTo es k) ∧ Below w.heap.size w wr)
    (fun _ c _ => len - (intOf c).toNat)
  case atStart => exact ⟨0, Nat.zero_le _, rfl, O0.out, bl_alloc (Below.refl _ _) _⟩
  case round =>
    obtain ⟨k, hk, rfl, hO, hb⟩ := hrel
    have HO := hide hO
    have HB := hide hb
    clear hO O0
    by_cases hlt : k < len
    · obtain ⟨b, off, rfl, hbl, c1, c2, c3⟩ := (E.out.below hb).cells k hlt
      have hmem := E.out.mem hlt
      obtain ⟨ha, hcap, eh, hP, hcp⟩ := (E.out.holes _ hmem).at'
      have hke : k < es.length := by rw [← HL.out]; exact hlt
      have eget : es.getD k Ent.z = (l.getD k EV.z).1 := by rw [← ES.out, getD_map]
      have hcan := CAN.out.ents k hke
      have hn := HN.out _ (getDz_mem hke)
      have hw := WD.out _ (getDz_mem hke)
      have hrp := repN_word CAN.out WD.out hke
      have NX : Hid (numsTo es (k + 1) = numsTo es k ++ numE (repN es k) (es.getD k Ent.z)) := rfl
      have ML := hide (numsTo_le es (show k + 1 ≤ es.length by omega))
      have RD : Hid (repN es k = if k = 0 then (es.getD 0 Ent.z).rep else (es.getD k Ent.z).rep - (es.getD (k - 1) Ent.z).rep - 1) := rfl
      have ASC := hide (CAN.out.asc k)
      rw [eh] at c3
      obtain ⟨e, ee⟩ : ∃ e, (l.getD k EV.z).1 = e := ⟨_, rfl⟩
      obtain ⟨ev, eev⟩ : ∃ ev, (l.getD k EV.z).2 = ev := ⟨_, rfl⟩
      rw [ee] at c1 c2 c3 hP eget hcp eh
      rw [eget] at hcan hn hw NX RD ASC
      have RD0 : Hid ((es.getD k Ent.z).rep = e.rep) := hide (by rw [eget])
      have EE := hide ee
      obtain ⟨x, y, zs⟩ := e
      simp only at c1 c2 c3 hP hcp hn eh
      rw [eev] at eh
      obtain ⟨p, ep⟩ : ∃ p, repN es k = p := ⟨_, rfl⟩
      rw [ep] at hrp NX RD
      have NE : Hid (numE p ⟨x, y, zs⟩ = [p] ++ [y, (zs.length : Int)] ++ dif zs 1 zs.length) := rfl
      rw [NE.out, ← List.append_assoc, ← List.append_assoc] at NX
      have hAP := cor_apart hcan.cor
      have DL := hide (dif_length zs 1 zs.length)
      simp only at hAP
      have HP := hide hP
      have AP := hide hAP
      have WE := hide hw
      have hn1 : zs.length ≤ 1000 := hn
      obtain ⟨n, en⟩ : ∃ n, zs.length = n := ⟨_, rfl⟩
      rw [en] at c3 hn1 NX DL HP AP eh
      have WN : Hid (Word (n : Int)) := hide ⟨by omega, by omega⟩
      have ww : IntKind.u64.wrap (n : Int) = n := wrap_word ⟨by omega, by omega⟩
      have WP := hide hrp
      have EVV : Hid ((l.getD k EV.z).2 = .slice ha n hcap) := hide (by rw [eev, eh])
      rw [NX.out] at ML
      have MLB := hide (show (numsTo es k).length + 3 + 2 * n ≤ 90000 by
        have h1 := ML.out
        have h2 := MOST.out
        have h3 := DL.out
        simp only [List.length_append, List.length_cons, List.length_nil] at h1
        omega)
      have i0 : (0 : Int) ≤ (k : Int) := by omega
      have i1 : (k : Int) < (len : Int) := by omega
      have e64 := hide (show (numsTo es k ++ [p]).length + 2 ≤ maxLen ∧ ((numsTo es k ++ [p]).length + 2) * 8 ≤ 140737488355328 by
        have := MLB.out
        unfold maxLen
        simp only [List.length_append, List.length_cons, List.length_nil]
        omega)
      have e63 := hide (show (numsTo es k).length + 1 ≤ maxLen ∧ ((numsTo es k).length + 1) * 8 ≤ 140737488355328 by
        have := MLB.out
        unfold maxLen
        omega)
      clear hP hcan hw hn ee eget eh hmem hcp hAP hrp en eev ep NE
      by_cases hk0 : k = 0
      · have hrd := RD.out
        rw [if_pos hk0] at hrd
        have hp : x = p := by
          rw [hrd, ← hk0]
          exact RD0.out.symm
        subst hp
        have n0 : ((k : Int) == 0) = true := by simp; omega
        clear hrd hk0
        go_wp2_with (at_builtin; (refine wpList_append_own_at _ rfl _ _ 49 rfl w.heap.size 51 i0' (.int .u64 0) 1 8 Tryd.underlying49 hi0 hz0 hz1 hz2 rfl (by decide) _ _ _ rfl (HO.out.row.alloc _) ⟨wr.heap.size, 0, none⟩ 1 1 [.int .u64 x] rfl rfl ?s1 ?s2 ?s3 ?s4 ?s5 ?_))
        first | (case s1 => exact cell_one_new wr _ _) | skip
        case s2 => first | (intro u hu; simp at hu; subst hu; rfl) | rfl
        case s3 => exact e63.out.1
        case s4 => exact e63.out.2
        case s5 => first | exact (bl_alloc HB.out _).size | (have := HB.out.size; simp at this ⊢; omega)
        intro v2 w2 hown2 hgrow2 _ _
        have hb2 := (bl_alloc HB.out _).grown hgrow2 (bl_alloc HB.out _).size (fun g hg => (HO.out.row.lt g hg).1)
        have B2 := hide hb2
        have O2 := hide (own_add (m := 1) (ys := [x]) HO.out rfl hown2 (fun z hz => by simp at hz; subst hz; exact WP.out))
        obtain ⟨b2, off2, eb2, _, _, c2', c3'⟩ := (E.out.below hb2).cells k hlt
        obtain ⟨rfl, rfl⟩ : b = b2 ∧ off = off2 := by simpa using eb2
        rw [EVV.out] at c3'
        rw [EE.out] at c2'
        clear eb2 hown2 hgrow2 hb2 c1 c2 c3
        have QL := hide (show (numsTo es k ++ [x]).length = (numsTo es k).length + 1 by simp)
        obtain ⟨Q, eQ⟩ : ∃ Q, numsTo es k ++ [x] = Q := ⟨_, rfl⟩
        rw [eQ] at O2 NX e64 QL
        have NX2 := hide (show numsTo es (k + 1) = Q ++ y :: (n : Int) :: dif zs 1 n by rw [NX.out]; simp)
        clear eQ
        go_wp2_with fail
        go_region_law (refine step_append_lies _ rfl _ _ 49 rfl w.heap.size 51 i0' (.int .u64 0) 1 8 Tryd.underlying49 hi0 hz0 hz1 hz2 rfl (by decide) _ _ _ rfl (O2.out.row.alloc _).drew ⟨w2.heap.size, 0, none⟩ 2 2 [.int .u64 y, .int .u64 (n : Int)] rfl rfl ?_ ?_ (by decide) ?_ ?_ ?_ (w2.heap.size + 1) ?_ ?_; exact cell_two_new w2 _ _ _; (intro u hu; simp at hu; rcases hu with rfl | rfl <;> rfl); exact e64.out.1; exact e64.out.2; (exact (bl_drew (bl_alloc B2.out _)).size); simp; intro g3 cp3 w3 hown hgrow hat hlt3)
        all_goals
          have hb3 := (bl_drew (bl_alloc B2.out _)).grown hgrow (bl_drew (bl_alloc B2.out _)).size (fun g hg => (O2.out.row.lt g hg).1)
          have B3 := hide hb3
          have O3 := hide (own_add (m := 2) (ys := [y, (n : Int)]) O2.out rfl hown (fun z hz => by
            simp at hz
            rcases hz with rfl | rfl
            · exact WE.out.mx
            · exact WN.out))
          obtain ⟨b4, off4, eb4, _, _, _, k3⟩ := (E.out.below hb3).cells k hlt
          obtain ⟨rfl, rfl⟩ : b = b4 ∧ off = off4 := by simpa using eb4
          rw [EVV.out] at k3
          have PR := hide (HP.out.below (bl_trans (Below.refl _ _) (hb3.mono (Nat.le_refl _))))
          clear eb4 hown hgrow hat hlt3 c2' c3' hb3
          go_wp2_with fail
          refine (rdiffs_any ha n hcap zs 1 _ PR.out one_word AP.out hn1).mono ?_
          rintro e w5 ⟨v5, rfl, hO5, hb5⟩
          obtain ⟨a5, c5, rfl, hI5, hc5⟩ := hO5.ints (by rw [DL.out]; omega)
          have I5 := hide hI5
          have CN := hide (show a5 = none → c5 = 0 from fun e => by subst e; exact own_cap0 hO5.row)
          have O4 := hide (O3.out.below hb5)
          have B5 := hide (bl_trans B3.out hb5)
          clear hO5 hI5 hb5 hc5 k3
          go_wp2_with (at_builtin; refine wpList_append_words rfl _ _ rfl w.heap.size _ _ rfl O4.out a5 (dif zs 1 n).length c5 (dif zs 1 n) rfl I5.out CN.out ?o1 ?o2 ?_)
          case o1 => have h1 := MLB.out; have h2 := DL.out; have h3 := QL.out; simp only [List.length_append, List.length_cons, List.length_nil]; omega
          case o2 => exact B5.out.size
          intro v6 w6 hO6 hg6
          rw [← NX2.out] at hO6
          have O6 := hide hO6
          have B6 := hide (B5.out.grown hg6 B5.out.size (fun q hq => (O4.out.row.lt q hq).1))
          clear hO6 hg6
          go_wp2
          go_roundw
          case rel => first | exact ⟨k + 1, by omega, by go_num, O6.out, B6.out⟩ | ((repeat apply Exists.intro); exact ⟨⟨k + 1, by omega, by go_num, O6.out, B6.out⟩, rfl⟩)
          case measure => simp [intOf]; omega
      · skip
        obtain ⟨b2, off2, eb, _, d0, _, _⟩ := (E.out.below HB.out).cells (k - 1) (by omega)
        obtain ⟨rfl, rfl⟩ : b = b2 ∧ off = off2 := by simpa using eb
        have hrd := RD.out
        rw [if_neg hk0] at hrd
        have hasc := ASC.out (by omega) hke
        rw [← ES.out, getD_map] at hrd hasc
        have hwq := (E.out.words _ (E.out.mem (i := k - 1) (by omega))).rep
        obtain ⟨q, eq⟩ : ∃ q, (l.getD (k - 1) EV.z).1.rep = q := ⟨_, rfl⟩
        rw [eq] at d0 hrd hasc hwq
        simp only at hrd hasc
        have wx := WE.out.rep
        simp only at wx
        have n0 : ¬ (k : Int) = 0 := by omega
        have n1 : (0 : Int) ≤ (k : Int) - 1 := by omega
        have n2 : (k : Int) - 1 < (len : Int) := by omega
        have n3 : IntKind.i64.wrap ((k : Int) - 1) = (k : Int) - 1 := IntWalk.i64_in _ (by omega)
        have n4 : ((k : Int) - 1).toNat = k - 1 := by omega
        have n5 : IntKind.u64.wrap (x - q) = x - q := wrap_word (by unfold Word at *; omega)
        have n6 : IntKind.u64.wrap (x - q - 1) = p := by rw [hrd]; exact wrap_word (by unfold Word at *; omega)
        have j5 : (1 : Int) ≤ (k : Int) := by omega
        have j6 : 1 ≤ k := by omega
        have j7 : (k : Int) ≤ (len : Int) := by omega
        have hsz := hb.size
        clear eb hrd hasc hwq eq hk0 wx hb
        go_wp2_with fail
        go_region_law (refine step_append_lies _ rfl _ _ 49 rfl w.heap.size 51 i0' (.int .u64 0) 1 8 Tryd.underlying49 hi0 hz0 hz1 hz2 rfl (by decide) _ _ _ rfl (HO.out.row.alloc _).drew ⟨wr.heap.size, 0, none⟩ 1 1 [.int .u64 p] rfl rfl ?_ ?_ (by decide) ?_ ?_ ?_ (wr.heap.size + 1) ?_ ?_; exact cell_one_new wr _ _; (intro u hu; simp at hu; subst hu; rfl); exact e63.out.1; exact e63.out.2; (exact (bl_drew (bl_alloc HB.out _)).size); simp; intro g2 cp2 w2 hown2 hgrow2 hat2 hlt2)
        all_goals
          have hb2 := (bl_drew (bl_alloc HB.out _)).grown hgrow2 (bl_drew (bl_alloc HB.out _)).size (fun g hg => (HO.out.row.lt g hg).1)
          have B2 := hide hb2
          have O2 := hide (own_add (m := 1) (ys := [p]) HO.out rfl hown2 (fun z hz => by simp at hz; subst hz; exact WP.out))
          obtain ⟨b2, off2, eb2, _, _, c2', c3'⟩ := (E.out.below hb2).cells k hlt
          obtain ⟨rfl, rfl⟩ : b = b2 ∧ off = off2 := by simpa using eb2
          rw [EVV.out] at c3'
          rw [EE.out] at c2'
          clear eb2 hown2 hgrow2 hat2 hlt2 hb2 c1 c2 c3 d0
          have QL := hide (show (numsTo es k ++ [p]).length = (numsTo es k).length + 1 by simp)
          obtain ⟨Q, eQ⟩ : ∃ Q, numsTo es k ++ [p] = Q := ⟨_, rfl⟩
          rw [eQ] at O2 NX e64 QL
          have NX2 := hide (show numsTo es (k + 1) = Q ++ y :: (n : Int) :: dif zs 1 n by rw [NX.out]; simp)
          clear eQ
          go_wp2_with fail
          go_region_law (refine step_append_lies _ rfl _ _ 49 rfl w.heap.size 51 i0' (.int .u64 0) 1 8 Tryd.underlying49 hi0 hz0 hz1 hz2 rfl (by decide) _ _ _ rfl (O2.out.row.alloc _).drew ⟨w2.heap.size, 0, none⟩ 2 2 [.int .u64 y, .int .u64 (n : Int)] rfl rfl ?_ ?_ (by decide) ?_ ?_ ?_ (w2.heap.size + 1) ?_ ?_; exact cell_two_new w2 _ _ _; (intro u hu; simp at hu; rcases hu with rfl | rfl <;> rfl); exact e64.out.1; exact e64.out.2; (exact (bl_drew (bl_alloc B2.out _)).size); simp; intro g3 cp3 w3 hown hgrow hat hlt3)
          all_goals
            have hb3 := (bl_drew (bl_alloc B2.out _)).grown hgrow (bl_drew (bl_alloc B2.out _)).size (fun g hg => (O2.out.row.lt g hg).1)
            have B3 := hide hb3
            have O3 := hide (own_add (m := 2) (ys := [y, (n : Int)]) O2.out rfl hown (fun z hz => by
              simp at hz
              rcases hz with rfl | rfl
              · exact WE.out.mx
              · exact WN.out))
            obtain ⟨b4, off4, eb4, _, _, _, k3⟩ := (E.out.below hb3).cells k hlt
            obtain ⟨rfl, rfl⟩ : b = b4 ∧ off = off4 := by simpa using eb4
            rw [EVV.out] at k3
            have PR := hide (HP.out.below (bl_trans (Below.refl _ _) (hb3.mono (Nat.le_refl _))))
            clear eb4 hown hgrow hat hlt3 c2' c3' hb3
            go_wp2_with fail
            refine (rdiffs_any ha n hcap zs 1 _ PR.out one_word AP.out hn1).mono ?_
            rintro e w5 ⟨v5, rfl, hO5, hb5⟩
            obtain ⟨a5, c5, rfl, hI5, hc5⟩ := hO5.ints (by rw [DL.out]; omega)
            have I5 := hide hI5
            have CN := hide (show a5 = none → c5 = 0 from fun e => by subst e; exact own_cap0 hO5.row)
            have O4 := hide (O3.out.below hb5)
            have B5 := hide (bl_trans B3.out hb5)
            clear hO5 hI5 hb5 hc5 k3
            go_wp2_with (at_builtin; refine wpList_append_words rfl _ _ rfl w.heap.size _ _ rfl O4.out a5 (dif zs 1 n).length c5 (dif zs 1 n) rfl I5.out CN.out ?o1 ?o2 ?_)
            case o1 => have h1 := MLB.out; have h2 := DL.out; have h3 := QL.out; simp only [List.length_append, List.length_cons, List.length_nil]; omega
            case o2 => exact B5.out.size
            intro v6 w6 hO6 hg6
            rw [← NX2.out] at hO6
            have O6 := hide hO6
            have B6 := hide (B5.out.grown hg6 B5.out.size (fun q hq => (O4.out.row.lt q hq).1))
            clear hO6 hg6
            go_wp2
            go_roundw
            case rel => first | exact ⟨k + 1, by omega, by go_num, O6.out, B6.out⟩ | ((repeat apply Exists.intro); exact ⟨⟨k + 1, by omega, by go_num, O6.out, B6.out⟩, rfl⟩)
            case measure => simp [intOf]; omega
    · obtain rfl : k = len := by omega
      have O6 := HO.out
      rw [HL.out] at O6
      have O6 := hide O6
      go_wp2
      go_ret
      exact ⟨_, rfl, O6.out, HB.out⟩
theorem rbytesV_any (a : Option Addr) (len cap : Nat) (l : List EV) (es : List Ent) (w : World) (hE : EntsAt w a len l) (hes : l.map (·.1) = es) (hC : CanV es) (hn : ∀ e ∈ es, e.hs.length ≤ 1000) (hmost : (numsV es).length ≤ 90000) :
    Calls Tryd.prog 13 #[.slice a len cap] w fun e w' => ∃ v, e = .returned v ∧ OwnB w' w.heap.size v (joinB (numsV es)) ∧ Below w.heap.size w w' := by
  have K := hide (rnumbers_any a len cap l es w hE hes hC hn hmost)
  have M := hide hmost
  clear hE hes hC hn hmost
  go_enter Tryd.func13, Tryd.ntmps13
  go_wp2_with fail
  refine K.out.mono ?_
  rintro e w1 ⟨v1, rfl, hO, hb⟩
  obtain ⟨a1, c1, rfl, hI, _⟩ := hO.ints (by have := M.out; omega)
  have I1 := hide hI
  have B1 := hide hb
  clear hO hI hb
  go_wp2_with fail
  refine (rjoin_any a1 _ c1 _ _ I1.out M.out).mono ?_
  rintro e w2 ⟨v2, rfl, hO, hb⟩
  have O2 := hide (hO.lower B1.out.size)
  have B2 := hide (bl_trans B1.out hb)
  clear hO hb
  go_wp2
  go_ret
  exact ⟨_, rfl, O2.out, B2.out⟩
end Go.Proofs.YtppeogalaikopaaDoor
