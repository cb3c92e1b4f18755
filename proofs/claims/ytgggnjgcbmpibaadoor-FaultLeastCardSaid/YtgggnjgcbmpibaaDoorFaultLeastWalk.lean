/- The law FaultLeast. -/
import Derived.Test.YtgggnjgcbmpibaaDoorLeastRef
import Derived.Test.YtgggnjgcbmpibaaDoorFaultReadsWalk
import Derived.Laws.AppendOwn
import Derived.Maps.AppendAt
import Derived.OwnWalk
namespace Go.Proofs.YtgggnjgcbmpibaaDoor
open Go.RowKit

theorem info_parts {t : TypeId} {z : Value} {n b : Nat} (h : (Tryd.prog.info? t).map (fun i => (i.zero, i.size, i.bytes)) = some (some z, n, b)) : ∃ i0, Tryd.prog.info? t = some i0 ∧ i0.zero = some z ∧ i0.size = n ∧ i0.bytes = b := by
  obtain ⟨i0, hi, he⟩ := Option.map_eq_some_iff.1 h
  simp only [Prod.mk.injEq] at he
  exact ⟨i0, hi, he.1, he.2.1, he.2.2⟩
theorem info_error : (Tryd.prog.info? 28).map (fun i => (i.zero, i.size, i.bytes)) = some (some .nilIface, 1, 16) := by kernel_rfl
theorem irow_below {w w' : World} {base n : Nat} {t : TypeId} {v : Value} {xs : List Value} (h : w.ownsRow base t 1 v n xs) (hb : Below w.heap.size w w') : w'.ownsRow base t 1 v n xs := by
  refine ⟨h.1, ?_⟩
  rcases h.2 with hn | ⟨g, cap, cur, hv, hg, hc, rest⟩
  · exact .inl hn
  · exact .inr ⟨g, cap, cur, hv, hg, (hb.block g (Array.getElem?_eq_some_iff.1 hc).1).trans hc, rest⟩
theorem one_new (w : World) {b : Nat} {x : Value} {t : TypeId} (h : w.heap[b]? = some (.cells #[x] t (0, 0))) : ∀ j u, [x][j]? = some u → w.cell? ((⟨b, 0, none⟩ : Addr).add j) = some u := by
  intro j u hj
  match j, hj with
  | 0, hj => simp at hj; subst hj; simp [World.cell?, h, Addr.add]
theorem evrow_of_own {w : World} {base k : Nat} {v : Value} {rs : List Rec} (h : w.ownsRow base 28 1 v k (evs rs k)) : ∃ a cap, v = .slice a k cap ∧ EvRow w a k rs := by
  rcases h.2 with ⟨e, hn⟩ | ⟨g, cap, cur, hv, hg, hc, rest⟩
  · subst hn
    exact ⟨none, 0, e, fun i hi => absurd hi (by omega)⟩
  · refine ⟨some ⟨g, 0, none⟩, cap, hv, fun i hi => ⟨g, 0, rfl, (Array.getElem?_eq_some_iff.1 hc).1, ?_⟩⟩
    subst hv
    have := h.cellAt i (by omega)
    rw [evs_at rs hi] at this
    simpa using this

/-- The element that is compared, in every world of the region. -/
structure HeldR (w : World) (b o : Nat) (nil has : Bool) (code at' : Int) (a : Option Addr) (len cap : Nat) (W : World) : Prop where
  c0 : W.cell? ⟨b, o, none⟩ = some (.bool nil)
  c1 : W.cell? ⟨b, o + 1, none⟩ = some (.int .i64 code)
  c2 : W.cell? ⟨b, o + 2, none⟩ = some (.bool has)
  c3 : W.cell? ⟨b, o + 3, none⟩ = some (.int .i64 at')
  c4 : W.cell? ⟨b, o + 4, none⟩ = some (.slice a len cap)
  lt : b < W.heap.size
  bl : Below w.heap.size w W
theorem HeldR.below {w W W' : World} {b o : Nat} {nil has : Bool} {code at' : Int} {a : Option Addr} {len cap : Nat} (h : HeldR w b o nil has code at' a len cap W) (hb : Below W.heap.size W W') : HeldR w b o nil has code at' a len cap W' :=
  ⟨keep_cs hb h.c0, keep_cs hb h.c1, keep_cs hb h.c2, keep_cs hb h.c3, keep_cs hb h.c4, Nat.lt_of_lt_of_le h.lt hb.size, bl_trans h.bl hb⟩
theorem HeldR.drew {w W : World} {b o : Nat} {nil has : Bool} {code at' : Int} {a : Option Addr} {len cap : Nat} (h : HeldR w b o nil has code at' a len cap W) : HeldR w b o nil has code at' a len cap W.drew := ⟨h.c0, h.c1, h.c2, h.c3, h.c4, h.lt, bl_drew h.bl⟩
theorem ev_one (r : Rec) : (ev r).oneCell' = true := by
  unfold ev
  split <;> rfl

set_option maxRecDepth 100000 in
set_option maxHeartbeats 8000000 in
theorem faultLeast_walk (a : Option Addr) (len cap : Nat) (rs : List Rec) (w : World) (h : Errs w a len rs) (hg : Laid w) :
    Calls Tryd.prog 5 #[.slice a len cap] w fun e w' => e = .returned (.bool true) ∧ Below w.heap.size w w' := by
  have H := hide h
  have HA := hide (fun W (hb : Below w.heap.size w W) => alive_any W (hg.below hb))
  have HG := hide hg
  clear h hg
  by_cases g : 30 < (len : Int)
  · go_enter Tryd.func5, Tryd.ntmps5
    go_wp2_with fail
    refine (HA.out _ (Below.refl _ _)).mono ?_
    rintro e w1 ⟨rfl, b1⟩
    go_wp2
    go_ret
    exact ⟨rfl, b1⟩
  · obtain ⟨i0, hi, hz0, hz1, hz2⟩ := info_parts info_error
    have hmx : Tryd.prog.follows .mixedOrders = true := by kernel_rfl
    go_enter Tryd.func5, Tryd.ntmps5
    go_wp2_with fail
    go_loopw [3, 14] (fun es c wr => ∃ k : Nat, k ≤ len ∧ c = .int .i64 k ∧ wr.ownsRow w.heap.size 28 1 es k (evs rs k) ∧ (∀ i, i < k → FewL (nth rs i).ss (nth rs i).len) ∧ Below w.heap.size w wr)
      (fun _ c _ => len - (intOf c).toNat)
    case atStart => exact ⟨0, Nat.zero_le _, rfl, World.ownsRow_nil _ _ _ _, fun i hi => absurd hi (by omega), Below.refl _ _⟩
    case round =>
      obtain ⟨k, hk, rfl, hO, hF, B⟩ := hrel
      have O := hide hO
      have FF := hide hF
      have hs0 := B.size
      clear hO hF
      by_cases hlt : k < len
      · obtain ⟨b, off, rfl, hr⟩ := (H.out.below B).cells k hlt
        have i0' : (0 : Int) ≤ (k : Int) := by omega
        have i1' : (k : Int) < (len : Int) := by omega
        obtain ⟨r, er0⟩ : ∃ r, nth rs k = r := ⟨_, rfl⟩
        rw [er0] at hr
        obtain ⟨nl, co, hs, at', a', l', cp, ss⟩ := r
        have c0 : wr.cell? ⟨b, off + k * 5, none⟩ = some (.bool nl) := hr.c0
        have c1 : wr.cell? ⟨b, off + k * 5 + 1, none⟩ = some (.int .i64 co) := hr.c1
        have c2 : wr.cell? ⟨b, off + k * 5 + 2, none⟩ = some (.bool hs) := hr.c2
        have c3 : wr.cell? ⟨b, off + k * 5 + 3, none⟩ = some (.int .i64 at') := hr.c3
        have c4 : wr.cell? ⟨b, off + k * 5 + 4, none⟩ = some (.slice a' l' cp) := hr.c4
        have SS : Hid (Strs wr a' l' ss) := hide hr.strs
        clear hr
        have ER := hide er0
        clear er0
        by_cases hfw : FewL ss l'
        · have KF := hide (fun W (hb : Below wr.heap.size wr W) => few_yes nl hs co at' a' l' cp ss W (SS.out.below hb) hfw)
          have KB : Hid (∀ W, Below wr.heap.size wr W → Calls Tryd.prog 16 #[Dsc nl hs co at' a' l' cp] W fun e w' => e = .returned (ev ⟨nl, co, hs, at', a', l', cp, ss⟩) ∧ Below W.heap.size W w') := by
            refine hide fun W hb => ?_
            cases nl with
            | true => exact build_nil hs co at' a' l' cp W
            | false => exact build_any hs co at' a' l' cp ss W (SS.out.below hb)
          unfold Dsc at KF KB
          have h1c := ev_one ⟨nl, co, hs, at', a', l', cp, ss⟩
          obtain ⟨vv, hvv⟩ : ∃ v, ev ⟨nl, co, hs, at', a', l', cp, ss⟩ = v := ⟨_, rfl⟩
          rw [hvv] at KB h1c
          have HV := hide hvv
          have H1C := hide h1c
          have FW := hide hfw
          clear hvv h1c hfw
          obtain hvc : vv = .nilIface ∨ ∃ T d, vv = .iface T d := by
            rw [← HV.out]; unfold ev; split
            · exact .inl rfl
            · exact .inr ⟨_, _, rfl⟩
          rcases hvc with rfl | ⟨T, d, rfl⟩
          · go_wp2_with fail
            have B0 := bl_alloc (Below.refl wr.heap.size wr) (.cells #[.bool nl, .int .i64 co, .bool hs, .int .i64 at', .slice a' l' cp] 25)
            have R0 := heap_new_at wr (.cells #[.bool nl, .int .i64 co, .bool hs, .int .i64 at', .slice a' l' cp] 25) rfl
            refine (KF.out _ B0).mono ?_
            rintro e w1 ⟨rfl, b1⟩
            have B1 := bl_trans B0 b1
            have R1 := row_kept' b1 R0
            obtain ⟨d0, d1, d2, d3, d4⟩ := cells_five R1
            clear b1 R0 B0
            go_wp2_with fail
            refine (KB.out _ B1).mono ?_
            rintro e w2 ⟨rfl, b2⟩
            have B2 := hide (bl_trans B1 b2)
            have hs2 := B2.out.size
            clear b2 R1 B1 d0 d1 d2 d3 d4
            go_wp2_with (at_builtin; refine wpList_append_own_at _ rfl _ _ 44 rfl w.heap.size 28 i0 .nilIface 1 16 Tryd.underlying44 hi hz0 hz1 hz2 rfl (by decide) _ _ _ rfl ((irow_below O.out B2.out).alloc _) ⟨w2.heap.size, 0, none⟩ 1 1 [.nilIface] rfl rfl ?z1 ?z2 ?z3 ?z4 ?z5 ?_)
            case z1 => exact one_new _ (heap_new_at _ _ rfl)
            case z2 => intro u hu; simp at hu; subst hu; exact H1C.out
            case z3 => first | (unfold maxLen; omega) | (simp; unfold maxLen; omega)
            case z4 => first | omega | (simp; omega)
            case z5 => first | omega | (simp; omega)
            intro v' w3 hown hgrow _ _
            have HW := hide hown
            have B3 := hide ((bl_alloc (bl_trans B B2.out) (.cells #[.nilIface] 28)).grown hgrow (by simp; omega) (fun q hq => (O.out.lt q hq).1))
            clear hown hgrow
            go_wp2
            go_roundw
            case rel => exact ⟨k + 1, by omega, by go_num, by rw [evs_succ, ER.out, HV.out]; exact HW.out, fun i hik => by
                by_cases e : i = k
                · subst e; rw [ER.out]; exact FW.out
                · exact FF.out i (by omega), B3.out⟩
            case measure => simp [intOf]; omega
          · go_wp2_with fail
            have B0 := bl_alloc (Below.refl wr.heap.size wr) (.cells #[.bool nl, .int .i64 co, .bool hs, .int .i64 at', .slice a' l' cp] 25)
            have R0 := heap_new_at wr (.cells #[.bool nl, .int .i64 co, .bool hs, .int .i64 at', .slice a' l' cp] 25) rfl
            refine (KF.out _ B0).mono ?_
            rintro e w1 ⟨rfl, b1⟩
            have B1 := bl_trans B0 b1
            have R1 := row_kept' b1 R0
            obtain ⟨d0, d1, d2, d3, d4⟩ := cells_five R1
            clear b1 R0 B0
            go_wp2_with fail
            refine (KB.out _ B1).mono ?_
            rintro e w2 ⟨rfl, b2⟩
            have B2 := hide (bl_trans B1 b2)
            have hs2 := B2.out.size
            clear b2 R1 B1 d0 d1 d2 d3 d4
            go_wp2_with (at_builtin; refine wpList_append_own_at _ rfl _ _ 44 rfl w.heap.size 28 i0 .nilIface 1 16 Tryd.underlying44 hi hz0 hz1 hz2 rfl (by decide) _ _ _ rfl ((irow_below O.out B2.out).alloc _) ⟨w2.heap.size, 0, none⟩ 1 1 [.iface T d] rfl rfl ?z1 ?z2 ?z3 ?z4 ?z5 ?_)
            case z1 => exact one_new _ (heap_new_at _ _ rfl)
            case z2 => intro u hu; simp at hu; subst hu; exact H1C.out
            case z3 => first | (unfold maxLen; omega) | (simp; unfold maxLen; omega)
            case z4 => first | omega | (simp; omega)
            case z5 => first | omega | (simp; omega)
            intro v' w3 hown hgrow _ _
            have HW := hide hown
            have B3 := hide ((bl_alloc (bl_trans B B2.out) (.cells #[.iface T d] 28)).grown hgrow (by simp; omega) (fun q hq => (O.out.lt q hq).1))
            clear hown hgrow
            go_wp2
            go_roundw
            case rel => exact ⟨k + 1, by omega, by go_num, by rw [evs_succ, ER.out, HV.out]; exact HW.out, fun i hik => by
                by_cases e : i = k
                · subst e; rw [ER.out]; exact FW.out
                · exact FF.out i (by omega), B3.out⟩
            case measure => simp [intOf]; omega
        · have KF := hide (fun W (hb : Below wr.heap.size wr W) => few_no nl hs co at' a' l' cp ss W (SS.out.below hb) hfw)
          unfold Dsc at KF
          clear hfw
          go_wp2_with fail
          have B0 := bl_alloc (Below.refl wr.heap.size wr) (.cells #[.bool nl, .int .i64 co, .bool hs, .int .i64 at', .slice a' l' cp] 25)
          refine (KF.out _ B0).mono ?_
          rintro e w1 ⟨rfl, b1⟩
          have B1 := bl_trans B (bl_trans B0 b1)
          clear b1 B0
          go_wp2_with fail
          refine (HA.out _ B1).mono ?_
          rintro e w2 ⟨rfl, b2⟩
          have B2 := bl_trans B1 b2
          clear b2 B1
          go_wp2
          go_ret
          exact ⟨rfl, B2⟩
      · obtain rfl : k = len := by omega
        obtain ⟨ea, ecap, rfl, hE⟩ := evrow_of_own O.out
        have KL := hide (fun W hb => fleast_any ea k ecap rs W (hE.below (w1 := W) hb) (by omega) (HG.out.below (bl_trans B hb)))
        have KRL := hide (fun W hb => rleast_any a k cap rs W (H.out.below (w1 := W) hb) (by omega))
        by_cases gl : least rs k < 0
        · rw [vi_neg gl] at KL
          obtain ⟨x, ex⟩ : ∃ x, least rs k = x := ⟨_, rfl⟩
          rw [ex] at KRL gl
          clear hE
          go_wp2_with fail
          refine (KL.out _ (Below.refl _ _)).mono ?_
          rintro e w1 ⟨rfl, b1⟩
          have B1 := bl_trans B b1
          clear b1
          go_wp2_with fail
          refine (KRL.out _ B1).mono ?_
          rintro e w2 ⟨rfl, b2⟩
          have B2 := bl_trans B1 b2
          clear b2 B1
          go_wp2_with fail
          refine (HA.out _ B2).mono ?_
          rintro e w3 ⟨rfl, b3⟩
          have B3 := bl_trans B2 b3
          clear b3 B2
          go_wp2
          go_ret
          exact ⟨rfl, B3⟩
        · have ll := least_lt rs k
          obtain ⟨j, ej⟩ : ∃ j : Nat, least rs k = j := ⟨(least rs k).toNat, by omega⟩
          have hj : j < k := by omega
          have hnil := least_is rs k (by omega)
          rw [ej, Int.toNat_natCast] at hnil
          rw [ej, vi_nat] at KL
          rw [ej] at KRL
          have hfw := FF.out j hj
          obtain ⟨b, off, rfl, hr⟩ := H.out.cells j hj
          obtain ⟨r, er0⟩ : ∃ r, nth rs j = r := ⟨_, rfl⟩
          rw [er0] at hr hnil KL hfw
          obtain ⟨nl, co, hs, at', a', l', cp, ss⟩ := r
          obtain rfl : nl = false := hnil
          have c0 : w.cell? ⟨b, off + j * 5, none⟩ = some (.bool false) := hr.c0
          have c1 : w.cell? ⟨b, off + j * 5 + 1, none⟩ = some (.int .i64 co) := hr.c1
          have c2 : w.cell? ⟨b, off + j * 5 + 2, none⟩ = some (.bool hs) := hr.c2
          have c3 : w.cell? ⟨b, off + j * 5 + 3, none⟩ = some (.int .i64 at') := hr.c3
          have c4 : w.cell? ⟨b, off + j * 5 + 4, none⟩ = some (.slice a' l' cp) := hr.c4
          have SS : Hid (Strs w a' l' ss) := hide hr.strs
          have HR : Hid (HeldR w b (off + j * 5) false hs co at' a' l' cp w) := hide ⟨c0, c1, c2, c3, c4, hr.lt, Below.refl _ _⟩
          have v2 : co ≤ 9223372036854775807 := (i64_wf hr.w1).2
          have hF : FewL ss l' := hfw
          have KR := hide (fun W hb => rtext_any false hs co at' a' l' cp ss W (SS.out.below (w1 := W) hb) hF v2)
          have KRA := hide (fun W => rat_any false hs co at' a' l' cp W)
          obtain ⟨x, ex⟩ : ∃ x, x = chn (bas hs co at') ss l' := ⟨_, rfl⟩
          have KC := hide (fun W hb => code_any x W (HG.out.below (w' := W) hb))
          rw [show x.cd = co by rw [ex, chn_cd]; cases hs <;> rfl] at KC
          have KA := hide (fun W hb => at_any x W (HG.out.below (w' := W) hb))
          rw [show x.at' = (if (false = true ∨ hs = false) then -1 else at') by rw [ex, chn_at]; cases hs <;> rfl] at KA
          obtain ⟨av, eav⟩ : ∃ av, av = (if (false = true ∨ hs = false) then -1 else at') := ⟨_, rfl⟩
          rw [← eav] at KA KRA
          have hfine : x.fine := by rw [ex]; exact (chn_fine (bas hs co at') ss l' hF (by cases hs <;> exact v2) (by rw [bas_txt]; exact errS_size co v2) l' (Nat.le_refl _)).1
          have KT := hide (fun W => text_any x W hfine)
          rw [← show x.txt = (chn (.e co) ss l').txt by rw [ex]; exact chn_txt _ _ ss (bas_txt hs co at') l'] at KR
          have M := methodError x
          have HE2 := enters x
          obtain ⟨T, eT⟩ : ∃ T, T = x.txt := ⟨_, rfl⟩
          rw [← eT] at KT KR
          have evx : ev ⟨false, co, hs, at', a', l', cp, ss⟩ = x.v := by rw [ex]; rfl
          rw [evx] at KL
          have j0 : (0 : Int) ≤ (j : Int) := by omega
          have j1 : (j : Int) < (k : Int) := by omega
          have j2 : ¬ (j : Int) < 0 := by omega
          clear hr hfw hfine eT ex evx eav er0 ej ll gl hE c0 c1 c2 c3 c4 hF
          unfold Dsc at KR KRA
          unfold Er.v at KL KC KA
          go_wp2_with fail
          refine (KL.out _ (Below.refl _ _)).mono ?_
          rintro e w1 ⟨rfl, b1⟩
          have B1 := bl_trans B b1
          clear b1
          go_wp2_with fail
          refine (KRL.out _ B1).mono ?_
          rintro e w2 ⟨rfl, b2⟩
          have hS := HR.out.below (bl_trans B1 b2)
          clear b2 B1
          go_wp2_with fail
          refine wp_region_held_drew (S := HeldR w b (off + j * 5) false hs co at' a' l' cp) hmx hS.drew (fun hS => ?_)
          refine wpAnyH_ready (rs := [0]) (by kernel_rfl) (by simp) ?_
          refine AllReadyH.cons (o := _) rfl (fun K hK => ?_) AllReadyH.nil
          go_simp
          refine (HA.out _ hS.bl).mono ?_
          rintro e wq ⟨rfl, hb⟩
          have hS := hS.below hb
          clear hb
          go_simp
          refine hK.out _ _ hS (fun _ => ?_)
          clear hK K
          refine wpAnyH_takeD (i := 1) (d := some 40) (v := (.bool true)) rfl rfl (by kernel_rfl) (by kernel_rfl) (by kernel_rfl) (fun _ _ _ h => h) (Or.inl ⟨by rfl, ?_⟩) (by assumption) ?_
          · intro X hX; obtain ⟨c0, c1, c2, c3, c4, hl0, hb0⟩ := hX; go_simp
          simp only [Act.put, List.setIfInBounds_toArray, List.set_cons_zero, List.set_cons_succ]
          refine wpAnyH_takeD (i := 2) (d := some 41) (v := (.iface x.tid x.dat)) rfl rfl (by kernel_rfl) (by kernel_rfl) (by kernel_rfl) (fun _ _ _ h => h) (Or.inl ⟨by rfl, ?_⟩) (by assumption) ?_
          · intro X hX; obtain ⟨c0, c1, c2, c3, c4, hl0, hb0⟩ := hX; go_simp
          simp only [Act.put, List.setIfInBounds_toArray, List.set_cons_zero, List.set_cons_succ]
          refine wpAnyH_takeD (i := 3) (d := some 42) (v := (.bool true)) rfl rfl (by kernel_rfl) (by kernel_rfl) (by kernel_rfl) (fun _ _ _ h => h) (Or.inl ⟨by rfl, ?_⟩) (by assumption) ?_
          · intro X hX; obtain ⟨c0, c1, c2, c3, c4, hl0, hb0⟩ := hX; go_simp
          simp only [Act.put, List.setIfInBounds_toArray, List.set_cons_zero, List.set_cons_succ]
          refine wpAnyH_takeD (i := 4) (d := some 43) (v := (.bool true)) rfl rfl (by kernel_rfl) (by kernel_rfl) (by kernel_rfl) (fun _ _ _ h => h) (Or.inl ⟨by rfl, ?_⟩) (by assumption) ?_
          · intro X hX; obtain ⟨c0, c1, c2, c3, c4, hl0, hb0⟩ := hX; go_simp
          simp only [Act.put, List.setIfInBounds_toArray, List.set_cons_zero, List.set_cons_succ]
          refine wpAnyH_takeD (i := 5) (d := some 44) (v := (.bool true)) rfl rfl (by kernel_rfl) (by kernel_rfl) (by kernel_rfl) (fun _ _ _ h => h) (Or.inl ⟨by rfl, ?_⟩) (by assumption) ?_
          · intro X hX; obtain ⟨c0, c1, c2, c3, c4, hl0, hb0⟩ := hX; go_simp
          simp only [Act.put, List.setIfInBounds_toArray, List.set_cons_zero, List.set_cons_succ]
          refine wpAnyH_takeD (i := 6) (d := some 45) (v := (.iface x.tid x.dat)) rfl rfl (by kernel_rfl) (by kernel_rfl) (by kernel_rfl) (fun _ _ _ h => h) (Or.inl ⟨by rfl, ?_⟩) (by assumption) ?_
          · intro X hX; obtain ⟨c0, c1, c2, c3, c4, hl0, hb0⟩ := hX; go_simp
          simp only [Act.put, List.setIfInBounds_toArray, List.set_cons_zero, List.set_cons_succ]
          refine wpAnyH_takeD (i := 8) (d := some 47) (v := (.slice (some ⟨b, off, none⟩) k cap)) rfl rfl (by kernel_rfl) (by kernel_rfl) (by kernel_rfl) (fun _ _ _ h => h) (Or.inl ⟨by rfl, ?_⟩) (by assumption) ?_
          · intro X hX; obtain ⟨c0, c1, c2, c3, c4, hl0, hb0⟩ := hX; go_simp
          simp only [Act.put, List.setIfInBounds_toArray, List.set_cons_zero, List.set_cons_succ]
          refine wpAnyH_takeD (i := 9) (d := some 48) (v := (.int .i64 (j : Int))) rfl rfl (by kernel_rfl) (by kernel_rfl) (by kernel_rfl) (fun _ _ _ h => h) (Or.inl ⟨by rfl, ?_⟩) (by assumption) ?_
          · intro X hX; obtain ⟨c0, c1, c2, c3, c4, hl0, hb0⟩ := hX; go_simp
          simp only [Act.put, List.setIfInBounds_toArray, List.set_cons_zero, List.set_cons_succ]
          refine wpAnyH_takeD (i := 10) (d := some 49) (v := (.pointer (some ⟨b, off + j * 5, none⟩))) rfl rfl (by kernel_rfl) (by kernel_rfl) (by kernel_rfl) (fun _ _ _ h => h) (Or.inl ⟨by rfl, ?_⟩) (by assumption) ?_
          · intro X hX; obtain ⟨c0, c1, c2, c3, c4, hl0, hb0⟩ := hX; go_simp
          simp only [Act.put, List.setIfInBounds_toArray, List.set_cons_zero, List.set_cons_succ]
          refine wpAnyH_takeD (i := 11) (d := some 50) (v := (.agg #[.bool false, .int .i64 co, .bool hs, .int .i64 at', .slice a' l' cp])) rfl rfl (by kernel_rfl) (by kernel_rfl) (by kernel_rfl) (fun _ _ _ h => h) (Or.inl ⟨by rfl, ?_⟩) (by assumption) ?_
          · intro X hX; obtain ⟨c0, c1, c2, c3, c4, hl0, hb0⟩ := hX; go_simp
          simp only [Act.put, List.setIfInBounds_toArray, List.set_cons_zero, List.set_cons_succ]
          refine wpAnyH_ready (rs := [7]) (by kernel_rfl) (by simp) ?_
          refine AllReadyH.cons (o := _) rfl (fun K hK => ?_) AllReadyH.nil
          go_simp
          refine (KT.out _).mono ?_
          rintro e wq ⟨rfl, hb⟩
          have hS := hS.below hb
          clear hb
          go_simp
          refine hK.out _ _ hS (fun _ => ?_)
          clear hK K
          refine wpAnyH_ready (rs := [12]) (by kernel_rfl) (by simp) ?_
          refine AllReadyH.cons (o := _) rfl (fun K hK => ?_) AllReadyH.nil
          go_simp
          refine (KR.out _ hS.bl).mono ?_
          rintro e wq ⟨rfl, hb⟩
          have hS := hS.below hb
          clear hb
          go_simp
          refine hK.out _ _ hS (fun _ => ?_)
          clear hK K
          refine wpAnyH_takeD (i := 13) (d := some 52) (v := (.bool true)) rfl rfl (by kernel_rfl) (by kernel_rfl) (by kernel_rfl) (fun _ _ _ h => h) (Or.inl ⟨by rfl, ?_⟩) (by assumption) ?_
          · intro X hX; obtain ⟨c0, c1, c2, c3, c4, hl0, hb0⟩ := hX; go_simp
          simp only [Act.put, List.setIfInBounds_toArray, List.set_cons_zero, List.set_cons_succ]
          refine wpAnyH_takeD (i := 14) (d := some 53) (v := (.bool true)) rfl rfl (by kernel_rfl) (by kernel_rfl) (by kernel_rfl) (fun _ _ _ h => h) (Or.inl ⟨by rfl, ?_⟩) (by assumption) ?_
          · intro X hX; obtain ⟨c0, c1, c2, c3, c4, hl0, hb0⟩ := hX; go_simp
          simp only [Act.put, List.setIfInBounds_toArray, List.set_cons_zero, List.set_cons_succ]
          refine wpAnyH_takeD (i := 15) (d := some 54) (v := (.bool true)) rfl rfl (by kernel_rfl) (by kernel_rfl) (by kernel_rfl) (fun _ _ _ h => h) (Or.inl ⟨by rfl, ?_⟩) (by assumption) ?_
          · intro X hX; obtain ⟨c0, c1, c2, c3, c4, hl0, hb0⟩ := hX; go_simp
          simp only [Act.put, List.setIfInBounds_toArray, List.set_cons_zero, List.set_cons_succ]
          refine wpAnyH_takeD (i := 16) (d := some 55) (v := (.iface x.tid x.dat)) rfl rfl (by kernel_rfl) (by kernel_rfl) (by kernel_rfl) (fun _ _ _ h => h) (Or.inl ⟨by rfl, ?_⟩) (by assumption) ?_
          · intro X hX; obtain ⟨c0, c1, c2, c3, c4, hl0, hb0⟩ := hX; go_simp
          simp only [Act.put, List.setIfInBounds_toArray, List.set_cons_zero, List.set_cons_succ]
          refine wpAnyH_takeD (i := 18) (d := some 57) (v := (.slice (some ⟨b, off, none⟩) k cap)) rfl rfl (by kernel_rfl) (by kernel_rfl) (by kernel_rfl) (fun _ _ _ h => h) (Or.inl ⟨by rfl, ?_⟩) (by assumption) ?_
          · intro X hX; obtain ⟨c0, c1, c2, c3, c4, hl0, hb0⟩ := hX; go_simp
          simp only [Act.put, List.setIfInBounds_toArray, List.set_cons_zero, List.set_cons_succ]
          refine wpAnyH_takeD (i := 19) (d := some 58) (v := (.int .i64 (j : Int))) rfl rfl (by kernel_rfl) (by kernel_rfl) (by kernel_rfl) (fun _ _ _ h => h) (Or.inl ⟨by rfl, ?_⟩) (by assumption) ?_
          · intro X hX; obtain ⟨c0, c1, c2, c3, c4, hl0, hb0⟩ := hX; go_simp
          simp only [Act.put, List.setIfInBounds_toArray, List.set_cons_zero, List.set_cons_succ]
          refine wpAnyH_takeD (i := 20) (d := some 59) (v := (.pointer (some ⟨b, off + j * 5, none⟩))) rfl rfl (by kernel_rfl) (by kernel_rfl) (by kernel_rfl) (fun _ _ _ h => h) (Or.inl ⟨by rfl, ?_⟩) (by assumption) ?_
          · intro X hX; obtain ⟨c0, c1, c2, c3, c4, hl0, hb0⟩ := hX; go_simp
          simp only [Act.put, List.setIfInBounds_toArray, List.set_cons_zero, List.set_cons_succ]
          refine wpAnyH_takeD (i := 21) (d := some 60) (v := (.pointer (some ⟨b, off + j * 5 + 1, none⟩))) rfl rfl (by kernel_rfl) (by kernel_rfl) (by kernel_rfl) (fun _ _ _ h => h) (Or.inl ⟨by rfl, ?_⟩) (by assumption) ?_
          · intro X hX; obtain ⟨c0, c1, c2, c3, c4, hl0, hb0⟩ := hX; go_simp
          simp only [Act.put, List.setIfInBounds_toArray, List.set_cons_zero, List.set_cons_succ]
          refine wpAnyH_takeD (i := 22) (d := some 61) (v := (.int .i64 co)) rfl rfl (by kernel_rfl) (by kernel_rfl) (by kernel_rfl) (fun _ _ _ h => h) (Or.inl ⟨by rfl, ?_⟩) (by assumption) ?_
          · intro X hX; obtain ⟨c0, c1, c2, c3, c4, hl0, hb0⟩ := hX; go_simp
          simp only [Act.put, List.setIfInBounds_toArray, List.set_cons_zero, List.set_cons_succ]
          refine wpAnyH_ready (rs := [17]) (by kernel_rfl) (by simp) ?_
          refine AllReadyH.cons (o := _) rfl (fun K hK => ?_) AllReadyH.nil
          go_simp
          refine (KC.out _ hS.bl).mono ?_
          rintro e wq ⟨rfl, hb⟩
          have hS := hS.below hb
          clear hb
          go_simp
          refine hK.out _ _ hS (fun _ => ?_)
          clear hK K
          refine wpAnyH_takeD (i := 23) (d := some 62) (v := (.bool true)) rfl rfl (by kernel_rfl) (by kernel_rfl) (by kernel_rfl) (fun _ _ _ h => h) (Or.inl ⟨by rfl, ?_⟩) (by assumption) ?_
          · intro X hX; obtain ⟨c0, c1, c2, c3, c4, hl0, hb0⟩ := hX; go_simp
          simp only [Act.put, List.setIfInBounds_toArray, List.set_cons_zero, List.set_cons_succ]
          refine wpAnyH_takeD (i := 24) (d := some 63) (v := (.bool true)) rfl rfl (by kernel_rfl) (by kernel_rfl) (by kernel_rfl) (fun _ _ _ h => h) (Or.inl ⟨by rfl, ?_⟩) (by assumption) ?_
          · intro X hX; obtain ⟨c0, c1, c2, c3, c4, hl0, hb0⟩ := hX; go_simp
          simp only [Act.put, List.setIfInBounds_toArray, List.set_cons_zero, List.set_cons_succ]
          refine wpAnyH_takeD (i := 25) (d := some 64) (v := (.bool true)) rfl rfl (by kernel_rfl) (by kernel_rfl) (by kernel_rfl) (fun _ _ _ h => h) (Or.inl ⟨by rfl, ?_⟩) (by assumption) ?_
          · intro X hX; obtain ⟨c0, c1, c2, c3, c4, hl0, hb0⟩ := hX; go_simp
          simp only [Act.put, List.setIfInBounds_toArray, List.set_cons_zero, List.set_cons_succ]
          refine wpAnyH_takeD (i := 26) (d := some 65) (v := (.iface x.tid x.dat)) rfl rfl (by kernel_rfl) (by kernel_rfl) (by kernel_rfl) (fun _ _ _ h => h) (Or.inl ⟨by rfl, ?_⟩) (by assumption) ?_
          · intro X hX; obtain ⟨c0, c1, c2, c3, c4, hl0, hb0⟩ := hX; go_simp
          simp only [Act.put, List.setIfInBounds_toArray, List.set_cons_zero, List.set_cons_succ]
          refine wpAnyH_takeD (i := 28) (d := some 67) (v := (.slice (some ⟨b, off, none⟩) k cap)) rfl rfl (by kernel_rfl) (by kernel_rfl) (by kernel_rfl) (fun _ _ _ h => h) (Or.inl ⟨by rfl, ?_⟩) (by assumption) ?_
          · intro X hX; obtain ⟨c0, c1, c2, c3, c4, hl0, hb0⟩ := hX; go_simp
          simp only [Act.put, List.setIfInBounds_toArray, List.set_cons_zero, List.set_cons_succ]
          refine wpAnyH_takeD (i := 29) (d := some 68) (v := (.int .i64 (j : Int))) rfl rfl (by kernel_rfl) (by kernel_rfl) (by kernel_rfl) (fun _ _ _ h => h) (Or.inl ⟨by rfl, ?_⟩) (by assumption) ?_
          · intro X hX; obtain ⟨c0, c1, c2, c3, c4, hl0, hb0⟩ := hX; go_simp
          simp only [Act.put, List.setIfInBounds_toArray, List.set_cons_zero, List.set_cons_succ]
          refine wpAnyH_takeD (i := 30) (d := some 69) (v := (.pointer (some ⟨b, off + j * 5, none⟩))) rfl rfl (by kernel_rfl) (by kernel_rfl) (by kernel_rfl) (fun _ _ _ h => h) (Or.inl ⟨by rfl, ?_⟩) (by assumption) ?_
          · intro X hX; obtain ⟨c0, c1, c2, c3, c4, hl0, hb0⟩ := hX; go_simp
          simp only [Act.put, List.setIfInBounds_toArray, List.set_cons_zero, List.set_cons_succ]
          refine wpAnyH_takeD (i := 31) (d := some 70) (v := (.agg #[.bool false, .int .i64 co, .bool hs, .int .i64 at', .slice a' l' cp])) rfl rfl (by kernel_rfl) (by kernel_rfl) (by kernel_rfl) (fun _ _ _ h => h) (Or.inl ⟨by rfl, ?_⟩) (by assumption) ?_
          · intro X hX; obtain ⟨c0, c1, c2, c3, c4, hl0, hb0⟩ := hX; go_simp
          simp only [Act.put, List.setIfInBounds_toArray, List.set_cons_zero, List.set_cons_succ]
          refine wpAnyH_ready (rs := [27]) (by kernel_rfl) (by simp) ?_
          refine AllReadyH.cons (o := _) rfl (fun K hK => ?_) AllReadyH.nil
          go_simp
          refine (KA.out _ hS.bl).mono ?_
          rintro e wq ⟨rfl, hb⟩
          have hS := hS.below hb
          clear hb
          go_simp
          refine hK.out _ _ hS (fun _ => ?_)
          clear hK K
          refine wpAnyH_ready (rs := [32]) (by kernel_rfl) (by simp) ?_
          refine AllReadyH.cons (o := _) rfl (fun K hK => ?_) AllReadyH.nil
          go_simp
          refine (KRA.out _).mono ?_
          rintro e wq ⟨rfl, hb⟩
          have hS := hS.below hb
          clear hb
          go_simp
          refine hK.out _ _ hS (fun _ => ?_)
          clear hK K
          refine wpAnyH_takeD (i := 33) (d := some 72) (v := (.bool true)) rfl rfl (by kernel_rfl) (by kernel_rfl) (by kernel_rfl) (fun _ _ _ h => h) (Or.inl ⟨by rfl, ?_⟩) (by assumption) ?_
          · intro X hX; obtain ⟨c0, c1, c2, c3, c4, hl0, hb0⟩ := hX; go_simp
          simp only [Act.put, List.setIfInBounds_toArray, List.set_cons_zero, List.set_cons_succ]
          refine wpAnyH_takeD (i := 34) (d := some 73) (v := (.bool true)) rfl rfl (by kernel_rfl) (by kernel_rfl) (by kernel_rfl) (fun _ _ _ h => h) (Or.inl ⟨by rfl, ?_⟩) (by assumption) ?_
          · intro X hX; obtain ⟨c0, c1, c2, c3, c4, hl0, hb0⟩ := hX; go_simp
          simp only [Act.put, List.setIfInBounds_toArray, List.set_cons_zero, List.set_cons_succ]
          refine wpAnyH_takeD (i := 35) (d := some 2) (v := (.bool true)) rfl rfl (by kernel_rfl) (by kernel_rfl) (by kernel_rfl) (fun _ _ _ h => h) (Or.inl ⟨by rfl, ?_⟩) (by assumption) ?_
          · intro X hX; obtain ⟨c0, c1, c2, c3, c4, hl0, hb0⟩ := hX; go_simp
          simp only [Act.put, List.setIfInBounds_toArray, List.set_cons_zero, List.set_cons_succ]
          refine wpAnyH_done (by kernel_rfl) ?_ _
          go_wp2
          go_ret
          exact ⟨rfl, hS.bl⟩
end Go.Proofs.YtgggnjgcbmpibaaDoor
