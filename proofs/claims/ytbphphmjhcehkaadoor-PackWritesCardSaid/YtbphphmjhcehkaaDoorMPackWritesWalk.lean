/- The law PackWrites. -/
import Derived.Test.YtbphphmjhcehkaaDoorMG20
import Derived.Test.YtbphphmjhcehkaaDoorMG28
import Derived.Test.YtbphphmjhcehkaaDoorMG30
import Derived.Test.YtbphphmjhcehkaaDoorMG24
namespace Go.Proofs.YtbphphmjhcehkaaDoor
open Go Go.RowKit
set_option linter.unusedSimpArgs false

theorem own_capN {w : World} {base m : Nat} {e : TypeId} {size : Nat} {n cap : Nat} {xs : List Value} (h : w.ownsRow base e size (.slice none m cap) n xs) : cap = 0 := by
  rcases h.2 with ⟨hv, _⟩ | ⟨g, cap', cur, hv, _⟩
  · cases hv; rfl
  · cases hv
set_option maxRecDepth 100000 in
set_option maxHeartbeats 6400000 in
theorem packWrites_walk (a : Option Addr) (len cap : Nat) (zs : List Int) (a' : Option Addr) (len' cap' : Nat) (l : List EV) (w : World) (h : Ints .u8 w a len zs) (hsh : Shaped a len cap) (hv : EntsAt w a' len' l) (hg : Laid w) :
    Calls Tryd.prog 3 #[.slice a len cap, .slice a' len' cap'] w fun e w' => e = .returned (.bool true) ∧ Below w.heap.size w w' := by
  have HG := hide (fun W (hb : Below w.heap.size w W) => hg.below hb)
  have KR := hide (fun p len cap zs at' o W (hb : Below w.heap.size w W) h hc hl ha hr => pread_any p len cap zs at' unl unl_w o W (hg.below hb) h hc hl ha hr)
  have H := hide h
  have hl := h.length
  have HN := hide hsh.none
  have E := hide hv
  have hl' := hv.length
  clear h hsh hg hv
  by_cases g : 100 < (len : Int)
  · go_enter Tryd.func3, Tryd.ntmps3
    go_wp2_with fail
    refine (alive_any _ (HG.out _ (Below.refl _ _))).mono ?_
    rintro e w1 ⟨rfl, b1⟩
    go_wp2
    go_ret
    exact ⟨rfl, b1⟩
  · go_enter Tryd.func3, Tryd.ntmps3
    go_wp2_with fail
    refine (few_any a' len' cap' l _ E.out).mono ?_
    rintro e w1 ⟨⟨b, rfl, hF⟩, hb1⟩
    have B1 := hide hb1
    clear hb1
    cases b with
    | false =>
      clear hF
      go_wp2_with fail
      refine (alive_any _ (HG.out _ B1.out)).mono ?_
      rintro e w2 ⟨rfl, b2⟩
      go_wp2
      go_ret
      exact ⟨rfl, bl_trans B1.out b2⟩
    | true =>
      have FEW := hide (hF rfl)
      clear hF
      go_wp2_with fail
      refine (r9canon_any a' len' cap' l _ (E.out.below B1.out)).mono ?_
      rintro e w2 ⟨⟨b, rfl, hF⟩, hb2⟩
      have B2 := hide (bl_trans B1.out hb2)
      clear hb2
      cases b with
      | false =>
        clear hF
        go_wp2_with fail
        refine (alive_any _ (HG.out _ B2.out)).mono ?_
        rintro e w3 ⟨rfl, b3⟩
        go_wp2
        go_ret
        exact ⟨rfl, bl_trans B2.out b3⟩
      | true =>
        have CAN := hide (hF rfl)
        clear hF
        by_cases h0 : len' = 0
        · have n0 : ((len' : Int) == 0) = true := by simp; omega
          clear h0
          go_wp2_with fail
          refine (alive_any _ (HG.out _ B2.out)).mono ?_
          rintro e w3 ⟨rfl, b3⟩
          go_wp2
          go_ret
          exact ⟨rfl, bl_trans B2.out b3⟩
        · have n0 : ((len' : Int) == 0) = false := by simp; omega
          obtain ⟨es, ees⟩ : ∃ es, l.map (·.1) = es := ⟨_, rfl⟩
          rw [ees] at FEW CAN
          have hles : es.length = len' := by rw [← ees, List.length_map, hl']
          have hnum := few_nums FEW.out
          have hhs := few_hs FEW.out
          have h20 := FEW.out.1
          have hwd : ∀ e ∈ es, EntW e := fun e he => by
            rw [← ees] at he
            obtain ⟨p, hp, rfl⟩ := List.mem_map.1 he
            exact E.out.words p hp
          have h1000 : ∀ e ∈ es, e.hs.length ≤ 1000 := fun e he => by have := hhs e he; omega
          have RUN := hide (run_canon (lm := unl) (pre := zs) (post := [9, 9]) (es := es) (by omega) hwd CAN.out (by show (es.length : Int) ≤ 9223372036854775807; omega) (fun e he => by have := hhs e he; show (e.hs.length : Int) ≤ 9223372036854775807; omega) (by omega) (fun e he => by have := hhs e he; omega))
          have RB := hide (fun W (hb : Below w.heap.size w W) => rbytesV_any a' len' cap' l es W (E.out.below hb) ees CAN.out h1000 (by omega))
          have AP := hide (fun W (hb : Below w.heap.size w W) v W' (hO : OwnB W' W.heap.size v zs) (hb' : Below W.heap.size W W') => pappend_any W v zs a' len' cap' l es W' hO hb' (E.out.below hb) ees CAN.out h1000 (by omega))
          have SZ := hide (fun W (hb : Below w.heap.size w W) => psize_any a' len' cap' l es W (E.out.below hb) ees CAN.out h1000 (by omega))
          have VS := hide (show l.map (·.1) = es from ees)
          have hL1 := joinB_most (numsV es)
          obtain ⟨J, eJ⟩ : ∃ J, joinB (numsV es) = J := ⟨_, rfl⟩
          rw [eJ] at RUN RB AP SZ hL1
          obtain ⟨m, em⟩ : ∃ m, J.length = m := ⟨_, rfl⟩
          rw [em] at RUN SZ hL1
          have EM := hide em
          have hm : m ≤ 20000 := by omega
          obtain ⟨LL, eLL⟩ : ∃ LL, zs ++ J = LL := ⟨_, rfl⟩
          rw [eLL] at RUN AP
          have hLL : LL.length = len + m := by rw [← eLL, List.length_append, hl, em]
          have ELL := hide eLL
          obtain ⟨n, en⟩ : ∃ n, n = len + m := ⟨_, rfl⟩
          rw [← en] at hLL
          rw [hl, show ((len : Int) + (m : Int)) = (n : Int) by omega] at RUN
          have HLL := hide hLL
          have q0 : IntKind.i64.wrap ((n : Int) - (len : Int)) = (m : Int) := by rw [IntWalk.i64_in _ (by omega)]; omega
          have NM : n ≤ 30000 := by omega
          have NL : len ≤ n := by omega
          have HL := hide hl
          clear h0 hles hnum hhs h20 hwd h1000 hL1 eJ em eLL hLL en ees hl hl'
          go_wp2_with (at_builtin; refine wpList_append_bytes rfl _ _ rfl w2.heap.size _ [] rfl ?o1 a len cap zs rfl ?o2 ?o3 ?o4 ?o5 ?_)
          case o1 => exact ⟨World.ownsRow_made w2 (base := w2.heap.size) (e := 5) (size := 1) #[] 0 (Nat.le_refl _) (by decide) rfl, by simp⟩
          case o2 => exact (H.out.below B2.out).below (bl_alloc (Below.refl _ _) _)
          case o3 => exact HN.out
          case o4 => first | omega | (simp; omega)
          case o5 => simp
          intro v3 w3 hO3 hg3
          have O3 := hide hO3
          have B23 := hide ((bl_alloc (Below.refl w2.heap.size w2) (.cells #[] 5)).grown hg3 (by simp) (fun g hg => by simp [Value.ownBlock] at hg; omega))
          clear hO3 hg3
          go_wp2_with fail
          refine (AP.out w2 B2.out _ _ O3.out B23.out).mono ?_
          rintro e w4 ⟨v4, rfl, hO4, b4⟩
          have B4 := hide (bl_trans B2.out b4)
          have hi4 := hO4.ints (by rw [HLL.out]; omega)
          rw [HLL.out] at hi4
          obtain ⟨a4, c4, rfl, hI4, hc4⟩ := hi4
          have O4 := hide hO4
          have I4 := hide hI4
          have S4 := hide b4.size
          clear hI4 hO4 b4
          go_wp2_with (at_builtin; refine wpList_append_bytes rfl _ _ rfl w4.heap.size _ [] rfl ?u1 a len cap zs rfl ?u2 ?u3 ?u4 ?u5 ?_)
          case u1 => exact ⟨World.ownsRow_made w4 (base := w4.heap.size) (e := 5) (size := 1) #[] 0 (Nat.le_refl _) (by decide) rfl, by simp⟩
          case u2 => exact (H.out.below B4.out).below (bl_alloc (Below.refl _ _) _)
          case u3 => exact HN.out
          case u4 => first | omega | (simp; omega)
          case u5 => simp
          intro v5 w5 hO5 hg5
          have B45 := hide ((bl_alloc (Below.refl w4.heap.size w4) (.cells #[] 5)).grown hg5 (by simp) (fun g hg => by simp [Value.ownBlock] at hg; omega))
          have O5 := hide hO5
          clear hO5 hg5
          go_wp2_with fail
          refine (RB.out _ (bl_trans B4.out B45.out)).mono ?_
          rintro e w6 ⟨v6, rfl, hO6, b6⟩
          have hi6 := hO6.ints (by rw [EM.out]; omega)
          rw [EM.out] at hi6
          obtain ⟨a6, c6, rfl, hI6, hc6⟩ := hi6
          have N6 := hide (show a6 = none → c6 = 0 from fun e => by subst e; exact own_capN hO6.row)
          have I6 := hide hI6
          have O6 := hide (O5.out.below b6)
          have B46 := hide (bl_trans B45.out b6)
          clear hI6 hO6 b6 hc6
          go_wp2_with (at_builtin; refine wpList_append_bytes rfl _ _ rfl w4.heap.size _ zs rfl ?y1 a6 m c6 J rfl ?y2 ?y3 ?y4 ?y5 ?_)
          case y1 => exact O6.out
          case y2 => exact I6.out
          case y3 => exact N6.out
          case y4 => rw [HL.out]; omega
          case y5 => exact B46.out.size
          intro v7 w7 hO7 hg7
          have B47 := hide (B46.out.grown hg7 B46.out.size (fun q hq => (O6.out.row.lt q hq).1))
          rw [ELL.out] at hO7
          have hi7 := hO7.ints (by rw [HLL.out]; omega)
          rw [HLL.out] at hi7
          obtain ⟨a7, c7, rfl, hI7, hc7⟩ := hi7
          have I7 := hide hI7
          clear hI7 hO7 hg7
          have EQ := hide (fun W (h1 : Ints .u8 W a4 n LL) (h2 : Ints .u8 W a7 n LL) => equal_any a4 a7 n c4 n c7 LL LL W h1 h2)
          rw [show eqI LL LL = true from decide_eq_true rfl] at EQ
          go_wp2_with fail
          refine (EQ.out _ (I4.out.below B47.out) I7.out).mono ?_
          rintro e w8 ⟨rfl, b8⟩
          have B48 := hide (bl_trans B47.out b8)
          clear b8
          go_wp2_with fail
          refine (SZ.out _ (bl_trans B4.out B48.out)).mono ?_
          rintro e w9 ⟨rfl, b9⟩
          have B49 := hide (bl_trans B48.out b9)
          have O9 := hide (O4.out.below B49.out)
          clear b9
          have I99 := hide (fun (W : World) (b : Nat) (hW : W.heap[b]? = some (.cells #[.int .u8 9, .int .u8 9] 5 (0, 0))) => byte_new (zs := [9, 9]) hW (by decide) (by decide))
          go_wp2_with (at_builtin; refine wpList_append_bytes rfl _ _ rfl w2.heap.size _ LL rfl ?x1 (some ⟨w9.heap.size, 0, none⟩) 2 2 [9, 9] rfl ?x2 ?x3 ?x4 ?x5 ?_)
          case x1 => exact O9.out.below (bl_alloc (Below.refl _ _) _)
          case x2 => exact I99.out _ _ (heap_new_at _ _ rfl)
          case x3 => exact fun h => by cases h
          case x4 => rw [HLL.out]; omega
          case x5 => have h1 := B49.out.size; have h2 := S4.out; first | omega | (simp; omega)
          intro v10 w10 hO10 hg10
          have HSZ := hide (show w2.heap.size ≤ w9.heap.size from Nat.le_trans S4.out B49.out.size)
          have B210 := hide (((Below.refl w2.heap.size w9).alloc HSZ.out (.cells #[.int .u8 9, .int .u8 9] 5)).grown hg10 (by have := HSZ.out; simp; omega) (fun q hq => (O9.out.row.lt q hq).1))
          have BW9 := hide (bl_trans B4.out B49.out)
          have B10 := hide (BW9.out.trans (B210.out.mono B2.out.size))
          have hi10 := hO10.ints (by rw [List.length_append, HLL.out]; simp; omega)
          have eL2 : (LL ++ ([9, 9] : List Int)).length = n + 2 := by rw [List.length_append, HLL.out]; rfl
          rw [eL2] at hi10
          clear eL2
          obtain ⟨a10, c10, rfl, hI10, hc10⟩ := hi10
          have I10 := hide hI10
          clear hI10 hO10 hg10
          go_wp2_with fail
          refine (unlimited_any _).mono ?_
          rintro e w11 ⟨rfl, b11⟩
          have B11 := hide (bl_trans B10.out b11)
          have I11 := hide (I10.out.below b11)
          clear b11
          go_wp2_with fail
          refine (KR.out a10 (n + 2) c10 (LL ++ [9, 9]) len (.ok (es, n)) _ B11.out I11.out hc10 (by omega) (by omega) RUN.out).mono ?_
          rintro e w12 ⟨b12, v12, l12, rfl, hl12, hF12⟩
          obtain ⟨a12, c12, rfl, hE12, _⟩ := hF12.ents
          have F12 := hide hE12
          have L12 := hide hl12
          have B12 := hide (bl_trans B11.out b12)
          clear b12 hF12 hE12 hl12
          go_wp2_with fail
          refine (alive_any _ (HG.out _ B12.out)).mono ?_
          rintro e w13 ⟨rfl, b13⟩
          have F13 := hide (F12.out.below b13)
          have B13 := hide (bl_trans B12.out b13)
          clear b13
          go_wp2_with fail
          refine (vsame_any _ _ _ _ _ _ l12 l _ F13.out (E.out.below B13.out)).mono ?_
          rintro e w14 ⟨rfl, b14⟩
          rw [show sameV l12 l = true from decide_eq_true (L12.out.trans VS.out.symm)]
          have B14 := hide (bl_trans B13.out b14)
          clear b14
          go_wp2
          go_ret
          exact ⟨rfl, B14.out⟩
end Go.Proofs.YtbphphmjhcehkaaDoor
