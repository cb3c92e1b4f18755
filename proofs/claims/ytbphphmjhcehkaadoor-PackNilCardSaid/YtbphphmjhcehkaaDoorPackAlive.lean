/- The example of the chapter holds. -/
import Derived.Test.YtbphphmjhcehkaaDoorPackApp
import Derived.Test.YtbphphmjhcehkaaDoorPackCanon
import Derived.Test.YtbphphmjhcehkaaDoorVarBytes
import Derived.Test.YtbphphmjhcehkaaDoorErrAsFE
import Derived.Test.YtbphphmjhcehkaaDoorErrAsF
namespace Go.Proofs.YtbphphmjhcehkaaDoor
open Go Go.RowKit

def mxI : Int := 9223372036854775807
def unl : Lim := ⟨mxI, mxI, mxI, mxI, mxI⟩
theorem unl_w : LimW unl := ⟨by decide, by decide⟩
theorem run_canon {lm : Lim} {pre post : List Int} {es : List Ent} (hn : 0 < es.length) (hw : ∀ e ∈ es, EntW e) (hc : CanV es) (hl : (es.length : Int) ≤ lm.en) (hh : ∀ e ∈ es, (e.hs.length : Int) ≤ lm.ho) (hm : es.length ≤ 1000000) (hm2 : ∀ e ∈ es, e.hs.length ≤ 1000000) :
    Run lm (pre ++ joinB (numsV es) ++ post) St0 pre.length (.ok (es, pre.length + (joinB (numsV es)).length)) := by
  obtain ⟨o, ho⟩ := run_some lm (pre ++ joinB (numsV es) ++ post) _ St0 pre.length (Nat.le_refl _)
  have h := run_walk (numsV es) pre post St0 (numsTo_words hc hw hm2 hm _ (Nat.le_refl _)) ho
  rw [canon_walk hn hw hc hl hh (by simp only [List.length_append]; omega)] at h
  rw [h] at ho
  exact ho

set_option maxHeartbeats 800000 in
theorem psize_any (a : Option Addr) (len cap : Nat) (l : List EV) (es : List Ent) (w : World) (hE : EntsAt w a len l) (hes : l.map (·.1) = es)
    (hC : CanV es) (hn : ∀ e ∈ es, e.hs.length ≤ 1000) (hmost : 10 * (numsV es).length ≤ 900000) :
    Calls Tryd.prog 15 #[.slice a len cap] w fun e w' => e = .returned (.int .i64 (joinB (numsV es)).length) ∧ Below w.heap.size w w' := by
  have K := hide (pappend_any w (.slice none 0 0) [] a len cap l es w (OwnB.nil _ _) (Below.refl _ _) hE hes hC hn (by simpa using hmost))
  have hm := joinB_most (numsV es)
  obtain ⟨L, eL⟩ : ∃ L, joinB (numsV es) = L := ⟨_, rfl⟩
  rw [eL] at K hm ⊢
  clear hE hes hC hn eL
  go_enter Tryd.func15, Tryd.ntmps15
  go_wp2_with fail
  refine K.out.mono ?_
  rintro e w1 ⟨v1, rfl, hO, hb⟩
  rw [List.nil_append] at hO
  obtain ⟨a1, c1, rfl, _, _⟩ := hO.ints (by omega)
  have B := hide hb
  clear hO hb
  go_wp2
  go_ret
  exact ⟨rfl, B.out⟩

/-! ### The example -/
def es0 : List Ent := [⟨7, 5, [(2, 3)]⟩]
theorem join0 : joinB (numsV es0) = [1, 7, 5, 1, 2, 1] := by decide +kernel
theorem can0 : CanV es0 := ⟨fun i hi => by
  obtain rfl : i = 0 := by simp [es0] at hi; exact hi
  exact ⟨fun j hj => by
    obtain rfl : j = 0 := by simp [es0] at hj; exact hj
    exact ⟨by decide, fun h => absurd h (by decide)⟩, fun j hj => by
    obtain rfl : j = 0 := by simp [es0] at hj; exact hj
    decide⟩, fun i h0 hi => by simp [es0] at hi; omega⟩
theorem entw0 : ∀ e ∈ es0, EntW e := by
  intro e he
  simp only [es0, List.mem_singleton] at he
  subst he
  exact ⟨by unfold Word; decide, by unfold Word; decide, fun z hz => by
    simp only [List.mem_singleton] at hz
    subst hz
    unfold Word
    decide⟩
theorem hs0 : ∀ e ∈ es0, e.hs.length = 1 := by
  intro e he
  simp only [es0, List.mem_singleton] at he
  subst he
  rfl
theorem run0 : Run unl [1, 7, 5, 1, 2, 1] St0 (0 : Nat) (.ok (es0, 6)) := by
  have h := run_canon (lm := unl) (pre := []) (post := []) (es := es0) (by decide) entw0 can0 (by decide) (fun e he => by rw [hs0 e he]; decide) (by decide) (fun e he => by rw [hs0 e he]; decide)
  rw [join0] at h
  exact h
theorem run1 : Run unl [0] St0 (0 : Nat) (.error (9, (0 : Nat))) :=
  Run.stop (x := 0) (n := 1) (by
    have h := rd_vb [] [] 0 (by unfold Word; decide)
    exact h) rfl
def l0 (b : Nat) : List EV := [(⟨7, 5, [(2, 3)]⟩, .slice (some ⟨b, 0, none⟩) 1 1)]
theorem l0_map (b : Nat) : (l0 b).map (·.1) = es0 := rfl
theorem ents_lit {W : World} {b b' : Nat} {t t' : TypeId} (h1 : W.heap[b]? = some (.cells #[.int .u64 2, .int .u64 3] t (0, 0))) (h2 : W.heap[b']? = some (.cells #[.int .u64 7, .int .u64 5, .slice (some ⟨b, 0, none⟩) 1 1] t' (0, 0))) : EntsAt W (some ⟨b', 0, none⟩) 1 (l0 b) :=
  ⟨rfl, by decide, fun p hp => by
    simp only [l0, List.mem_singleton] at hp
    subst hp
    exact entw0 _ (by simp [es0]), fun p hp => by
    simp only [l0, List.mem_singleton] at hp
    subst hp
    exact ⟨some ⟨b, 0, none⟩, 1, rfl, ⟨rfl, (show 1 ≤ 9223372036854775807 by decide), fun z hz => by
      simp only [List.mem_singleton] at hz
      subst hz
      exact ⟨by unfold Word; decide, by unfold Word; decide⟩, fun i hi => by
      obtain rfl : i = 0 := by simpa using hi
      exact ⟨b, 0, rfl, Blk_lt h1, by simp [World.cell?, h1, Lo], by simp [World.cell?, h1, Hi]⟩⟩, Nat.le_refl 1⟩, fun i hi => by
    obtain rfl : i = 0 := by omega
    exact ⟨b', 0, rfl, Blk_lt h2, by simp [World.cell?, h2, l0], by simp [World.cell?, h2, l0], by simp [World.cell?, h2, l0]⟩⟩
theorem byte_new {w : World} {b : Nat} {zs : List Int} (h : w.heap[b]? = some (.cells (zs.map (Value.int .u8)).toArray 5 (0, 0))) (hz : ∀ z ∈ zs, 0 ≤ z ∧ z ≤ 255) (hl : zs.length ≤ 1000) : Ints .u8 w (some ⟨b, 0, none⟩) zs.length zs :=
  ⟨rfl, by omega, fun z hm => wf_of_byte (hz z hm), fun i hi => ⟨b, 0, rfl, Blk_lt h, by simp [World.cell?, h, List.getElem?_eq_getElem hi]⟩⟩

set_option maxRecDepth 100000 in
set_option maxHeartbeats 1600000 in
theorem alive_any (w : World) (hg : Laid w) : Calls Tryd.prog 11 #[] w fun e w' => e = .returned (.bool true) ∧ Below w.heap.size w w' := by
  have HG := hide (fun W (hb : Below w.heap.size w W) => hg.below hb)
  have KR := hide (fun p len cap zs o W (hb : Below w.heap.size w W) h hc hl ha hr => pread_any p len cap zs 0 unl unl_w o W (hg.below hb) h hc hl ha hr)
  clear hg
  go_enter Tryd.func11, Tryd.ntmps11
  go_wp2_with fail
  have hb0 : Below w.heap.size w ((w.alloc (.cells #[.int .u64 2, .int .u64 3] 68)).alloc (.cells #[.int .u64 7, .int .u64 5, .slice (some ⟨w.heap.size, 0, none⟩) 1 1] 65)) := bl_alloc (bl_alloc (Below.refl _ _) _) _
  have EN := hide (ents_lit (b := w.heap.size) (b' := w.heap.size + 1) (W := (w.alloc (.cells #[.int .u64 2, .int .u64 3] 68)).alloc (.cells #[.int .u64 7, .int .u64 5, .slice (some ⟨w.heap.size, 0, none⟩) 1 1] 65)) (heap_old_at _ _ (by simp) (heap_new_at w _ rfl)) (heap_new_at _ _ (by simp)))
  obtain ⟨W, eW⟩ : ∃ W, (w.alloc (.cells #[.int .u64 2, .int .u64 3] 68)).alloc (.cells #[.int .u64 7, .int .u64 5, .slice (some ⟨w.heap.size, 0, none⟩) 1 1] 65) = W := ⟨_, rfl⟩
  rw [eW] at hb0 EN ⊢
  have B0 := hide hb0
  clear hb0 eW
  refine (pappend_any W (.slice none 0 0) [] _ 1 1 (l0 w.heap.size) es0 W (OwnB.nil _ _) (Below.refl _ _) EN.out (l0_map _) can0 (fun e he => by rw [hs0 e he]; decide) (by decide)).mono ?_
  rintro e w1 ⟨v1, rfl, hO, b1⟩
  rw [List.nil_append, join0] at hO
  obtain ⟨a1, c1, rfl, hI, hc1⟩ := hO.ints (by decide)
  have I1 := hide hI
  have B1 := hide (bl_trans B0.out b1)
  have E1 := hide (EN.out.below b1)
  clear hO hI b1 EN
  go_wp2_with fail
  refine (unlimited_any _).mono ?_
  rintro e w2 ⟨rfl, b2⟩
  have I2 := hide (I1.out.below b2)
  have B2 := hide (bl_trans B1.out b2)
  have E2 := hide (E1.out.below b2)
  clear b2 I1 E1
  go_wp2_with fail
  refine (KR.out a1 6 c1 [1, 7, 5, 1, 2, 1] (.ok (es0, 6)) _ B2.out I2.out hc1 (by decide) (by decide) run0).mono ?_
  rintro e w3 ⟨b3, v3, l3, rfl, hl3, hF3⟩
  obtain ⟨a3, c3, rfl, hE3, _⟩ := hF3.ents
  have F3 := hide hE3
  have L3 := hide hl3
  have I3 := hide (I2.out.below b3)
  have B3 := hide (bl_trans B2.out b3)
  have E3 := hide (E2.out.below b3)
  clear b3 I2 E2 hF3 hE3 hl3
  go_wp2_with fail
  refine (unlimited_any _).mono ?_
  rintro e w4 ⟨rfl, b4⟩
  have hb4 := bl_trans (bl_alloc (Below.refl w3.heap.size w3) (.cells #[.int .u8 0] 5)) b4
  have Z4 := hide (byte_new (zs := [0]) (w := w4) (b := w3.heap.size) ((b4.block _ (by simp)).trans (heap_new_at w3 _ rfl)) (by decide) (by decide))
  have F4 := hide (F3.out.below hb4)
  have I4 := hide (I3.out.below hb4)
  have B4 := hide (bl_trans B3.out hb4)
  have E4 := hide (E3.out.below hb4)
  clear b4 hb4 I3 E3 F3
  go_wp2_with fail
  refine (KR.out (some ⟨w3.heap.size, 0, none⟩) 1 1 [0] (.error (9, (0 : Nat))) _ B4.out Z4.out (by decide) (by decide) (by decide) run1).mono ?_
  rintro e w5 ⟨b5, rfl⟩
  have F5 := hide (F4.out.below b5)
  have I5 := hide (I4.out.below b5)
  have B5 := hide (bl_trans B4.out b5)
  have E5 := hide (E4.out.below b5)
  clear b5 I4 E4 F4 Z4
  go_wp2_with fail
  have hb6 := bl_alloc (Below.refl w5.heap.size w5) (.cells #[.int .u8 1, .int .u8 7, .int .u8 5, .int .u8 1, .int .u8 2, .int .u8 1] 5)
  refine (equal_any _ _ _ _ _ _ [1, 7, 5, 1, 2, 1] [1, 7, 5, 1, 2, 1] _ (I5.out.below hb6) (byte_new (zs := [1, 7, 5, 1, 2, 1]) (heap_new_at _ _ rfl) (by decide) (by decide))).mono ?_
  rintro e w6 ⟨rfl, b6⟩
  rw [show eqI [1, 7, 5, 1, 2, 1] [1, 7, 5, 1, 2, 1] = true from by decide]
  have F6 := hide (F5.out.below (bl_trans hb6 b6))
  have B6 := hide (bl_trans B5.out (bl_trans hb6 b6))
  have E6 := hide (E5.out.below (bl_trans hb6 b6))
  clear b6 hb6 I5 E5 F5
  go_wp2_with fail
  refine (psize_any _ 1 1 (l0 w.heap.size) es0 _ E6.out (l0_map _) can0 (fun e he => by rw [hs0 e he]; decide) (by decide)).mono ?_
  rintro e w7 ⟨rfl, b7⟩
  rw [show ((joinB (numsV es0)).length : Int) = 6 by rw [join0]; rfl]
  have F7 := hide (F6.out.below b7)
  have B7 := hide (bl_trans B6.out b7)
  have E7 := hide (E6.out.below b7)
  clear b7 E6 F6
  go_wp2_with fail
  refine (vsame_any _ _ _ _ _ _ l3 (l0 w.heap.size) _ F7.out E7.out).mono ?_
  rintro e w8 ⟨rfl, b8⟩
  rw [show sameV l3 (l0 w.heap.size) = true from decide_eq_true (L3.out.trans (l0_map _).symm)]
  have B8 := hide (bl_trans B7.out b8)
  clear b8 E7 F7
  go_wp2_with fail
  refine (code_F 9 0 _ (HG.out _ B8.out)).mono ?_
  rintro e w9 ⟨rfl, b9⟩
  have B9 := hide (bl_trans B8.out b9)
  clear b9
  go_wp2_with fail
  refine (at_F 9 0 _ (HG.out _ B9.out)).mono ?_
  rintro e w10 ⟨rfl, b10⟩
  have B10 := hide (bl_trans B9.out b10)
  clear b10
  go_wp2
  go_ret
  exact ⟨rfl, B10.out⟩
end Go.Proofs.YtbphphmjhcehkaaDoor
