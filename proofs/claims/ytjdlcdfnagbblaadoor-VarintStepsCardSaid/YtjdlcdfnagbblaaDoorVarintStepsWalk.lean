/- The law VarintSteps. -/
import Derived.Test.YtjdlcdfnagbblaaDoorVarintResetsWalk
import Derived.Test.YtjdlcdfnagbblaaDoorFrameIntShape
namespace Go.Proofs.YtjdlcdfnagbblaaDoor
open Go.RowKit

theorem Ints.front {k : IntKind} {w : World} {a : Option Addr} {len : Nat} {zs : List Int} (h : Ints k w a len zs) {m : Nat} (hm : m ≤ len) : Ints k w a m (zs.take m) := by
  have hl := h.length
  have hmost := h.most
  refine ⟨by simp; omega, by omega, fun z hz => h.wf z (List.mem_of_mem_take hz), fun i hi => ?_⟩
  obtain ⟨b, off, e, hlt, hc⟩ := h.cells i (by omega)
  refine ⟨b, off, e, hlt, ?_⟩
  rw [hc]
  have : (zs.take m).getD i 0 = zs.getD i 0 := by simp [List.getD, hi]
  rw [this]
theorem byte_front {zs : List Int} {m i : Nat} (h : i < m) : byteAt (zs.take m) i = byteAt zs i := by simp [byteAt, List.getD, h]
theorem acc_succ (zs : List Int) (a k : Nat) : acc zs a (k + 1) = putX (acc zs a k) k (byteAt zs (a + k)) := rfl
theorem acc_front {zs : List Int} {m : Nat} : ∀ k, k ≤ m → acc (zs.take m) 0 k = acc zs 0 k
  | 0, _ => rfl
  | k + 1, h => by
    unfold acc
    rw [acc_front k (by omega), byte_front (by omega)]
theorem opens_front {zs : List Int} {m k : Nat} (h : Opens zs 0 k) (hk : k ≤ m) : Opens (zs.take m) 0 k := fun i hi => by rw [byte_front (by omega)]; exact h i hi
theorem stops_front {zs : List Int} {m k : Nat} (h : Stops zs 0 k) (hk : k < m) (hm : m ≤ zs.length) : Stops (zs.take m) 0 k :=
  ⟨by simp; omega, opens_front h.opens (by omega), by rw [byte_front (by omega)]; exact h.stop⟩
/-- What a Reader holds behind i bytes. -/
def Ste (zs : List Int) (i : Nat) (x n st : Int) : Prop :=
  (Opens zs 0 i ∧ x = acc zs 0 i ∧ n = i ∧ st = 0) ∨ (∃ K, K < i ∧ Stops zs 0 K ∧ x = acc zs 0 (K + 1) ∧ n = K + 1 ∧ st = putS K (byteAt zs (0 + K)))
theorem Ste.next {zs : List Int} {i : Nat} {x n st : Int} (h : Ste zs i x n st) (hi : i < zs.length) :
    Ste zs (i + 1) (nxX x n st (byteAt zs i)) (nxN n st) (nxS n st (byteAt zs i)) := by
  rcases h with ⟨ho, rfl, rfl, rfl⟩ | ⟨K, hK, hs, rfl, rfl, rfl⟩
  · unfold nxX nxN nxS
    simp only [if_true]
    have e0 : byteAt zs (0 + i) = byteAt zs i := by rw [Nat.zero_add]
    by_cases hz : putS i (byteAt zs i) = 0
    · exact .inl ⟨ho.succ (by rw [e0]; exact hz), by rw [acc_succ, e0], by omega, hz⟩
    · exact .inr ⟨i, by omega, ⟨by omega, ho, by rw [e0]; exact hz⟩, by rw [acc_succ, e0], rfl, by rw [e0]⟩
  · unfold nxX nxN nxS
    simp only [if_neg hs.stop]
    exact .inr ⟨K, by omega, hs, rfl, rfl, rfl⟩
theorem Ste.scan {zs : List Int} {i : Nat} {x n st : Int} (h : Ste zs i x n st) {a : Option Addr} {len : Nat} (cap : Nat) (w : World) (hI : Ints .u8 w a len zs) (hi : i ≤ len) (hl : len ≤ 30) :
    Calls Tryd.prog 15 #[.slice a i cap, .int .i64 0, .int .i64 1048576] w fun e w' => e = .returned (.tuple #[.int .i64 st, .int .u64 (if st = 1 then x else 0), .int .i64 n]) ∧ w = w' := by
  have hz := hI.length
  rcases h with ⟨ho, rfl, rfl, rfl⟩ | ⟨K, hK, hs, rfl, rfl, rfl⟩
  · have := scan_open a i cap (zs.take i) 0 1048576 w (hI.front hi) (by omega) (by omega) (by omega) (opens_front (m := i) (by
      have e : (zs.take i).length - 0 = i := by simp; omega
      rw [e]; exact ho) (by rw [List.length_take]; omega)) (by omega)
    rw [if_neg (by omega)] at this
    exact this
  · have := scan_stop a i cap (zs.take i) 0 1048576 K w (hI.front hi) (by omega) (by omega) (by omega) (stops_front hs hK (by omega)) (by omega)
    unfold stopX at this
    rw [byte_front (by omega), acc_front _ (by omega)] at this
    simp only [Int.natCast_zero, Int.zero_add] at this
    exact this

set_option maxHeartbeats 1600000 in
theorem varintSteps_walk (a : Option Addr) (len cap : Nat) (zs : List Int) (w : World) (h : Ints .u8 w a len zs) (hsh : Shaped a len cap) (hg : Laid w) :
    Calls Tryd.prog 5 #[.slice a len cap] w fun e w' => e = .returned (.bool true) ∧ Below w.heap.size w w' := by
  have H := hide h
  have HG := hide hg
  have hm := h.most
  have hl := hide h.length
  have hcap := hsh.le
  have W1 := hide (fun i (hi : i < len) => (byte_of_wf' (h.getD_wf hi)).1)
  clear h hg
  by_cases g0 : 30 < (len : Int)
  · go_enter Tryd.func5, Tryd.ntmps5
    go_wp2_with fail
    refine (alive_any _ HG.out).mono ?_
    rintro e w1 ⟨rfl, b1⟩
    go_wp2
    go_ret
    exact ⟨rfl, b1⟩
  · go_enter Tryd.func5, Tryd.ntmps5
    go_wp2
    go_loopw [15] (fun c wr => ∃ (k : Nat) (x n st : Int), k ≤ len ∧ c = .int .i64 k ∧ Ste zs k x n st ∧ Rdr wr w.heap.size x n st ∧ Below w.heap.size w wr)
      (fun c _ => len - (intOf c).toNat)
    case atStart => exact ⟨0, 0, 0, 0, Nat.zero_le _, rfl, .inl ⟨fun i hi => absurd hi (by omega), rfl, rfl, rfl⟩, ⟨heap_new_at _ _ rfl, by omega, fun _ => by omega⟩, bl_alloc (Below.refl _ _) _⟩
    case round =>
      obtain ⟨k, x, n, st, hk, rfl, hs, hr, hb⟩ := hrel
      have HR := hide hr
      have HB := hide hb
      have i0 : (0 : Int) ≤ (k : Int) := by omega
      clear hr
      by_cases hlt : k < len
      · obtain ⟨b, off, ea, hbl, hcell⟩ := (H.out.below hb).cells k hlt
        have i1 : (k : Int) < (len : Int) := by omega
        have hc0 := W1.out k hlt
        have HN := hide (hs.next (by rw [hl.out]; exact hlt))
        have SC := hide (fun W (hW : Ints .u8 W a len zs) => HN.out.scan cap W hW (by omega) (by omega))
        obtain ⟨y, ey⟩ : ∃ y, byteAt zs k = y := ⟨_, rfl⟩
        unfold byteAt at ey HN SC
        rw [ey] at hcell hc0 HN SC
        have PUT := hide (fun W (hW : Rdr W w.heap.size x n st) => hW.put hc0)
        obtain ⟨x1, ex1⟩ : ∃ x1, nxX x n st y = x1 := ⟨_, rfl⟩
        obtain ⟨n1, en1⟩ : ∃ n1, nxN n st = n1 := ⟨_, rfl⟩
        obtain ⟨s1, es1⟩ : ∃ s1, nxS n st y = s1 := ⟨_, rfl⟩
        rw [ex1, en1, es1] at PUT HN SC
        have VAL := hide (fun W q (hW : Rdr W q x1 n1 s1) => value_any q x1 n1 s1 W hW.row)
        obtain ⟨v1, ev1⟩ : ∃ v1, (if s1 = 1 then x1 else 0) = v1 := ⟨_, rfl⟩
        rw [ev1] at VAL SC
        have LEN := hide (fun W q (hW : Rdr W q x1 n1 s1) => len_any q x1 n1 s1 W hW.row)
        have d1 : (s1 != s1) = false := by simp
        have d2 : (v1 != v1) = false := by simp
        have d3 : (n1 != n1) = false := by simp
        have EA := hide ea
        subst ea
        have k1 : (k : Int) + 1 ≤ (cap : Int) := by omega
        have k2 : ((k : Int) + 1).toNat = k + 1 := by omega
        clear ey hc0 hb ex1 en1 es1 ev1 hs
        go_wp2_with fail
        refine (SC.out _ (H.out.below HB.out)).mono ?_
        rintro e w1 ⟨rfl, rfl⟩
        go_wp2_with fail
        refine (PUT.out _ HR.out).mono ?_
        rintro e w2 ⟨rfl, hr2, o2⟩
        have R2 := hide hr2
        have B2 := hide (HB.out.trans (o2.below HB.out.size (fun q hq => by subst hq; exact Nat.le_refl _)))
        clear hr2 o2
        go_wp2_with fail
        refine (VAL.out _ _ R2.out).mono ?_
        rintro e w3 ⟨rfl, rfl⟩
        go_wp2_with fail
        refine (LEN.out _ _ R2.out).mono ?_
        rintro e w3 ⟨rfl, rfl⟩
        go_wp2
        go_roundw
        case rel => exact ⟨k + 1, _, _, _, by omega, by go_num, HN.out, R2.out, B2.out⟩
        case measure => simp [intOf]; omega
      · have i1 : ¬ (k : Int) < (len : Int) := by omega
        have G := hide (HG.out.below HB.out)
        clear hb
        go_wp2_with fail
        refine (alive_any _ G.out).mono ?_
        rintro e w2 ⟨rfl, b2⟩
        go_wp2
        go_ret
        exact ⟨rfl, bl_trans HB.out b2⟩
end Go.Proofs.YtjdlcdfnagbblaaDoor
