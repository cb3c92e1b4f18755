/- The reference's Read; the example of the chapter holds. -/
import Derived.Test.YtjdlcdfnagbblaaDoorVarScan
import Derived.Test.YtjdlcdfnagbblaaDoorVarBytes
namespace Go.Proofs.YtjdlcdfnagbblaaDoor
open Go.RowKit

theorem bytes_new {w : World} {b : Nat} {zs : List Int} (h : w.heap[b]? = some (.cells (zs.map (Value.int .u8)).toArray 5 (0, 0))) (hz : ∀ z ∈ zs, 0 ≤ z ∧ z ≤ 255) (hl : zs.length ≤ 1000) : Ints .u8 w (some ⟨b, 0, none⟩) zs.length zs :=
  ⟨rfl, by omega, fun z hm => wf_of_byte (hz z hm), fun i hi => ⟨b, 0, rfl, Blk_lt h, by simp [World.cell?, h, List.getElem?_eq_getElem hi]⟩⟩

theorem stops1 {zs : List Int} {a : Nat} (h : a + 1 < zs.length) (h0 : putS 0 (byteAt zs (a + 0)) = 0) (h1 : putS 1 (byteAt zs (a + 1)) ≠ 0) : Stops zs a 1 :=
  ⟨h, fun i hi => by
    obtain rfl : i = 0 := by omega
    exact h0, h1⟩
theorem read_a (b : Nat) (w : World) (h : w.heap[b]? = some (.cells #[.int .u8 128, .int .u8 0] 5 (0, 0))) :
    Calls Tryd.prog 14 #[.slice (some ⟨b, 0, none⟩) 2 2, .int .i64 0] w fun e w' => e = .returned (.tuple #[.int .u64 0, .int .i64 0, .iface 54 (.agg #[.int .i64 6, .int .i64 0])]) ∧ Below w.heap.size w w' :=
  read_stop (some ⟨b, 0, none⟩) 2 2 [128, 0] 0 1 w (bytes_new (zs := [128, 0]) h (by decide) (by decide)) (by decide) (by decide) (by decide) (stops1 (by decide) (by decide) (by decide))
theorem read_b (b : Nat) (w : World) (h : w.heap[b]? = some (.cells #[.int .u8 7, .int .u8 172, .int .u8 2] 5 (0, 0))) :
    Calls Tryd.prog 14 #[.slice (some ⟨b, 0, none⟩) 3 3, .int .i64 1] w fun e w' => e = .returned (.tuple #[.int .u64 300, .int .i64 3, .nilIface]) ∧ Below w.heap.size w w' := by
  have h1 := read_stop (some ⟨b, 0, none⟩) 3 3 [7, 172, 2] 1 1 w (bytes_new (zs := [7, 172, 2]) h (by decide) (by decide)) (by decide) (by decide) (by decide) (stops1 (by decide) (by decide) (by decide))
  have e : readV [7, 172, 2] 1 1 = .tuple #[.int .u64 300, .int .i64 3, .nilIface] := by
    have e1 : putS (1 : Nat) (byteAt [7, 172, 2] ((1 : Int).toNat + 1)) = 1 := by decide
    have e2 : acc [7, 172, 2] (1 : Int).toNat (1 + 1) = 300 := by decide +kernel
    unfold readV
    rw [if_pos e1, e2]
    rfl
  rw [e] at h1
  exact h1
theorem vb_300 : vb 10 300 = [172, 2] := by decide
theorem put_172 : putS 0 172 = 0 := by decide
theorem put_2 : putS (0 + 1) 2 = 1 := by decide
theorem putX_300 : putX (putX 0 0 172) (0 + 1) 2 = 300 := by decide +kernel

set_option maxHeartbeats 1600000 in
theorem alive_any (w : World) (hg : Laid w) : Calls Tryd.prog 9 #[] w fun e w' => e = .returned (.bool true) ∧ Below w.heap.size w w' := by
  have HG := hide (fun W (hb : Below w.heap.size w W) => hg.below hb)
  clear hg
  have PUT1 := hide (fun W p (hW : RdAt W p 0 0 0) => put_any p 0 0 172 W hW (by decide) (by decide) (by decide))
  rw [put_172] at PUT1
  have PUT2 := hide (fun W p (hW : RdAt W p (putX 0 0 172) (0 + 1) 0) => put_any p _ _ 2 W hW (by decide) (by decide) (by decide))
  rw [put_2, putX_300] at PUT2
  have SZ := hide (fun W => size_any 300 W (by unfold Word; decide))
  rw [vb_300] at SZ
  have VAL := hide (fun W p (hW : RdAt W p 300 2 1) => value_any p 300 2 1 W hW)
  rw [if_pos rfl] at VAL
  go_enter Tryd.func9, Tryd.ntmps9
  go_wp2_with fail
  refine (read_a _ _ (heap_new_at _ _ rfl)).mono ?_
  rintro e w1 ⟨rfl, b1⟩
  have B1 := hide (bl_trans (bl_alloc (Below.refl w.heap.size w) (.cells #[.int .u8 128, .int .u8 0] 5)) b1)
  clear b1
  go_wp2_with fail
  refine (read_b _ _ (heap_new_at _ _ rfl)).mono ?_
  rintro e w2 ⟨rfl, b2⟩
  have B2 := hide (bl_trans B1.out (bl_trans (bl_alloc (Below.refl w1.heap.size w1) (.cells #[.int .u8 7, .int .u8 172, .int .u8 2] 5)) b2))
  clear b2
  go_wp2_with fail
  refine (PUT1.out _ _ (heap_new_at _ _ rfl)).mono ?_
  rintro e w3 ⟨rfl, hr3, o3⟩
  have R3 := hide hr3
  have b3 := (bl_alloc (Below.refl w2.heap.size w2) (.cells #[.int .u64 0, .int .i64 0, .int .i64 0] 36))
  have B3 := hide (b3.trans (o3.below b3.size (fun q hq => by subst hq; exact Nat.le_refl _)))
  clear hr3 o3 b3
  go_wp2_with fail
  refine (PUT2.out _ _ R3.out).mono ?_
  rintro e w4 ⟨rfl, hr4, o4⟩
  have R4 := hide hr4
  have B4 := hide (B3.out.trans (o4.below B3.out.size (fun q hq => by subst hq; exact Nat.le_refl _)))
  clear hr4 o4
  go_wp2_with fail
  refine (append_any w4 _ [] 300 w4 (OwnB.nil _ _) (Below.refl _ _) (by unfold Word; decide) (by decide)).mono ?_
  rintro e w5 ⟨v5, rfl, hO, b5⟩
  rw [List.nil_append, vb_300] at hO
  obtain ⟨a5, c5, rfl, hI, hc5⟩ := hO.ints (by decide)
  have I5 := hide hI
  have B5 := hide b5
  clear hO hI b5
  go_wp2_with fail
  refine (equal_any _ _ _ _ _ _ [172, 2] [172, 2] _ (I5.out.below (bl_alloc (Below.refl _ _) _)) (bytes_new (zs := [172, 2]) (heap_new_at _ _ rfl) (by decide) (by decide))).mono ?_
  rintro e w6 ⟨rfl, b6⟩
  have hl5 := B5.out.size
  have B6 := hide (bl_trans B5.out (bl_trans (bl_alloc (Below.refl w5.heap.size w5) (.cells #[.int .u8 172, .int .u8 2] 5)) b6))
  rw [show eqI [172, 2] [172, 2] = true from by decide]
  clear b6
  go_wp2_with fail
  refine (SZ.out _).mono ?_
  rintro e w7 ⟨rfl, rfl⟩
  have B24 := hide (bl_trans B2.out B4.out)
  have B26 := hide (bl_trans B24.out B6.out)
  go_wp2_with fail
  refine (code_F 6 0 _ (HG.out _ B26.out)).mono ?_
  rintro e w8 ⟨rfl, b8⟩
  have B8 := hide (bl_trans B26.out b8)
  have R8 := hide (((bl_trans B6.out b8).block _ (Blk_lt R4.out)).trans R4.out)
  clear b8
  go_wp2_with fail
  refine (VAL.out _ _ R8.out).mono ?_
  rintro e w9 ⟨rfl, rfl⟩
  go_wp2
  go_ret
  exact ⟨rfl, B8.out⟩
end Go.Proofs.YtjdlcdfnagbblaaDoor
