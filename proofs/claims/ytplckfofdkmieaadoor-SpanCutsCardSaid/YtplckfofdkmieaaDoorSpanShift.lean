/- Contracts of span.Shift and of the reference's. -/
import Derived.Test.YtplckfofdkmieaaDoorSpan
import Derived.Test.YtplckfofdkmieaaDoorSumSmall
namespace Go.Proofs.YtplckfofdkmieaaDoor
open Go.RowKit

set_option maxHeartbeats 400000 in
theorem shift_yes (l g s : Int) (hl : Word l) (hg : Word g) (hs : Word s) (h : l + g + 1 + s < 18446744073709551616) (w : World) :
    Calls Tryd.prog 22 #[.int .u64 l, .int .u64 g, .int .u64 s] w fun e w' => e = .returned (.tuple #[.agg #[.int .u64 (l + g + 1), .int .u64 (l + g + 1 + s)], .nilIface]) ∧ Below w.heap.size w w' := by
  have HS := hide (fun (W : World) (b : Nat) (hW : W.heap[b]? = some (.cells #[.int .u64 l, .int .u64 g, .int .u64 1, .int .u64 s] 22 (0, 0))) => sum_yes (some ⟨b, 0, none⟩) 4 4 [l, g, 1, s] (l + g + 1 + s) W (ints4 hl hg one_word hs hW) (by simp; omega) h)
  obtain ⟨t, et⟩ : ∃ t, t = l + g + 1 + s := ⟨_, rfl⟩
  have e2 : IntKind.u64.wrap (t - s) = l + g + 1 := by rw [IntKind.wrap_u64]; unfold Word at *; omega
  rw [← et] at HS ⊢
  clear hl hg hs h et
  go_enter Tryd.func22, Tryd.ntmps22
  go_wp2_with fail
  refine (HS.out _ _ (heap_new_at _ _ (by simp))).mono ?_
  rintro e w1 ⟨rfl, b1⟩
  have B1 := bl_trans (bl_alloc (bl_alloc (Below.refl _ w) _) _) b1
  have H2 := (b1.block w.heap.size (by simp; omega)).trans (heap_old_at _ _ (by simp) (heap_new_at _ _ rfl))
  obtain ⟨e0, e1, f2, l2⟩ := cells_two H2
  clear H2 b1
  go_wp2
  exact bodyPost_ret (v := .tuple #[.agg #[.int .u64 (l + g + 1), .int .u64 t], .nilIface]) (by simp [results, Tryd.results22, go_sem, e0, e1]) rfl ⟨rfl, by repeat (first | exact B1 | refine bl_set ?_ (by simp) _)⟩
set_option maxHeartbeats 400000 in
theorem shift_no (l g s : Int) (hl : Word l) (hg : Word g) (hs : Word s) (h : ¬ l + g + 1 + s < 18446744073709551616) (w : World) :
    Calls Tryd.prog 22 #[.int .u64 l, .int .u64 g, .int .u64 s] w fun e w' => e = .returned (.tuple #[.agg #[.int .u64 0, .int .u64 0], .iface 36 (.int .i64 8)]) ∧ Below w.heap.size w w' := by
  have HS := hide (fun (W : World) (b : Nat) (hW : W.heap[b]? = some (.cells #[.int .u64 l, .int .u64 g, .int .u64 1, .int .u64 s] 22 (0, 0))) => sum_no (some ⟨b, 0, none⟩) 4 4 [l, g, 1, s] W (ints4 hl hg one_word hs hW) (by simp; omega))
  clear hl hg hs h
  go_enter Tryd.func22, Tryd.ntmps22
  go_wp2_with fail
  refine (HS.out _ _ (heap_new_at _ _ (by simp))).mono ?_
  rintro e w1 ⟨rfl, b1⟩
  have B1 := bl_trans (bl_alloc (bl_alloc (Below.refl _ w) _) _) b1
  have H2 := (b1.block w.heap.size (by simp; omega)).trans (heap_old_at _ _ (by simp) (heap_new_at _ _ rfl))
  obtain ⟨e0, e1, f2, l2⟩ := cells_two H2
  clear H2 b1
  go_wp2
  exact bodyPost_ret (v := .tuple #[.agg #[.int .u64 0, .int .u64 0], .iface 36 (.int .i64 8)]) (by simp [results, Tryd.results22, go_sem, e0, e1]) rfl ⟨rfl, by repeat (first | exact B1 | refine bl_set ?_ (by simp) _)⟩
set_option maxHeartbeats 800000 in
theorem rshift_any (l g s : Int) (hl : Word l) (hg : Word g) (hs : Word s) (w : World) :
    Calls Tryd.prog 23 #[.int .u64 l, .int .u64 g, .int .u64 s] w fun e w' => e = .returned (.tuple #[.agg #[.int .u64 (if l + g + 1 + s < 18446744073709551616 then l + g + 1 else 0), .int .u64 (if l + g + 1 + s < 18446744073709551616 then l + g + 1 + s else 0)], .bool (decide (l + g + 1 + s < 18446744073709551616))]) ∧ Below w.heap.size w w' := by
  by_cases c1 : l + g + 1 < 18446744073709551616
  · have ht : Word (l + g + 1) := by unfold Word at *; omega
    have HS := hide (fun (W : World) (b : Nat) (hW : W.heap[b]? = some (.cells #[.int .u64 l, .int .u64 g, .int .u64 1] 22 (0, 0))) => rsum_yes (some ⟨b, 0, none⟩) 3 3 [l, g, 1] (l + g + 1) W (ints3 hl hg one_word hW) (by simp; omega) c1)
    obtain ⟨t, et⟩ : ∃ t, t = l + g + 1 := ⟨_, rfl⟩
    rw [← et] at HS ht ⊢
    by_cases c2 : t + s < 18446744073709551616
    · have HT := hide (fun (W : World) (b : Nat) (hW : W.heap[b]? = some (.cells #[.int .u64 t, .int .u64 s] 22 (0, 0))) => rsum_yes (some ⟨b, 0, none⟩) 2 2 [t, s] (t + s) W (ints2 ht hs hW) (by simp) c2)
      rw [if_pos c2, if_pos c2, decide_eq_true c2]
      obtain ⟨u, eu⟩ : ∃ u, u = t + s := ⟨_, rfl⟩
      rw [← eu] at HT ⊢
      clear hl hg hs ht et eu c1 c2
      go_enter Tryd.func23, Tryd.ntmps23
      go_wp2_with fail
      refine (HS.out _ _ (heap_new_at _ _ (by simp))).mono ?_
      rintro e w1 ⟨rfl, b1⟩
      have B1 := bl_trans (bl_alloc (bl_alloc (Below.refl _ w) _) _) b1
      have H2 := (b1.block w.heap.size (by simp; omega)).trans (heap_old_at _ _ (by simp) (heap_new_at _ _ rfl))
      have l2 := Blk_lt H2
      clear b1
      go_wp2_with fail
      refine (HT.out _ _ (heap_new_at _ _ rfl)).mono ?_
      rintro e w2 ⟨rfl, b2⟩
      have B2 := bl_trans (bl_alloc B1 _) b2
      have H3 := (b2.block w.heap.size (by simp; omega)).trans (heap_old_at _ _ l2 H2)
      obtain ⟨e0, e1, f2, l3⟩ := cells_two H3
      clear H2 H3 b2
      go_wp2
      exact bodyPost_ret (v := .tuple #[.agg #[.int .u64 t, .int .u64 u], .bool true]) (by simp [results, Tryd.results23, go_sem, e0, e1]) rfl ⟨rfl, by repeat (first | exact B2 | refine bl_set ?_ (by simp) _)⟩
    · have HT := hide (fun (W : World) (b : Nat) (hW : W.heap[b]? = some (.cells #[.int .u64 t, .int .u64 s] 22 (0, 0))) => rsum_no (some ⟨b, 0, none⟩) 2 2 [t, s] W (ints2 ht hs hW) (by simp; omega))
      rw [if_neg c2, if_neg c2, decide_eq_false c2]
      clear hl hg hs ht et c1 c2
      go_enter Tryd.func23, Tryd.ntmps23
      go_wp2_with fail
      refine (HS.out _ _ (heap_new_at _ _ (by simp))).mono ?_
      rintro e w1 ⟨rfl, b1⟩
      have B1 := bl_trans (bl_alloc (bl_alloc (Below.refl _ w) _) _) b1
      have H2 := (b1.block w.heap.size (by simp; omega)).trans (heap_old_at _ _ (by simp) (heap_new_at _ _ rfl))
      have l2 := Blk_lt H2
      clear b1
      go_wp2_with fail
      refine (HT.out _ _ (heap_new_at _ _ rfl)).mono ?_
      rintro e w2 ⟨rfl, b2⟩
      have B2 := bl_trans (bl_alloc B1 _) b2
      have H3 := (b2.block w.heap.size (by simp; omega)).trans (heap_old_at _ _ l2 H2)
      obtain ⟨e0, e1, f2, l3⟩ := cells_two H3
      clear H2 H3 b2
      go_wp2
      exact bodyPost_ret (v := .tuple #[.agg #[.int .u64 0, .int .u64 0], .bool false]) (by simp [results, Tryd.results23, go_sem, e0, e1]) rfl ⟨rfl, by repeat (first | exact B2 | refine bl_set ?_ (by simp) _)⟩
  · have HS := hide (fun (W : World) (b : Nat) (hW : W.heap[b]? = some (.cells #[.int .u64 l, .int .u64 g, .int .u64 1] 22 (0, 0))) => rsum_no (some ⟨b, 0, none⟩) 3 3 [l, g, 1] W (ints3 hl hg one_word hW) (by simp; omega))
    have HT := hide (fun (W : World) (b : Nat) (hW : W.heap[b]? = some (.cells #[.int .u64 0, .int .u64 s] 22 (0, 0))) => rsum_yes (some ⟨b, 0, none⟩) 2 2 [0, s] s W (ints2 zero_word hs hW) (by simp) hs.2)
    have c3 : ¬ l + g + 1 + s < 18446744073709551616 := by unfold Word at *; omega
    rw [if_neg c3, if_neg c3, decide_eq_false c3]
    clear hl hg hs c1 c3
    go_enter Tryd.func23, Tryd.ntmps23
    go_wp2_with fail
    refine (HS.out _ _ (heap_new_at _ _ (by simp))).mono ?_
    rintro e w1 ⟨rfl, b1⟩
    have B1 := bl_trans (bl_alloc (bl_alloc (Below.refl _ w) _) _) b1
    have H2 := (b1.block w.heap.size (by simp; omega)).trans (heap_old_at _ _ (by simp) (heap_new_at _ _ rfl))
    have l2 := Blk_lt H2
    clear b1
    go_wp2_with fail
    refine (HT.out _ _ (heap_new_at _ _ rfl)).mono ?_
    rintro e w2 ⟨rfl, b2⟩
    have B2 := bl_trans (bl_alloc B1 _) b2
    have H3 := (b2.block w.heap.size (by simp; omega)).trans (heap_old_at _ _ l2 H2)
    obtain ⟨e0, e1, f2, l3⟩ := cells_two H3
    clear H2 H3 b2
    go_wp2
    exact bodyPost_ret (v := .tuple #[.agg #[.int .u64 0, .int .u64 0], .bool false]) (by simp [results, Tryd.results23, go_sem, e0, e1]) rfl ⟨rfl, by repeat (first | exact B2 | refine bl_set ?_ (by simp) _)⟩
end Go.Proofs.YtplckfofdkmieaaDoor
