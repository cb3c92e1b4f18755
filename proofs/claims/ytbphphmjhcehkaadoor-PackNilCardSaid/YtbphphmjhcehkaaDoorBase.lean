/- Small helpers that all texts of this seat use: words, numbers of 128 bits, endings, and 'nothing that was there has changed'. -/
import Derived.Test.YtbphphmjhcehkaaDoorRows
import Derived.WalkKit
import Derived.WalkSpells
import Derived.WalkLawsBesides
namespace Go.Proofs.YtbphphmjhcehkaaDoor
open Go.RowKit

theorem hide {p : Prop} (h : p) : Hid p := h
/-- A word of 64 bits. -/
def Word (x : Int) : Prop := 0 ≤ x ∧ x < 18446744073709551616
/-- A number of 128 bits: its high and its low part, and the number of two parts. -/
def hi64 (n : Int) : Int := n / 18446744073709551616 % 18446744073709551616
def lo64 (n : Int) : Int := n % 18446744073709551616
def val (h l : Int) : Int := h * 18446744073709551616 + l
def Long (n : Int) : Prop := 0 ≤ n ∧ n < 340282366920938463463374607431768211456
theorem word_hi (n : Int) : Word (hi64 n) := by unfold Word hi64; omega
theorem word_lo (n : Int) : Word (lo64 n) := by unfold Word lo64; omega
theorem val_long {h l : Int} (a : Word h) (b : Word l) : Long (val h l) := by unfold Word at a b; unfold Long val; omega
theorem hi_val {h l : Int} (a : Word h) (b : Word l) : hi64 (val h l) = h := by unfold Word at a b; unfold hi64 val; omega
theorem lo_val {h l : Int} (_a : Word h) (b : Word l) : lo64 (val h l) = l := by unfold Word at b; unfold lo64 val; omega
theorem val_hilo {n : Int} (h : Long n) : val (hi64 n) (lo64 n) = n := by unfold Long at h; unfold hi64 lo64 val; omega
theorem val_zero (l : Int) : val 0 l = l := by unfold val; omega
theorem hi_word {x : Int} (h : Word x) : hi64 x = 0 := by unfold Word at h; unfold hi64; omega
theorem lo_word {x : Int} (h : Word x) : lo64 x = x := by unfold Word at h; unfold lo64; omega
theorem hilo_inj {m n : Int} (a : Long m) (b : Long n) (h : hi64 m = hi64 n) (l : lo64 m = lo64 n) : m = n := by
  rw [← val_hilo a, ← val_hilo b, h, l]

theorem ret_two {k k' : IntKind} {a a' b b' : Int} (ha : a = a') (hb : b = b') : Ending.returned (.tuple #[.int k a, .int k' b]) = .returned (.tuple #[.int k a', .int k' b']) := by rw [ha, hb]
theorem ret_ib {k : IntKind} {a a' : Int} {b b' : Bool} (ha : a = a') (hb : b = b') : Ending.returned (.tuple #[.int k a, .bool b]) = .returned (.tuple #[.int k a', .bool b']) := by rw [ha, hb]
theorem ret_agg {k k' : IntKind} {a a' b b' : Int} (ha : a = a') (hb : b = b') : Ending.returned (.agg #[.int k a, .int k' b]) = .returned (.agg #[.int k a', .int k' b']) := by rw [ha, hb]
theorem ret_int {k : IntKind} {a b : Int} (h : a = b) : Ending.returned (.int k a) = .returned (.int k b) := by rw [h]
theorem ret_bool {a b : Bool} (h : a = b) : Ending.returned (.bool a) = .returned (.bool b) := by rw [h]

/-! ### Nothing that was there has changed -/
theorem bl_alloc {a w : World} (h : Below a.heap.size a w) (o : Obj) : Below a.heap.size a (w.alloc o) := h.alloc h.size o
theorem bl_drew {a w : World} (h : Below a.heap.size a w) : Below a.heap.size a w.drew := h.drew
theorem bl_drewN {a w : World} (h : Below a.heap.size a w) (n : Nat) : Below a.heap.size a (w.drewN n) := below_drewN h n
theorem bl_trans {a w w1 : World} (h : Below a.heap.size a w) (k : Below w.heap.size w w1) : Below a.heap.size a w1 := h.trans (k.mono h.size)
theorem bl_set {a w : World} {p : Addr} (h : Below a.heap.size a w) (hp : a.heap.size ≤ p.block) (u : Value) : Below a.heap.size a (w.setCell p u) := h.setCell hp u
theorem bcell {W w1 : World} (hb : Below W.heap.size W w1) : (∀ b o, b < W.heap.size → w1.cell? ⟨b, o, none⟩ = W.cell? ⟨b, o, none⟩) ∧ (∀ b o, b < W.heap.size → w1.frozen? ⟨b, o, none⟩ = W.frozen? ⟨b, o, none⟩) :=
  ⟨fun b o h => hb.cell (p := ⟨b, o, none⟩) h, fun b o h => hb.frozen (p := ⟨b, o, none⟩) h⟩
theorem heap_new_at (w : World) (o : Obj) {g : Nat} (h : g = w.heap.size) : (w.alloc o).heap[g]? = some o := by subst h; exact Go.heap_alloc_new w o
theorem heap_old_at (w : World) (o : Obj) {g : Nat} {x : Obj} (h : g < w.heap.size) (hx : w.heap[g]? = some x) : (w.alloc o).heap[g]? = some x := (Below.heap_alloc w o g h).trans hx
theorem keep_cell {X Y : World} {b i : Nat} {v : Value} (hb : Below X.heap.size X Y) (hlt : b < X.heap.size) (hc : X.cell? ⟨b, i, none⟩ = some v) : Y.cell? ⟨b, i, none⟩ = some v := (hb.cell (p := ⟨b, i, none⟩) hlt).trans hc
theorem keep_lt {X Y : World} {n : Nat} (hb : Below X.heap.size X Y) (h : n < X.heap.size) : n < Y.heap.size := Nat.lt_of_lt_of_le h hb.size
theorem Blk_lt {w : World} {g : Nat} {o : Obj} (h : w.heap[g]? = some o) : g < w.heap.size := (Array.getElem?_eq_some_iff.1 h).1

/-! ### Slices of integers that are read -/
/-- The slice value (a, len) holds the integers zs. -/
structure Ints (k : IntKind) (w : World) (a : Option Addr) (len : Nat) (zs : List Int) : Prop where
  length : zs.length = len
  most : len ≤ 9223372036854775807
  wf : ∀ z ∈ zs, (Lit.int k z).wf = true
  cells : ∀ i, i < len → ∃ b off, a = some ⟨b, off, none⟩ ∧ b < w.heap.size ∧ w.cell? ⟨b, off + i, none⟩ = some (.int k (zs.getD i 0))
theorem Ints.below {k : IntKind} {w w1 : World} {a : Option Addr} {len : Nat} {zs : List Int} (h : Ints k w a len zs) (hb : Below w.heap.size w w1) : Ints k w1 a len zs :=
  ⟨h.length, h.most, h.wf, fun i hi => by
    obtain ⟨b, off, e, hlt, hc⟩ := h.cells i hi
    exact ⟨b, off, e, Nat.lt_of_lt_of_le hlt hb.size, (hb.cell (p := ⟨b, off + i, none⟩) hlt).trans hc⟩⟩
theorem Ints.getD_wf {k : IntKind} {w : World} {a : Option Addr} {len : Nat} {zs : List Int} (h : Ints k w a len zs) {i : Nat} (hi : i < len) : (Lit.int k (zs.getD i 0)).wf = true := by
  have hl := h.length
  have e : zs.getD i 0 = zs[i]'(by omega) := by simp [List.getD, List.getElem?_eq_getElem (show i < zs.length by omega)]
  rw [e]
  exact h.wf _ (List.getElem_mem _)
/-- A row of integers of the call's own, read as a slice. -/
theorem ints_of_own {k : IntKind} {w : World} {base : Nat} {e : TypeId} {v : Value} {n : Nat} {zs : List Int} (h : w.ownsRow base e 1 v n (zs.map (Value.int k))) (hm : n ≤ 9223372036854775807) (hw : ∀ z ∈ zs, (Lit.int k z).wf = true) :
    ∃ a cap, v = .slice a n cap ∧ n ≤ cap ∧ cap ≤ 9223372036854775807 ∧ Ints k w a n zs := by
  obtain ⟨hl, h⟩ := h
  simp at hl
  rcases h with ⟨rfl, rfl⟩ | ⟨g, cap, cur, rfl, hb, hg, hnc, hcm, hcs, hx⟩
  · exact ⟨none, 0, rfl, Nat.le_refl _, by omega, hl, hm, hw, fun i hi => absurd hi (by omega)⟩
  · refine ⟨_, cap, rfl, hnc, by unfold maxLen at hcm; omega, hl, hm, hw, fun i hi => ⟨g, 0, rfl, Blk_lt hg, ?_⟩⟩
    rw [cell_of_row _ _ _ _ _ _ hg, Nat.zero_add]
    have e1 : (cur.toList.take (n * 1))[i]? = cur[i]? := by simp [hi]
    rw [← e1, hx, List.getElem?_map]
    simp [List.getD, List.getElem?_eq_getElem (show i < zs.length by omega)]
theorem word_of_wf {x : Int} (h : (Lit.int .u64 x).wf = true) : Word x := by
  simp [Lit.wf, IntKind.min, IntKind.max, IntKind.signed, IntKind.bits] at h
  exact ⟨by omega, by omega⟩
end Go.Proofs.YtbphphmjhcehkaaDoor
