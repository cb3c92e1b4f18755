/- Small helpers that all texts of this seat use: words, numbers of 128 bits, endings, and 'nothing that was there has changed'. Lists of intervals: how a slice of intervals is read, and when a list is correct. Contracts of the small functions of the packages word and kenningref02: neighbours, differences, widths, sums and comparisons, for all words. 'Of what was there, only some blocks have changed'. No program in sight. Contracts of the reference of layer 3: an interval is correct, has a number, is related to another one. Plain laws on differences of intervals. No program in sight. Lists of strings that are read. -/
import Derived.Test.YtppeogalaikopaaDoorRows
import Derived.WalkKit
import Derived.WalkSpells
import Derived.WalkLawsBesides
namespace Go.Proofs.YtppeogalaikopaaDoor
open Go.RowKit

theorem hide {p : Prop} (h : p) : Hid p := h
/-- A word of 64 bits. -/
def Word (x : Int) : Prop := 0 ≤ x ∧ x < 18446744073709551616
/-- A number of 128 bits: its high and its low part, and the number of two parts. -/
def hi64 (n : Int) : Int := n / 18446744073709551616 % 18446744073709551616
def lo64 (n : Int) : Int := n % 18446744073709551616
def val (h l : Int) : Int := h * 18446744073709551616 + l
def Long (n : Int) : Prop := 0 ≤ n ∧ n < 340282366920938463463374607431768211456
theorem word_hi (n : Int) : Word (hi64 n) := by unfold Word hi64; omega
theorem word_lo (n : Int) : Word (lo64 n) := by unfold Word lo64; omega
theorem val_long {h l : Int} (a : Word h) (b : Word l) : Long (val h l) := by unfold Word at a b; unfold Long val; omega
theorem hi_val {h l : Int} (a : Word h) (b : Word l) : hi64 (val h l) = h := by unfold Word at a b; unfold hi64 val; omega
theorem lo_val {h l : Int} (_a : Word h) (b : Word l) : lo64 (val h l) = l := by unfold Word at b; unfold lo64 val; omega
theorem val_hilo {n : Int} (h : Long n) : val (hi64 n) (lo64 n) = n := by unfold Long at h; unfold hi64 lo64 val; omega
theorem val_zero (l : Int) : val 0 l = l := by unfold val; omega
theorem hi_word {x : Int} (h : Word x) : hi64 x = 0 := by unfold Word at h; unfold hi64; omega
theorem lo_word {x : Int} (h : Word x) : lo64 x = x := by unfold Word at h; unfold lo64; omega
theorem hilo_inj {m n : Int} (a : Long m) (b : Long n) (h : hi64 m = hi64 n) (l : lo64 m = lo64 n) : m = n := by
  rw [← val_hilo a, ← val_hilo b, h, l]

theorem ret_two {k k' : IntKind} {a a' b b' : Int} (ha : a = a') (hb : b = b') : Ending.returned (.tuple #[.int k a, .int k' b]) = .returned (.tuple #[.int k a', .int k' b']) := by rw [ha, hb]
theorem ret_ib {k : IntKind} {a a' : Int} {b b' : Bool} (ha : a = a') (hb : b = b') : Ending.returned (.tuple #[.int k a, .bool b]) = .returned (.tuple #[.int k a', .bool b']) := by rw [ha, hb]
theorem ret_agg {k k' : IntKind} {a a' b b' : Int} (ha : a = a') (hb : b = b') : Ending.returned (.agg #[.int k a, .int k' b]) = .returned (.agg #[.int k a', .int k' b']) := by rw [ha, hb]
theorem ret_int {k : IntKind} {a b : Int} (h : a = b) : Ending.returned (.int k a) = .returned (.int k b) := by rw [h]
theorem ret_bool {a b : Bool} (h : a = b) : Ending.returned (.bool a) = .returned (.bool b) := by rw [h]

/-! ### Nothing that was there has changed -/
theorem bl_alloc {a w : World} (h : Below a.heap.size a w) (o : Obj) : Below a.heap.size a (w.alloc o) := h.alloc h.size o
theorem bl_drew {a w : World} (h : Below a.heap.size a w) : Below a.heap.size a w.drew := h.drew
theorem bl_drewN {a w : World} (h : Below a.heap.size a w) (n : Nat) : Below a.heap.size a (w.drewN n) := below_drewN h n
theorem bl_trans {a w w1 : World} (h : Below a.heap.size a w) (k : Below w.heap.size w w1) : Below a.heap.size a w1 := h.trans (k.mono h.size)
theorem bl_set {a w : World} {p : Addr} (h : Below a.heap.size a w) (hp : a.heap.size ≤ p.block) (u : Value) : Below a.heap.size a (w.setCell p u) := h.setCell hp u
theorem bcell {W w1 : World} (hb : Below W.heap.size W w1) : (∀ b o, b < W.heap.size → w1.cell? ⟨b, o, none⟩ = W.cell? ⟨b, o, none⟩) ∧ (∀ b o, b < W.heap.size → w1.frozen? ⟨b, o, none⟩ = W.frozen? ⟨b, o, none⟩) :=
  ⟨fun b o h => hb.cell (p := ⟨b, o, none⟩) h, fun b o h => hb.frozen (p := ⟨b, o, none⟩) h⟩
theorem heap_new_at (w : World) (o : Obj) {g : Nat} (h : g = w.heap.size) : (w.alloc o).heap[g]? = some o := by subst h; exact Go.heap_alloc_new w o
theorem heap_old_at (w : World) (o : Obj) {g : Nat} {x : Obj} (h : g < w.heap.size) (hx : w.heap[g]? = some x) : (w.alloc o).heap[g]? = some x := (Below.heap_alloc w o g h).trans hx
theorem keep_cell {X Y : World} {b i : Nat} {v : Value} (hb : Below X.heap.size X Y) (hlt : b < X.heap.size) (hc : X.cell? ⟨b, i, none⟩ = some v) : Y.cell? ⟨b, i, none⟩ = some v := (hb.cell (p := ⟨b, i, none⟩) hlt).trans hc
theorem keep_lt {X Y : World} {n : Nat} (hb : Below X.heap.size X Y) (h : n < X.heap.size) : n < Y.heap.size := Nat.lt_of_lt_of_le h hb.size
theorem Blk_lt {w : World} {g : Nat} {o : Obj} (h : w.heap[g]? = some o) : g < w.heap.size := (Array.getElem?_eq_some_iff.1 h).1

/-! ### Slices of integers that are read -/
/-- The slice value (a, len) holds the integers zs. -/
structure Ints (k : IntKind) (w : World) (a : Option Addr) (len : Nat) (zs : List Int) : Prop where
  length : zs.length = len
  most : len ≤ 9223372036854775807
  wf : ∀ z ∈ zs, (Lit.int k z).wf = true
  cells : ∀ i, i < len → ∃ b off, a = some ⟨b, off, none⟩ ∧ b < w.heap.size ∧ w.cell? ⟨b, off + i, none⟩ = some (.int k (zs.getD i 0))
theorem Ints.below {k : IntKind} {w w1 : World} {a : Option Addr} {len : Nat} {zs : List Int} (h : Ints k w a len zs) (hb : Below w.heap.size w w1) : Ints k w1 a len zs :=
  ⟨h.length, h.most, h.wf, fun i hi => by
    obtain ⟨b, off, e, hlt, hc⟩ := h.cells i hi
    exact ⟨b, off, e, Nat.lt_of_lt_of_le hlt hb.size, (hb.cell (p := ⟨b, off + i, none⟩) hlt).trans hc⟩⟩
theorem Ints.getD_wf {k : IntKind} {w : World} {a : Option Addr} {len : Nat} {zs : List Int} (h : Ints k w a len zs) {i : Nat} (hi : i < len) : (Lit.int k (zs.getD i 0)).wf = true := by
  have hl := h.length
  have e : zs.getD i 0 = zs[i]'(by omega) := by simp [List.getD, List.getElem?_eq_getElem (show i < zs.length by omega)]
  rw [e]
  exact h.wf _ (List.getElem_mem _)
/-- A row of integers of the call's own, read as a slice. -/
theorem ints_of_own {k : IntKind} {w : World} {base : Nat} {e : TypeId} {v : Value} {n : Nat} {zs : List Int} (h : w.ownsRow base e 1 v n (zs.map (Value.int k))) (hm : n ≤ 9223372036854775807) (hw : ∀ z ∈ zs, (Lit.int k z).wf = true) :
    ∃ a cap, v = .slice a n cap ∧ n ≤ cap ∧ cap ≤ 9223372036854775807 ∧ Ints k w a n zs := by
  obtain ⟨hl, h⟩ := h
  simp at hl
  rcases h with ⟨rfl, rfl⟩ | ⟨g, cap, cur, rfl, hb, hg, hnc, hcm, hcs, hx⟩
  · exact ⟨none, 0, rfl, Nat.le_refl _, by omega, hl, hm, hw, fun i hi => absurd hi (by omega)⟩
  · refine ⟨_, cap, rfl, hnc, by unfold maxLen at hcm; omega, hl, hm, hw, fun i hi => ⟨g, 0, rfl, Blk_lt hg, ?_⟩⟩
    rw [cell_of_row _ _ _ _ _ _ hg, Nat.zero_add]
    have e1 : (cur.toList.take (n * 1))[i]? = cur[i]? := by simp [hi]
    rw [← e1, hx, List.getElem?_map]
    simp [List.getD, List.getElem?_eq_getElem (show i < zs.length by omega)]
theorem word_of_wf {x : Int} (h : (Lit.int .u64 x).wf = true) : Word x := by
  simp [Lit.wf, IntKind.min, IntKind.max, IntKind.signed, IntKind.bits] at h
  exact ⟨by omega, by omega⟩
end Go.Proofs.YtppeogalaikopaaDoor
namespace Go.Proofs.YtppeogalaikopaaDoor
open Go.RowKit

abbrev Iv := Int × Int
def Lo (zs : List Iv) (i : Nat) : Int := (zs.getD i (0, 0)).1
def Hi (zs : List Iv) (i : Nat) : Int := (zs.getD i (0, 0)).2
/-- The slice value (a, len) holds the intervals zs. -/
structure Prs (w : World) (a : Option Addr) (len : Nat) (zs : List Iv) : Prop where
  length : zs.length = len
  most : len ≤ 9223372036854775807
  words : ∀ z ∈ zs, Word z.1 ∧ Word z.2
  cells : ∀ i, i < len → ∃ b off, a = some ⟨b, off, none⟩ ∧ b < w.heap.size ∧ w.cell? ⟨b, off + i * 2, none⟩ = some (.int .u64 (Lo zs i)) ∧ w.cell? ⟨b, off + i * 2 + 1, none⟩ = some (.int .u64 (Hi zs i))
theorem Prs.below {w w1 : World} {a : Option Addr} {len : Nat} {zs : List Iv} (h : Prs w a len zs) (hb : Below w.heap.size w w1) : Prs w1 a len zs :=
  ⟨h.length, h.most, h.words, fun i hi => by
    obtain ⟨b, off, e, hlt, h1, h2⟩ := h.cells i hi
    exact ⟨b, off, e, Nat.lt_of_lt_of_le hlt hb.size, keep_cell hb hlt h1, keep_cell hb hlt h2⟩⟩
theorem Prs.word {w : World} {a : Option Addr} {len : Nat} {zs : List Iv} (h : Prs w a len zs) {i : Nat} (hi : i < len) : Word (Lo zs i) ∧ Word (Hi zs i) := by
  have hl := h.length
  have e : zs.getD i (0, 0) = zs[i]'(by omega) := by simp [List.getD, List.getElem?_eq_getElem (show i < zs.length by omega)]
  unfold Lo Hi
  rw [e]
  exact h.words _ (List.getElem_mem _)
/-- The first k intervals are correct, and numbers are between them. -/
def CorTo (zs : List Iv) (k : Nat) : Prop := ∀ i, i < k → Lo zs i ≤ Hi zs i ∧ (0 < i → Hi zs (i - 1) + 1 < Lo zs i)
def Cor (zs : List Iv) : Prop := CorTo zs zs.length
theorem CorTo.succ {zs : List Iv} {k : Nat} (h : CorTo zs k) (h1 : Lo zs k ≤ Hi zs k) (h2 : 0 < k → Hi zs (k - 1) + 1 < Lo zs k) : CorTo zs (k + 1) := by
  intro i hi
  by_cases e : i = k
  · subst e; exact ⟨h1, h2⟩
  · exact h i (by omega)
theorem getD_snoc (l : List Iv) (x : Iv) (i : Nat) : (l ++ [x]).getD i (0, 0) = if i < l.length then l.getD i (0, 0) else if i = l.length then x else (0, 0) := by
  simp only [List.getD, List.getElem?_append]
  split
  · rfl
  · split
    · next h => subst h; simp
    · next h1 h2 =>
      have : i - l.length ≠ 0 := by omega
      rw [List.getElem?_eq_none (by simp; omega)]
      rfl
end Go.Proofs.YtppeogalaikopaaDoor
namespace Go.Proofs.YtppeogalaikopaaDoor
open Go.RowKit

/-! ### Neighbours -/
def nextV (x : Int) : Int := lo64 (x + 1)
def nextB (x : Int) : Bool := decide (x + 1 < 18446744073709551616)
def prevV (x : Int) : Int := if x = 0 then 0 else x - 1
def prevB (x : Int) : Bool := decide (0 < x)
theorem word_next (x : Int) : Word (nextV x) := word_lo _
theorem word_prev {x : Int} (h : Word x) : Word (prevV x) := by unfold Word at *; unfold prevV; split <;> omega
/-! ### Differences -/
def btV (a b : Int) : Int := if a < b then b - a - 1 else 0
def btB (a b : Int) : Bool := decide (a < b)
theorem word_bt {a b : Int} (ha : Word a) (hb : Word b) : Word (btV a b) := by unfold Word at *; unfold btV; split <;> omega
theorem between_any (a b : Int) (ha : Word a) (hb : Word b) (w : World) :
    Calls Tryd.prog 31 #[.int .u64 a, .int .u64 b] w fun e w' => e = .returned (.tuple #[.int .u64 (btV a b), .bool (btB a b)]) ∧ w = w' := by
  obtain ⟨h0, h1⟩ := ha; obtain ⟨h2, h3⟩ := hb
  go_enter Tryd.func31, Tryd.ntmps31
  go_wp2
  · have hc : b ≤ a := by assumption
    go_ret2
    exact ⟨ret_ib (by unfold btV; rw [if_neg (by omega)]) (by unfold btB; simp; omega), rfl⟩
  · have hc : a < b := by assumption
    go_ret2
    exact ⟨ret_ib (by unfold btV; rw [if_pos hc]) (by unfold btB; simp; omega), rfl⟩
/-! ### Sums of counts, widths -/
theorem rmax_any (w : World) : Calls Tryd.prog 78 #[] w fun e w' => e = .returned (.int .u64 18446744073709551615) ∧ w = w' := by
  go_enter Tryd.func78, Tryd.ntmps78
  go_wp2
  go_ret
  exact ⟨rfl, rfl⟩
theorem plus_hi_c {ah al bh bl : Int} (h : (al + bl) % 18446744073709551616 < al) (h2 : Word al) (h4 : Word bl) :
    ((ah + bh) % 18446744073709551616 + 1) % 18446744073709551616 = hi64 (val ah al + val bh bl) := by unfold Word at h2 h4; unfold hi64 val; omega
theorem plus_hi_n {ah al bh bl : Int} (h : al ≤ (al + bl) % 18446744073709551616) (h2 : Word al) (h4 : Word bl) :
    (ah + bh) % 18446744073709551616 = hi64 (val ah al + val bh bl) := by unfold Word at h2 h4; unfold hi64 val; omega
theorem plus_lo {ah al bh bl : Int} : (al + bl) % 18446744073709551616 = lo64 (val ah al + val bh bl) := by unfold lo64 val; omega
theorem plus_any (ah al bh bl : Int) (h1 : Word ah) (h2 : Word al) (h3 : Word bh) (h4 : Word bl) (w : World) :
    Calls Tryd.prog 88 #[.agg #[.int .u64 ah, .int .u64 al], .agg #[.int .u64 bh, .int .u64 bl]] w fun e w' =>
      e = .returned (.agg #[.int .u64 (hi64 (val ah al + val bh bl)), .int .u64 (lo64 (val ah al + val bh bl))]) ∧ Below w.heap.size w w' := by
  have H2 := h2; have H4 := h4
  obtain ⟨a1, a2⟩ := h1; obtain ⟨b1, b2⟩ := h2; obtain ⟨c1, c2⟩ := h3; obtain ⟨d1, d2⟩ := h4
  go_enter Tryd.func88, Tryd.ntmps88
  go_wp2
  · have hc : IntKind.u64.wrap (al + bl) < al := by assumption
    refine bodyPost_ret (v := .agg #[.int .u64 (IntKind.u64.wrap (IntKind.u64.wrap (ah + bh) + 1)), .int .u64 (IntKind.u64.wrap (al + bl))]) (by simp [results, Tryd.results88, go_sem]) rfl ⟨?_, ?_⟩
    · simp only [IntKind.wrap_u64] at hc ⊢
      exact ret_agg (plus_hi_c hc H2 H4) plus_lo
    · repeat (first | exact Below.refl _ _ | refine bl_alloc ?_ _ | refine bl_drew ?_ | refine bl_set ?_ (by first | (simp; done) | (simp; omega)) _ | refine bl_trans ?_ (by assumption))
  · have hc : al ≤ IntKind.u64.wrap (al + bl) := by assumption
    refine bodyPost_ret (v := .agg #[.int .u64 (IntKind.u64.wrap (ah + bh)), .int .u64 (IntKind.u64.wrap (al + bl))]) (by simp [results, Tryd.results88, go_sem]) rfl ⟨?_, ?_⟩
    · simp only [IntKind.wrap_u64] at hc ⊢
      exact ret_agg (plus_hi_n hc H2 H4) plus_lo
    · repeat (first | exact Below.refl _ _ | refine bl_alloc ?_ _ | refine bl_drew ?_ | refine bl_set ?_ (by first | (simp; done) | (simp; omega)) _ | refine bl_trans ?_ (by assumption))
/-- How many numbers are in an interval. -/
def wd (lo hi : Int) : Int := if lo ≤ hi then hi - lo + 1 else 0
theorem wd_long {lo hi : Int} (a : Word lo) (b : Word hi) : Long (wd lo hi) := by unfold Word at a b; unfold Long wd; split <;> omega
theorem rplus_hi_c {ah al bh bl : Int} (h : 18446744073709551615 - bl < al) (h2 : Word al) (h4 : Word bl) :
    ((ah + bh) % 18446744073709551616 + 1) % 18446744073709551616 = hi64 (val ah al + val bh bl) := by unfold Word at h2 h4; unfold hi64 val; omega
theorem rplus_hi_n {ah al bh bl : Int} (h : al ≤ 18446744073709551615 - bl) (h2 : Word al) (h4 : Word bl) :
    (ah + bh) % 18446744073709551616 = hi64 (val ah al + val bh bl) := by unfold Word at h2 h4; unfold hi64 val; omega
theorem plus_lo0 {ah al bh bl : Int} (h : al ≤ 18446744073709551615 - bl) (h2 : Word al) (h4 : Word bl) : al + bl = lo64 (val ah al + val bh bl) := by unfold Word at h2 h4; unfold lo64 val; omega
/-- The order of two numbers. -/
def cmpI (m n : Int) : Int := if m = n then 0 else if m < n then -1 else 1
/-! ### The same, case by case -/
theorem between_lt (a b : Int) (ha : Word a) (hb : Word b) (h : a < b) (w : World) :
    Calls Tryd.prog 31 #[.int .u64 a, .int .u64 b] w fun e w' => e = .returned (.tuple #[.int .u64 (b - a - 1), .bool true]) ∧ w = w' :=
  (between_any a b ha hb w).mono fun _ _ ⟨he, hw⟩ => ⟨he.trans (ret_ib (by unfold btV; rw [if_pos h]) (by unfold btB; simp; omega)), hw⟩
theorem between_ge (a b : Int) (ha : Word a) (hb : Word b) (h : b ≤ a) (w : World) :
    Calls Tryd.prog 31 #[.int .u64 a, .int .u64 b] w fun e w' => e = .returned (.tuple #[.int .u64 0, .bool false]) ∧ w = w' :=
  (between_any a b ha hb w).mono fun _ _ ⟨he, hw⟩ => ⟨he.trans (ret_ib (by unfold btV; rw [if_neg (by omega)]) (by unfold btB; simp; omega)), hw⟩
end Go.Proofs.YtppeogalaikopaaDoor
namespace Go.Proofs.YtppeogalaikopaaDoor
open Go Go.RowKit

/-- Of what was there, only the blocks that may change have changed. -/
structure Only (may : Nat → Prop) (W W' : World) : Prop where
  os : W'.os = W.os
  tape : W'.tape = W.tape
  output : W'.output = W.output
  size : W.heap.size ≤ W'.heap.size
  block : ∀ k, k < W.heap.size → ¬ may k → W'.heap[k]? = W.heap[k]?
variable {may : Nat → Prop} {A B C : World}
theorem Only.refl (may : Nat → Prop) (W : World) : Only may W W := ⟨rfl, rfl, rfl, Nat.le_refl _, fun _ _ _ => rfl⟩
theorem Only.trans (h : Only may A B) (k : Only may B C) : Only may A C :=
  ⟨k.os.trans h.os, k.tape.trans h.tape, k.output.trans h.output, Nat.le_trans h.size k.size, fun i hi hl => (k.block i (Nat.lt_of_lt_of_le hi h.size) hl).trans (h.block i hi hl)⟩
theorem Only.wide {may' : Nat → Prop} (h : Only may A B) (hm : ∀ k, may k → may' k) : Only may' A B :=
  ⟨h.os, h.tape, h.output, h.size, fun i hi hl => h.block i hi (fun hk => hl (hm i hk))⟩
theorem Only.of_below (h : Below A.heap.size A B) : Only may A B := ⟨h.os, h.tape, h.output, h.size, fun i hi _ => h.block i hi⟩
theorem Only.below {n : Nat} (h : Only may A B) (hs : n ≤ A.heap.size) (hm : ∀ k, may k → n ≤ k) : Below n A B := ⟨h.os, h.tape, h.output, h.size, fun i hi => h.block i (by omega) (fun hk => by have := hm i hk; omega)⟩
theorem Only.alloc (h : Only may A B) (o : Obj) : Only may A (B.alloc o) :=
  ⟨h.os, h.tape, h.output, Nat.le_trans h.size (by simp), fun i hi hl => (Below.heap_alloc B o i (Nat.lt_of_lt_of_le hi h.size)).trans (h.block i hi hl)⟩
theorem Only.drew (h : Only may A B) : Only may A B.drew := ⟨h.os, h.tape, h.output, h.size, h.block⟩
theorem Only.drewN (h : Only may A B) (n : Nat) : Only may A (B.drewN n) := h.trans ⟨rfl, rfl, rfl, Nat.le_refl _, fun _ _ _ => rfl⟩
theorem Only.call (h : Only may A B) (k : Below B.heap.size B C) : Only may A C := h.trans (Only.of_below k)
theorem Only.setCell (h : Only may A B) {p : Addr} (hp : may p.block ∨ A.heap.size ≤ p.block) (v : Value) : Only may A (B.setCell p v) :=
  ⟨h.os, h.tape, h.output, by simpa [World.setCell] using h.size, fun i hi hl => (Below.heap_setCell B p v i (by rintro rfl; rcases hp with hp | hp <;> first | exact hl hp | omega)).trans (h.block i hi hl)⟩
theorem Only.obj (h : Only may A B) {b : Nat} {o : Obj} (hb : ¬ may b) (hc : A.heap[b]? = some o) : B.heap[b]? = some o :=
  (h.block b (Array.getElem?_eq_some_iff.1 hc).1 hb).trans hc
theorem Only.cell (h : Only may A B) {b i : Nat} {v : Value} (hb : ¬ may b) (hc : A.cell? ⟨b, i, none⟩ = some v) : B.cell? ⟨b, i, none⟩ = some v := by
  refine (World.cell?_of_block (w := A) ?_).trans hc
  refine h.block b ?_ hb
  rcases Nat.lt_or_ge b A.heap.size with hlt | hge
  · exact hlt
  · have e : A.heap[b]? = none := by simp; omega
    simp [World.cell?, e] at hc
end Go.Proofs.YtppeogalaikopaaDoor
namespace Go.Proofs.YtppeogalaikopaaDoor
open Go.RowKit

theorem rright_any (lo hi : Int) (h1 : Word lo) (h2 : Word hi) (w : World) :
    Calls Tryd.prog 95 #[.agg #[.int .u64 lo, .int .u64 hi]] w fun e w' => e = .returned (.bool (decide (lo ≤ hi))) ∧ Below w.heap.size w w' := by
  obtain ⟨a1, a2⟩ := h1; obtain ⟨b1, b2⟩ := h2
  go_enter Tryd.func95, Tryd.ntmps95
  go_wp2
  go_ret
  exact ⟨rfl, by repeat (first | exact Below.refl _ _ | refine bl_alloc ?_ _)⟩
theorem rright_yes (lo hi : Int) (h1 : Word lo) (h2 : Word hi) (h : lo ≤ hi) (w : World) :
    Calls Tryd.prog 95 #[.agg #[.int .u64 lo, .int .u64 hi]] w fun e w' => e = .returned (.bool true) ∧ Below w.heap.size w w' :=
  (rright_any lo hi h1 h2 w).mono fun _ _ ⟨he, hb⟩ => ⟨he.trans (ret_bool (by simp; omega)), hb⟩
theorem rright_no (lo hi : Int) (h1 : Word lo) (h2 : Word hi) (h : hi < lo) (w : World) :
    Calls Tryd.prog 95 #[.agg #[.int .u64 lo, .int .u64 hi]] w fun e w' => e = .returned (.bool false) ∧ Below w.heap.size w w' :=
  (rright_any lo hi h1 h2 w).mono fun _ _ ⟨he, hb⟩ => ⟨he.trans (ret_bool (by simp; omega)), hb⟩

/-- The relation of two intervals: 0 before, 1 touching, 2 meeting, 3 touched, 4 behind. -/
def relI (al ah bl bh : Int) : Int := if ah < bl then (if bl - ah = 1 then 1 else 0) else if bh < al then (if al - bh = 1 then 3 else 4) else 2
theorem rrelate_any (al ah bl bh : Int) (h1 : Word al) (h2 : Word ah) (h3 : Word bl) (h4 : Word bh) (w : World) :
    Calls Tryd.prog 96 #[.agg #[.int .u64 al, .int .u64 ah], .agg #[.int .u64 bl, .int .u64 bh]] w fun e w' => e = .returned (.int .i64 (relI al ah bl bh)) ∧ Below w.heap.size w w' := by
  obtain ⟨a1, a2⟩ := h1; obtain ⟨b1, b2⟩ := h2; obtain ⟨c1, c2⟩ := h3; obtain ⟨d1, d2⟩ := h4
  go_enter Tryd.func96, Tryd.ntmps96
  go_wp2
  all_goals go_ret
  all_goals (refine ⟨ret_int ?_, by repeat (first | exact Below.refl _ _ | refine bl_alloc ?_ _)⟩)
  all_goals ((try simp only [beq_iff_eq, beq_eq_false_iff_ne, ne_eq] at *); unfold relI; split <;> (try split) <;> (try split) <;> omega)
def hasI (lo hi x : Int) : Bool := decide (lo ≤ x ∧ x ≤ hi)
theorem rhas_any (lo hi x : Int) (h1 : Word lo) (h2 : Word hi) (h3 : Word x) (w : World) :
    Calls Tryd.prog 72 #[.agg #[.int .u64 lo, .int .u64 hi], .int .u64 x] w fun e w' => e = .returned (.bool (hasI lo hi x)) ∧ Below w.heap.size w w' := by
  obtain ⟨a1, a2⟩ := h1; obtain ⟨b1, b2⟩ := h2; obtain ⟨c1, c2⟩ := h3
  by_cases g1 : lo ≤ x
  · by_cases g2 : x ≤ hi
    · skip
      go_enter Tryd.func72, Tryd.ntmps72
      go_wp2
      go_ret
      exact ⟨ret_bool (by unfold hasI; rw [Bool.eq_iff_iff]; simp; omega), by repeat (first | exact Below.refl _ _ | refine bl_alloc ?_ _)⟩
    · skip
      have g2' : hi < x := by omega
      clear g2
      go_enter Tryd.func72, Tryd.ntmps72
      go_wp2
      go_ret
      exact ⟨ret_bool (by unfold hasI; rw [Bool.eq_iff_iff]; simp; omega), by repeat (first | exact Below.refl _ _ | refine bl_alloc ?_ _)⟩
  · skip
    have g1' : x < lo := by omega
    clear g1
    go_enter Tryd.func72, Tryd.ntmps72
    go_wp2
    go_ret
    exact ⟨ret_bool (by unfold hasI; rw [Bool.eq_iff_iff]; simp; omega), by repeat (first | exact Below.refl _ _ | refine bl_alloc ?_ _)⟩
end Go.Proofs.YtppeogalaikopaaDoor
namespace Go.Proofs.YtppeogalaikopaaDoor

/-- The first k intervals are correct and apart by ap. -/
def ApTo (zs : List Iv) (ap : Int) (k : Nat) : Prop := ∀ i, i < k → Lo zs i ≤ Hi zs i ∧ (0 < i → Hi zs (i - 1) < Lo zs i ∧ ap ≤ Lo zs i - Hi zs (i - 1) - 1)
theorem ApTo.zero (zs : List Iv) (ap : Int) : ApTo zs ap 0 := fun i h => absurd h (by omega)
theorem ApTo.succ {zs : List Iv} {ap : Int} {k : Nat} (h : ApTo zs ap k) (h1 : Lo zs k ≤ Hi zs k) (h2 : 0 < k → Hi zs (k - 1) < Lo zs k ∧ ap ≤ Lo zs k - Hi zs (k - 1) - 1) : ApTo zs ap (k + 1) := by
  intro i hi
  by_cases e : i = k
  · subst e; exact ⟨h1, h2⟩
  · exact h i (by omega)
/-- The differences of the first k intervals. -/
def gapD (zs : List Iv) (ap : Int) (i : Nat) : Int := if i = 0 then Lo zs 0 else Lo zs i - Hi zs (i - 1) - 1 - ap
def dif (zs : List Iv) (ap : Int) : Nat → List Int
  | 0 => []
  | k + 1 => dif zs ap k ++ [gapD zs ap k, Hi zs k - Lo zs k]
theorem dif_length (zs : List Iv) (ap : Int) : ∀ k, (dif zs ap k).length = 2 * k := by
  intro k
  induction k with
  | zero => rfl
  | succ k ih => unfold dif; rw [List.length_append, ih]; simp; omega
theorem dif_get (zs : List Iv) (ap : Int) : ∀ k i, i < k → (dif zs ap k).getD (2 * i) 0 = gapD zs ap i ∧ (dif zs ap k).getD (2 * i + 1) 0 = Hi zs i - Lo zs i := by
  intro k
  induction k with
  | zero => intro i h; omega
  | succ k ih =>
    intro i hi
    have hl := dif_length zs ap k
    unfold dif
    by_cases e : i = k
    · subst e
      simp only [List.getD]
      rw [List.getElem?_append_right (by omega), List.getElem?_append_right (by omega), hl]
      rw [show 2 * i - 2 * i = 0 by omega, show 2 * i + 1 - 2 * i = 1 by omega]
      exact ⟨rfl, rfl⟩
    · obtain ⟨a, b⟩ := ih i (by omega)
      simp only [List.getD] at a b ⊢
      rw [List.getElem?_append_left (by omega), List.getElem?_append_left (by omega)]
      exact ⟨a, b⟩

/-- The intervals of differences, as long as they are words. -/
def hiN (ds : List Int) (ap : Int) : Nat → Int
  | 0 => ds.getD 0 0 + ds.getD 1 0
  | j + 1 => hiN ds ap j + 1 + ap + ds.getD (2 * (j + 1)) 0 + ds.getD (2 * (j + 1) + 1) 0
def loN (ds : List Int) (ap : Int) : Nat → Int
  | 0 => ds.getD 0 0
  | j + 1 => hiN ds ap j + 1 + ap + ds.getD (2 * (j + 1)) 0
theorem hiN_eq (ds : List Int) (ap : Int) (j : Nat) : hiN ds ap j = loN ds ap j + ds.getD (2 * j + 1) 0 := by
  cases j <;> rfl
def ivs (ds : List Int) (ap : Int) (j : Nat) : List Iv := (List.range j).map fun i => (loN ds ap i, hiN ds ap i)
theorem ivs_zero (ds : List Int) (ap : Int) : ivs ds ap 0 = [] := rfl
theorem ivs_succ (ds : List Int) (ap : Int) (j : Nat) : ivs ds ap (j + 1) = ivs ds ap j ++ [(loN ds ap j, hiN ds ap j)] := by
  unfold ivs; rw [List.range_succ, List.map_append]; rfl
theorem ivs_length (ds : List Int) (ap : Int) (j : Nat) : (ivs ds ap j).length = j := by simp [ivs]
theorem ivs_lo {ds : List Int} {ap : Int} {j i : Nat} (h : i < j) : Lo (ivs ds ap j) i = loN ds ap i := by simp [Lo, ivs, List.getD, h]
theorem ivs_hi {ds : List Int} {ap : Int} {j i : Nat} (h : i < j) : Hi (ivs ds ap j) i = hiN ds ap i := by simp [Hi, ivs, List.getD, h]
/-- All sums of the first k differences are words. -/
def OkTo (ds : List Int) (ap : Int) (k : Nat) : Prop := (∀ j, 2 * j < k → loN ds ap j < 18446744073709551616) ∧ (∀ j, 2 * j + 1 < k → hiN ds ap j < 18446744073709551616)
theorem OkTo.zero (ds : List Int) (ap : Int) : OkTo ds ap 0 := ⟨fun _ h => absurd h (by omega), fun _ h => absurd h (by omega)⟩
theorem OkTo.lo {ds : List Int} {ap : Int} {j : Nat} (h : OkTo ds ap (2 * j)) (h1 : loN ds ap j < 18446744073709551616) : OkTo ds ap (2 * j + 1) :=
  ⟨fun i hi => by
    by_cases e : i = j
    · subst e; exact h1
    · exact h.1 i (by omega), fun i hi => h.2 i (by omega)⟩
theorem OkTo.hi {ds : List Int} {ap : Int} {j : Nat} (h : OkTo ds ap (2 * j + 1)) (h1 : hiN ds ap j < 18446744073709551616) : OkTo ds ap (2 * j + 2) :=
  ⟨fun i hi => h.1 i (by omega), fun i hi => by
    by_cases e : i = j
    · subst e; exact h1
    · exact h.2 i (by omega)⟩
def SumsOk (ds : List Int) (ap : Int) : Prop := ds.length % 2 = 0 ∧ OkTo ds ap ds.length

/-- The differences of intervals that are apart give the intervals back. -/
theorem lohi_dif {zs : List Iv} {ap : Int} {k : Nat} : ∀ j, j < k → loN (dif zs ap k) ap j = Lo zs j ∧ hiN (dif zs ap k) ap j = Hi zs j := by
  intro j
  induction j with
  | zero =>
    intro h
    obtain ⟨a, b⟩ := dif_get zs ap k 0 h
    rw [hiN_eq]
    have e : loN (dif zs ap k) ap 0 = Lo zs 0 := by
      show (dif zs ap k).getD 0 0 = _
      exact a
    refine ⟨e, ?_⟩
    rw [e, b]; omega
  | succ j ih =>
    intro h
    obtain ⟨_, i2⟩ := ih (by omega)
    obtain ⟨a, b⟩ := dif_get zs ap k (j + 1) h
    have e : loN (dif zs ap k) ap (j + 1) = Lo zs (j + 1) := by
      show hiN (dif zs ap k) ap j + 1 + ap + (dif zs ap k).getD (2 * (j + 1)) 0 = _
      rw [i2, a]
      unfold gapD
      rw [if_neg (by omega), Nat.add_sub_cancel]
      omega
    refine ⟨e, ?_⟩
    rw [hiN_eq, e, b]; omega
theorem iv_ext {xs ys : List Iv} (hl : xs.length = ys.length) (h : ∀ i, i < xs.length → Lo xs i = Lo ys i ∧ Hi xs i = Hi ys i) : xs = ys := by
  refine List.ext_getElem hl fun i h1 h2 => ?_
  obtain ⟨a, b⟩ := h i h1
  unfold Lo at a
  unfold Hi at b
  simp [List.getD, List.getElem?_eq_getElem h1, List.getElem?_eq_getElem h2] at a b
  exact Prod.ext a b
theorem ivs_dif {zs : List Iv} {ap : Int} : ivs (dif zs ap zs.length) ap zs.length = zs := by
  refine iv_ext (ivs_length _ _ _) fun i hi => ?_
  rw [ivs_length] at hi
  obtain ⟨a, b⟩ := lohi_dif (zs := zs) (ap := ap) i hi
  rw [ivs_lo hi, ivs_hi hi]
  exact ⟨a, b⟩
theorem sumsOk_dif {zs : List Iv} {ap : Int} (hw : ∀ i, i < zs.length → Lo zs i < 18446744073709551616 ∧ Hi zs i < 18446744073709551616) : SumsOk (dif zs ap zs.length) ap := by
  have hl := dif_length zs ap zs.length
  refine ⟨by omega, ⟨fun j hj => ?_, fun j hj => ?_⟩⟩
  · obtain ⟨a, _⟩ := lohi_dif (zs := zs) (ap := ap) (k := zs.length) j (by omega)
    rw [a]; exact (hw j (by omega)).1
  · obtain ⟨_, b⟩ := lohi_dif (zs := zs) (ap := ap) (k := zs.length) j (by omega)
    rw [b]; exact (hw j (by omega)).2

/-- The intervals of differences are apart, and have these differences. -/
theorem loN_le {ds : List Int} {ap : Int} (hd : ∀ i, 0 ≤ ds.getD i 0) (j : Nat) : loN ds ap j ≤ hiN ds ap j := by
  rw [hiN_eq]; have := hd (2 * j + 1); omega
theorem apart_ivs {ds : List Int} {ap : Int} (ha : 0 ≤ ap) (hd : ∀ i, 0 ≤ ds.getD i 0) (n : Nat) : ApTo (ivs ds ap n) ap n := by
  intro i hi
  rw [ivs_lo hi, ivs_hi hi]
  refine ⟨loN_le hd i, fun h0 => ?_⟩
  rw [ivs_hi (show i - 1 < n by omega)]
  obtain ⟨i, rfl⟩ : ∃ j, i = j + 1 := ⟨i - 1, by omega⟩
  rw [Nat.add_sub_cancel]
  have e : loN ds ap (i + 1) = hiN ds ap i + 1 + ap + ds.getD (2 * (i + 1)) 0 := rfl
  have := hd (2 * (i + 1))
  rw [e]
  omega
theorem gapD_ivs {ds : List Int} {ap : Int} {n i : Nat} (hi : i < n) : gapD (ivs ds ap n) ap i = ds.getD (2 * i) 0 ∧ Hi (ivs ds ap n) i - Lo (ivs ds ap n) i = ds.getD (2 * i + 1) 0 := by
  refine ⟨?_, by rw [ivs_lo hi, ivs_hi hi, hiN_eq]; omega⟩
  unfold gapD
  cases i with
  | zero => rw [if_pos rfl, ivs_lo hi]; rfl
  | succ i =>
    rw [if_neg (by omega), ivs_lo hi, Nat.add_sub_cancel, ivs_hi (by omega)]
    show hiN ds ap i + 1 + ap + ds.getD (2 * (i + 1)) 0 - hiN ds ap i - 1 - ap = _
    omega
theorem dif_ivs {ds : List Int} {ap : Int} {n : Nat} (hl : ds.length = 2 * n) : dif (ivs ds ap n) ap n = ds := by
  refine List.ext_getElem (by rw [dif_length, hl]) fun i h1 h2 => ?_
  rw [dif_length] at h1
  obtain ⟨a, b⟩ := dif_get (ivs ds ap n) ap n (i / 2) (by omega)
  obtain ⟨c, d⟩ := gapD_ivs (ds := ds) (ap := ap) (n := n) (i := i / 2) (by omega)
  rw [c] at a
  rw [d] at b
  have hd1 : i < (dif (ivs ds ap n) ap n).length := by rw [dif_length]; exact h1
  by_cases e : i % 2 = 0
  · rw [show 2 * (i / 2) = i by omega] at a
    simpa [List.getD, List.getElem?_eq_getElem h2, List.getElem?_eq_getElem hd1] using a
  · rw [show 2 * (i / 2) + 1 = i by omega] at b
    simpa [List.getD, List.getElem?_eq_getElem h2, List.getElem?_eq_getElem hd1] using b
theorem cor_of_apart {zs : List Iv} {k : Nat} : ApTo zs 1 k ↔ CorTo zs k := by
  constructor
  · intro h i hi
    obtain ⟨a, b⟩ := h i hi
    exact ⟨a, fun h0 => by have := b h0; omega⟩
  · intro h i hi
    obtain ⟨a, b⟩ := h i hi
    exact ⟨a, fun h0 => by have := b h0; omega⟩
end Go.Proofs.YtppeogalaikopaaDoor
namespace Go.Proofs.YtppeogalaikopaaDoor
open Go.RowKit

/-- The slice value (a, len) holds the strings ss. -/
structure Strs (w : World) (a : Option Addr) (len : Nat) (ss : List ByteArray) : Prop where
  length : ss.length = len
  most : len ≤ 9223372036854775807
  sizes : ∀ s ∈ ss, s.size ≤ 9223372036854775807
  cells : ∀ i, i < len → ∃ b off, a = some ⟨b, off, none⟩ ∧ b < w.heap.size ∧ w.cell? ⟨b, off + i, none⟩ = some (.string (ss.getD i ByteArray.empty))
theorem Strs.below {w w1 : World} {a : Option Addr} {len : Nat} {ss : List ByteArray} (h : Strs w a len ss) (hb : Below w.heap.size w w1) : Strs w1 a len ss :=
  ⟨h.length, h.most, h.sizes, fun i hi => by
    obtain ⟨b, off, e, hlt, h1⟩ := h.cells i hi
    exact ⟨b, off, e, Nat.lt_of_lt_of_le hlt hb.size, keep_cell hb hlt h1⟩⟩
theorem Strs.size {w : World} {a : Option Addr} {len : Nat} {ss : List ByteArray} (h : Strs w a len ss) {i : Nat} (hi : i < len) : (ss.getD i ByteArray.empty).size ≤ 9223372036854775807 := by
  have hl := h.length
  refine h.sizes _ ?_
  rw [List.getD_eq_getElem?_getD, List.getElem?_eq_getElem (by omega)]
  exact List.getElem_mem _
end Go.Proofs.YtppeogalaikopaaDoor
