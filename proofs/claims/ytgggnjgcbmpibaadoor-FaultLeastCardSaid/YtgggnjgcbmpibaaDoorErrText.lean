/- The texts of errors. -/
import Derived.Test.YtgggnjgcbmpibaaDoorErrCodes
import Derived.Deep.RegionHeld3
import Derived.Shelf.Abstract
namespace Go.Proofs.YtgggnjgcbmpibaaDoor
open Go.RowKit

/-! ### The text of a code -/
def hdT : ByteArray := ⟨#[101, 114, 114, 111, 114, 32]⟩
def txtD : Nat → Int → ByteArray → ByteArray
  | 0, n, s => hdT ++ Utf8.encode (48 + n) ++ s
  | f + 1, n, s => if 9 < n then txtD f (n / 10) (Utf8.encode (48 + n % 10) ++ s) else hdT ++ Utf8.encode (48 + n) ++ s
theorem txtD_end (f : Nat) (n : Int) (s : ByteArray) (h : n ≤ 9) : txtD f n s = hdT ++ Utf8.encode (48 + n) ++ s := by
  cases f with
  | zero => rfl
  | succ f => show (if 9 < n then _ else _) = _; rw [if_neg (by omega)]
theorem txtD_step (f : Nat) (n : Int) (s : ByteArray) (h : 9 < n) : txtD (f + 1) n s = txtD f (n / 10) (Utf8.encode (48 + n % 10) ++ s) := by
  show (if 9 < n then _ else _) = _; rw [if_pos h]
/-- The text of a code. -/
def errS (c : Int) : ByteArray := if c < 0 then ⟨#[101, 114, 114, 111, 114]⟩ else txtD c.toNat c ⟨#[]⟩
theorem enc_one (d : Int) (h0 : 0 ≤ d) (h9 : d ≤ 9) : (Utf8.encode (48 + d)).size = 1 := by
  have : d = 0 ∨ d = 1 ∨ d = 2 ∨ d = 3 ∨ d = 4 ∨ d = 5 ∨ d = 6 ∨ d = 7 ∨ d = 8 ∨ d = 9 := by omega
  rcases this with rfl | rfl | rfl | rfl | rfl | rfl | rfl | rfl | rfl | rfl <;> rfl
theorem txtD_size : ∀ (f : Nat) (n : Int) (s : ByteArray), 0 ≤ n → n.toNat ≤ f → ((txtD f n s).size : Int) ≤ 7 + s.size + n / 8 := by
  intro f
  induction f with
  | zero =>
    intro n s h0 hf
    obtain rfl : n = 0 := by omega
    rw [txtD_end _ _ _ (by omega), ByteArray.size_append, ByteArray.size_append, enc_one 0 (by omega) (by omega)]
    show ((6 + 1 + s.size : Nat) : Int) ≤ _
    omega
  | succ f ih =>
    intro n s h0 hf
    by_cases h : 9 < n
    · rw [txtD_step _ _ _ h]
      have := ih (n / 10) (Utf8.encode (48 + n % 10) ++ s) (by omega) (by omega)
      rw [ByteArray.size_append, enc_one (n % 10) (by omega) (by omega)] at this
      omega
    · rw [txtD_end _ _ _ (by omega), ByteArray.size_append, ByteArray.size_append, enc_one n (by omega) (by omega)]
      show ((6 + 1 + s.size : Nat) : Int) ≤ _
      omega
theorem errS_size (c : Int) (h : c ≤ 9223372036854775807) : (errS c).size ≤ 1152921504606846983 := by
  unfold errS
  split
  · show 5 ≤ _; omega
  · next h0 =>
    have := txtD_size c.toNat c ⟨#[]⟩ (by omega) (Nat.le_refl _)
    have e : (⟨#[]⟩ : ByteArray).size = 0 := rfl
    rw [e] at this
    omega

set_option maxHeartbeats 1600000 in
theorem errno_any (c : Int) (h1 : c ≤ 9223372036854775807) (w : World) :
    Calls Tryd.prog 28 #[.int .i64 c] w fun e w' => e = .returned (.string (errS c)) ∧ w = w' := by
  by_cases hc : c < 0
  · have R := hide (show errS c = ⟨#[101, 114, 114, 111, 114]⟩ by unfold errS; rw [if_pos hc])
    go_enter Tryd.func28, Tryd.ntmps28
    go_wp2
    go_ret
    exact ⟨by rw [R.out]; rfl, rfl⟩
  · have h0 : 0 ≤ c := by omega
    have R := hide (show errS c = txtD c.toNat c ⟨#[]⟩ by unfold errS; rw [if_neg hc])
    obtain ⟨F, eF⟩ : ∃ F, F = txtD c.toNat c ⟨#[]⟩ := ⟨_, rfl⟩
    rw [← eF] at R
    have EF := hide eF
    clear hc eF
    go_enter Tryd.func28, Tryd.ntmps28
    go_wp2
    go_loopw [3, 4] (fun n s wr => ∃ (k : Int) (t : ByteArray) (f : Nat), 0 ≤ k ∧ (t.size : Int) * 8 + k ≤ c ∧ n = .int .i64 k ∧ s = .string t ∧ w = wr ∧ k.toNat ≤ f ∧ txtD f k t = F)
      (fun n _ _ => (intOf n).toNat)
    case atStart => exact ⟨c, _, c.toNat, h0, by show (0 : Int) * 8 + c ≤ c; omega, rfl, rfl, rfl, Nat.le_refl _, EF.out.symm⟩
    case round =>
      obtain ⟨k, t, f, g0, g1, rfl, rfl, rfl, g2, g3⟩ := hrel
      have G3 := hide g3
      clear g3
      by_cases hk : 9 < k
      · have m1 : k.tmod 10 = k % 10 := Int.tmod_eq_emod_of_nonneg g0
        have m2 : k.tdiv 10 = k / 10 := Int.tdiv_eq_ediv_of_nonneg g0
        have sz : (Utf8.encode (48 + k % 10)).size = 1 := enc_one _ (by omega) (by omega)
        have hf : f ≠ 0 := by intro e; omega
        obtain ⟨f', rfl⟩ := Nat.exists_eq_succ_of_ne_zero hf
        go_wp2
        go_roundw
        case rel =>
          refine ⟨k / 10, _, f', by omega, ?_, rfl, rfl, trivial, by omega, (txtD_step f' k t hk).symm.trans G3.out⟩
          rw [ByteArray.size_append, sz]
          omega
        case measure => simp [intOf]; omega
      · have sz : (Utf8.encode (48 + k)).size = 1 := enc_one _ (by omega) (by omega)
        have hd : (⟨#[101, 114, 114, 111, 114, 32]⟩ ++ Utf8.encode (48 + k) : ByteArray).size = 7 := by rw [ByteArray.size_append, sz]; rfl
        go_wp2
        go_ret
        exact ⟨by rw [R.out, ← G3.out, txtD_end _ _ _ (by omega)]; rfl, rfl⟩

theorem keep_cs {X Y : World} {b i : Nat} {v : Value} (hb : Below X.heap.size X Y) (hc : X.cell? ⟨b, i, none⟩ = some v) : Y.cell? ⟨b, i, none⟩ = some v :=
  (hb.cell (p := ⟨b, i, none⟩) (World.block_lt_of_cell? _ _ hc)).trans hc

/-! ### The texts of faults and of names in front -/
/-- The function that an error's method Error is. -/
def Er.err : Er → FuncId
  | .e _ => 28
  | .f _ _ => 54
  | .s _ => 56
  | .w _ _ => 57
/-- The text of an error. -/
def Er.txt : Er → ByteArray
  | .e c => errS c
  | .f c _ => errS c
  | .s _ => ⟨#[]⟩
  | .w n x => n ++ ⟨#[58, 32]⟩ ++ x.txt
/-- The error's text fits; it holds no text of errors.New. -/
def Er.fine : Er → Prop
  | .e c => c ≤ 9223372036854775807
  | .f c _ => c ≤ 9223372036854775807
  | .s _ => False
  | .w n x => n.size ≤ 1000 ∧ x.txt.size ≤ 2305843009213693951 ∧ x.fine
theorem methodErrorE (v : Value) (w : World) : (Go.method 224 31 v "Error").run Tryd.prog w = .ok (28, v) w := by kernel_rfl
theorem methodErrorF (a b : Value) (w : World) : (Go.method 224 40 (.agg #[a, b]) "Error").run Tryd.prog w = .ok (54, .agg #[a, b]) w := by kernel_rfl
theorem methodErrorN (a b : Value) (w : World) : (Go.method 224 61 (.agg #[a, b]) "Error").run Tryd.prog w = .ok (57, .agg #[a, b]) w := by kernel_rfl
theorem methodErrorS (v : Value) (w : World) : (Go.method 224 57 v "Error").run Tryd.prog w = .ok (56, v) w := by kernel_rfl
theorem methodError (x : Er) (w : World) : (Go.method 224 x.tid x.dat "Error").run Tryd.prog w = .ok (x.err, x.dat) w := by
  cases x with
  | e c => exact methodErrorE _ w
  | f c n => exact methodErrorF _ _ w
  | s p => exact methodErrorS _ w
  | w n x => exact methodErrorN _ _ w

theorem enters (x : Er) : ∀ args w, (callFunc x.err args).run Tryd.prog w = .ok (.enter x.err args) w := by
  cases x with
  | e c => exact enters_of Tryd.func28 (by kernel_rfl) rfl
  | f c n => exact enters_of Tryd.func54 (by kernel_rfl) rfl
  | s p => exact enters_of Tryd.func56 (by kernel_rfl) rfl
  | w n x => exact enters_of Tryd.func57 (by kernel_rfl) rfl

set_option maxHeartbeats 1600000 in
theorem text_any : ∀ (x : Er) (w : World), x.fine → Calls Tryd.prog x.err #[x.dat] w fun e w' => e = .returned (.string x.txt) ∧ Below w.heap.size w w' := by
  intro x
  induction x with
  | e c =>
    intro w h
    exact (errno_any c h w).mono fun _ _ ⟨he, hw⟩ => ⟨he, hw ▸ Below.refl _ _⟩
  | f c n =>
    intro w h
    have K := hide (fun W => errno_any c h W)
    clear h
    show Calls Tryd.prog 54 #[.agg #[.int .i64 c, .int .i64 n]] w fun e w' => e = .returned (.string (errS c)) ∧ Below w.heap.size w w'
    go_enter Tryd.func54, Tryd.ntmps54
    go_wp2_with fail
    refine (K.out _).mono ?_
    rintro e w1 ⟨rfl, rfl⟩
    go_wp2
    go_ret
    exact ⟨rfl, bl_alloc (Below.refl _ _) _⟩
  | s p => intro w h; exact h.elim
  | w n x ih =>
    intro w h
    obtain ⟨h1, h2, h3⟩ := h
    have K := hide (fun W => ih W h3)
    have M := methodError x
    have hd : (n ++ ⟨#[58, 32]⟩ : ByteArray).size ≤ 1002 := by rw [ByteArray.size_append]; show n.size + 2 ≤ 1002; omega
    have hn : (n ++ ⟨#[58, 32]⟩ : ByteArray).size = n.size + 2 := by rw [ByteArray.size_append]; rfl
    obtain ⟨T, eT⟩ : ∃ T, T = x.txt := ⟨_, rfl⟩
    have R := hide (show (Er.w n x).txt = n ++ ⟨#[58, 32]⟩ ++ T by rw [eT]; rfl)
    rw [← eT] at h2 K
    clear ih h3 eT
    show Calls Tryd.prog 57 #[.agg #[.string n, .iface x.tid x.dat]] w fun e w' => e = .returned (.string (Er.w n x).txt) ∧ Below w.heap.size w w'
    rw [R.out]
    clear R
    have HE := enters x
    have C1 : ¬ 9223372036854775807 < n.size + 2 := by omega
    have C2 : ¬ 9223372036854775807 < n.size + 2 + T.size := by omega
    have hmx : Tryd.prog.follows .mixedOrders = true := by kernel_rfl
    go_enter Tryd.func57, Tryd.ntmps57
    go_wp2_with fail
    have B0 := bl_alloc (Below.refl w.heap.size w) (.cells #[.string n, .iface x.tid x.dat] 61)
    have c0 : (w.alloc (.cells #[.string n, .iface x.tid x.dat] 61)).cell? ⟨w.heap.size, 0, none⟩ = some (.string n) := by simp
    have c1 : (w.alloc (.cells #[.string n, .iface x.tid x.dat] 61)).cell? ⟨w.heap.size, 1, none⟩ = some (.iface x.tid x.dat) := by simp
    obtain ⟨w0, e0⟩ : ∃ w0, w.alloc (.cells #[.string n, .iface x.tid x.dat] 61) = w0 := ⟨_, rfl⟩
    rw [e0] at B0 c0 c1 ⊢
    clear e0
    go_region_held3 (fun w' => w'.cell? ⟨w.heap.size, 0, none⟩ = some (.string n) ∧ w'.cell? ⟨w.heap.size, 1, none⟩ = some (.iface x.tid x.dat) ∧ Below w.heap.size w w')
      (first | (go_split_ands; exact ⟨keep_cs hb (by assumption), keep_cs hb (by assumption), bl_trans (by assumption) hb⟩) | (refine ⟨?_, ?_, ?_⟩ <;> first | assumption | (exact bl_drew (by assumption)) | (simp [*]; done)))
      (first | (refine (K.out _).mono ?_; rintro e w6 ⟨rfl, hb⟩))
    go_wp2
    go_ret
    exact ⟨rfl, by first | assumption | (go_split_ands; assumption)⟩
end Go.Proofs.YtgggnjgcbmpibaaDoor
