/- Contracts of the reference's Text and of fault.Shift. -/
import Derived.Test.YtgggnjgcbmpibaaDoorFaultReadsWalk
namespace Go.Proofs.YtgggnjgcbmpibaaDoor
open Go.RowKit

theorem bas_txt (has : Bool) (code at' : Int) : (bas has code at').txt = errS code := by cases has <;> rfl
theorem chn_txt (x y : Er) (ss : List ByteArray) (h : x.txt = y.txt) : ∀ k, (chn x ss k).txt = (chn y ss k).txt
  | 0 => h
  | k + 1 => by
    show _ ++ _ ++ (chn x ss k).txt = _ ++ _ ++ (chn y ss k).txt
    rw [chn_txt x y ss h k]

set_option maxHeartbeats 1600000 in
theorem rtext_any (nil has : Bool) (code at' : Int) (a : Option Addr) (len cap : Nat) (ss : List ByteArray) (w : World) (h : Strs w a len ss) (hF : FewL ss len) (hc : code ≤ 9223372036854775807) :
    Calls Tryd.prog 17 #[Dsc nil has code at' a len cap] w fun e w' => e = .returned (.string (chn (.e code) ss len).txt) ∧ Below w.heap.size w w' := by
  have hm := h.most
  have H := hide h
  have HF := hide hF
  have HS := hide (fun k hk => (chn_fine (.e code) ss len hF hc (errS_size code hc) k hk).2)
  have K := hide (fun W => errno_any code hc W)
  clear h hF hc
  unfold Dsc
  go_enter Tryd.func17, Tryd.ntmps17
  go_wp2_with fail
  have B0 := bl_alloc (Below.refl w.heap.size w) (.cells #[.bool nil, .int .i64 code, .bool has, .int .i64 at', .slice a len cap] 25)
  have c4 : (w.alloc (.cells #[.bool nil, .int .i64 code, .bool has, .int .i64 at', .slice a len cap] 25)).cell? ⟨w.heap.size, 4, none⟩ = some (.slice a len cap) := by simp
  obtain ⟨W, eW⟩ : ∃ W, w.alloc (.cells #[.bool nil, .int .i64 code, .bool has, .int .i64 at', .slice a len cap] 25) = W := ⟨_, rfl⟩
  rw [eW] at B0 c4 ⊢
  clear eW
  refine (K.out _).mono ?_
  rintro e w1 ⟨rfl, rfl⟩
  go_wp2_with fail
  go_loopw [3, 4] (fun s c wr => ∃ k : Nat, k ≤ len ∧ c = .int .i64 k ∧ s = .string (chn (.e code) ss k).txt ∧ wr = W)
    (fun _ c _ => len - (intOf c).toNat)
  case atStart => exact ⟨0, Nat.zero_le _, rfl, rfl, rfl⟩
  case round =>
    obtain ⟨k, hk, rfl, rfl, rfl⟩ := hrel
    by_cases hlt : k < len
    · obtain ⟨b, off, rfl, hbl, hc1⟩ := (H.out.below B0).cells k hlt
      have i0 : (0 : Int) ≤ (k : Int) := by omega
      have i1 : (k : Int) < (len : Int) := by omega
      have z1 := HF.out.1 k hlt
      have z2 := HS.out k hk
      have z3 := HF.out.2
      obtain ⟨s, es⟩ : ∃ s, s = ss.getD k ByteArray.empty := ⟨_, rfl⟩
      obtain ⟨T, eT⟩ : ∃ T, T = (chn (.e code) ss k).txt := ⟨_, rfl⟩
      rw [← es] at hc1 z1
      rw [← eT] at z2 ⊢
      have ES := hide es
      have ET := hide eT
      clear es eT
      have C1 : ¬ 9223372036854775807 < s.size + 2 := by omega
      have C2 : ¬ 9223372036854775807 < s.size + 2 + T.size := by omega
      have hn : (s ++ ⟨#[58, 32]⟩ : ByteArray).size = s.size + 2 := by rw [ByteArray.size_append]; rfl
      go_wp2
      go_roundw
      case rel => exact ⟨k + 1, by omega, by go_num, by rw [ES.out, ET.out]; rfl, trivial⟩
      case measure => simp [intOf]; omega
    · have : k = len := by omega
      subst this
      go_wp2
      go_ret
      exact ⟨rfl, B0⟩

theorem shift_nil (b : Int) (w : World) : Calls Tryd.prog 15 #[.nilIface, .int .i64 b] w fun e w' => e = .returned .nilIface ∧ Below w.heap.size w w' := by
  go_enter Tryd.func15, Tryd.ntmps15
  go_wp2_with fail
  refine (find_nil _).mono ?_
  rintro e w1 ⟨rfl, b1⟩
  go_wp2
  go_ret
  exact ⟨rfl, bl_alloc b1 _⟩
theorem shift_no (x : Er) (b : Int) (w : World) (hg : Laid w) (hx : x.fault = none) : Calls Tryd.prog 15 #[x.v, .int .i64 b] w fun e w' => e = .returned x.v ∧ Below w.heap.size w w' := by
  have K := hide (find_no x w hg hx)
  clear hg hx
  unfold Er.v at K ⊢
  go_enter Tryd.func15, Tryd.ntmps15
  go_wp2_with fail
  refine K.out.mono ?_
  rintro e w1 ⟨rfl, b1⟩
  go_wp2
  go_ret
  exact ⟨rfl, bl_alloc b1 _⟩
set_option maxHeartbeats 1600000 in
theorem shift_yes (x : Er) (c n b : Int) (w : World) (hg : Laid w) (hx : x.fault = some (c, n)) (hs : IntKind.i64.wrap (n + b) = n + b) : Calls Tryd.prog 15 #[x.v, .int .i64 b] w fun e w' => e = .returned (Er.f x.cd (n + b)).v ∧ Below w.heap.size w w' := by
  have K := hide (find_yes x c n w hg hx)
  have KC := hide (fun W (hb : Below w.heap.size w W) => code_any x W (hg.below hb))
  clear hg hx
  obtain ⟨d, ed⟩ : ∃ d, d = x.cd := ⟨_, rfl⟩
  rw [← ed] at KC ⊢
  clear ed
  obtain ⟨s, es⟩ : ∃ s, s = n + b := ⟨_, rfl⟩
  rw [← es] at hs ⊢
  have hs2 : IntKind.i64.wrap (n + b) = s := by rw [← es]; exact hs
  clear es hs
  unfold Er.v at K KC ⊢
  have hmx : Tryd.prog.follows .mixedOrders = true := by kernel_rfl
  go_enter Tryd.func15, Tryd.ntmps15
  go_wp2_with fail
  refine K.out.mono ?_
  rintro e w1 ⟨rfl, b1⟩
  have B1 := bl_alloc b1 (.cells #[.int .i64 c, .int .i64 n] 40)
  have c1 : (w1.alloc (.cells #[.int .i64 c, .int .i64 n] 40)).cell? ⟨w1.heap.size, 1, none⟩ = some (.int .i64 n) := by simp
  clear b1
  go_wp2_with fail
  obtain ⟨p, ep⟩ : ∃ p, p = w1.heap.size := ⟨_, rfl⟩
  obtain ⟨W, eW⟩ : ∃ W, w1.alloc (.cells #[.int .i64 c, .int .i64 n] 40) = W := ⟨_, rfl⟩
  rw [eW] at B1 c1 ⊢
  rw [← ep] at c1 ⊢
  clear eW ep
  go_region_held3 (fun w' => w'.cell? ⟨p, 1, none⟩ = some (.int .i64 n) ∧ Below w.heap.size w w')
    (first | (go_split_ands; exact ⟨keep_cs hb (by assumption), bl_trans (by assumption) hb⟩) | (refine ⟨?_, ?_⟩ <;> first | assumption | (exact bl_drew (by assumption)) | (simp [*]; done)))
    (first | (go_at_call 13; refine (KC.out _ ?_).mono ?_; (first | assumption | (exact bl_drew (by assumption)) | (go_split_ands; assumption)); rintro e w6 ⟨rfl, hb⟩))
  go_wp2
  go_ret
  exact ⟨rfl, by first | assumption | (go_split_ands; assumption)⟩
end Go.Proofs.YtgggnjgcbmpibaaDoor
