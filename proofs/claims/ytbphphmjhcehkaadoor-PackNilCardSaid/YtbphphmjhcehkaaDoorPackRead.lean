/- pack.Read. -/
import Derived.Test.YtbphphmjhcehkaaDoorPackAny
import Derived.Test.YtbphphmjhcehkaaDoorPackRun
import Derived.Test.YtbphphmjhcehkaaDoorErrAsE
namespace Go.Proofs.YtbphphmjhcehkaaDoor
open Go Go.RowKit

/-- What pack.Read returns. -/
def readR (base : Nat) (o : Except (Int × Int) (List Ent × Int)) (e : Ending) (w' : World) : Prop :=
  match o with
  | .error (c, a) => e = .returned (.tuple #[.slice none 0 0, .int .i64 0, .iface 85 (.agg #[.int .i64 c, .int .i64 a])])
  | .ok (es, n) => ∃ v l, e = .returned (.tuple #[v, .int .i64 n, .nilIface]) ∧ l.map (·.1) = es ∧ RowF w' base v l
theorem memF_fin {w : World} {base r : Nat} {lm : Lim} {fn er : Value} {s : St} (h : MemF w base r lm fn er s) (hf : s.ph.isFin = true) : ∃ v cp l, RdR w r lm fn er v s.ents s.hls cp ∧ l.map (·.1) = s.es ∧ RowF w base v l := by
  obtain ⟨_, v, cp, hR, hP⟩ := h
  obtain ⟨ph, es, cur, ents, hls⟩ := s
  obtain rfl : ph = .fin := fin_is hf
  obtain ⟨l, h1, h2⟩ := hP
  exact ⟨v, cp, l, hR, h1, h2⟩
theorem RowF.below {w w' : World} {base : Nat} {v : Value} {l : List EV} (h : RowF w base v l) (hb : Below w.heap.size w w') : RowF w' base v l :=
  h.only (may := fun _ => False) (Only.of_below hb) fun _ hk => hk.elim
theorem rput_eq (lm : Lim) (hlm : LimW lm) (base r : Nat) (s : St) (x rest a : Int) (o : Except Int St) (ho : stepS lm s x rest = o) (w : World) (h : MemF w base r lm (s.ph.fn r) .nilIface s) (hI : StI s a) (ha : a ≤ 1000000) (hx : Word x) (hr : -9223372036854775808 ≤ rest ∧ rest ≤ 9223372036854775807) :
    Calls Tryd.prog 25 #[.pointer (some ⟨r, 0, none⟩), .int .u64 x, .int .i64 rest] w fun e w' => PutPost lm base r o w e w' := by
  subst ho
  exact rput_any lm hlm base r s x rest a w h hI ha hx hr

set_option maxRecDepth 100000 in
set_option maxHeartbeats 3200000 in
theorem pread_any (p : Option Addr) (len cap : Nat) (zs : List Int) (at' : Nat) (lm : Lim) (hlm : LimW lm) (o : Except (Int × Int) (List Ent × Int)) (w : World) (hg : Laid w) (h : Ints .u8 w p len zs) (hcap : len ≤ cap) (hlen : len ≤ 1000000) (ha : at' ≤ len) (hr : Run lm zs St0 at' o) :
    Calls Tryd.prog 16 #[.slice p len cap, .int .i64 at', .agg #[.int .i64 lm.f, .int .i64 lm.ve, .int .i64 lm.en, .int .i64 lm.ho, .int .i64 lm.se]] w fun e w' => Below w.heap.size w w' ∧ readR w.heap.size o e w' := by
  have hl := h.length
  have LAID := hide hg
  have INTS := hide h
  have HR := hide hr
  have BEG := hide (fun W (hW : w.heap.size ≤ W.heap.size) => begin_any lm w.heap.size W hW)
  clear hg h hr
  go_enter Tryd.func16, Tryd.ntmps16
  go_wp2_with fail
  refine (BEG.out _ (by simp)).mono ?_
  rintro e w1 ⟨r, rfl, hr1, hm1, hb1⟩
  have MEM := hide hm1
  have B1 := hide (bl_trans (bl_alloc (Below.refl _ _) _) hb1)
  clear hm1 hb1 hr1
  go_wp2_with fail
  go_loopw [1] (fun c wr => ∃ (s : St) (a : Nat), c = .int .i64 a ∧ a ≤ len ∧ Run lm zs s a o ∧ StI s a ∧ MemF wr w.heap.size r lm (s.ph.fn r) .nilIface s ∧ Below w.heap.size w wr)
    (fun c _ => len - (intOf c).toNat)
  case atStart => exact ⟨St0, at', rfl, ha, HR.out, stI_0 _ (by omega), MEM.out, B1.out⟩
  case round =>
    obtain ⟨s, a, rfl, hal, hrun, hI, hM, hb⟩ := hrel
    clear MEM B1
    have HM := hide hM
    have HB := hide hb
    obtain ⟨q, hq⟩ := rd_some zs a
    have KR := hide (rd_any p len cap zs a q wr (INTS.out.below hb) hcap hlen (by omega) hq)
    cases q with
    | error c =>
      have ho := run_err hrun hq
      subst ho
      rw [show rdV (a : Int) (.error c) = .tuple #[.int .u64 0, .int .i64 0, .iface 85 (.agg #[.int .i64 c, .int .i64 a])] from rfl] at KR
      clear hrun hq hI hM hb HR
      go_wp2_with fail
      refine KR.out.mono ?_
      rintro e w2 ⟨rfl, hb2⟩
      have B2 := hide (bl_trans HB.out hb2)
      clear hb2
      go_wp2
      go_ret3
      exact ⟨B2.out, rfl⟩
    | ok q =>
      obtain ⟨x, n⟩ := q
      obtain ⟨_, hn1, hn2, hxw⟩ := rd_ok hq
      obtain ⟨n, rfl⟩ : ∃ m : Nat, n = m := ⟨n.toNat, by omega⟩
      rw [show rdV (a : Int) (.ok (x, (n : Int))) = .tuple #[.int .u64 x, .int .i64 n, .nilIface] from rfl] at KR
      have q0 : IntKind.i64.wrap ((len : Int) - n) = (len : Int) - n := by rw [IntKind.wrap_i64]; omega
      cases hs : stepS lm s x (zs.length - n) with
      | error c =>
        have ho := run_stop hrun hq hs
        subst ho
        have hc : c ≠ 0 := by rcases step_err hs with g | g | g | g <;> omega
        have KP := hide (fun W hM' => rput_eq lm hlm w.heap.size r s x (len - n) a (.error c) (by rw [← hl]; exact hs) W hM' hI (by omega) hxw (by omega))
        have FN := hide (fun W => fnew_any c a hc W)
        clear hrun hq hI hM hb HR hs hxw
        go_wp2_with fail
        refine KR.out.mono ?_
        rintro e w2 ⟨rfl, hb2⟩
        have B2 := hide (bl_trans HB.out hb2)
        have HM2 := hide (HM.out.below hb2)
        clear hb2
        go_wp2_with fail
        refine (KP.out _ HM2.out).mono ?_
        rintro e w3 hp
        obtain ⟨rfl, _⟩ := hp.bad c rfl
        have B3 := hide (B2.out.trans hp.below)
        clear hp
        go_wp2_with fail
        refine (as_EE c _ (.int .i64 0) _ (((LAID.out.below B3.out)).alloc _) (by simp) (by simp)).mono ?_
        rintro e w5 ⟨rfl, w4, hb4, rfl⟩
        have k4 : w4.cell? ⟨w3.heap.size, 0, none⟩ = some (.int .i64 0) := keep_cell hb4 (by simp) (by simp)
        have B4 := hide ((bl_trans (bl_alloc B3.out _) hb4).setCell (p := ⟨w3.heap.size, 0, none⟩) (by have := B3.out.size; exact this) (.int .i64 c))
        clear hb4
        go_wp2_with fail
        refine (FN.out _).mono ?_
        rintro e w5 ⟨rfl, rfl⟩
        go_wp2
        go_ret3
        exact ⟨B4.out, rfl⟩
      | ok s' =>
        have KP := hide (fun W hM' => rput_eq lm hlm w.heap.size r s x (len - n) a (.ok s') (by rw [← hl]; exact hs) W hM' hI (by omega) hxw (by omega))
        cases hf : s'.ph.isFin with
        | false =>
          have hrun' := hide (run_next hrun hq hs hf)
          have hI' := hide (step_inv hs hI hxw hn1 (fin_iff.1 hf))
          clear hrun hq hI hM hb HR hs hxw
          go_wp2_with fail
          refine KR.out.mono ?_
          rintro e w2 ⟨rfl, hb2⟩
          have B2 := hide (bl_trans HB.out hb2)
          have HM2 := hide (HM.out.below hb2)
          clear hb2
          go_wp2_with fail
          refine (KP.out _ HM2.out).mono ?_
          rintro e w3 hp
          obtain ⟨he, hm3⟩ := hp.good s' rfl
          rw [hf] at he
          subst he
          have B3 := hide (B2.out.trans hp.below)
          have HM3 := hide hm3
          clear hp hm3
          go_wp2_with fail
          refine (as_nil _ _).mono ?_
          rintro e w5 ⟨rfl, rfl⟩
          go_wp2
          go_roundw
          case rel => exact ⟨s', n, rfl, by omega, hrun'.out, hI'.out, HM3.out.below (bl_alloc (Below.refl _ _) _), bl_alloc B3.out _⟩
          case measure => simp [intOf]; omega
        | true =>
          have ho := run_fin hrun hq hs hf
          subst ho
          clear hrun hq hI hM hb HR hs hxw
          go_wp2_with fail
          refine KR.out.mono ?_
          rintro e w2 ⟨rfl, hb2⟩
          have B2 := hide (bl_trans HB.out hb2)
          have HM2 := hide (HM.out.below hb2)
          clear hb2
          go_wp2_with fail
          refine (KP.out _ HM2.out).mono ?_
          rintro e w3 hp
          obtain ⟨he, hm3⟩ := hp.good s' rfl
          rw [hf] at he
          subst he
          rw [fn_fin r hf] at hm3
          obtain ⟨v, cp, l, hR3, hl3, hF3⟩ := memF_fin hm3 hf
          have B3 := hide (B2.out.trans hp.below)
          have HR3 := hide (hR3.below (bl_alloc (Below.refl w3.heap.size w3) (.cells #[.int .i64 0] 44)))
          have HF3 := hide (hF3.below (bl_alloc (Below.refl w3.heap.size w3) (.cells #[.int .i64 0] 44)))
          have HL3 := hide hl3
          clear hp hm3 hR3 hF3 hl3
          go_wp2_with fail
          refine (as_nil _ _).mono ?_
          rintro e w5 ⟨rfl, rfl⟩
          go_wp2_with fail
          refine (vector_fin lm r v cp _ _ _ HR3.out).mono ?_
          rintro e w6 ⟨rfl, hb6⟩
          have B6 := hide (bl_trans (bl_alloc B3.out _) hb6)
          have HF6 := hide (HF3.out.below hb6)
          clear hb6
          go_wp2
          go_ret3
          exact ⟨B6.out, v, l, rfl, HL3.out, HF6.out⟩
end Go.Proofs.YtbphphmjhcehkaaDoor
