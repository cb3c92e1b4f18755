/- pack's Reader: Put in any state. -/
import Derived.Test.YtbphphmjhcehkaaDoorPackPut
import Derived.Test.YtbphphmjhcehkaaDoorPackHi
import Derived.Test.YtbphphmjhcehkaaDoorPackLo
import Derived.Test.YtbphphmjhcehkaaDoorPackOpen
import Derived.Test.YtbphphmjhcehkaaDoorPackRep
namespace Go.Proofs.YtbphphmjhcehkaaDoor
open Go Go.RowKit

/-- What holds of every state in front of a number. -/
structure StI (s : St) (a : Int) : Prop where
  ph : s.ph ≠ .fin
  ents : s.ph = .count ∨ (0 < s.ents ∧ s.ents < 18446744073709551616)
  hls : 0 ≤ s.hls ∧ s.hls < 18446744073709551616
  es : (s.es.length : Int) ≤ a
  hs : (s.cur.hs.length : Int) ≤ a
theorem stI_0 (a : Int) (ha : 0 ≤ a) : StI St0 a := ⟨(by simp [St0]), .inl rfl, by decide, by simpa [St0] using ha, by simpa [St0] using ha⟩
theorem limitC_err {x l n c : Int} (h : limitC x l n = c) (hc : c ≠ 0) : c = 5 ∨ c = 7 := by
  have := limitC_or x l n
  omega
theorem step_err {lm : Lim} {s : St} {x rest c : Int} (h : stepS lm s x rest = .error c) : c = 5 ∨ c = 7 ∨ c = 8 ∨ c = 9 := by
  obtain ⟨ph, es, cur, ents, hls⟩ := s
  unfold stepS at h
  cases ph <;> simp only at h
  all_goals (repeat' split at h) <;> cases h
  all_goals first
    | (right; right; left; rfl)
    | (right; right; right; rfl)
    | (rename_i hh; rcases limitC_err rfl hh with g | g <;> omega)
theorem holeS_inv {s : St} {a n : Int} (he : 0 < s.ents ∧ s.ents < 18446744073709551616) (hh : 0 ≤ s.hls ∧ s.hls < 18446744073709551616) (h1 : (s.es.length : Int) ≤ a) (h2 : (s.cur.hs.length : Int) ≤ n) (ha : a < n) (hf : (holeS s).ph ≠ .fin) : StI (holeS s) n := by
  obtain ⟨ph, es, cur, ents, hls⟩ := s
  simp only at he hh h1 h2
  unfold holeS at hf ⊢
  simp only at hf ⊢
  by_cases g : 0 < hls
  · rw [if_pos g] at hf ⊢
    exact ⟨hf, .inr he, by simp only; omega, by simp only; omega, h2⟩
  · rw [if_neg g] at hf ⊢
    by_cases g2 : 0 < ents - 1
    · rw [if_pos g2] at hf ⊢
      exact ⟨hf, .inr (by simp only; omega), hh, by simp; omega, h2⟩
    · rw [if_neg g2] at hf
      exact absurd rfl hf
theorem step_inv {lm : Lim} {s s' : St} {x rest a n : Int} (h : stepS lm s x rest = .ok s') (hI : StI s a) (hx : Word x) (ha : a < n) (hf : s'.ph ≠ .fin) : StI s' n := by
  have hx1 := hx.1
  have hx2 := hx.2
  obtain ⟨p1, p2, p3, p4, p5⟩ := hI
  obtain ⟨ph, es, cur, ents, hls⟩ := s
  simp only at p1 p2 p3 p4 p5
  unfold stepS at h
  cases ph with
  | count =>
    simp only at h
    split at h
    · cases h
    · split at h
      · cases h
      · cases h
        exact ⟨hf, .inr (by simp only; omega), p3, by simp only; omega, by simp only; omega⟩
  | rep =>
    simp only at h
    have he := p2.resolve_left (by simp)
    split at h
    · cases h; exact ⟨hf, .inr he, p3, by simp only; omega, by simp; omega⟩
    · split at h
      · cases h; exact ⟨hf, .inr he, p3, by simp only; omega, by simp; omega⟩
      · cases h
  | top =>
    simp only at h
    have he := p2.resolve_left (by simp)
    cases h
    exact ⟨hf, .inr he, p3, by simp only; omega, by simp only; omega⟩
  | op =>
    simp only at h
    have he := p2.resolve_left (by simp)
    split at h
    · cases h
    · cases h
      exact holeS_inv he ⟨hx1, hx2⟩ p4 (by simp only; omega) ha hf
  | lo =>
    simp only at h
    have he := p2.resolve_left (by simp)
    split at h
    · cases h; exact ⟨hf, .inr he, p3, by simp only; omega, by simp only; omega⟩
    · split at h
      · cases h; exact ⟨hf, .inr he, p3, by simp only; omega, by simp only; omega⟩
      · cases h
  | hi l =>
    simp only at h
    have he := p2.resolve_left (by simp)
    split at h
    · cases h
      exact holeS_inv he p3 p4 (by simp; omega) ha hf
    · cases h
  | fin => exact absurd rfl p1

/-- What Put does. -/
structure PutPost (lm : Lim) (base r : Nat) (o : Except Int St) (w : World) (e : Ending) (w' : World) : Prop where
  below : Below base w w'
  bad : ∀ c, o = .error c → e = .returned (.tuple #[.bool true, .iface 44 (.int .i64 c)]) ∧ ∃ v cp en hl, RdR w' r lm .nilFunc (.iface 44 (.int .i64 c)) v en hl cp
  good : ∀ s', o = .ok s' → e = .returned (.tuple #[.bool s'.ph.isFin, .nilIface]) ∧ MemF w' base r lm (s'.ph.fn r) .nilIface s'
theorem fin_iff {p : Ph} : p.isFin = false ↔ p ≠ .fin := by cases p <;> simp [Ph.isFin]
theorem fin_is {p : Ph} (h : p.isFin = true) : p = .fin := by cases p <;> simp_all [Ph.isFin]
def Ph.fid : Ph → FuncId
  | .count => 44
  | .rep => 66
  | .top => 81
  | .op => 90
  | .lo => 102
  | .hi _ => 104
  | .fin => 104
theorem fn_fid {p : Ph} (r : Nat) (h : p.isFin = false) : p.fn r = fnV r p.fid := by cases p <;> first | rfl | cases h
theorem fn_fin {p : Ph} (r : Nat) (h : p.isFin = true) : p.fn r = .nilFunc := by rw [fin_is h]; rfl
theorem rput_from {lm : Lim} {base r : Nat} {s : St} {x rest : Int} {w : World} {F : FuncId} (hfn : s.ph.fn r = fnV r F) (hF : Enters F) (h : MemF w base r lm (s.ph.fn r) .nilIface s)
    (KF : Calls Tryd.prog F #[.pointer (some ⟨r, 0, none⟩), .int .u64 x, .int .i64 rest] w fun e w' => StepPost lm base r (s.ph.fn r) (stepS lm s x rest) w e w') :
    Calls Tryd.prog 25 #[.pointer (some ⟨r, 0, none⟩), .int .u64 x, .int .i64 rest] w fun e w' => PutPost lm base r (stepS lm s x rest) w e w' := by
  obtain ⟨hbr, v, cp, hR, _⟩ := h
  rw [hfn] at hR KF
  have bel : ∀ {w1 w' : World} {x y : Value}, Below base w w1 → Below ((w1.setCell ⟨r, 5, none⟩ x).setCell ⟨r, 6, none⟩ y).heap.size ((w1.setCell ⟨r, 5, none⟩ x).setCell ⟨r, 6, none⟩ y) w' → Below base w w' := by
    intro w1 w' x y h1 h2
    have h3 : Below base w ((w1.setCell ⟨r, 5, none⟩ x).setCell ⟨r, 6, none⟩ y) := (h1.setCell (p := ⟨r, 5, none⟩) hbr _).setCell (p := ⟨r, 6, none⟩) hbr _
    have := hR.lt
    have := h3.size
    exact h3.trans (below_of h2 (by omega))
  cases ho : stepS lm s x rest with
  | error c =>
    have hc : c ≠ 0 := by rcases step_err ho with g | g | g | g <;> omega
    have ec : errE c = .iface 44 (.int .i64 c) := by unfold errE; rw [if_neg hc]
    rw [ho] at KF
    refine (rput_err lm r F c x rest v cp s.ents s.hls (fun w1 => Below base w w1 ∧ ∃ v cp en hl, RdR w1 r lm (fnV r F) .nilIface v en hl cp) w hR (KF.mono fun e w1 hp => ?_) (fun w1 h1 => h1.2) hF).mono ?_
    · obtain ⟨he, hr⟩ := hp.bad c rfl
      rw [ec] at he
      exact ⟨he, hp.below, hr⟩
    · rintro e w' ⟨rfl, w1, ⟨hb, v1, cp1, en1, hl1, hr⟩, hb'⟩
      exact ⟨bel hb hb', fun c' hc' => (by cases hc'; exact ⟨rfl, v1, cp1, en1, hl1, ((hr.s5 _).s6 _).below hb'⟩), fun s' hs' => (by cases hs')⟩
  | ok s' =>
    rw [ho] at KF
    cases hf : s'.ph.isFin with
    | true =>
      refine (rput_fin lm r F x rest v cp s.ents s.hls (fun w1 => Below base w w1 ∧ MemF w1 base r lm (fnV r F) .nilIface s') w hR (KF.mono fun e w1 hp => ?_) (fun w1 h1 => ?_) hF).mono ?_
      · obtain ⟨he, hr⟩ := hp.good s' rfl
        rw [fn_fin r hf] at he
        exact ⟨he, hp.below, hr⟩
      · obtain ⟨_, _, v1, cp1, hr, _⟩ := h1
        exact ⟨v1, cp1, _, _, hr⟩
      · rintro e w' ⟨rfl, w1, ⟨hb, hm⟩, hb'⟩
        refine ⟨bel hb hb', fun c' hc' => (by cases hc'), fun s'' hs' => ?_⟩
        cases hs'
        rw [hf, fn_fin r hf]
        exact ⟨rfl, (hm.store _ _).below hb'⟩
    | false =>
      refine (rput_next lm r F s'.ph.fid x rest v cp s.ents s.hls (fun w1 => Below base w w1 ∧ MemF w1 base r lm (fnV r F) .nilIface s') w hR (KF.mono fun e w1 hp => ?_) (fun w1 h1 => ?_) hF).mono ?_
      · obtain ⟨he, hr⟩ := hp.good s' rfl
        rw [fn_fid r hf] at he
        exact ⟨he, hp.below, hr⟩
      · obtain ⟨_, _, v1, cp1, hr, _⟩ := h1
        exact ⟨v1, cp1, _, _, hr⟩
      · rintro e w' ⟨rfl, w1, ⟨hb, hm⟩, hb'⟩
        refine ⟨bel hb hb', fun c' hc' => (by cases hc'), fun s'' hs' => ?_⟩
        cases hs'
        rw [hf, fn_fid r hf]
        exact ⟨rfl, (hm.store _ _).below hb'⟩
theorem rput_any (lm : Lim) (hlm : LimW lm) (base r : Nat) (s : St) (x rest a : Int) (w : World) (h : MemF w base r lm (s.ph.fn r) .nilIface s) (hI : StI s a) (ha : a ≤ 1000000) (hx : Word x) (hr : -9223372036854775808 ≤ rest ∧ rest ≤ 9223372036854775807) :
    Calls Tryd.prog 25 #[.pointer (some ⟨r, 0, none⟩), .int .u64 x, .int .i64 rest] w fun e w' => PutPost lm base r (stepS lm s x rest) w e w' := by
  have he : s.es.length ≤ 1000000 := by have := hI.es; omega
  have hh : s.cur.hs.length ≤ 1000000 := by have := hI.hs; omega
  cases hp : s.ph with
  | count => exact rput_from (F := 44) (by rw [hp]; rfl) ent0 h (count_any lm hlm base r _ s x rest w h hp hx hr)
  | rep => exact rput_from (F := 66) (by rw [hp]; rfl) ent1 h (rep_any lm base r _ s x rest w h hp hx he)
  | top => exact rput_from (F := 81) (by rw [hp]; rfl) ent2 h (top_any lm base r _ s x rest w h hp hx)
  | op => exact rput_from (F := 90) (by rw [hp]; rfl) ent3 h (open_any lm hlm base r _ s x rest w h hp hx hr (hI.ents.resolve_left (by rw [hp]; simp)))
  | lo => exact rput_from (F := 102) (by rw [hp]; rfl) ent4 h (lo_any lm base r _ s x rest w h hp hx)
  | hi l => exact rput_from (F := 104) (by rw [hp]; rfl) ent5 h (hi_any lm base r l _ s x rest w h hp hx (hI.ents.resolve_left (by rw [hp]; simp)) hI.hls hh)
  | fin => exact absurd hp hI.ph
end Go.Proofs.YtbphphmjhcehkaaDoor
