/- pack's Reader: the state hi. pack's Reader: Put in any state. pack.Read. A vector that can be read; the reference's Same of entries and of vectors. The numbers and the bytes of a vector; canonical vectors. No program in sight. Numbers one by one: what a list of numbers does to the Reader's state, and what their bytes are read as. No program in sight. The numbers of a canonical vector, one by one, are that vector; cut off, they are too short. No program in sight. The reference's cursor: Stopped, Fail, Num, Count, beside what is read number by number. The reference's Num and Count. The walks of the reference's Interval, over what its calls do. The reference's Interval, beside what is read number by number. -/
import Derived.Test.YtppeogalaikopaaDoorMG8
import Derived.Test.YtppeogalaikopaaDoorMG11
import Derived.Test.YtppeogalaikopaaDoorMG12
import Derived.Test.YtppeogalaikopaaDoorMG16
import Derived.Test.YtppeogalaikopaaDoorMG6
import Derived.Test.YtppeogalaikopaaDoorMG17
import Derived.Test.YtppeogalaikopaaDoorMG1
import Derived.Test.YtppeogalaikopaaDoorMG9
import Derived.Test.YtppeogalaikopaaDoorMG21
import Derived.Test.YtppeogalaikopaaDoorMG15
import Derived.Test.YtppeogalaikopaaDoorMG3
import Derived.Test.YtppeogalaikopaaDoorMG22
import Derived.BigQuiet
import Derived.Deep.QuietTactic
namespace Go.Proofs.YtppeogalaikopaaDoor
open Go Go.RowKit
set_option linter.unusedSimpArgs false

theorem row_kept {X Y : World} {b : Nat} {o : Obj} (hb : Below X.heap.size X Y) (h : X.heap[b]? = some o) : Y.heap[b]? = some o := (hb.block _ (Blk_lt h)).trans h
structure HiT (r : Nat) (lm : Lim) (fn v : Value) (ents hls : Int) (cp : Value) (b8 : Nat) (lo hi : Int) (W : World) : Prop where
  rd : RdR W r lm fn .nilIface v ents hls cp
  s0 : W.cell? ⟨b8, 0, none⟩ = some (.int .u64 lo)
  s1 : W.cell? ⟨b8, 1, none⟩ = some (.int .u64 hi)
theorem keep_c {X Y : World} {b i : Nat} {v : Value} (hb : Below X.heap.size X Y) (hc : X.cell? ⟨b, i, none⟩ = some v) : Y.cell? ⟨b, i, none⟩ = some v := keep_cell hb (block_lt_of_cell hc) hc
theorem HiT.below {r : Nat} {lm : Lim} {fn v : Value} {ents hls : Int} {cp : Value} {b8 : Nat} {lo hi : Int} {W W' : World} (h : HiT r lm fn v ents hls cp b8 lo hi W) (hb : Below W.heap.size W W') : HiT r lm fn v ents hls cp b8 lo hi W' :=
  ⟨h.rd.below hb, keep_c hb h.s0, keep_c hb h.s1⟩
theorem HiT.drew {r : Nat} {lm : Lim} {fn v : Value} {ents hls : Int} {cp : Value} {b8 : Nat} {lo hi : Int} {W : World} (h : HiT r lm fn v ents hls cp b8 lo hi W) : HiT r lm fn v ents hls cp b8 lo hi W.drew := h.below (bl_drew (Below.refl _ _))
theorem HiT.alloc {r : Nat} {lm : Lim} {fn v : Value} {ents hls : Int} {cp : Value} {b8 : Nat} {lo hi : Int} {W : World} (h : HiT r lm fn v ents hls cp b8 lo hi W) (o : Obj) : HiT r lm fn v ents hls cp b8 lo hi (W.alloc o) := h.below (bl_alloc (Below.refl _ _) _)
theorem HiT.new8 {r : Nat} {lm : Lim} {fn v : Value} {ents hls : Int} {cp : Value} {b8 : Nat} {lo hi : Int} {W : World} (_ : HiT r lm fn v ents hls cp b8 lo hi W) : (W.alloc (.cells #[.int .u64 lo, .int .u64 hi] 68)).heap[W.heap.size]? = some (.cells #[.int .u64 lo, .int .u64 hi] 68 (0, 0)) := heap_new_at _ _ rfl
theorem hnew2 {w : World} {b : Nat} {x y : Value} {t : TypeId} (h : w.heap[b]? = some (.cells #[x, y] t (0, 0))) : ∀ j u, [x, y][j]? = some u → w.cell? ((⟨b, 0, none⟩ : Addr).add j) = some u := by
  have ea : ∀ j, (⟨b, 0, none⟩ : Addr).add j = ⟨b, 0 + j, none⟩ := by
    intro j
    unfold Addr.add; split <;> simp_all
  intro j u hj
  rw [ea]
  match j, hj with
  | 0, hj => simp at hj; subst hj; simp [World.cell?, h]
  | 1, hj => simp at hj; subst hj; simp [World.cell?, h]
theorem info_ival : (Tryd.prog.info? 68).map (fun i => (i.zero, i.size, i.bytes)) = some (some (.agg #[.int .u64 0, .int .u64 0]), 2, 16) := by kernel_rfl
structure HiH (W0 : World) (r : Nat) (lm : Lim) (fn v : Value) (ents hls : Int) (cp : Value) (b8 : Nat) (lo hi : Int) (g o : Nat) (mx : Int) (W : World) : Prop where
  rd : RdR W r lm fn .nilIface v ents hls cp
  s0 : W.cell? ⟨b8, 0, none⟩ = some (.int .u64 lo)
  s1 : W.cell? ⟨b8, 1, none⟩ = some (.int .u64 hi)
  cm : W.cell? ⟨g, o, none⟩ = some (.int .u64 mx)
  bl : Below W0.heap.size W0 W
theorem HiH.below {W0 : World} {r : Nat} {lm : Lim} {fn v : Value} {ents hls : Int} {cp : Value} {b8 : Nat} {lo hi : Int} {g o : Nat} {mx : Int} {W W' : World} (h : HiH W0 r lm fn v ents hls cp b8 lo hi g o mx W) (hb : Below W.heap.size W W') : HiH W0 r lm fn v ents hls cp b8 lo hi g o mx W' :=
  ⟨h.rd.below hb, keep_c hb h.s0, keep_c hb h.s1, keep_c hb h.cm, bl_trans h.bl hb⟩
theorem HiH.drew {W0 : World} {r : Nat} {lm : Lim} {fn v : Value} {ents hls : Int} {cp : Value} {b8 : Nat} {lo hi : Int} {g o : Nat} {mx : Int} {W : World} (h : HiH W0 r lm fn v ents hls cp b8 lo hi g o mx W) : HiH W0 r lm fn v ents hls cp b8 lo hi g o mx W.drew := h.below (bl_drew (Below.refl _ _))
theorem row_hv {w : World} {base B g cap : Nat} {hv : Value} {l : List EV} {e : Ent} (h : RowC w base (.slice (some ⟨g, 0, none⟩) (l.length + 1) cap) l e B hv) : w.cell? ⟨g, l.length * 3 + 2, none⟩ = some hv := by
  obtain ⟨g', cap', e1, _, _, _, _, _, _, _, c2⟩ := row_slice h
  simp at e1
  obtain ⟨rfl, _⟩ := e1
  exact c2
theorem lastHi_snoc (zs : List Iv) (x y : Int) : lastHi (zs ++ [(x, y)]) = y := by
  unfold lastHi Hi
  rw [getD_snoc]
  simp
theorem hi_push {W w3 : World} {base r g cap B p b8 : Nat} {lm : Lim} {fn cp hv hv' : Value} {ents hls lo hi clo llo lhi x y : Int} {sm : Bool} {f : FuncId} {l : List EV} {cur : Ent}
    (hbr : base ≤ r) (hT : HiT r lm fn (.slice (some ⟨g, 0, none⟩) (l.length + 1) cap) ents hls cp b8 x y W) (hC : RowC W base (.slice (some ⟨g, 0, none⟩) (l.length + 1) cap) l cur B hv)
    (hK : CurOk W base cp { cur with hs := cur.hs ++ [(lo, hi)] } none p clo llo lhi sm f) (h1 : Word lo) (h2 : Word hi) (h8 : ∀ k, hv.ownBlock = some k → k ≠ b8) (ng : g ≠ b8)
    (hown : w3.ownsRow B 68 2 hv' (cur.hs.length + 1) (cellsL cur.hs ++ [.int .u64 lo, .int .u64 hi])) (hg : W.grownBy w3 hv.ownBlock) :
    (HiT r lm fn (.slice (some ⟨g, 0, none⟩) (l.length + 1) cap) ents hls cp b8 x y w3 ∧ w3.cell? ⟨g, l.length * 3 + 2, none⟩ = some hv ∧ ∀ j, w3.frozen? ⟨g, j, none⟩ = false) ∧
    HiT r lm fn (.slice (some ⟨g, 0, none⟩) (l.length + 1) cap) ents hls cp b8 x y (w3.setCell ⟨g, l.length * 3 + 2, none⟩ hv') ∧
    RowC (w3.setCell ⟨g, l.length * 3 + 2, none⟩ hv') base (.slice (some ⟨g, 0, none⟩) (l.length + 1) cap) l { cur with hs := cur.hs ++ [(lo, hi)] } B hv' ∧
    CurOk (w3.setCell ⟨g, l.length * 3 + 2, none⟩ hv') base cp { cur with hs := cur.hs ++ [(lo, hi)] } none p clo llo lhi sm f ∧ Below base W (w3.setCell ⟨g, l.length * 3 + 2, none⟩ hv') := by
  have hR := hT.rd
  have hlt := hR.lt
  obtain ⟨g', cap', e1, hbg, hgl, hty, _, _, _, _, cH⟩ := row_slice hC
  simp at e1
  obtain ⟨rfl, rfl⟩ := e1
  have o1 : Only (fun b => hv.ownBlock = some b) W w3 := only_of_grown hg
  have th : ∀ k, hv.ownBlock = some k → Typed W 68 k := fun k hk => own_typed hC.own.row hk
  have nr : ¬ hv.ownBlock = some r := fun hk => hR.typed.ne (th _ hk) (by decide) rfl
  have ngb : ¬ hv.ownBlock = some g := fun hk => hty.ne (th _ hk) (by decide) rfl
  have np : ¬ hv.ownBlock = some p := fun hk => hK.typed.ne (th _ hk) (by decide) rfl
  have n8 : ¬ hv.ownBlock = some b8 := fun hk => h8 _ hk rfl
  have hT3 : HiT r lm fn (.slice (some ⟨g, 0, none⟩) (l.length + 1) cap) ents hls cp b8 x y w3 := ⟨hR.only o1 nr, o1.cell n8 hT.s0, o1.cell n8 hT.s1⟩
  have hty3 : Typed w3 65 g := by obtain ⟨cs, e⟩ := hty; exact ⟨cs, o1.obj ngb e⟩
  have hR3 := hT3.rd
  have hK3 := hK.only o1 np
  have o2 : Only (fun b => b = g) w3 (w3.setCell ⟨g, l.length * 3 + 2, none⟩ hv') := (Only.refl (fun b => b = g) w3).setCell (p := ⟨g, l.length * 3 + 2, none⟩) (.inl rfl) _
  have hrow3 := own_only hC.row o1 (fun k hk hy => by simp [Value.ownBlock] at hk; subst hk; exact ngb hy)
  have hs := hrow3.stored (l.length * 3 + 2) hv'
  rw [cellsE_hv l cur hv hv' (cur.hs ++ [(lo, hi)])] at hs
  have nrg : ¬ r = g := fun e => hR.typed.ne hty (by decide) e
  have n8g : ¬ b8 = g := fun e => ng e.symm
  refine ⟨⟨hT3, o1.cell ngb cH, hrow3.frozenAt⟩, ⟨hR3.only o2 nrg, o2.cell n8g hT3.s0, o2.cell n8g hT3.s1⟩, ⟨hs.1, hC.le, Nat.le_trans hC.lt (Nat.le_trans o1.size o2.size), fun q hq => ?_, hC.words, ⟨?_, ?_⟩, ⟨hC.word.rep, hC.word.mx, ?_⟩⟩, hK3.only o2 (fun e => hK.typed.ne hty (by decide) e), ?_⟩
  · refine ((hC.fins q hq).only o1 fun k hk => .inl (hC.own.row.lt k hk).1).only o2 fun k hk => .inr ?_
    subst hk
    exact hty3.not (by decide)
  · have hrow : w3.ownsRow B 68 2 hv' (cur.hs ++ [(lo, hi)]).length (cellsL (cur.hs ++ [(lo, hi)])) := by
      rw [cellsL_snoc] at hown
      simpa using hown
    exact own_only hrow o2 (fun k hk hy => by subst hy; exact hty3.ne (own_typed hrow hk) (by decide) rfl)
  · intro z hz
    rcases List.mem_append.1 hz with hz | hz
    · exact hC.own.words z hz
    · obtain rfl : z = (lo, hi) := by simpa using hz
      exact ⟨h1, h2⟩
  · intro z hz
    rcases List.mem_append.1 hz with hz | hz
    · exact hC.word.hs z hz
    · obtain rfl : z = (lo, hi) := by simpa using hz
      exact ⟨h1, h2⟩
  · have hle : base ≤ W.heap.size := by have := hC.le; have := hC.lt; omega
    refine (o1.below hle fun k hk => Nat.le_trans hC.le (hC.own.row.lt k hk).1).trans (o2.below (Nat.le_trans hle o1.size) fun k hk => by subst hk; exact hbg)

set_option maxRecDepth 100000 in
set_option maxHeartbeats 8000000 in
theorem hi_over (lm : Lim) (base r p : Nat) (fn v cp : Value) (cur : Ent) (ents hls x rest lo llo lhi : Int) (sm : Bool) (f : FuncId) (w : World) (hR : RdR w r lm fn .nilIface v ents hls cp) (hK : CurOk w base cp cur (some lo) p lo llo lhi sm f) (hl : Word lo) (hx : Word x) (hs : ¬ lo + x < 18446744073709551616) :
    Calls Tryd.prog 104 #[.pointer (some ⟨r, 0, none⟩), .int .u64 x, .int .i64 rest] w fun e w' => e = .returned (.tuple #[.nilFunc, .iface 44 (.int .i64 8)]) ∧ Below w.heap.size w w' := by
  have hmx : Tryd.prog.follows .mixedOrders = true := by kernel_rfl
  have hcp := hK.ptr
  subst hcp
  have c10 := hR.c10
  have KH := hide (hi_no p x 1 lo llo lhi sm f w hK.cur hl hx hs)
  clear hR hK hl hx hs
  go_enter Tryd.func104, Tryd.ntmps104
  go_wp2_with fail
  refine KH.out.mono ?_
  rintro e w1 ⟨rfl, b1⟩
  have B2 := hide (bl_alloc b1 (.cells #[.int .u64 0, .int .u64 0] 68))
  clear b1
  go_wp2_with fail
  refine wp_region_held_drew (S := Below w.heap.size w) hmx (bl_drew B2.out) (fun hS => ?_)
  refine wpAnyH_takeD (i := 0) (d := some 19) (v := (.bool false)) rfl rfl (by kernel_rfl) (by kernel_rfl) (by kernel_rfl) (fun _ _ _ h => h) (Or.inl ⟨by rfl, ?_⟩) (by assumption) ?_
  · intro X hX; go_simp
  simp only [Act.put, List.setIfInBounds_toArray, List.set_cons_zero, List.set_cons_succ]
  refine wpAnyH_takeD (i := 1) (d := some 20) (v := (.bool true)) rfl rfl (by kernel_rfl) (by kernel_rfl) (by kernel_rfl) (fun _ _ _ h => h) (Or.inl ⟨by rfl, ?_⟩) (by assumption) ?_
  · intro X hX; go_simp
  simp only [Act.put, List.setIfInBounds_toArray, List.set_cons_zero, List.set_cons_succ]
  refine wpAnyH_takeD (i := 2) (d := some 21) (v := (.bool true)) rfl rfl (by kernel_rfl) (by kernel_rfl) (by kernel_rfl) (fun _ _ _ h => h) (Or.inl ⟨by rfl, ?_⟩) (by assumption) ?_
  · intro X hX; go_simp
  simp only [Act.put, List.setIfInBounds_toArray, List.set_cons_zero, List.set_cons_succ]
  refine wpAnyH_takeD (i := 3) (d := some 22) (v := undef) rfl rfl (by kernel_rfl) (by kernel_rfl) (by kernel_rfl) (fun _ _ _ h => h) (Or.inr ⟨by rfl, rfl⟩) (by assumption) ?_
  simp only [Act.put, List.setIfInBounds_toArray, List.set_cons_zero, List.set_cons_succ]
  refine wpAnyH_takeD (i := 4) (d := some 23) (v := undef) rfl rfl (by kernel_rfl) (by kernel_rfl) (by kernel_rfl) (fun _ _ _ h => h) (Or.inr ⟨by rfl, rfl⟩) (by assumption) ?_
  simp only [Act.put, List.setIfInBounds_toArray, List.set_cons_zero, List.set_cons_succ]
  refine wpAnyH_takeD (i := 5) (d := some 24) (v := undef) rfl rfl (by kernel_rfl) (by kernel_rfl) (by kernel_rfl) (fun _ _ _ h => h) (Or.inr ⟨by rfl, rfl⟩) (by assumption) ?_
  simp only [Act.put, List.setIfInBounds_toArray, List.set_cons_zero, List.set_cons_succ]
  refine wpAnyH_takeD (i := 6) (d := some 25) (v := undef) rfl rfl (by kernel_rfl) (by kernel_rfl) (by kernel_rfl) (fun _ _ _ h => h) (Or.inr ⟨by rfl, rfl⟩) (by assumption) ?_
  simp only [Act.put, List.setIfInBounds_toArray, List.set_cons_zero, List.set_cons_succ]
  refine wpAnyH_takeD (i := 7) (d := some 26) (v := undef) rfl rfl (by kernel_rfl) (by kernel_rfl) (by kernel_rfl) (fun _ _ _ h => h) (Or.inr ⟨by rfl, rfl⟩) (by assumption) ?_
  simp only [Act.put, List.setIfInBounds_toArray, List.set_cons_zero, List.set_cons_succ]
  refine wpAnyH_takeD (i := 8) (d := some 27) (v := undef) rfl rfl (by kernel_rfl) (by kernel_rfl) (by kernel_rfl) (fun _ _ _ h => h) (Or.inr ⟨by rfl, rfl⟩) (by assumption) ?_
  simp only [Act.put, List.setIfInBounds_toArray, List.set_cons_zero, List.set_cons_succ]
  refine wpAnyH_takeD (i := 9) (d := some 28) (v := undef) rfl rfl (by kernel_rfl) (by kernel_rfl) (by kernel_rfl) (fun _ _ _ h => h) (Or.inr ⟨by rfl, rfl⟩) (by assumption) ?_
  simp only [Act.put, List.setIfInBounds_toArray, List.set_cons_zero, List.set_cons_succ]
  refine wpAnyH_takeD (i := 10) (d := some 29) (v := undef) rfl rfl (by kernel_rfl) (by kernel_rfl) (by kernel_rfl) (fun _ _ _ h => h) (Or.inr ⟨by rfl, rfl⟩) (by assumption) ?_
  simp only [Act.put, List.setIfInBounds_toArray, List.set_cons_zero, List.set_cons_succ]
  refine wpAnyH_takeD (i := 11) (d := some 30) (v := (.bool true)) rfl rfl (by kernel_rfl) (by kernel_rfl) (by kernel_rfl) (fun _ _ _ h => h) (Or.inl ⟨by rfl, ?_⟩) (by assumption) ?_
  · intro X hX; go_simp
  simp only [Act.put, List.setIfInBounds_toArray, List.set_cons_zero, List.set_cons_succ]
  refine wpAnyH_done (by kernel_rfl) ?_ _
  go_wp2
  go_ret2
  exact ⟨rfl, hS⟩

set_option maxRecDepth 100000 in
set_option maxHeartbeats 8000000 in
theorem hi_large (lm : Lim) (base r p g cap B : Nat) (fn cp hv : Value) (l : List EV) (cur : Ent) (ents hls x rest lo llo lhi : Int) (sm : Bool) (f : FuncId) (w : World) (hbr : base ≤ r) (hR : RdR w r lm fn .nilIface (.slice (some ⟨g, 0, none⟩) (l.length + 1) cap) ents hls cp)
    (hC : RowC w base (.slice (some ⟨g, 0, none⟩) (l.length + 1) cap) l cur B hv) (hK : CurOk w base cp cur (some lo) p lo llo lhi sm f) (hl : Word lo) (hx : Word x) (hs : lo + x < 18446744073709551616) (hm : cur.mx ≤ lo + x) :
    Calls Tryd.prog 104 #[.pointer (some ⟨r, 0, none⟩), .int .u64 x, .int .i64 rest] w fun e w' => e = .returned (.tuple #[.nilFunc, .iface 44 (.int .i64 8)]) ∧ Below base w w' ∧ RdR w' r lm fn .nilIface (.slice (some ⟨g, 0, none⟩) (l.length + 1) cap) ents hls cp := by
  have hmx : Tryd.prog.follows .mixedOrders = true := by kernel_rfl
  have hcp := hK.ptr
  subst hcp
  have c10 := hR.c10
  have KH := hide (hi_yes p x 1 lo llo lhi sm f w hK.cur hl hx hs)
  have hgl : g < w.heap.size := (row_slice hC).elim fun g' h => h.elim fun cap' h => by obtain ⟨e1, _, h2, _⟩ := h; simp at e1; obtain ⟨rfl, _⟩ := e1; exact h2
  have hty : Typed w 65 g := (row_slice hC).elim fun g' h => h.elim fun cap' h => by obtain ⟨e1, _, _, h2, _⟩ := h; simp at e1; obtain ⟨rfl, _⟩ := e1; exact h2
  have hlen : l.length + 1 ≤ 9223372036854775807 := (row_slice hC).elim fun g' h => h.elim fun cap' h => h.2.2.2.2.1
  have cM : w.cell? ⟨g, l.length * 3 + 1, none⟩ = some (.int .u64 cur.mx) := (row_slice hC).elim fun g' h => h.elim fun cap' h => by obtain ⟨e1, _, _, _, _, _, _, h2, _⟩ := h; simp at e1; obtain ⟨rfl, _⟩ := e1; exact h2
  have KE := hide (fun (W : World) (hW : RdR W r lm fn .nilIface (.slice (some ⟨g, 0, none⟩) (l.length + 1) cap) ents hls (.pointer (some ⟨p, 0, none⟩))) => entry_any lm r g l.length cap fn .nilIface (.pointer (some ⟨p, 0, none⟩)) ents hls W hW hlen)
  obtain ⟨hi, ehi⟩ : ∃ y, y = lo + x := ⟨_, rfl⟩
  have hhi : Word hi := by have := hl.1; have := hx.1; rw [ehi]; exact ⟨by omega, hs⟩
  rw [← ehi] at KH
  rw [← ehi] at hm
  have HR := hide hR
  have HC := hide hC
  have HK := hide hK
  have HTY := hide hty
  have CM := hide cM
  obtain ⟨mx, emx⟩ : ∃ mx, cur.mx = mx := ⟨_, rfl⟩
  rw [emx] at CM hm
  clear hR hC hK hl hx hs hty cM ehi hhi emx
  go_enter Tryd.func104, Tryd.ntmps104
  go_wp2_with fail
  refine KH.out.mono ?_
  rintro e w1 ⟨rfl, hcu, ho⟩
  have tp := HK.out.typed
  have hR1 := HR.out.only ho (fun e => HR.out.typed.ne tp (by decide) e)
  have hty1 : Typed w1 65 g := by obtain ⟨cs, e⟩ := HTY.out; exact ⟨cs, ho.obj (fun e => HTY.out.ne tp (by decide) e) e⟩
  have hgp : ¬ g = p := fun e => HTY.out.ne tp (by decide) e
  have hm1 : ∀ k, k = p → ¬ Typed w 65 k ∧ ¬ Typed w 68 k := fun k hk => by subst hk; exact ⟨tp.not (by decide), tp.not (by decide)⟩
  have C1 := hide (HC.out.only ho hm1)
  have B1 := hide (ho.below (n := base) (by have := HR.out.lt; omega) (fun k hk => by subst hk; exact HK.out.le))
  have cM1 := ho.cell hgp CM.out
  have hr1 := hR1.lt
  have hS0 : HiH w1 r lm fn (.slice (some ⟨g, 0, none⟩) (l.length + 1) cap) ents hls (.pointer (some ⟨p, 0, none⟩)) w1.heap.size lo hi g (l.length * 3 + 1) mx (w1.alloc (.cells #[.int .u64 lo, .int .u64 hi] 68)) :=
    ⟨hR1.below (bl_alloc (Below.refl _ _) _), by simp, by simp, keep_c (bl_alloc (Below.refl _ _) _) cM1, bl_alloc (Below.refl _ _) _⟩
  obtain ⟨b8, eb8⟩ : ∃ b, w1.heap.size = b := ⟨_, rfl⟩
  rw [eb8] at hS0
  have HW1 := hide hr1
  clear hcu ho tp hR1 hty1 hgp hm1 cM1 c10 hr1
  go_wp2_with fail
  refine wp_region_held_drew (S := HiH w1 r lm fn (.slice (some ⟨g, 0, none⟩) (l.length + 1) cap) ents hls (.pointer (some ⟨p, 0, none⟩)) b8 lo hi g (l.length * 3 + 1) mx) hmx hS0.drew (fun hS => ?_)
  refine wpAnyH_takeD (i := 0) (d := some 19) (v := (.bool true)) rfl rfl (by kernel_rfl) (by kernel_rfl) (by kernel_rfl) (fun _ _ _ h => h) (Or.inl ⟨by rfl, ?_⟩) (by assumption) ?_
  · intro X hX; go_simp
  simp only [Act.put, List.setIfInBounds_toArray, List.set_cons_zero, List.set_cons_succ]
  refine wpAnyH_takeD (i := 1) (d := some 20) (v := (.bool false)) rfl rfl (by kernel_rfl) (by kernel_rfl) (by kernel_rfl) (fun _ _ _ h => h) (Or.inl ⟨by rfl, ?_⟩) (by assumption) ?_
  · intro X hX; go_simp
  simp only [Act.put, List.setIfInBounds_toArray, List.set_cons_zero, List.set_cons_succ]
  refine wpAnyH_takeD (i := 2) (d := some 21) (v := (.bool false)) rfl rfl (by kernel_rfl) (by kernel_rfl) (by kernel_rfl) (fun _ _ _ h => h) (Or.inl ⟨by rfl, ?_⟩) (by assumption) ?_
  · intro X hX; go_simp
  simp only [Act.put, List.setIfInBounds_toArray, List.set_cons_zero, List.set_cons_succ]
  refine wpAnyH_takeD (i := 3) (d := some 22) (v := (.pointer (some ⟨b8, 1, none⟩))) rfl rfl (by kernel_rfl) (by kernel_rfl) (by kernel_rfl) (fun _ _ _ h => h) (Or.inl ⟨by rfl, ?_⟩) (by assumption) ?_
  · intro X hX; go_simp
  simp only [Act.put, List.setIfInBounds_toArray, List.set_cons_zero, List.set_cons_succ]
  refine wpAnyH_takeD (i := 4) (d := some 23) (v := (.int .u64 hi)) rfl rfl (by kernel_rfl) (by kernel_rfl) (by kernel_rfl) (fun _ _ _ h => h) (Or.inl ⟨by rfl, ?_⟩) (by assumption) ?_
  · intro X hX; obtain ⟨d0, d1, d2, d3, d4⟩ := hX; go_simp
  simp only [Act.put, List.setIfInBounds_toArray, List.set_cons_zero, List.set_cons_succ]
  refine wpAnyH_takeD (i := 5) (d := some 24) (v := (.pointer (some ⟨r, 0, none⟩))) rfl rfl (by kernel_rfl) (by kernel_rfl) (by kernel_rfl) (fun _ _ _ h => h) (Or.inl ⟨by rfl, ?_⟩) (by assumption) ?_
  · intro X hX; go_simp
  simp only [Act.put, List.setIfInBounds_toArray, List.set_cons_zero, List.set_cons_succ]
  refine wpAnyH_ready (rs := [6]) (by kernel_rfl) (by simp) ?_
  refine AllReadyH.cons (o := _) rfl (fun K hK => ?_) AllReadyH.nil
  go_simp
  refine (KE.out _ hS.rd).mono ?_
  rintro e wq ⟨rfl, hb⟩
  have hS := hS.below hb
  clear hb
  go_simp
  refine hK.out _ _ hS (fun _ => ?_)
  clear hK K
  refine wpAnyH_takeD (i := 7) (d := some 26) (v := (.pointer (some ⟨g, l.length * 3, none⟩))) rfl rfl (by kernel_rfl) (by kernel_rfl) (by kernel_rfl) (fun _ _ _ h => h) (Or.inl ⟨by rfl, ?_⟩) (by assumption) ?_
  · intro X hX; go_simp
  simp only [Act.put, List.setIfInBounds_toArray, List.set_cons_zero, List.set_cons_succ]
  refine wpAnyH_takeD (i := 8) (d := some 27) (v := (.pointer (some ⟨g, l.length * 3 + 1, none⟩))) rfl rfl (by kernel_rfl) (by kernel_rfl) (by kernel_rfl) (fun _ _ _ h => h) (Or.inl ⟨by rfl, ?_⟩) (by assumption) ?_
  · intro X hX; go_simp
  simp only [Act.put, List.setIfInBounds_toArray, List.set_cons_zero, List.set_cons_succ]
  refine wpAnyH_takeD (i := 9) (d := some 28) (v := (.int .u64 mx)) rfl rfl (by kernel_rfl) (by kernel_rfl) (by kernel_rfl) (fun _ _ _ h => h) (Or.inl ⟨by rfl, ?_⟩) (by assumption) ?_
  · intro X hX; obtain ⟨d0, d1, d2, d3, d4⟩ := hX; go_simp
  simp only [Act.put, List.setIfInBounds_toArray, List.set_cons_zero, List.set_cons_succ]
  refine wpAnyH_takeD (i := 10) (d := some 29) (v := (.bool true)) rfl rfl (by kernel_rfl) (by kernel_rfl) (by kernel_rfl) (fun _ _ _ h => h) (Or.inl ⟨by rfl, ?_⟩) (by assumption) ?_
  · intro X hX; go_simp
  simp only [Act.put, List.setIfInBounds_toArray, List.set_cons_zero, List.set_cons_succ]
  refine wpAnyH_takeD (i := 11) (d := some 30) (v := (.bool true)) rfl rfl (by kernel_rfl) (by kernel_rfl) (by kernel_rfl) (fun _ _ _ h => h) (Or.inl ⟨by rfl, ?_⟩) (by assumption) ?_
  · intro X hX; go_simp
  simp only [Act.put, List.setIfInBounds_toArray, List.set_cons_zero, List.set_cons_succ]
  refine wpAnyH_done (by kernel_rfl) ?_ _
  go_wp2
  go_ret2
  exact ⟨rfl, B1.out.trans (below_of hS.bl (by have := HW1.out; omega)), hS.rd⟩

set_option maxRecDepth 100000 in
set_option maxHeartbeats 8000000 in
theorem hi_good (lm : Lim) (base r p g cap B : Nat) (fn cp hv : Value) (l : List EV) (cur : Ent) (ents hls x rest lo llo lhi : Int) (sm : Bool) (f : FuncId) (w : World) (hbr : base ≤ r) (hR : RdR w r lm fn .nilIface (.slice (some ⟨g, 0, none⟩) (l.length + 1) cap) ents hls cp)
    (hC : RowC w base (.slice (some ⟨g, 0, none⟩) (l.length + 1) cap) l cur B hv) (hK : CurOk w base cp cur (some lo) p lo llo lhi sm f) (hl : Word lo) (hx : Word x) (hs : lo + x < 18446744073709551616) (hm : lo + x < cur.mx) (hlm : cur.hs.length ≤ 1000000) (he : 0 < ents ∧ ents < 18446744073709551616) (hh : 0 ≤ hls ∧ hls < 18446744073709551616) :
    Calls Tryd.prog 104 #[.pointer (some ⟨r, 0, none⟩), .int .u64 x, .int .i64 rest] w fun e w' => e = .returned (.tuple #[(holeS ⟨.lo, l.map (·.1), { cur with hs := cur.hs ++ [(lo, lo + x)] }, ents, hls⟩).ph.fn r, .nilIface]) ∧ Below base w w' ∧ MemF w' base r lm fn .nilIface (holeS ⟨.lo, l.map (·.1), { cur with hs := cur.hs ++ [(lo, lo + x)] }, ents, hls⟩) := by
  have hmx : Tryd.prog.follows .mixedOrders = true := by kernel_rfl
  have hcp := hK.ptr
  subst hcp
  have c10 := hR.c10
  have KH := hide (hi_yes p x 1 lo llo lhi sm f w hK.cur hl hx hs)
  have hgl : g < w.heap.size := (row_slice hC).elim fun g' h => h.elim fun cap' h => by obtain ⟨e1, _, h2, _⟩ := h; simp at e1; obtain ⟨rfl, _⟩ := e1; exact h2
  have hty : Typed w 65 g := (row_slice hC).elim fun g' h => h.elim fun cap' h => by obtain ⟨e1, _, _, h2, _⟩ := h; simp at e1; obtain ⟨rfl, _⟩ := e1; exact h2
  have hlen : l.length + 1 ≤ 9223372036854775807 := (row_slice hC).elim fun g' h => h.elim fun cap' h => h.2.2.2.2.1
  have cM : w.cell? ⟨g, l.length * 3 + 1, none⟩ = some (.int .u64 cur.mx) := (row_slice hC).elim fun g' h => h.elim fun cap' h => by obtain ⟨e1, _, _, _, _, _, _, h2, _⟩ := h; simp at e1; obtain ⟨rfl, _⟩ := e1; exact h2
  have KE := hide (fun (W : World) (hW : RdR W r lm fn .nilIface (.slice (some ⟨g, 0, none⟩) (l.length + 1) cap) ents hls (.pointer (some ⟨p, 0, none⟩))) => entry_any lm r g l.length cap fn .nilIface (.pointer (some ⟨p, 0, none⟩)) ents hls W hW hlen)
  obtain ⟨hi, ehi⟩ : ∃ y, y = lo + x := ⟨_, rfl⟩
  have hhi : Word hi := by have := hl.1; have := hx.1; rw [ehi]; exact ⟨by omega, hs⟩
  rw [← ehi] at KH
  rw [← ehi] at hm ⊢
  obtain ⟨i0, hi0, hz0, hz1, hz2⟩ := info_parts info_ival
  have HR := hide hR
  have HC := hide hC
  have HK := hide hK
  have HTY := hide hty
  have CM := hide cM
  have WLO := hide hl
  have WHI := hide hhi
  obtain ⟨mx, emx⟩ : ∃ mx, cur.mx = mx := ⟨_, rfl⟩
  rw [emx] at CM hm
  clear hR hC hK hl hx hs hty cM ehi hhi emx
  have hm' : ¬ mx ≤ hi := by omega
  go_enter Tryd.func104, Tryd.ntmps104
  go_wp2_with fail
  refine KH.out.mono ?_
  rintro e w1 ⟨rfl, hcu, ho⟩
  have tp := HK.out.typed
  have hR1 := HR.out.only ho (fun e => HR.out.typed.ne tp (by decide) e)
  have hty1 : Typed w1 65 g := by obtain ⟨cs, e⟩ := HTY.out; exact ⟨cs, ho.obj (fun e => HTY.out.ne tp (by decide) e) e⟩
  have hgp : ¬ g = p := fun e => HTY.out.ne tp (by decide) e
  have hm1 : ∀ k, k = p → ¬ Typed w 65 k ∧ ¬ Typed w 68 k := fun k hk => by subst hk; exact ⟨tp.not (by decide), tp.not (by decide)⟩
  have C1 := hide (HC.out.only ho hm1)
  have B1 := hide (ho.below (n := base) (by have := HR.out.lt; omega) (fun k hk => by subst hk; exact HK.out.le))
  have cM1 := ho.cell hgp CM.out
  have hr1 := hR1.lt
  have hS0 : HiH w1 r lm fn (.slice (some ⟨g, 0, none⟩) (l.length + 1) cap) ents hls (.pointer (some ⟨p, 0, none⟩)) w1.heap.size lo hi g (l.length * 3 + 1) mx (w1.alloc (.cells #[.int .u64 lo, .int .u64 hi] 68)) :=
    ⟨hR1.below (bl_alloc (Below.refl _ _) _), by simp, by simp, keep_c (bl_alloc (Below.refl _ _) _) cM1, bl_alloc (Below.refl _ _) _⟩
  have K1 : CurOk w1 base (.pointer (some ⟨p, 0, none⟩)) { cur with hs := cur.hs ++ [(lo, hi)] } none p lo lo hi true 106 := ⟨rfl, HK.out.le, hcu, fun y hy => (by cases hy), .inr ⟨by simp, rfl, (lastHi_snoc _ _ _).symm, WHI.out⟩⟩
  have HCC := hide (fun (W : World) (hb : Below w1.heap.size w1 W) => And.intro (C1.out.only (may := fun _ => False) (Only.of_below hb) (fun _ hk => hk.elim)) (K1.only (may := fun _ => False) (Only.of_below hb) (fun hk => hk)))
  have N8 := hide (fun k (hk : hv.ownBlock = some k) => Nat.ne_of_lt (C1.out.own.row.lt k hk).2)
  have NG := hide (Nat.ne_of_lt (Nat.lt_of_lt_of_le hgl ho.size))
  have LTB := hide C1.out.lt
  have LTW := hide (show base ≤ w1.heap.size from Nat.le_trans C1.out.le C1.out.lt)
  obtain ⟨b8, eb8⟩ : ∃ b, w1.heap.size = b := ⟨_, rfl⟩
  rw [eb8] at hS0 N8 NG
  clear hcu ho tp hR1 hty1 hgp hm1 cM1 c10 hr1 hgl K1
  go_wp2_with fail
  refine wp_region_held_drew (S := HiH w1 r lm fn (.slice (some ⟨g, 0, none⟩) (l.length + 1) cap) ents hls (.pointer (some ⟨p, 0, none⟩)) b8 lo hi g (l.length * 3 + 1) mx) hmx hS0.drew (fun hS => ?_)
  refine wpAnyH_takeD (i := 0) (d := some 19) (v := (.bool true)) rfl rfl (by kernel_rfl) (by kernel_rfl) (by kernel_rfl) (fun _ _ _ h => h) (Or.inl ⟨by rfl, ?_⟩) (by assumption) ?_
  · intro X hX; go_simp
  simp only [Act.put, List.setIfInBounds_toArray, List.set_cons_zero, List.set_cons_succ]
  refine wpAnyH_takeD (i := 1) (d := some 20) (v := (.bool false)) rfl rfl (by kernel_rfl) (by kernel_rfl) (by kernel_rfl) (fun _ _ _ h => h) (Or.inl ⟨by rfl, ?_⟩) (by assumption) ?_
  · intro X hX; go_simp
  simp only [Act.put, List.setIfInBounds_toArray, List.set_cons_zero, List.set_cons_succ]
  refine wpAnyH_takeD (i := 2) (d := some 21) (v := (.bool false)) rfl rfl (by kernel_rfl) (by kernel_rfl) (by kernel_rfl) (fun _ _ _ h => h) (Or.inl ⟨by rfl, ?_⟩) (by assumption) ?_
  · intro X hX; go_simp
  simp only [Act.put, List.setIfInBounds_toArray, List.set_cons_zero, List.set_cons_succ]
  refine wpAnyH_takeD (i := 3) (d := some 22) (v := (.pointer (some ⟨b8, 1, none⟩))) rfl rfl (by kernel_rfl) (by kernel_rfl) (by kernel_rfl) (fun _ _ _ h => h) (Or.inl ⟨by rfl, ?_⟩) (by assumption) ?_
  · intro X hX; go_simp
  simp only [Act.put, List.setIfInBounds_toArray, List.set_cons_zero, List.set_cons_succ]
  refine wpAnyH_takeD (i := 4) (d := some 23) (v := (.int .u64 hi)) rfl rfl (by kernel_rfl) (by kernel_rfl) (by kernel_rfl) (fun _ _ _ h => h) (Or.inl ⟨by rfl, ?_⟩) (by assumption) ?_
  · intro X hX; obtain ⟨d0, d1, d2, d3, d4⟩ := hX; go_simp
  simp only [Act.put, List.setIfInBounds_toArray, List.set_cons_zero, List.set_cons_succ]
  refine wpAnyH_takeD (i := 5) (d := some 24) (v := (.pointer (some ⟨r, 0, none⟩))) rfl rfl (by kernel_rfl) (by kernel_rfl) (by kernel_rfl) (fun _ _ _ h => h) (Or.inl ⟨by rfl, ?_⟩) (by assumption) ?_
  · intro X hX; go_simp
  simp only [Act.put, List.setIfInBounds_toArray, List.set_cons_zero, List.set_cons_succ]
  refine wpAnyH_ready (rs := [6]) (by kernel_rfl) (by simp) ?_
  refine AllReadyH.cons (o := _) rfl (fun K hK => ?_) AllReadyH.nil
  go_simp
  refine (KE.out _ hS.rd).mono ?_
  rintro e wq ⟨rfl, hb⟩
  have hS := hS.below hb
  clear hb
  go_simp
  refine hK.out _ _ hS (fun _ => ?_)
  clear hK K
  refine wpAnyH_takeD (i := 7) (d := some 26) (v := (.pointer (some ⟨g, l.length * 3, none⟩))) rfl rfl (by kernel_rfl) (by kernel_rfl) (by kernel_rfl) (fun _ _ _ h => h) (Or.inl ⟨by rfl, ?_⟩) (by assumption) ?_
  · intro X hX; go_simp
  simp only [Act.put, List.setIfInBounds_toArray, List.set_cons_zero, List.set_cons_succ]
  refine wpAnyH_takeD (i := 8) (d := some 27) (v := (.pointer (some ⟨g, l.length * 3 + 1, none⟩))) rfl rfl (by kernel_rfl) (by kernel_rfl) (by kernel_rfl) (fun _ _ _ h => h) (Or.inl ⟨by rfl, ?_⟩) (by assumption) ?_
  · intro X hX; go_simp
  simp only [Act.put, List.setIfInBounds_toArray, List.set_cons_zero, List.set_cons_succ]
  refine wpAnyH_takeD (i := 9) (d := some 28) (v := (.int .u64 mx)) rfl rfl (by kernel_rfl) (by kernel_rfl) (by kernel_rfl) (fun _ _ _ h => h) (Or.inl ⟨by rfl, ?_⟩) (by assumption) ?_
  · intro X hX; obtain ⟨d0, d1, d2, d3, d4⟩ := hX; go_simp
  simp only [Act.put, List.setIfInBounds_toArray, List.set_cons_zero, List.set_cons_succ]
  refine wpAnyH_takeD (i := 10) (d := some 29) (v := (.bool false)) rfl rfl (by kernel_rfl) (by kernel_rfl) (by kernel_rfl) (fun _ _ _ h => h) (Or.inl ⟨by rfl, ?_⟩) (by assumption) ?_
  · intro X hX; go_simp
  simp only [Act.put, List.setIfInBounds_toArray, List.set_cons_zero, List.set_cons_succ]
  refine wpAnyH_takeD (i := 11) (d := some 30) (v := (.bool false)) rfl rfl (by kernel_rfl) (by kernel_rfl) (by kernel_rfl) (fun _ _ _ h => h) (Or.inl ⟨by rfl, ?_⟩) (by assumption) ?_
  · intro X hX; go_simp
  simp only [Act.put, List.setIfInBounds_toArray, List.set_cons_zero, List.set_cons_succ]
  refine wpAnyH_done (by kernel_rfl) ?_ _
  have hT0 : HiT r lm fn (.slice (some ⟨g, 0, none⟩) (l.length + 1) cap) ents hls (.pointer (some ⟨p, 0, none⟩)) b8 lo hi _ := ⟨hS.rd, hS.s0, hS.s1⟩
  have HB0 := hide (bl_drew hS.bl)
  clear hS hS0
  go_wp2_with fail
  refine wp_region_held_drew (S := HiT r lm fn (.slice (some ⟨g, 0, none⟩) (l.length + 1) cap) ents hls (.pointer (some ⟨p, 0, none⟩)) b8 lo hi) hmx hT0.drew (fun hS => ?_)
  have hB := HB0.out
  refine wpAnyH_takeD (i := 0) (d := some 32) (v := (.pointer (some ⟨r, 0, none⟩))) rfl rfl (by kernel_rfl) (by kernel_rfl) (by kernel_rfl) (fun _ _ _ h => h) (Or.inl ⟨by rfl, ?_⟩) (by assumption) ?_
  · intro X hX; go_simp
  simp only [Act.put, List.setIfInBounds_toArray, List.set_cons_zero, List.set_cons_succ]
  refine wpAnyH_takeD (i := 2) (d := some 34) (v := (.pointer (some ⟨r, 0, none⟩))) rfl rfl (by kernel_rfl) (by kernel_rfl) (by kernel_rfl) (fun _ _ _ h => h) (Or.inl ⟨by rfl, ?_⟩) (by assumption) ?_
  · intro X hX; go_simp
  simp only [Act.put, List.setIfInBounds_toArray, List.set_cons_zero, List.set_cons_succ]
  refine wpAnyH_takeD (i := 7) (d := some 39) (v := (.agg #[.int .u64 lo, .int .u64 hi])) rfl rfl (by kernel_rfl) (by kernel_rfl) (by kernel_rfl) (fun _ _ _ h => h) (Or.inl ⟨by rfl, ?_⟩) (by assumption) ?_
  · intro X hX; obtain ⟨d0, d1, d2⟩ := hX; go_simp
  simp only [Act.put, List.setIfInBounds_toArray, List.set_cons_zero, List.set_cons_succ]
  refine wpAnyH_ready (rs := [1, 8]) (by kernel_rfl) (by simp) ?_
  refine AllReadyH.cons (o := _) rfl (fun K hK => ?_) (AllReadyH.cons (o := _) rfl (fun K hK => ?_) AllReadyH.nil)
  · skip
    go_simp
    refine (KE.out _ hS.rd).mono ?_
    rintro e wq ⟨rfl, hb⟩
    have hS := hS.below hb
    have hB := bl_trans hB hb
    clear hb
    go_simp
    refine hK.out _ _ hS (fun _ => ?_)
    clear hK K
    refine wpAnyH_ready (rs := [3, 8]) (by kernel_rfl) (by simp) ?_
    refine AllReadyH.cons (o := _) rfl (fun K hK => ?_) (AllReadyH.cons (o := _) rfl (fun K hK => ?_) AllReadyH.nil)
    · skip
      go_simp
      refine (KE.out _ hS.rd).mono ?_
      rintro e wq ⟨rfl, hb⟩
      have hS := hS.below hb
      have hB := bl_trans hB hb
      clear hb
      go_simp
      refine hK.out _ _ hS (fun _ => ?_)
      clear hK K
      refine wpAnyH_takeD (i := 4) (d := some 36) (v := (.pointer (some ⟨g, l.length * 3, none⟩))) rfl rfl (by kernel_rfl) (by kernel_rfl) (by kernel_rfl) (fun _ _ _ h => h) (Or.inl ⟨by rfl, ?_⟩) (by assumption) ?_
      · intro X hX; go_simp
      simp only [Act.put, List.setIfInBounds_toArray, List.set_cons_zero, List.set_cons_succ]
      refine wpAnyH_takeD (i := 5) (d := some 37) (v := (.pointer (some ⟨g, l.length * 3 + 2, none⟩))) rfl rfl (by kernel_rfl) (by kernel_rfl) (by kernel_rfl) (fun _ _ _ h => h) (Or.inl ⟨by rfl, ?_⟩) (by assumption) ?_
      · intro X hX; go_simp
      simp only [Act.put, List.setIfInBounds_toArray, List.set_cons_zero, List.set_cons_succ]
      refine wpAnyH_ready (rs := [6, 8]) (by kernel_rfl) (by simp) ?_
      refine AllReadyH.cons (o := _) rfl (fun K hK => ?_) (AllReadyH.cons (o := _) rfl (fun K hK => ?_) AllReadyH.nil)
      · skip
        have cH := row_hv (HCC.out _ hB).1
        go_simp
        refine hK.out _ _ hS (fun _ => ?_)
        clear hK K cH
        refine wpAnyH_ready (rs := [8]) (by kernel_rfl) (by simp) ?_
        refine AllReadyH.cons (o := _) rfl (fun K hK => ?_) AllReadyH.nil
        go_simp
        refine hK.out _ _ (hS.alloc _) (fun _ => ?_)
        clear hK K
        have R8 := hS.new8
        have hB := bl_alloc hB (.cells #[.int .u64 lo, .int .u64 hi] 68)
        have hS := hS.alloc (.cells #[.int .u64 lo, .int .u64 hi] 68)
        refine wpAnyH_ready (rs := [9]) (by kernel_rfl) (by simp) ?_
        refine AllReadyH.cons (o := _) rfl (fun K hK => ?_) AllReadyH.nil
        rw [if_pos (by rfl)]
        refine wp_append_own _ (.tmp 38) (.tmp 40) 63 rfl B 68 i0 (.agg #[.int .u64 0, .int .u64 0]) 2 16 Tryd.underlying63 hi0 hz0 hz1 hz2 rfl (by decide) _ _ _ rfl (HCC.out _ hB).1.own.row ⟨_, 0, none⟩ 1 1 [.int .u64 lo, .int .u64 hi] rfl rfl (hnew2 R8) (by intro u hu; simp at hu; rcases hu with rfl | rfl <;> rfl) (by unfold maxLen; omega) (by omega) (by have := hB.size; have := LTB.out; omega) ?_
        intro hv' w3 hown hgrow _
        obtain ⟨a', cap', rfl, _⟩ := own_len hown
        have P := hide (hi_push hbr hS (HCC.out _ hB).1 (HCC.out _ hB).2 WLO.out WHI.out N8.out NG.out hown hgrow)
        have PB := hide (B1.out.trans ((below_of hB LTW.out).trans P.out.2.2.2.2))
        clear hown hgrow hB R8
        refine hK.out _ _ P.out.1.1 (fun _ => ?_)
        clear hK K hS
        have hS := P.out.1.1
        refine wpAnyH_takeD (i := 10) (d := some 42) (v := (.pointer (some ⟨g, l.length * 3, none⟩))) rfl rfl (by kernel_rfl) (by kernel_rfl) (by kernel_rfl) (fun _ _ _ h => h) (Or.inl ⟨by rfl, ?_⟩) (by assumption) ?_
        · intro X hX; go_simp
        simp only [Act.put, List.setIfInBounds_toArray, List.set_cons_zero, List.set_cons_succ]
        refine wpAnyH_takeD (i := 11) (d := some 43) (v := (.pointer (some ⟨g, l.length * 3 + 2, none⟩))) rfl rfl (by kernel_rfl) (by kernel_rfl) (by kernel_rfl) (fun _ _ _ h => h) (Or.inl ⟨by rfl, ?_⟩) (by assumption) ?_
        · intro X hX; go_simp
        simp only [Act.put, List.setIfInBounds_toArray, List.set_cons_zero, List.set_cons_succ]
        clear hS
        have gH := P.out.1.2.1
        have fG := P.out.1.2.2
        refine wpAnyH_ready (rs := [12]) (by kernel_rfl) (by simp) ?_
        refine AllReadyH.cons (o := _) rfl (fun K hK => ?_) AllReadyH.nil
        go_simp
        refine hK.out _ _ P.out.2.1 (fun _ => ?_)
        clear hK K gH fG
        refine wpAnyH_done (by kernel_rfl) ?_ _
        have hR3 := P.out.2.1.rd
        have KH := hide (hole_any lm r fn .nilIface _ _ ents hls _ hR3 he hh)
        have D := hide (fun w2 h1 h2 => hole_post (w2 := w2) (ph := .lo) (lm := lm) (fn := fn) (ents := ents) (hls := hls) hbr hR3.typed rfl P.out.2.2.1 P.out.2.2.2.1 h1 h2)
        have HL3 := hide (show base ≤ _ from Nat.le_trans hbr (Nat.le_of_lt hR3.lt))
        rw [← hole_fn r .lo (l.map (·.1)) { cur with hs := cur.hs ++ [(lo, hi)] } ents hls] at KH
        obtain ⟨fv, efv⟩ : ∃ fv, (holeS ⟨.lo, l.map (·.1), { cur with hs := cur.hs ++ [(lo, hi)] }, ents, hls⟩).ph.fn r = fv := ⟨_, rfl⟩
        rw [efv] at KH
        have EFV := hide efv
        clear hR3 efv
        go_wp2_with fail
        refine KH.out.mono ?_
        rintro e w5 ⟨rfl, hR5, ho5⟩
        have hM := hide (D.out w5 hR5 ho5)
        have hB5 := hide (PB.out.trans (ho5.below HL3.out (fun k hk => by subst hk; exact hbr)))
        clear hR5 ho5
        go_wp2
        go_ret2
        exact ⟨by rw [EFV.out] <;> rfl, hB5.out, hM.out⟩
      · skip
        go_simp
        refine hK.out _ _ (hS.alloc _) (fun _ => ?_)
        clear hK K
        have R8 := hS.new8
        have hB := bl_alloc hB (.cells #[.int .u64 lo, .int .u64 hi] 68)
        have hS := hS.alloc (.cells #[.int .u64 lo, .int .u64 hi] 68)
        refine wpAnyH_ready (rs := [6]) (by kernel_rfl) (by simp) ?_
        refine AllReadyH.cons (o := _) rfl (fun K hK => ?_) AllReadyH.nil
        have cH := row_hv (HCC.out _ hB).1
        go_simp
        refine hK.out _ _ hS (fun _ => ?_)
        clear hK K cH
        refine wpAnyH_ready (rs := [9]) (by kernel_rfl) (by simp) ?_
        refine AllReadyH.cons (o := _) rfl (fun K hK => ?_) AllReadyH.nil
        rw [if_pos (by rfl)]
        refine wp_append_own _ (.tmp 38) (.tmp 40) 63 rfl B 68 i0 (.agg #[.int .u64 0, .int .u64 0]) 2 16 Tryd.underlying63 hi0 hz0 hz1 hz2 rfl (by decide) _ _ _ rfl (HCC.out _ hB).1.own.row ⟨_, 0, none⟩ 1 1 [.int .u64 lo, .int .u64 hi] rfl rfl (hnew2 R8) (by intro u hu; simp at hu; rcases hu with rfl | rfl <;> rfl) (by unfold maxLen; omega) (by omega) (by have := hB.size; have := LTB.out; omega) ?_
        intro hv' w3 hown hgrow _
        obtain ⟨a', cap', rfl, _⟩ := own_len hown
        have P := hide (hi_push hbr hS (HCC.out _ hB).1 (HCC.out _ hB).2 WLO.out WHI.out N8.out NG.out hown hgrow)
        have PB := hide (B1.out.trans ((below_of hB LTW.out).trans P.out.2.2.2.2))
        clear hown hgrow hB R8
        refine hK.out _ _ P.out.1.1 (fun _ => ?_)
        clear hK K hS
        have hS := P.out.1.1
        refine wpAnyH_takeD (i := 10) (d := some 42) (v := (.pointer (some ⟨g, l.length * 3, none⟩))) rfl rfl (by kernel_rfl) (by kernel_rfl) (by kernel_rfl) (fun _ _ _ h => h) (Or.inl ⟨by rfl, ?_⟩) (by assumption) ?_
        · intro X hX; go_simp
        simp only [Act.put, List.setIfInBounds_toArray, List.set_cons_zero, List.set_cons_succ]
        refine wpAnyH_takeD (i := 11) (d := some 43) (v := (.pointer (some ⟨g, l.length * 3 + 2, none⟩))) rfl rfl (by kernel_rfl) (by kernel_rfl) (by kernel_rfl) (fun _ _ _ h => h) (Or.inl ⟨by rfl, ?_⟩) (by assumption) ?_
        · intro X hX; go_simp
        simp only [Act.put, List.setIfInBounds_toArray, List.set_cons_zero, List.set_cons_succ]
        clear hS
        have gH := P.out.1.2.1
        have fG := P.out.1.2.2
        refine wpAnyH_ready (rs := [12]) (by kernel_rfl) (by simp) ?_
        refine AllReadyH.cons (o := _) rfl (fun K hK => ?_) AllReadyH.nil
        go_simp
        refine hK.out _ _ P.out.2.1 (fun _ => ?_)
        clear hK K gH fG
        refine wpAnyH_done (by kernel_rfl) ?_ _
        have hR3 := P.out.2.1.rd
        have KH := hide (hole_any lm r fn .nilIface _ _ ents hls _ hR3 he hh)
        have D := hide (fun w2 h1 h2 => hole_post (w2 := w2) (ph := .lo) (lm := lm) (fn := fn) (ents := ents) (hls := hls) hbr hR3.typed rfl P.out.2.2.1 P.out.2.2.2.1 h1 h2)
        have HL3 := hide (show base ≤ _ from Nat.le_trans hbr (Nat.le_of_lt hR3.lt))
        rw [← hole_fn r .lo (l.map (·.1)) { cur with hs := cur.hs ++ [(lo, hi)] } ents hls] at KH
        obtain ⟨fv, efv⟩ : ∃ fv, (holeS ⟨.lo, l.map (·.1), { cur with hs := cur.hs ++ [(lo, hi)] }, ents, hls⟩).ph.fn r = fv := ⟨_, rfl⟩
        rw [efv] at KH
        have EFV := hide efv
        clear hR3 efv
        go_wp2_with fail
        refine KH.out.mono ?_
        rintro e w5 ⟨rfl, hR5, ho5⟩
        have hM := hide (D.out w5 hR5 ho5)
        have hB5 := hide (PB.out.trans (ho5.below HL3.out (fun k hk => by subst hk; exact hbr)))
        clear hR5 ho5
        go_wp2
        go_ret2
        exact ⟨by rw [EFV.out] <;> rfl, hB5.out, hM.out⟩
    · skip
      go_simp
      refine hK.out _ _ (hS.alloc _) (fun _ => ?_)
      clear hK K
      have R8 := hS.new8
      have hB := bl_alloc hB (.cells #[.int .u64 lo, .int .u64 hi] 68)
      have hS := hS.alloc (.cells #[.int .u64 lo, .int .u64 hi] 68)
      refine wpAnyH_ready (rs := [3]) (by kernel_rfl) (by simp) ?_
      refine AllReadyH.cons (o := _) rfl (fun K hK => ?_) AllReadyH.nil
      go_simp
      refine (KE.out _ hS.rd).mono ?_
      rintro e wq ⟨rfl, hb⟩
      have hS := hS.below hb
      have hB := bl_trans hB hb
      have R8 := row_kept hb R8
      clear hb
      go_simp
      refine hK.out _ _ hS (fun _ => ?_)
      clear hK K
      refine wpAnyH_takeD (i := 4) (d := some 36) (v := (.pointer (some ⟨g, l.length * 3, none⟩))) rfl rfl (by kernel_rfl) (by kernel_rfl) (by kernel_rfl) (fun _ _ _ h => h) (Or.inl ⟨by rfl, ?_⟩) (by assumption) ?_
      · intro X hX; go_simp
      simp only [Act.put, List.setIfInBounds_toArray, List.set_cons_zero, List.set_cons_succ]
      refine wpAnyH_takeD (i := 5) (d := some 37) (v := (.pointer (some ⟨g, l.length * 3 + 2, none⟩))) rfl rfl (by kernel_rfl) (by kernel_rfl) (by kernel_rfl) (fun _ _ _ h => h) (Or.inl ⟨by rfl, ?_⟩) (by assumption) ?_
      · intro X hX; go_simp
      simp only [Act.put, List.setIfInBounds_toArray, List.set_cons_zero, List.set_cons_succ]
      refine wpAnyH_ready (rs := [6]) (by kernel_rfl) (by simp) ?_
      refine AllReadyH.cons (o := _) rfl (fun K hK => ?_) AllReadyH.nil
      have cH := row_hv (HCC.out _ hB).1
      go_simp
      refine hK.out _ _ hS (fun _ => ?_)
      clear hK K cH
      refine wpAnyH_ready (rs := [9]) (by kernel_rfl) (by simp) ?_
      refine AllReadyH.cons (o := _) rfl (fun K hK => ?_) AllReadyH.nil
      rw [if_pos (by rfl)]
      refine wp_append_own _ (.tmp 38) (.tmp 40) 63 rfl B 68 i0 (.agg #[.int .u64 0, .int .u64 0]) 2 16 Tryd.underlying63 hi0 hz0 hz1 hz2 rfl (by decide) _ _ _ rfl (HCC.out _ hB).1.own.row ⟨_, 0, none⟩ 1 1 [.int .u64 lo, .int .u64 hi] rfl rfl (hnew2 R8) (by intro u hu; simp at hu; rcases hu with rfl | rfl <;> rfl) (by unfold maxLen; omega) (by omega) (by have := hB.size; have := LTB.out; omega) ?_
      intro hv' w3 hown hgrow _
      obtain ⟨a', cap', rfl, _⟩ := own_len hown
      have P := hide (hi_push hbr hS (HCC.out _ hB).1 (HCC.out _ hB).2 WLO.out WHI.out N8.out NG.out hown hgrow)
      have PB := hide (B1.out.trans ((below_of hB LTW.out).trans P.out.2.2.2.2))
      clear hown hgrow hB R8
      refine hK.out _ _ P.out.1.1 (fun _ => ?_)
      clear hK K hS
      have hS := P.out.1.1
      refine wpAnyH_takeD (i := 10) (d := some 42) (v := (.pointer (some ⟨g, l.length * 3, none⟩))) rfl rfl (by kernel_rfl) (by kernel_rfl) (by kernel_rfl) (fun _ _ _ h => h) (Or.inl ⟨by rfl, ?_⟩) (by assumption) ?_
      · intro X hX; go_simp
      simp only [Act.put, List.setIfInBounds_toArray, List.set_cons_zero, List.set_cons_succ]
      refine wpAnyH_takeD (i := 11) (d := some 43) (v := (.pointer (some ⟨g, l.length * 3 + 2, none⟩))) rfl rfl (by kernel_rfl) (by kernel_rfl) (by kernel_rfl) (fun _ _ _ h => h) (Or.inl ⟨by rfl, ?_⟩) (by assumption) ?_
      · intro X hX; go_simp
      simp only [Act.put, List.setIfInBounds_toArray, List.set_cons_zero, List.set_cons_succ]
      clear hS
      have gH := P.out.1.2.1
      have fG := P.out.1.2.2
      refine wpAnyH_ready (rs := [12]) (by kernel_rfl) (by simp) ?_
      refine AllReadyH.cons (o := _) rfl (fun K hK => ?_) AllReadyH.nil
      go_simp
      refine hK.out _ _ P.out.2.1 (fun _ => ?_)
      clear hK K gH fG
      refine wpAnyH_done (by kernel_rfl) ?_ _
      have hR3 := P.out.2.1.rd
      have KH := hide (hole_any lm r fn .nilIface _ _ ents hls _ hR3 he hh)
      have D := hide (fun w2 h1 h2 => hole_post (w2 := w2) (ph := .lo) (lm := lm) (fn := fn) (ents := ents) (hls := hls) hbr hR3.typed rfl P.out.2.2.1 P.out.2.2.2.1 h1 h2)
      have HL3 := hide (show base ≤ _ from Nat.le_trans hbr (Nat.le_of_lt hR3.lt))
      rw [← hole_fn r .lo (l.map (·.1)) { cur with hs := cur.hs ++ [(lo, hi)] } ents hls] at KH
      obtain ⟨fv, efv⟩ : ∃ fv, (holeS ⟨.lo, l.map (·.1), { cur with hs := cur.hs ++ [(lo, hi)] }, ents, hls⟩).ph.fn r = fv := ⟨_, rfl⟩
      rw [efv] at KH
      have EFV := hide efv
      clear hR3 efv
      go_wp2_with fail
      refine KH.out.mono ?_
      rintro e w5 ⟨rfl, hR5, ho5⟩
      have hM := hide (D.out w5 hR5 ho5)
      have hB5 := hide (PB.out.trans (ho5.below HL3.out (fun k hk => by subst hk; exact hbr)))
      clear hR5 ho5
      go_wp2
      go_ret2
      exact ⟨by rw [EFV.out] <;> rfl, hB5.out, hM.out⟩
  · skip
    go_simp
    refine hK.out _ _ (hS.alloc _) (fun _ => ?_)
    clear hK K
    have R8 := hS.new8
    have hB := bl_alloc hB (.cells #[.int .u64 lo, .int .u64 hi] 68)
    have hS := hS.alloc (.cells #[.int .u64 lo, .int .u64 hi] 68)
    refine wpAnyH_ready (rs := [1]) (by kernel_rfl) (by simp) ?_
    refine AllReadyH.cons (o := _) rfl (fun K hK => ?_) AllReadyH.nil
    go_simp
    refine (KE.out _ hS.rd).mono ?_
    rintro e wq ⟨rfl, hb⟩
    have hS := hS.below hb
    have hB := bl_trans hB hb
    have R8 := row_kept hb R8
    clear hb
    go_simp
    refine hK.out _ _ hS (fun _ => ?_)
    clear hK K
    refine wpAnyH_ready (rs := [3]) (by kernel_rfl) (by simp) ?_
    refine AllReadyH.cons (o := _) rfl (fun K hK => ?_) AllReadyH.nil
    go_simp
    refine (KE.out _ hS.rd).mono ?_
    rintro e wq ⟨rfl, hb⟩
    have hS := hS.below hb
    have hB := bl_trans hB hb
    have R8 := row_kept hb R8
    clear hb
    go_simp
    refine hK.out _ _ hS (fun _ => ?_)
    clear hK K
    refine wpAnyH_takeD (i := 4) (d := some 36) (v := (.pointer (some ⟨g, l.length * 3, none⟩))) rfl rfl (by kernel_rfl) (by kernel_rfl) (by kernel_rfl) (fun _ _ _ h => h) (Or.inl ⟨by rfl, ?_⟩) (by assumption) ?_
    · intro X hX; go_simp
    simp only [Act.put, List.setIfInBounds_toArray, List.set_cons_zero, List.set_cons_succ]
    refine wpAnyH_takeD (i := 5) (d := some 37) (v := (.pointer (some ⟨g, l.length * 3 + 2, none⟩))) rfl rfl (by kernel_rfl) (by kernel_rfl) (by kernel_rfl) (fun _ _ _ h => h) (Or.inl ⟨by rfl, ?_⟩) (by assumption) ?_
    · intro X hX; go_simp
    simp only [Act.put, List.setIfInBounds_toArray, List.set_cons_zero, List.set_cons_succ]
    refine wpAnyH_ready (rs := [6]) (by kernel_rfl) (by simp) ?_
    refine AllReadyH.cons (o := _) rfl (fun K hK => ?_) AllReadyH.nil
    have cH := row_hv (HCC.out _ hB).1
    go_simp
    refine hK.out _ _ hS (fun _ => ?_)
    clear hK K cH
    refine wpAnyH_ready (rs := [9]) (by kernel_rfl) (by simp) ?_
    refine AllReadyH.cons (o := _) rfl (fun K hK => ?_) AllReadyH.nil
    rw [if_pos (by rfl)]
    refine wp_append_own _ (.tmp 38) (.tmp 40) 63 rfl B 68 i0 (.agg #[.int .u64 0, .int .u64 0]) 2 16 Tryd.underlying63 hi0 hz0 hz1 hz2 rfl (by decide) _ _ _ rfl (HCC.out _ hB).1.own.row ⟨_, 0, none⟩ 1 1 [.int .u64 lo, .int .u64 hi] rfl rfl (hnew2 R8) (by intro u hu; simp at hu; rcases hu with rfl | rfl <;> rfl) (by unfold maxLen; omega) (by omega) (by have := hB.size; have := LTB.out; omega) ?_
    intro hv' w3 hown hgrow _
    obtain ⟨a', cap', rfl, _⟩ := own_len hown
    have P := hide (hi_push hbr hS (HCC.out _ hB).1 (HCC.out _ hB).2 WLO.out WHI.out N8.out NG.out hown hgrow)
    have PB := hide (B1.out.trans ((below_of hB LTW.out).trans P.out.2.2.2.2))
    clear hown hgrow hB R8
    refine hK.out _ _ P.out.1.1 (fun _ => ?_)
    clear hK K hS
    have hS := P.out.1.1
    refine wpAnyH_takeD (i := 10) (d := some 42) (v := (.pointer (some ⟨g, l.length * 3, none⟩))) rfl rfl (by kernel_rfl) (by kernel_rfl) (by kernel_rfl) (fun _ _ _ h => h) (Or.inl ⟨by rfl, ?_⟩) (by assumption) ?_
    · intro X hX; go_simp
    simp only [Act.put, List.setIfInBounds_toArray, List.set_cons_zero, List.set_cons_succ]
    refine wpAnyH_takeD (i := 11) (d := some 43) (v := (.pointer (some ⟨g, l.length * 3 + 2, none⟩))) rfl rfl (by kernel_rfl) (by kernel_rfl) (by kernel_rfl) (fun _ _ _ h => h) (Or.inl ⟨by rfl, ?_⟩) (by assumption) ?_
    · intro X hX; go_simp
    simp only [Act.put, List.setIfInBounds_toArray, List.set_cons_zero, List.set_cons_succ]
    clear hS
    have gH := P.out.1.2.1
    have fG := P.out.1.2.2
    refine wpAnyH_ready (rs := [12]) (by kernel_rfl) (by simp) ?_
    refine AllReadyH.cons (o := _) rfl (fun K hK => ?_) AllReadyH.nil
    go_simp
    refine hK.out _ _ P.out.2.1 (fun _ => ?_)
    clear hK K gH fG
    refine wpAnyH_done (by kernel_rfl) ?_ _
    have hR3 := P.out.2.1.rd
    have KH := hide (hole_any lm r fn .nilIface _ _ ents hls _ hR3 he hh)
    have D := hide (fun w2 h1 h2 => hole_post (w2 := w2) (ph := .lo) (lm := lm) (fn := fn) (ents := ents) (hls := hls) hbr hR3.typed rfl P.out.2.2.1 P.out.2.2.2.1 h1 h2)
    have HL3 := hide (show base ≤ _ from Nat.le_trans hbr (Nat.le_of_lt hR3.lt))
    rw [← hole_fn r .lo (l.map (·.1)) { cur with hs := cur.hs ++ [(lo, hi)] } ents hls] at KH
    obtain ⟨fv, efv⟩ : ∃ fv, (holeS ⟨.lo, l.map (·.1), { cur with hs := cur.hs ++ [(lo, hi)] }, ents, hls⟩).ph.fn r = fv := ⟨_, rfl⟩
    rw [efv] at KH
    have EFV := hide efv
    clear hR3 efv
    go_wp2_with fail
    refine KH.out.mono ?_
    rintro e w5 ⟨rfl, hR5, ho5⟩
    have hM := hide (D.out w5 hR5 ho5)
    have hB5 := hide (PB.out.trans (ho5.below HL3.out (fun k hk => by subst hk; exact hbr)))
    clear hR5 ho5
    go_wp2
    go_ret2
    exact ⟨by rw [EFV.out] <;> rfl, hB5.out, hM.out⟩

theorem hi_any (lm : Lim) (base r : Nat) (lo : Int) (fn : Value) (s : St) (x rest : Int) (w : World) (h : MemF w base r lm fn .nilIface s) (hp : s.ph = .hi lo) (hx : Word x) (he : 0 < s.ents ∧ s.ents < 18446744073709551616) (hh : 0 ≤ s.hls ∧ s.hls < 18446744073709551616) (hm : s.cur.hs.length ≤ 1000000) :
    Calls Tryd.prog 104 #[.pointer (some ⟨r, 0, none⟩), .int .u64 x, .int .i64 rest] w fun e w' => StepPost lm base r fn (stepS lm s x rest) w e w' := by
  obtain ⟨ph, es, cur, ents, hls⟩ := s
  obtain rfl : ph = .hi lo := hp
  obtain ⟨hbr, v, cp, hR, l, B, hv, p, lo', llo, lhi, sm, f, hes, hC, hK⟩ := h
  have hes' : l.map (·.1) = es := hes
  subst hes'
  obtain ⟨e1, hl⟩ := hK.opn lo rfl
  subst e1
  have e0 : stepS lm ⟨.hi lo', l.map (·.1), cur, ents, hls⟩ x rest = if lo' + x < 18446744073709551616 ∧ lo' + x < cur.mx then .ok (holeS ⟨.hi lo', l.map (·.1), { cur with hs := cur.hs ++ [(lo', lo' + x)] }, ents, hls⟩) else .error 8 := rfl
  have eh : holeS ⟨.hi lo', l.map (·.1), { cur with hs := cur.hs ++ [(lo', lo' + x)] }, ents, hls⟩ = holeS ⟨.lo, l.map (·.1), { cur with hs := cur.hs ++ [(lo', lo' + x)] }, ents, hls⟩ := by unfold holeS; rfl
  obtain ⟨g, cap, rfl, _⟩ := row_slice hC
  by_cases hs : lo' + x < 18446744073709551616
  · by_cases hq : lo' + x < cur.mx
    · refine (hi_good lm base r p g cap B fn cp hv l cur ents hls x rest lo' llo lhi sm f w hbr hR hC hK hl hx hs hq hm he hh).mono ?_
      rintro e w' ⟨h1, hb, hM⟩
      exact .ok ((e0.trans (if_pos ⟨hs, hq⟩)).trans (by rw [eh])) hb h1 hM
    · refine (hi_large lm base r p g cap B fn cp hv l cur ents hls x rest lo' llo lhi sm f w hbr hR hC hK hl hx hs (by omega)).mono ?_
      rintro e w' ⟨h1, hb, hr⟩
      exact .err (e0.trans (if_neg (fun h => hq h.2))) hb h1 _ _ _ _ hr
  · refine (hi_over lm base r p fn _ cp cur ents hls x rest lo' llo lhi sm f w hR hK hl hx hs).mono ?_
    rintro e w' ⟨h1, hb⟩
    exact .err (e0.trans (if_neg (fun h => hs h.1))) (below_of hb (by have := hR.lt; omega)) h1 _ _ _ _ (hR.below hb)
end Go.Proofs.YtppeogalaikopaaDoor
namespace Go.Proofs.YtppeogalaikopaaDoor
open Go Go.RowKit

/-- What holds of every state in front of a number. -/
structure StI (s : St) (a : Int) : Prop where
  ph : s.ph ≠ .fin
  ents : s.ph = .count ∨ (0 < s.ents ∧ s.ents < 18446744073709551616)
  hls : 0 ≤ s.hls ∧ s.hls < 18446744073709551616
  es : (s.es.length : Int) ≤ a
  hs : (s.cur.hs.length : Int) ≤ a
theorem stI_0 (a : Int) (ha : 0 ≤ a) : StI St0 a := ⟨(by simp [St0]), .inl rfl, by decide, by simpa [St0] using ha, by simpa [St0] using ha⟩
theorem limitC_err {x l n c : Int} (h : limitC x l n = c) (hc : c ≠ 0) : c = 5 ∨ c = 7 := by
  have := limitC_or x l n
  omega
theorem step_err {lm : Lim} {s : St} {x rest c : Int} (h : stepS lm s x rest = .error c) : c = 5 ∨ c = 7 ∨ c = 8 ∨ c = 9 := by
  obtain ⟨ph, es, cur, ents, hls⟩ := s
  unfold stepS at h
  cases ph <;> simp only at h
  all_goals (repeat' split at h) <;> cases h
  all_goals first
    | (right; right; left; rfl)
    | (right; right; right; rfl)
    | (rename_i hh; rcases limitC_err rfl hh with g | g <;> omega)
theorem holeS_inv {s : St} {a n : Int} (he : 0 < s.ents ∧ s.ents < 18446744073709551616) (hh : 0 ≤ s.hls ∧ s.hls < 18446744073709551616) (h1 : (s.es.length : Int) ≤ a) (h2 : (s.cur.hs.length : Int) ≤ n) (ha : a < n) (hf : (holeS s).ph ≠ .fin) : StI (holeS s) n := by
  obtain ⟨ph, es, cur, ents, hls⟩ := s
  simp only at he hh h1 h2
  unfold holeS at hf ⊢
  simp only at hf ⊢
  by_cases g : 0 < hls
  · rw [if_pos g] at hf ⊢
    exact ⟨hf, .inr he, by simp only; omega, by simp only; omega, h2⟩
  · rw [if_neg g] at hf ⊢
    by_cases g2 : 0 < ents - 1
    · rw [if_pos g2] at hf ⊢
      exact ⟨hf, .inr (by simp only; omega), hh, by simp; omega, h2⟩
    · rw [if_neg g2] at hf
      exact absurd rfl hf
theorem step_inv {lm : Lim} {s s' : St} {x rest a n : Int} (h : stepS lm s x rest = .ok s') (hI : StI s a) (hx : Word x) (ha : a < n) (hf : s'.ph ≠ .fin) : StI s' n := by
  have hx1 := hx.1
  have hx2 := hx.2
  obtain ⟨p1, p2, p3, p4, p5⟩ := hI
  obtain ⟨ph, es, cur, ents, hls⟩ := s
  simp only at p1 p2 p3 p4 p5
  unfold stepS at h
  cases ph with
  | count =>
    simp only at h
    split at h
    · cases h
    · split at h
      · cases h
      · cases h
        exact ⟨hf, .inr (by simp only; omega), p3, by simp only; omega, by simp only; omega⟩
  | rep =>
    simp only at h
    have he := p2.resolve_left (by simp)
    split at h
    · cases h; exact ⟨hf, .inr he, p3, by simp only; omega, by simp; omega⟩
    · split at h
      · cases h; exact ⟨hf, .inr he, p3, by simp only; omega, by simp; omega⟩
      · cases h
  | top =>
    simp only at h
    have he := p2.resolve_left (by simp)
    cases h
    exact ⟨hf, .inr he, p3, by simp only; omega, by simp only; omega⟩
  | op =>
    simp only at h
    have he := p2.resolve_left (by simp)
    split at h
    · cases h
    · cases h
      exact holeS_inv he ⟨hx1, hx2⟩ p4 (by simp only; omega) ha hf
  | lo =>
    simp only at h
    have he := p2.resolve_left (by simp)
    split at h
    · cases h; exact ⟨hf, .inr he, p3, by simp only; omega, by simp only; omega⟩
    · split at h
      · cases h; exact ⟨hf, .inr he, p3, by simp only; omega, by simp only; omega⟩
      · cases h
  | hi l =>
    simp only at h
    have he := p2.resolve_left (by simp)
    split at h
    · cases h
      exact holeS_inv he p3 p4 (by simp; omega) ha hf
    · cases h
  | fin => exact absurd rfl p1

/-- What Put does. -/
structure PutPost (lm : Lim) (base r : Nat) (o : Except Int St) (w : World) (e : Ending) (w' : World) : Prop where
  below : Below base w w'
  bad : ∀ c, o = .error c → e = .returned (.tuple #[.bool true, .iface 44 (.int .i64 c)]) ∧ ∃ v cp en hl, RdR w' r lm .nilFunc (.iface 44 (.int .i64 c)) v en hl cp
  good : ∀ s', o = .ok s' → e = .returned (.tuple #[.bool s'.ph.isFin, .nilIface]) ∧ MemF w' base r lm (s'.ph.fn r) .nilIface s'
theorem fin_iff {p : Ph} : p.isFin = false ↔ p ≠ .fin := by cases p <;> simp [Ph.isFin]
theorem fin_is {p : Ph} (h : p.isFin = true) : p = .fin := by cases p <;> simp_all [Ph.isFin]
def Ph.fid : Ph → FuncId
  | .count => 44
  | .rep => 66
  | .top => 81
  | .op => 90
  | .lo => 102
  | .hi _ => 104
  | .fin => 104
theorem fn_fid {p : Ph} (r : Nat) (h : p.isFin = false) : p.fn r = fnV r p.fid := by cases p <;> first | rfl | cases h
theorem fn_fin {p : Ph} (r : Nat) (h : p.isFin = true) : p.fn r = .nilFunc := by rw [fin_is h]; rfl
theorem rput_from {lm : Lim} {base r : Nat} {s : St} {x rest : Int} {w : World} {F : FuncId} (hfn : s.ph.fn r = fnV r F) (hF : Enters F) (h : MemF w base r lm (s.ph.fn r) .nilIface s)
    (KF : Calls Tryd.prog F #[.pointer (some ⟨r, 0, none⟩), .int .u64 x, .int .i64 rest] w fun e w' => StepPost lm base r (s.ph.fn r) (stepS lm s x rest) w e w') :
    Calls Tryd.prog 25 #[.pointer (some ⟨r, 0, none⟩), .int .u64 x, .int .i64 rest] w fun e w' => PutPost lm base r (stepS lm s x rest) w e w' := by
  obtain ⟨hbr, v, cp, hR, _⟩ := h
  rw [hfn] at hR KF
  have bel : ∀ {w1 w' : World} {x y : Value}, Below base w w1 → Below ((w1.setCell ⟨r, 5, none⟩ x).setCell ⟨r, 6, none⟩ y).heap.size ((w1.setCell ⟨r, 5, none⟩ x).setCell ⟨r, 6, none⟩ y) w' → Below base w w' := by
    intro w1 w' x y h1 h2
    have h3 : Below base w ((w1.setCell ⟨r, 5, none⟩ x).setCell ⟨r, 6, none⟩ y) := (h1.setCell (p := ⟨r, 5, none⟩) hbr _).setCell (p := ⟨r, 6, none⟩) hbr _
    have := hR.lt
    have := h3.size
    exact h3.trans (below_of h2 (by omega))
  cases ho : stepS lm s x rest with
  | error c =>
    have hc : c ≠ 0 := by rcases step_err ho with g | g | g | g <;> omega
    have ec : errE c = .iface 44 (.int .i64 c) := by unfold errE; rw [if_neg hc]
    rw [ho] at KF
    refine (rput_err lm r F c x rest v cp s.ents s.hls (fun w1 => Below base w w1 ∧ ∃ v cp en hl, RdR w1 r lm (fnV r F) .nilIface v en hl cp) w hR (KF.mono fun e w1 hp => ?_) (fun w1 h1 => h1.2) hF).mono ?_
    · obtain ⟨he, hr⟩ := hp.bad c rfl
      rw [ec] at he
      exact ⟨he, hp.below, hr⟩
    · rintro e w' ⟨rfl, w1, ⟨hb, v1, cp1, en1, hl1, hr⟩, hb'⟩
      exact ⟨bel hb hb', fun c' hc' => (by cases hc'; exact ⟨rfl, v1, cp1, en1, hl1, ((hr.s5 _).s6 _).below hb'⟩), fun s' hs' => (by cases hs')⟩
  | ok s' =>
    rw [ho] at KF
    cases hf : s'.ph.isFin with
    | true =>
      refine (rput_fin lm r F x rest v cp s.ents s.hls (fun w1 => Below base w w1 ∧ MemF w1 base r lm (fnV r F) .nilIface s') w hR (KF.mono fun e w1 hp => ?_) (fun w1 h1 => ?_) hF).mono ?_
      · obtain ⟨he, hr⟩ := hp.good s' rfl
        rw [fn_fin r hf] at he
        exact ⟨he, hp.below, hr⟩
      · obtain ⟨_, _, v1, cp1, hr, _⟩ := h1
        exact ⟨v1, cp1, _, _, hr⟩
      · rintro e w' ⟨rfl, w1, ⟨hb, hm⟩, hb'⟩
        refine ⟨bel hb hb', fun c' hc' => (by cases hc'), fun s'' hs' => ?_⟩
        cases hs'
        rw [hf, fn_fin r hf]
        exact ⟨rfl, (hm.store _ _).below hb'⟩
    | false =>
      refine (rput_next lm r F s'.ph.fid x rest v cp s.ents s.hls (fun w1 => Below base w w1 ∧ MemF w1 base r lm (fnV r F) .nilIface s') w hR (KF.mono fun e w1 hp => ?_) (fun w1 h1 => ?_) hF).mono ?_
      · obtain ⟨he, hr⟩ := hp.good s' rfl
        rw [fn_fid r hf] at he
        exact ⟨he, hp.below, hr⟩
      · obtain ⟨_, _, v1, cp1, hr, _⟩ := h1
        exact ⟨v1, cp1, _, _, hr⟩
      · rintro e w' ⟨rfl, w1, ⟨hb, hm⟩, hb'⟩
        refine ⟨bel hb hb', fun c' hc' => (by cases hc'), fun s'' hs' => ?_⟩
        cases hs'
        rw [hf, fn_fid r hf]
        exact ⟨rfl, (hm.store _ _).below hb'⟩
theorem rput_any (lm : Lim) (hlm : LimW lm) (base r : Nat) (s : St) (x rest a : Int) (w : World) (h : MemF w base r lm (s.ph.fn r) .nilIface s) (hI : StI s a) (ha : a ≤ 1000000) (hx : Word x) (hr : -9223372036854775808 ≤ rest ∧ rest ≤ 9223372036854775807) :
    Calls Tryd.prog 25 #[.pointer (some ⟨r, 0, none⟩), .int .u64 x, .int .i64 rest] w fun e w' => PutPost lm base r (stepS lm s x rest) w e w' := by
  have he : s.es.length ≤ 1000000 := by have := hI.es; omega
  have hh : s.cur.hs.length ≤ 1000000 := by have := hI.hs; omega
  cases hp : s.ph with
  | count => exact rput_from (F := 44) (by rw [hp]; rfl) ent0 h (count_any lm hlm base r _ s x rest w h hp hx hr)
  | rep => exact rput_from (F := 66) (by rw [hp]; rfl) ent1 h (rep_any lm base r _ s x rest w h hp hx he)
  | top => exact rput_from (F := 81) (by rw [hp]; rfl) ent2 h (top_any lm base r _ s x rest w h hp hx)
  | op => exact rput_from (F := 90) (by rw [hp]; rfl) ent3 h (open_any lm hlm base r _ s x rest w h hp hx hr (hI.ents.resolve_left (by rw [hp]; simp)))
  | lo => exact rput_from (F := 102) (by rw [hp]; rfl) ent4 h (lo_any lm base r _ s x rest w h hp hx)
  | hi l => exact rput_from (F := 104) (by rw [hp]; rfl) ent5 h (hi_any lm base r l _ s x rest w h hp hx (hI.ents.resolve_left (by rw [hp]; simp)) hI.hls hh)
  | fin => exact absurd hp hI.ph
end Go.Proofs.YtppeogalaikopaaDoor
namespace Go.Proofs.YtppeogalaikopaaDoor
open Go Go.RowKit

/-- What pack.Read returns. -/
def readR (base : Nat) (o : Except (Int × Int) (List Ent × Int)) (e : Ending) (w' : World) : Prop :=
  match o with
  | .error (c, a) => e = .returned (.tuple #[.slice none 0 0, .int .i64 0, .iface 85 (.agg #[.int .i64 c, .int .i64 a])])
  | .ok (es, n) => ∃ v l, e = .returned (.tuple #[v, .int .i64 n, .nilIface]) ∧ l.map (·.1) = es ∧ RowF w' base v l
theorem memF_fin {w : World} {base r : Nat} {lm : Lim} {fn er : Value} {s : St} (h : MemF w base r lm fn er s) (hf : s.ph.isFin = true) : ∃ v cp l, RdR w r lm fn er v s.ents s.hls cp ∧ l.map (·.1) = s.es ∧ RowF w base v l := by
  obtain ⟨_, v, cp, hR, hP⟩ := h
  obtain ⟨ph, es, cur, ents, hls⟩ := s
  obtain rfl : ph = .fin := fin_is hf
  obtain ⟨l, h1, h2⟩ := hP
  exact ⟨v, cp, l, hR, h1, h2⟩
theorem RowF.below {w w' : World} {base : Nat} {v : Value} {l : List EV} (h : RowF w base v l) (hb : Below w.heap.size w w') : RowF w' base v l :=
  h.only (may := fun _ => False) (Only.of_below hb) fun _ hk => hk.elim
theorem rput_eq (lm : Lim) (hlm : LimW lm) (base r : Nat) (s : St) (x rest a : Int) (o : Except Int St) (ho : stepS lm s x rest = o) (w : World) (h : MemF w base r lm (s.ph.fn r) .nilIface s) (hI : StI s a) (ha : a ≤ 1000000) (hx : Word x) (hr : -9223372036854775808 ≤ rest ∧ rest ≤ 9223372036854775807) :
    Calls Tryd.prog 25 #[.pointer (some ⟨r, 0, none⟩), .int .u64 x, .int .i64 rest] w fun e w' => PutPost lm base r o w e w' := by
  subst ho
  exact rput_any lm hlm base r s x rest a w h hI ha hx hr

set_option maxRecDepth 100000 in
set_option maxHeartbeats 3200000 in
theorem pread_any (p : Option Addr) (len cap : Nat) (zs : List Int) (at' : Nat) (lm : Lim) (hlm : LimW lm) (o : Except (Int × Int) (List Ent × Int)) (w : World) (hg : Laid w) (h : Ints .u8 w p len zs) (hcap : len ≤ cap) (hlen : len ≤ 1000000) (ha : at' ≤ len) (hr : Run lm zs St0 at' o) :
    Calls Tryd.prog 16 #[.slice p len cap, .int .i64 at', .agg #[.int .i64 lm.f, .int .i64 lm.ve, .int .i64 lm.en, .int .i64 lm.ho, .int .i64 lm.se]] w fun e w' => Below w.heap.size w w' ∧ readR w.heap.size o e w' := by
  have hl := h.length
  have LAID := hide hg
  have INTS := hide h
  have HR := hide hr
  have BEG := hide (fun W (hW : w.heap.size ≤ W.heap.size) => begin_any lm w.heap.size W hW)
  clear hg h hr
  go_enter Tryd.func16, Tryd.ntmps16
  go_wp2_with fail
  refine (BEG.out _ (by simp)).mono ?_
  rintro e w1 ⟨r, rfl, hr1, hm1, hb1⟩
  have MEM := hide hm1
  have B1 := hide (bl_trans (bl_alloc (Below.refl _ _) _) hb1)
  clear hm1 hb1 hr1
  go_wp2_with fail
  go_loopw [1] (fun c wr => ∃ (s : St) (a : Nat), c = .int .i64 a ∧ a ≤ len ∧ Run lm zs s a o ∧ StI s a ∧ MemF wr w.heap.size r lm (s.ph.fn r) .nilIface s ∧ Below w.heap.size w wr)
    (fun c _ => len - (intOf c).toNat)
  case atStart => exact ⟨St0, at', rfl, ha, HR.out, stI_0 _ (by omega), MEM.out, B1.out⟩
  case round =>
    obtain ⟨s, a, rfl, hal, hrun, hI, hM, hb⟩ := hrel
    clear MEM B1
    have HM := hide hM
    have HB := hide hb
    obtain ⟨q, hq⟩ := rd_some zs a
    have KR := hide (rd_any p len cap zs a q wr (INTS.out.below hb) hcap hlen (by omega) hq)
    cases q with
    | error c =>
      have ho := run_err hrun hq
      subst ho
      rw [show rdV (a : Int) (.error c) = .tuple #[.int .u64 0, .int .i64 0, .iface 85 (.agg #[.int .i64 c, .int .i64 a])] from rfl] at KR
      clear hrun hq hI hM hb HR
      go_wp2_with fail
      refine KR.out.mono ?_
      rintro e w2 ⟨rfl, hb2⟩
      have B2 := hide (bl_trans HB.out hb2)
      clear hb2
      go_wp2
      go_ret3
      exact ⟨B2.out, rfl⟩
    | ok q =>
      obtain ⟨x, n⟩ := q
      obtain ⟨_, hn1, hn2, hxw⟩ := rd_ok hq
      obtain ⟨n, rfl⟩ : ∃ m : Nat, n = m := ⟨n.toNat, by omega⟩
      rw [show rdV (a : Int) (.ok (x, (n : Int))) = .tuple #[.int .u64 x, .int .i64 n, .nilIface] from rfl] at KR
      have q0 : IntKind.i64.wrap ((len : Int) - n) = (len : Int) - n := by rw [IntKind.wrap_i64]; omega
      cases hs : stepS lm s x (zs.length - n) with
      | error c =>
        have ho := run_stop hrun hq hs
        subst ho
        have hc : c ≠ 0 := by rcases step_err hs with g | g | g | g <;> omega
        have KP := hide (fun W hM' => rput_eq lm hlm w.heap.size r s x (len - n) a (.error c) (by rw [← hl]; exact hs) W hM' hI (by omega) hxw (by omega))
        have FN := hide (fun W => fnew_any c a hc W)
        clear hrun hq hI hM hb HR hs hxw
        go_wp2_with fail
        refine KR.out.mono ?_
        rintro e w2 ⟨rfl, hb2⟩
        have B2 := hide (bl_trans HB.out hb2)
        have HM2 := hide (HM.out.below hb2)
        clear hb2
        go_wp2_with fail
        refine (KP.out _ HM2.out).mono ?_
        rintro e w3 hp
        obtain ⟨rfl, _⟩ := hp.bad c rfl
        have B3 := hide (B2.out.trans hp.below)
        clear hp
        go_wp2_with fail
        refine (as_EE c _ (.int .i64 0) _ (((LAID.out.below B3.out)).alloc _) (by simp) (by simp)).mono ?_
        rintro e w5 ⟨rfl, w4, hb4, rfl⟩
        have k4 : w4.cell? ⟨w3.heap.size, 0, none⟩ = some (.int .i64 0) := keep_cell hb4 (by simp) (by simp)
        have B4 := hide ((bl_trans (bl_alloc B3.out _) hb4).setCell (p := ⟨w3.heap.size, 0, none⟩) (by have := B3.out.size; exact this) (.int .i64 c))
        clear hb4
        go_wp2_with fail
        refine (FN.out _).mono ?_
        rintro e w5 ⟨rfl, rfl⟩
        go_wp2
        go_ret3
        exact ⟨B4.out, rfl⟩
      | ok s' =>
        have KP := hide (fun W hM' => rput_eq lm hlm w.heap.size r s x (len - n) a (.ok s') (by rw [← hl]; exact hs) W hM' hI (by omega) hxw (by omega))
        cases hf : s'.ph.isFin with
        | false =>
          have hrun' := hide (run_next hrun hq hs hf)
          have hI' := hide (step_inv hs hI hxw hn1 (fin_iff.1 hf))
          clear hrun hq hI hM hb HR hs hxw
          go_wp2_with fail
          refine KR.out.mono ?_
          rintro e w2 ⟨rfl, hb2⟩
          have B2 := hide (bl_trans HB.out hb2)
          have HM2 := hide (HM.out.below hb2)
          clear hb2
          go_wp2_with fail
          refine (KP.out _ HM2.out).mono ?_
          rintro e w3 hp
          obtain ⟨he, hm3⟩ := hp.good s' rfl
          rw [hf] at he
          subst he
          have B3 := hide (B2.out.trans hp.below)
          have HM3 := hide hm3
          clear hp hm3
          go_wp2_with fail
          refine (as_nil _ _).mono ?_
          rintro e w5 ⟨rfl, rfl⟩
          go_wp2
          go_roundw
          case rel => exact ⟨s', n, rfl, by omega, hrun'.out, hI'.out, HM3.out.below (bl_alloc (Below.refl _ _) _), bl_alloc B3.out _⟩
          case measure => simp [intOf]; omega
        | true =>
          have ho := run_fin hrun hq hs hf
          subst ho
          clear hrun hq hI hM hb HR hs hxw
          go_wp2_with fail
          refine KR.out.mono ?_
          rintro e w2 ⟨rfl, hb2⟩
          have B2 := hide (bl_trans HB.out hb2)
          have HM2 := hide (HM.out.below hb2)
          clear hb2
          go_wp2_with fail
          refine (KP.out _ HM2.out).mono ?_
          rintro e w3 hp
          obtain ⟨he, hm3⟩ := hp.good s' rfl
          rw [hf] at he
          subst he
          rw [fn_fin r hf] at hm3
          obtain ⟨v, cp, l, hR3, hl3, hF3⟩ := memF_fin hm3 hf
          have B3 := hide (B2.out.trans hp.below)
          have HR3 := hide (hR3.below (bl_alloc (Below.refl w3.heap.size w3) (.cells #[.int .i64 0] 44)))
          have HF3 := hide (hF3.below (bl_alloc (Below.refl w3.heap.size w3) (.cells #[.int .i64 0] 44)))
          have HL3 := hide hl3
          clear hp hm3 hR3 hF3 hl3
          go_wp2_with fail
          refine (as_nil _ _).mono ?_
          rintro e w5 ⟨rfl, rfl⟩
          go_wp2_with fail
          refine (vector_fin lm r v cp _ _ _ HR3.out).mono ?_
          rintro e w6 ⟨rfl, hb6⟩
          have B6 := hide (bl_trans (bl_alloc B3.out _) hb6)
          have HF6 := hide (HF3.out.below hb6)
          clear hb6
          go_wp2
          go_ret3
          exact ⟨B6.out, v, l, rfl, HL3.out, HF6.out⟩
end Go.Proofs.YtppeogalaikopaaDoor
namespace Go.Proofs.YtppeogalaikopaaDoor
open Go Go.RowKit
set_option linter.unusedSimpArgs false

/-- The holes of an entry, as its value has them. -/
structure HolesAt (w : World) (p : EV) : Prop where
  at' : ∃ a cap, p.2 = .slice a p.1.hs.length cap ∧ Prs w a p.1.hs.length p.1.hs ∧ p.1.hs.length ≤ cap
theorem HolesAt.below {w w' : World} {p : EV} (h : HolesAt w p) (hb : Below w.heap.size w w') : HolesAt w' p := by
  obtain ⟨a, cap, h1, h2, h3⟩ := h.at'
  exact ⟨a, cap, h1, h2.below hb, h3⟩
/-- A row of entries that can be read. -/
structure EntsAt (w : World) (a : Option Addr) (len : Nat) (l : List EV) : Prop where
  length : l.length = len
  most : len ≤ 9223372036854775807
  words : ∀ p ∈ l, EntW p.1
  holes : ∀ p ∈ l, HolesAt w p
  cells : ∀ i, i < len → ∃ b off, a = some ⟨b, off, none⟩ ∧ b < w.heap.size ∧ w.cell? ⟨b, off + i * 3, none⟩ = some (.int .u64 (l.getD i EV.z).1.rep) ∧ w.cell? ⟨b, off + i * 3 + 1, none⟩ = some (.int .u64 (l.getD i EV.z).1.mx) ∧ w.cell? ⟨b, off + i * 3 + 2, none⟩ = some (l.getD i EV.z).2
theorem EntsAt.below {w w' : World} {a : Option Addr} {len : Nat} {l : List EV} (h : EntsAt w a len l) (hb : Below w.heap.size w w') : EntsAt w' a len l :=
  ⟨h.length, h.most, h.words, fun p hp => (h.holes p hp).below hb, fun i hi => by
    obtain ⟨b, off, e, hlt, h1, h2, h3⟩ := h.cells i hi
    exact ⟨b, off, e, Nat.lt_of_lt_of_le hlt hb.size, keep_cell hb hlt h1, keep_cell hb hlt h2, keep_cell hb hlt h3⟩⟩
theorem EntsAt.mem {w : World} {a : Option Addr} {len : Nat} {l : List EV} (h : EntsAt w a len l) {i : Nat} (hi : i < len) : l.getD i EV.z ∈ l := getD_mem (by have := h.length; omega)
theorem RowF.ents {w : World} {base : Nat} {v : Value} {l : List EV} (h : RowF w base v l) : ∃ a cap, v = .slice a l.length cap ∧ EntsAt w a l.length l ∧ l.length ≤ cap := by
  have hh : ∀ p ∈ l, HolesAt w p := fun p hp => by
    obtain ⟨a, cap, h1, h2, h3, _⟩ := h.fins p hp
    exact ⟨a, cap, h1, h2, h3⟩
  rcases h.row.2 with ⟨rfl, hn⟩ | ⟨g, cap, cur, rfl, hbg, hg, hle, hm, hs, ht⟩
  · exact ⟨none, 0, by rw [hn], ⟨rfl, by omega, h.words, hh, fun i hi => by omega⟩, by omega⟩
  · refine ⟨some ⟨g, 0, none⟩, cap, rfl, ⟨rfl, by unfold maxLen at hm; omega, h.words, hh, fun i hi => ?_⟩, hle⟩
    obtain ⟨c0, c1, c2⟩ := cellsE_at l i hi
    have hsz : l.length * 3 ≤ (cellsE l).length := by rw [cellsE_length]; exact Nat.le_refl _
    refine ⟨g, 0, rfl, (Array.getElem?_eq_some_iff.1 hg).1, ?_, ?_, ?_⟩
    · rw [Nat.zero_add, h.row.cellAt _ (by omega)]; exact c0
    · rw [Nat.zero_add, h.row.cellAt _ (by omega)]; exact c1
    · rw [Nat.zero_add, h.row.cellAt _ (by omega)]; exact c2

/-! ### Same of entries -/
instance : DecidableEq Ent := fun a b => by
  obtain ⟨x, y, z⟩ := a
  obtain ⟨x', y', z'⟩ := b
  by_cases h : x = x' ∧ y = y' ∧ z = z'
  · exact isTrue (by obtain ⟨rfl, rfl, rfl⟩ := h; rfl)
  · exact isFalse (by intro e; cases e; exact h ⟨rfl, rfl, rfl⟩)
abbrev aggE (p : EV) : Value := .agg #[.int .u64 p.1.rep, .int .u64 p.1.mx, p.2]
set_option maxHeartbeats 1600000 in
theorem esame_any (p q : EV) (w : World) (h : HolesAt w p) (h' : HolesAt w q) :
    Calls Tryd.prog 36 #[aggE p, aggE q] w fun e w' => e = .returned (.bool (decide (p.1 = q.1))) ∧ Below w.heap.size w w' := by
  obtain ⟨⟨x, y, z⟩, hv⟩ := p
  obtain ⟨⟨x', y', z'⟩, hv'⟩ := q
  obtain ⟨a, cap, e1, h1, h2⟩ := h.at'
  obtain ⟨a', cap', e1', h1', h2'⟩ := h'.at'
  simp only at e1 e1' h1 h1' h2 h2'
  subst e1; subst e1'
  unfold aggE
  simp only
  by_cases g1 : x = x'
  · by_cases g2 : y = y'
    · subst g1; subst g2
      have KS := hide (fun W (hb : Below w.heap.size w W) => same_any a a' z.length cap z'.length cap' z z' W (h1.below hb) (h1'.below hb))
      have ER := hide (show sameL z z' = decide ((⟨x, y, z⟩ : Ent) = ⟨x, y, z'⟩) by unfold sameL; simp)
      clear h h' h1 h1' h2 h2'
      go_enter Tryd.func36, Tryd.ntmps36
      go_wp2_with fail
      refine (KS.out _ (bl_alloc (bl_alloc (Below.refl _ _) _) _)).mono ?_
      rintro e w1 ⟨rfl, hb⟩
      have B1 := hide (bl_trans (bl_alloc (bl_alloc (Below.refl _ _) _) _) hb)
      clear hb
      go_wp2
      go_ret
      refine ⟨?_, B1.out⟩
      rw [← ER.out]
      cases sameL z z' <;> rfl
    · have f2 : (y == y') = false := by simpa using g2
      have ER := hide (show decide ((⟨x, y, z⟩ : Ent) = ⟨x', y', z'⟩) = false by simp [g2])
      subst g1
      clear h h' h1 h1' h2 h2' g2
      go_enter Tryd.func36, Tryd.ntmps36
      go_wp2
      go_ret
      exact ⟨by rw [ER.out] <;> rfl, bl_alloc (bl_alloc (Below.refl _ _) _) _⟩
  · have f1 : (x == x') = false := by simpa using g1
    have ER := hide (show decide ((⟨x, y, z⟩ : Ent) = ⟨x', y', z'⟩) = false by simp [g1])
    clear h h' h1 h1' h2 h2' g1
    go_enter Tryd.func36, Tryd.ntmps36
    go_wp2
    go_ret
    exact ⟨by rw [ER.out] <;> rfl, bl_alloc (bl_alloc (Below.refl _ _) _) _⟩

/-! ### Same of vectors -/
def sameV (l l' : List EV) : Bool := decide (l.map (·.1) = l'.map (·.1))
theorem ents_ext {l l' : List EV} (hl : l.length = l'.length) (h : ∀ i, i < l.length → (l.getD i EV.z).1 = (l'.getD i EV.z).1) : l.map (·.1) = l'.map (·.1) := by
  refine List.ext_getElem (by simpa using hl) fun i h1 h2 => ?_
  simp only [List.length_map] at h1 h2
  have := h i h1
  simpa [List.getD, List.getElem?_eq_getElem h1, List.getElem?_eq_getElem h2] using this
theorem ents_at {l l' : List EV} (h : l.map (·.1) = l'.map (·.1)) (i : Nat) : (l.getD i EV.z).1 = (l'.getD i EV.z).1 := by
  have e : (l.map (·.1))[i]? = (l'.map (·.1))[i]? := by rw [h]
  simp only [List.getElem?_map] at e
  simp only [List.getD]
  cases h1 : l[i]? <;> cases h2 : l'[i]? <;> simp_all
/-- Two entries in memory. -/
structure Two (W0 : World) (b o b' o' : Nat) (x y : Int) (v : Value) (x' y' : Int) (v' : Value) (W : World) : Prop where
  a0 : W.cell? ⟨b, o, none⟩ = some (.int .u64 x)
  a1 : W.cell? ⟨b, o + 1, none⟩ = some (.int .u64 y)
  a2 : W.cell? ⟨b, o + 2, none⟩ = some v
  b0 : W.cell? ⟨b', o', none⟩ = some (.int .u64 x')
  b1 : W.cell? ⟨b', o' + 1, none⟩ = some (.int .u64 y')
  b2 : W.cell? ⟨b', o' + 2, none⟩ = some v'
  bl : Below W0.heap.size W0 W
theorem Two.below {W0 W W' : World} {b o b' o' : Nat} {x y x' y' : Int} {v v' : Value} (h : Two W0 b o b' o' x y v x' y' v' W) (hb : Below W.heap.size W W') : Two W0 b o b' o' x y v x' y' v' W' :=
  ⟨keep_c hb h.a0, keep_c hb h.a1, keep_c hb h.a2, keep_c hb h.b0, keep_c hb h.b1, keep_c hb h.b2, bl_trans h.bl hb⟩
theorem Two.drew {W0 W : World} {b o b' o' : Nat} {x y x' y' : Int} {v v' : Value} (h : Two W0 b o b' o' x y v x' y' v' W) : Two W0 b o b' o' x y v x' y' v' W.drew := h.below (bl_drew (Below.refl _ _))

set_option maxRecDepth 100000 in
set_option maxHeartbeats 1600000 in
theorem vsame_any (a a' : Option Addr) (len cap len' cap' : Nat) (l l' : List EV) (w : World) (h : EntsAt w a len l) (h' : EntsAt w a' len' l') :
    Calls Tryd.prog 18 #[.slice a len cap, .slice a' len' cap'] w fun e w' => e = .returned (.bool (sameV l l')) ∧ Below w.heap.size w w' := by
  have hmx : Tryd.prog.follows .mixedOrders = true := by kernel_rfl
  have hm := h.most
  have hm' := h'.most
  have hl := hide h.length
  have hl' := hide h'.length
  have H := hide h
  have H' := hide h'
  clear h h'
  by_cases hn : len = len'
  · subst hn
    go_enter Tryd.func18, Tryd.ntmps18
    go_wp2
    go_loopw [5] (fun c wr => ∃ k : Nat, k ≤ len ∧ c = .int .i64 k ∧ (∀ i, i < k → (l.getD i EV.z).1 = (l'.getD i EV.z).1) ∧ Below w.heap.size w wr)
      (fun c _ => len - (intOf c).toNat)
    case atStart => exact ⟨0, Nat.zero_le _, rfl, fun i hi => absurd hi (by omega), Below.refl _ _⟩
    case round =>
      obtain ⟨k, hk, rfl, hno, hb⟩ := hrel
      have HN := hide hno
      have HB := hide hb
      clear hno
      by_cases hlt : k < len
      · obtain ⟨b, off, rfl, hbl, hc1, hc2, hc3⟩ := (H.out.below hb).cells k hlt
        obtain ⟨b', off', rfl, hbl', hd1, hd2, hd3⟩ := (H'.out.below hb).cells k hlt
        have i0 : (0 : Int) ≤ (k : Int) := by omega
        have i1 : (k : Int) < (len : Int) := by omega
        have KE := hide (fun W (hW : Below wr.heap.size wr W) => esame_any (l.getD k EV.z) (l'.getD k EV.z) W (((H.out.below hb).below hW).holes _ (H.out.mem hlt)) (((H'.out.below hb).below hW).holes _ (H'.out.mem hlt)))
        unfold aggE at KE
        have TW := hide (Two.mk (W0 := wr) hc1 hc2 hc3 hd1 hd2 hd3 (Below.refl _ _))
        have NE := hide (fun (hne : (l.getD k EV.z).1 ≠ (l'.getD k EV.z).1) => show sameV l l' = false by
          unfold sameV
          exact decide_eq_false fun e => hne (ents_at e k))
        by_cases g : (l.getD k EV.z).1 = (l'.getD k EV.z).1
        · rw [show decide ((l.getD k EV.z).1 = (l'.getD k EV.z).1) = true from decide_eq_true g] at KE
          have G := hide g
          obtain ⟨x, ex⟩ : ∃ x, (l.getD k EV.z).1.rep = x := ⟨_, rfl⟩
          obtain ⟨y, ey⟩ : ∃ x, (l.getD k EV.z).1.mx = x := ⟨_, rfl⟩
          obtain ⟨hv, ev⟩ : ∃ x, (l.getD k EV.z).2 = x := ⟨_, rfl⟩
          obtain ⟨x', ex'⟩ : ∃ x, (l'.getD k EV.z).1.rep = x := ⟨_, rfl⟩
          obtain ⟨y', ey'⟩ : ∃ x, (l'.getD k EV.z).1.mx = x := ⟨_, rfl⟩
          obtain ⟨hv', ev'⟩ : ∃ x, (l'.getD k EV.z).2 = x := ⟨_, rfl⟩
          rw [ex, ey, ev, ex', ey', ev'] at KE TW
          clear ex ey ev ex' ey' ev' hc1 hc2 hc3 hd1 hd2 hd3 g NE hb
          go_wp2_with fail
          refine wp_region_held_drew (S := Two wr b (off + k * 3) b' (off' + k * 3) x y hv x' y' hv') hmx TW.out.drew (fun hS => ?_)
          refine wpAnyH_takeD (i := 0) (d := some 17) (v := (.slice (some ⟨b, off, none⟩) len cap)) rfl rfl (by kernel_rfl) (by kernel_rfl) (by kernel_rfl) (fun _ _ _ h => h) (Or.inl ⟨by rfl, ?_⟩) (by assumption) ?_
          · intro X hX; go_simp
          simp only [Act.put, List.setIfInBounds_toArray, List.set_cons_zero, List.set_cons_succ]
          refine wpAnyH_takeD (i := 1) (d := some 18) (v := (.int .i64 k)) rfl rfl (by kernel_rfl) (by kernel_rfl) (by kernel_rfl) (fun _ _ _ h => h) (Or.inl ⟨by rfl, ?_⟩) (by assumption) ?_
          · intro X hX; go_simp
          simp only [Act.put, List.setIfInBounds_toArray, List.set_cons_zero, List.set_cons_succ]
          refine wpAnyH_takeD (i := 2) (d := some 19) (v := (.pointer (some ⟨b, off + k * 3, none⟩))) rfl rfl (by kernel_rfl) (by kernel_rfl) (by kernel_rfl) (fun _ _ _ h => h) (Or.inl ⟨by rfl, ?_⟩) (by assumption) ?_
          · intro X hX; go_simp
          simp only [Act.put, List.setIfInBounds_toArray, List.set_cons_zero, List.set_cons_succ]
          refine wpAnyH_takeD (i := 3) (d := some 20) (v := (.agg #[.int .u64 x, .int .u64 y, hv])) rfl rfl (by kernel_rfl) (by kernel_rfl) (by kernel_rfl) (fun _ _ _ h => h) (Or.inl ⟨by rfl, ?_⟩) (by assumption) ?_
          · intro X hX; obtain ⟨d0, d1, d2, d3, d4, d5, d6⟩ := hX; go_simp
          simp only [Act.put, List.setIfInBounds_toArray, List.set_cons_zero, List.set_cons_succ]
          refine wpAnyH_takeD (i := 4) (d := some 21) (v := (.slice (some ⟨b', off', none⟩) len cap')) rfl rfl (by kernel_rfl) (by kernel_rfl) (by kernel_rfl) (fun _ _ _ h => h) (Or.inl ⟨by rfl, ?_⟩) (by assumption) ?_
          · intro X hX; go_simp
          simp only [Act.put, List.setIfInBounds_toArray, List.set_cons_zero, List.set_cons_succ]
          refine wpAnyH_takeD (i := 5) (d := some 22) (v := (.int .i64 k)) rfl rfl (by kernel_rfl) (by kernel_rfl) (by kernel_rfl) (fun _ _ _ h => h) (Or.inl ⟨by rfl, ?_⟩) (by assumption) ?_
          · intro X hX; go_simp
          simp only [Act.put, List.setIfInBounds_toArray, List.set_cons_zero, List.set_cons_succ]
          refine wpAnyH_takeD (i := 6) (d := some 23) (v := (.pointer (some ⟨b', off' + k * 3, none⟩))) rfl rfl (by kernel_rfl) (by kernel_rfl) (by kernel_rfl) (fun _ _ _ h => h) (Or.inl ⟨by rfl, ?_⟩) (by assumption) ?_
          · intro X hX; go_simp
          simp only [Act.put, List.setIfInBounds_toArray, List.set_cons_zero, List.set_cons_succ]
          refine wpAnyH_takeD (i := 7) (d := some 24) (v := (.agg #[.int .u64 x', .int .u64 y', hv'])) rfl rfl (by kernel_rfl) (by kernel_rfl) (by kernel_rfl) (fun _ _ _ h => h) (Or.inl ⟨by rfl, ?_⟩) (by assumption) ?_
          · intro X hX; obtain ⟨d0, d1, d2, d3, d4, d5, d6⟩ := hX; go_simp
          simp only [Act.put, List.setIfInBounds_toArray, List.set_cons_zero, List.set_cons_succ]
          refine wpAnyH_ready (rs := [8]) (by kernel_rfl) (by simp) ?_
          refine AllReadyH.cons (o := _) rfl (fun K hK => ?_) AllReadyH.nil
          go_simp
          refine (KE.out _ hS.bl).mono ?_
          rintro e wq ⟨rfl, hb1⟩
          have hS := hS.below hb1
          clear hb1
          go_simp
          refine hK.out _ _ hS (fun _ => ?_)
          clear hK K
          refine wpAnyH_takeD (i := 9) (d := some 26) (v := (.bool false)) rfl rfl (by kernel_rfl) (by kernel_rfl) (by kernel_rfl) (fun _ _ _ h => h) (Or.inl ⟨by rfl, ?_⟩) (by assumption) ?_
          · intro X hX; go_simp
          simp only [Act.put, List.setIfInBounds_toArray, List.set_cons_zero, List.set_cons_succ]
          refine wpAnyH_done (by kernel_rfl) ?_ _
          have BB := hide (bl_trans HB.out hS.bl)
          clear hS
          go_wp2
          go_roundw
          case rel =>
            refine ⟨k + 1, by omega, by go_num, fun i hi => ?_, BB.out⟩
            by_cases e : i = k
            · subst e; exact G.out
            · exact HN.out i (by omega)
          case measure => simp [intOf]; omega
        · rw [show decide ((l.getD k EV.z).1 = (l'.getD k EV.z).1) = false from decide_eq_false g] at KE
          have BAD := hide (NE.out g)
          obtain ⟨x, ex⟩ : ∃ x, (l.getD k EV.z).1.rep = x := ⟨_, rfl⟩
          obtain ⟨y, ey⟩ : ∃ x, (l.getD k EV.z).1.mx = x := ⟨_, rfl⟩
          obtain ⟨hv, ev⟩ : ∃ x, (l.getD k EV.z).2 = x := ⟨_, rfl⟩
          obtain ⟨x', ex'⟩ : ∃ x, (l'.getD k EV.z).1.rep = x := ⟨_, rfl⟩
          obtain ⟨y', ey'⟩ : ∃ x, (l'.getD k EV.z).1.mx = x := ⟨_, rfl⟩
          obtain ⟨hv', ev'⟩ : ∃ x, (l'.getD k EV.z).2 = x := ⟨_, rfl⟩
          rw [ex, ey, ev, ex', ey', ev'] at KE TW
          clear ex ey ev ex' ey' ev' hc1 hc2 hc3 hd1 hd2 hd3 g NE hb
          go_wp2_with fail
          refine wp_region_held_drew (S := Two wr b (off + k * 3) b' (off' + k * 3) x y hv x' y' hv') hmx TW.out.drew (fun hS => ?_)
          refine wpAnyH_takeD (i := 0) (d := some 17) (v := (.slice (some ⟨b, off, none⟩) len cap)) rfl rfl (by kernel_rfl) (by kernel_rfl) (by kernel_rfl) (fun _ _ _ h => h) (Or.inl ⟨by rfl, ?_⟩) (by assumption) ?_
          · intro X hX; go_simp
          simp only [Act.put, List.setIfInBounds_toArray, List.set_cons_zero, List.set_cons_succ]
          refine wpAnyH_takeD (i := 1) (d := some 18) (v := (.int .i64 k)) rfl rfl (by kernel_rfl) (by kernel_rfl) (by kernel_rfl) (fun _ _ _ h => h) (Or.inl ⟨by rfl, ?_⟩) (by assumption) ?_
          · intro X hX; go_simp
          simp only [Act.put, List.setIfInBounds_toArray, List.set_cons_zero, List.set_cons_succ]
          refine wpAnyH_takeD (i := 2) (d := some 19) (v := (.pointer (some ⟨b, off + k * 3, none⟩))) rfl rfl (by kernel_rfl) (by kernel_rfl) (by kernel_rfl) (fun _ _ _ h => h) (Or.inl ⟨by rfl, ?_⟩) (by assumption) ?_
          · intro X hX; go_simp
          simp only [Act.put, List.setIfInBounds_toArray, List.set_cons_zero, List.set_cons_succ]
          refine wpAnyH_takeD (i := 3) (d := some 20) (v := (.agg #[.int .u64 x, .int .u64 y, hv])) rfl rfl (by kernel_rfl) (by kernel_rfl) (by kernel_rfl) (fun _ _ _ h => h) (Or.inl ⟨by rfl, ?_⟩) (by assumption) ?_
          · intro X hX; obtain ⟨d0, d1, d2, d3, d4, d5, d6⟩ := hX; go_simp
          simp only [Act.put, List.setIfInBounds_toArray, List.set_cons_zero, List.set_cons_succ]
          refine wpAnyH_takeD (i := 4) (d := some 21) (v := (.slice (some ⟨b', off', none⟩) len cap')) rfl rfl (by kernel_rfl) (by kernel_rfl) (by kernel_rfl) (fun _ _ _ h => h) (Or.inl ⟨by rfl, ?_⟩) (by assumption) ?_
          · intro X hX; go_simp
          simp only [Act.put, List.setIfInBounds_toArray, List.set_cons_zero, List.set_cons_succ]
          refine wpAnyH_takeD (i := 5) (d := some 22) (v := (.int .i64 k)) rfl rfl (by kernel_rfl) (by kernel_rfl) (by kernel_rfl) (fun _ _ _ h => h) (Or.inl ⟨by rfl, ?_⟩) (by assumption) ?_
          · intro X hX; go_simp
          simp only [Act.put, List.setIfInBounds_toArray, List.set_cons_zero, List.set_cons_succ]
          refine wpAnyH_takeD (i := 6) (d := some 23) (v := (.pointer (some ⟨b', off' + k * 3, none⟩))) rfl rfl (by kernel_rfl) (by kernel_rfl) (by kernel_rfl) (fun _ _ _ h => h) (Or.inl ⟨by rfl, ?_⟩) (by assumption) ?_
          · intro X hX; go_simp
          simp only [Act.put, List.setIfInBounds_toArray, List.set_cons_zero, List.set_cons_succ]
          refine wpAnyH_takeD (i := 7) (d := some 24) (v := (.agg #[.int .u64 x', .int .u64 y', hv'])) rfl rfl (by kernel_rfl) (by kernel_rfl) (by kernel_rfl) (fun _ _ _ h => h) (Or.inl ⟨by rfl, ?_⟩) (by assumption) ?_
          · intro X hX; obtain ⟨d0, d1, d2, d3, d4, d5, d6⟩ := hX; go_simp
          simp only [Act.put, List.setIfInBounds_toArray, List.set_cons_zero, List.set_cons_succ]
          refine wpAnyH_ready (rs := [8]) (by kernel_rfl) (by simp) ?_
          refine AllReadyH.cons (o := _) rfl (fun K hK => ?_) AllReadyH.nil
          go_simp
          refine (KE.out _ hS.bl).mono ?_
          rintro e wq ⟨rfl, hb1⟩
          have hS := hS.below hb1
          clear hb1
          go_simp
          refine hK.out _ _ hS (fun _ => ?_)
          clear hK K
          refine wpAnyH_takeD (i := 9) (d := some 26) (v := (.bool true)) rfl rfl (by kernel_rfl) (by kernel_rfl) (by kernel_rfl) (fun _ _ _ h => h) (Or.inl ⟨by rfl, ?_⟩) (by assumption) ?_
          · intro X hX; go_simp
          simp only [Act.put, List.setIfInBounds_toArray, List.set_cons_zero, List.set_cons_succ]
          refine wpAnyH_done (by kernel_rfl) ?_ _
          have BB := hide (bl_trans HB.out hS.bl)
          clear hS
          go_wp2
          go_ret
          exact ⟨by rw [BAD.out] <;> rfl, BB.out⟩
      · have hk' : k = len := by omega
        have GOOD := hide (show sameV l l' = true from decide_eq_true (ents_ext (by rw [hl.out, hl'.out]) (fun i hi => HN.out i (by rw [hl.out] at hi; omega))))
        subst hk'
        go_wp2
        go_ret
        exact ⟨by rw [GOOD.out] <;> rfl, HB.out⟩
  · have hn' : ¬ (len : Int) = (len' : Int) := by omega
    have BAD := hide (show sameV l l' = false from decide_eq_false fun e => hn (by have := congrArg List.length e; simp only [List.length_map] at this; rw [← hl.out, ← hl'.out]; exact this))
    go_enter Tryd.func18, Tryd.ntmps18
    go_wp2
    go_ret
    exact ⟨by rw [BAD.out] <;> rfl, Below.refl _ _⟩
end Go.Proofs.YtppeogalaikopaaDoor
namespace Go.Proofs.YtppeogalaikopaaDoor

def Ent.z : Ent := ⟨0, 0, []⟩
/-- The difference of a replica. -/
def repN (es : List Ent) (k : Nat) : Int := if k = 0 then (es.getD 0 Ent.z).rep else (es.getD k Ent.z).rep - (es.getD (k - 1) Ent.z).rep - 1
/-- The numbers of an entry behind the difference p of its replica. -/
def numE (p : Int) (e : Ent) : List Int := p :: e.mx :: (e.hs.length : Int) :: dif e.hs 1 e.hs.length
/-- The numbers of the first k entries. -/
def numsTo (es : List Ent) : Nat → List Int
  | 0 => [(es.length : Int)]
  | k + 1 => numsTo es k ++ numE (repN es k) (es.getD k Ent.z)
def numsV (es : List Ent) : List Int := numsTo es es.length
/-- The bytes of numbers. -/
def joinB (xs : List Int) : List Int := xs.flatMap (vb 10)
theorem joinB_nil : joinB [] = [] := rfl
theorem joinB_append (xs ys : List Int) : joinB (xs ++ ys) = joinB xs ++ joinB ys := by unfold joinB; rw [List.flatMap_append]
theorem joinB_cons (x : Int) (xs : List Int) : joinB (x :: xs) = vb 10 x ++ joinB xs := rfl
theorem joinB_snoc (xs : List Int) (x : Int) : joinB (xs ++ [x]) = joinB xs ++ vb 10 x := by rw [joinB_append, joinB_cons, joinB_nil, List.append_nil]
theorem joinB_most (xs : List Int) : (joinB xs).length ≤ 10 * xs.length := by
  induction xs with
  | nil => simp [joinB]
  | cons x xs ih => rw [joinB_cons, List.length_append]; have := vb_most 10 x; simp only [List.length_cons]; omega
theorem joinB_least (xs : List Int) : xs.length ≤ (joinB xs).length := by
  induction xs with
  | nil => simp [joinB]
  | cons x xs ih => rw [joinB_cons, List.length_append]; have := vb_len 10 x (by omega); simp only [List.length_cons]; omega
theorem joinB_bytes {xs : List Int} (h : ∀ x ∈ xs, Word x) : ∀ c ∈ joinB xs, 0 ≤ c ∧ c ≤ 255 := by
  intro c hc
  unfold joinB at hc
  obtain ⟨x, hx, hc⟩ := List.mem_flatMap.1 hc
  exact vb_bytes 10 x (h x hx).1 c hc
theorem numE_length (p : Int) (e : Ent) : (numE p e).length = 3 + 2 * e.hs.length := by unfold numE; simp only [List.length_cons, dif_length]; omega
theorem numsTo_mono (es : List Ent) : ∀ k j, (numsTo es k).length ≤ (numsTo es (k + j)).length
  | k, 0 => Nat.le_refl _
  | k, j + 1 => by
    have := numsTo_mono es k j
    rw [← Nat.add_assoc, show numsTo es (k + j + 1) = numsTo es (k + j) ++ numE (repN es (k + j)) (es.getD (k + j) Ent.z) from rfl, List.length_append]
    omega
theorem numsTo_le (es : List Ent) {k : Nat} (h : k ≤ es.length) : (numsTo es k).length ≤ (numsV es).length := by
  have := numsTo_mono es k (es.length - k)
  rwa [show k + (es.length - k) = es.length by omega] at this
theorem getD_map (l : List EV) (i : Nat) : (l.map (·.1)).getD i Ent.z = (l.getD i EV.z).1 := by
  simp only [List.getD, List.getElem?_map]
  cases l[i]? <;> rfl

/-- A canonical entry. -/
structure EntC (e : Ent) : Prop where
  cor : Cor e.hs
  top : ∀ i, i < e.hs.length → Hi e.hs i < e.mx
/-- A canonical vector. -/
structure CanV (es : List Ent) : Prop where
  ents : ∀ i, i < es.length → EntC (es.getD i Ent.z)
  asc : ∀ i, 0 < i → i < es.length → (es.getD (i - 1) Ent.z).rep < (es.getD i Ent.z).rep
theorem cor_apart {zs : List Iv} (h : Cor zs) : ApTo zs 1 zs.length := fun i hi => ⟨(h i hi).1, fun h0 => by have := (h i hi).2 h0; omega⟩
theorem apart_cor {zs : List Iv} (h : ApTo zs 1 zs.length) : Cor zs := fun i hi => ⟨(h i hi).1, fun h0 => by have := (h i hi).2 h0; omega⟩
theorem getDz_mem {es : List Ent} {i : Nat} (h : i < es.length) : es.getD i Ent.z ∈ es := by
  have e : es.getD i Ent.z = es[i] := by simp [List.getD, List.getElem?_eq_getElem h]
  rw [e]
  exact List.getElem_mem _
theorem repN_word {es : List Ent} (hc : CanV es) (hw : ∀ e ∈ es, EntW e) {k : Nat} (hk : k < es.length) : Word (repN es k) := by
  unfold repN
  by_cases h : k = 0
  · rw [if_pos h]; subst h; exact (hw _ (getDz_mem hk)).rep
  · rw [if_neg h]
    have h1 := hc.asc k (by omega) hk
    have h2 := (hw _ (getDz_mem hk)).rep
    have h3 := (hw _ (getDz_mem (show k - 1 < es.length by omega))).rep
    exact ⟨by omega, by have := h2.2; have := h3.1; omega⟩
theorem hs_at {zs : List Iv} (h : ∀ z ∈ zs, Word z.1 ∧ Word z.2) {i : Nat} (hi : i < zs.length) : Word (Lo zs i) ∧ Word (Hi zs i) := by
  have e : zs.getD i (0, 0) = zs[i] := by simp [List.getD, List.getElem?_eq_getElem hi]
  unfold Lo Hi
  rw [e]
  exact h _ (List.getElem_mem _)
theorem dif_words {zs : List Iv} (hw : ∀ z ∈ zs, Word z.1 ∧ Word z.2) (hA : ApTo zs 1 zs.length) : ∀ k, k ≤ zs.length → ∀ x ∈ dif zs 1 k, Word x
  | 0, _ => by intro x hx; simp [dif] at hx
  | k + 1, hk => by
    intro x hx
    unfold dif at hx
    rcases List.mem_append.1 hx with hx | hx
    · exact dif_words hw hA k (by omega) x hx
    · have h1 := hs_at hw (show k < zs.length by omega)
      have h2 := hA k (by omega)
      simp at hx
      rcases hx with rfl | rfl
      · unfold gapD
        by_cases e : k = 0
        · rw [if_pos e]; subst e; exact h1.1
        · rw [if_neg e]
          have h3 := hs_at hw (show k - 1 < zs.length by omega)
          have h4 := h2.2 (by omega)
          unfold Word at *; omega
      · unfold Word at *; omega
theorem numE_words {p : Int} {e : Ent} (hp : Word p) (hw : EntW e) (hc : EntC e) (hn : e.hs.length ≤ 1000000) : ∀ x ∈ numE p e, Word x := by
  intro x hx
  unfold numE at hx
  simp only [List.mem_cons] at hx
  rcases hx with rfl | rfl | rfl | hx
  · exact hp
  · exact hw.mx
  · exact ⟨by omega, by omega⟩
  · exact dif_words hw.hs (cor_apart hc.cor) _ (Nat.le_refl _) x hx
theorem numsTo_words {es : List Ent} (hc : CanV es) (hw : ∀ e ∈ es, EntW e) (hn : ∀ e ∈ es, e.hs.length ≤ 1000000) (hl : es.length ≤ 1000000) : ∀ k, k ≤ es.length → ∀ x ∈ numsTo es k, Word x
  | 0, _ => by
    intro x hx
    unfold numsTo at hx
    simp at hx
    subst hx
    exact ⟨by omega, by omega⟩
  | k + 1, hk => by
    intro x hx
    unfold numsTo at hx
    rcases List.mem_append.1 hx with hx | hx
    · exact numsTo_words hc hw hn hl k (by omega) x hx
    · exact numE_words (repN_word hc hw (by omega)) (hw _ (getDz_mem (by omega))) (hc.ents k (by omega)) (hn _ (getDz_mem (by omega))) x hx
end Go.Proofs.YtppeogalaikopaaDoor
namespace Go.Proofs.YtppeogalaikopaaDoor

/-- The bytes of a number among others are read as that number. -/
theorem stops_vb (pre post : List Int) (x : Int) (hx : Word x) : ∃ K, K + 1 = (vb 10 x).length ∧ Stops (pre ++ vb 10 x ++ post) pre.length K ∧ putS K (byteAt (pre ++ vb 10 x ++ post) (pre.length + K)) = 1 ∧ acc (pre ++ vb 10 x ++ post) pre.length (K + 1) = x := by
  obtain ⟨K, h1, h2, h3, h4⟩ := reads_vb (pre ++ vb 10 x ++ post) pre.length 10 x 0 hx.1 (by have := hx.2; omega) (by omega) (by omega) (by rw [pw0]; have := hx.2; omega) (.inl rfl)
    (fun j hj => by
      have e : (pre ++ vb 10 x ++ post)[pre.length + (0 + j)]? = (vb 10 x)[j]? := by
        rw [List.append_assoc, List.getElem?_append_right (by omega), show pre.length + (0 + j) - pre.length = j by omega, List.getElem?_append_left hj]
      simp only [byteAt, List.getD, e]) (by simp) (fun i hi => absurd hi (by omega)) (Int.le_refl _) (show (0 : Int) < 1 by decide)
  refine ⟨K, by omega, h2, h3, ?_⟩
  rw [h4, pw0]
  show 0 + x * 1 = x
  omega
theorem rd_vb (pre post : List Int) (x : Int) (hx : Word x) : Rd (pre ++ vb 10 x ++ post) pre.length (.ok (x, pre.length + (vb 10 x).length)) := by
  obtain ⟨K, h1, h2, h3, h4⟩ := stops_vb pre post x hx
  have := Rd.ok (zs := pre ++ vb 10 x ++ post) (a := pre.length) K (by omega) (by have := h2.lt; omega) (by simpa using h2) (by simpa using h3)
  have e1 : acc (pre ++ vb 10 x ++ post) ((pre.length : Int).toNat) (K + 1) = x := by simpa using h4
  rw [e1] at this
  have e2 : ((pre.length : Int) + ((K : Int) + 1)) = pre.length + (vb 10 x).length := by omega
  rw [e2] at this
  exact this
/-- Bytes that end inside a number. -/
theorem rd_cut (pre post : List Int) (x : Int) (hx : Word x) (m : Nat) (h0 : pre.length ≤ m) (h1 : m < pre.length + (vb 10 x).length) : Rd ((pre ++ vb 10 x ++ post).take m) pre.length (.error 5) := by
  obtain ⟨K, g1, g2, _, _⟩ := stops_vb pre post x hx
  have hl : ((pre ++ vb 10 x ++ post).take m).length = m := by
    rw [List.length_take]; simp only [List.length_append]; omega
  by_cases e : m = pre.length
  · exact .out (.inr (by rw [hl]; omega))
  · refine .short (by omega) (by rw [hl]; omega) ?_
    rw [hl]
    intro i hi
    have h2 := g2.opens i (by simp at hi; omega)
    simp only [Int.toNat_natCast] at hi ⊢
    have e3 : byteAt ((pre ++ vb 10 x ++ post).take m) (pre.length + i) = byteAt (pre ++ vb 10 x ++ post) (pre.length + i) := by
      simp only [byteAt, List.getD]
      rw [List.getElem?_take_of_lt (by omega)]
    rw [e3]
    exact h2

/-- What numbers do, one by one, from an index on, in front of so many bytes. -/
def walkN (lm : Lim) (len : Int) : List Int → St → Int → Except (Int × Int) ((List Ent × Int) ⊕ (St × Int))
  | [], s, a => .ok (.inr (s, a))
  | x :: xs, s, a =>
    match stepS lm s x (len - (a + (vb 10 x).length)) with
    | .error c => .error (c, a)
    | .ok s' => if s'.ph.isFin then .ok (.inl (s'.es, a + (vb 10 x).length)) else walkN lm len xs s' (a + (vb 10 x).length)
theorem walkN_cons {lm : Lim} {len : Int} {x : Int} {xs : List Int} {s s' : St} {a : Int} (h : stepS lm s x (len - (a + (vb 10 x).length)) = .ok s') (hf : s'.ph.isFin = false) : walkN lm len (x :: xs) s a = walkN lm len xs s' (a + (vb 10 x).length) := by
  show (match stepS lm s x (len - (a + (vb 10 x).length)) with | .error c => _ | .ok s' => _) = _
  rw [h]
  simp only [hf]
  rfl
theorem walkN_fin {lm : Lim} {len : Int} {x : Int} {xs : List Int} {s s' : St} {a : Int} (h : stepS lm s x (len - (a + (vb 10 x).length)) = .ok s') (hf : s'.ph.isFin = true) : walkN lm len (x :: xs) s a = .ok (.inl (s'.es, a + (vb 10 x).length)) := by
  show (match stepS lm s x (len - (a + (vb 10 x).length)) with | .error c => _ | .ok s' => _) = _
  rw [h]
  simp only [hf]
  rfl
theorem walkN_err {lm : Lim} {len : Int} {x : Int} {xs : List Int} {s : St} {a c : Int} (h : stepS lm s x (len - (a + (vb 10 x).length)) = .error c) : walkN lm len (x :: xs) s a = .error (c, a) := by
  show (match stepS lm s x (len - (a + (vb 10 x).length)) with | .error c => _ | .ok s' => _) = _
  rw [h]
theorem walkN_append {lm : Lim} {len : Int} : ∀ (xs ys : List Int) (s : St) (a : Int), walkN lm len (xs ++ ys) s a = (match walkN lm len xs s a with | .ok (.inr (s', a')) => walkN lm len ys s' a' | .ok (.inl q) => .ok (.inl q) | .error p => .error p)
  | [], ys, s, a => rfl
  | x :: xs, ys, s, a => by
    rw [List.cons_append]
    cases h : stepS lm s x (len - (a + (vb 10 x).length)) with
    | error c => rw [walkN_err h, walkN_err h]
    | ok s' =>
      cases hf : s'.ph.isFin with
      | true => rw [walkN_fin h hf, walkN_fin h hf]
      | false => rw [walkN_cons h hf, walkN_cons h hf]; exact walkN_append xs ys s' _
theorem walkN_thru {lm : Lim} {len : Int} {xs ys : List Int} {s s' : St} {a a' : Int} (h : walkN lm len xs s a = .ok (.inr (s', a'))) : walkN lm len (xs ++ ys) s a = walkN lm len ys s' a' := by
  rw [walkN_append, h]
/-- What the bytes of numbers are read as. -/
theorem run_walk {lm : Lim} {o : Except (Int × Int) (List Ent × Int)} : ∀ (xs pre post : List Int) (s : St), (∀ x ∈ xs, Word x) → Run lm (pre ++ joinB xs ++ post) s pre.length o →
    (match walkN lm ((pre ++ joinB xs ++ post).length) xs s pre.length with
      | .error p => o = .error p
      | .ok (.inl q) => o = .ok q
      | .ok (.inr (s', a')) => a' = pre.length + (joinB xs).length ∧ Run lm (pre ++ joinB xs ++ post) s' a' o)
  | [], pre, post, s, _, h => ⟨by simp [joinB], h⟩
  | x :: xs, pre, post, s, hw, h => by
    have hx : Word x := hw x (by simp)
    have e0 : pre ++ joinB (x :: xs) ++ post = pre ++ vb 10 x ++ (joinB xs ++ post) := by rw [joinB_cons]; simp
    have hr := rd_vb pre (joinB xs ++ post) x hx
    rw [← e0] at hr
    cases hs : stepS lm s x ((pre ++ joinB (x :: xs) ++ post).length - (pre.length + (vb 10 x).length)) with
    | error c => rw [walkN_err hs]; exact run_stop h hr hs
    | ok s' =>
      cases hf : s'.ph.isFin with
      | true => rw [walkN_fin hs hf]; exact run_fin h hr hs hf
      | false =>
        rw [walkN_cons hs hf]
        have h2 := run_next h hr hs hf
        have e1 : pre ++ joinB (x :: xs) ++ post = (pre ++ vb 10 x) ++ joinB xs ++ post := by rw [joinB_cons]; simp
        have e2 : ((pre.length : Int) + (vb 10 x).length) = ((pre ++ vb 10 x).length : Nat) := by rw [List.length_append]; omega
        rw [e1, e2] at h2 ⊢
        have h3 := run_walk xs (pre ++ vb 10 x) post s' (fun y hy => hw y (by simp [hy])) h2
        cases h4 : walkN lm (((pre ++ vb 10 x) ++ joinB xs ++ post).length) xs s' ((pre ++ vb 10 x).length : Nat) with
        | error p => rw [h4] at h3; exact h3
        | ok q =>
          rw [h4] at h3
          cases q with
          | inl q => exact h3
          | inr q =>
            obtain ⟨s2, a2⟩ := q
            obtain ⟨h5, h6⟩ := h3
            refine ⟨?_, h6⟩
            rw [h5, joinB_cons]
            simp only [List.length_append]
            omega
end Go.Proofs.YtppeogalaikopaaDoor
namespace Go.Proofs.YtppeogalaikopaaDoor

/-- Complete, or in front of another number. -/
def outN (s : St) (a : Int) : Except (Int × Int) ((List Ent × Int) ⊕ (St × Int)) := if s.ph.isFin then .ok (.inl (s.es, a)) else .ok (.inr (s, a))
theorem walkN_one {lm : Lim} {len x a : Int} {s s' : St} (h : stepS lm s x (len - (a + (vb 10 x).length)) = .ok s') : walkN lm len [x] s a = outN s' (a + (vb 10 x).length) := by
  unfold outN
  cases hf : s'.ph.isFin with
  | true => rw [walkN_fin h hf]; rfl
  | false => rw [walkN_cons h hf]; rfl
theorem outN_run {s : St} {a : Int} (h : s.ph.isFin = false) : outN s a = .ok (.inr (s, a)) := by unfold outN; rw [h]; rfl
theorem outN_fin {s : St} {a : Int} (h : s.ph.isFin = true) : outN s a = .ok (.inl (s.es, a)) := by unfold outN; rw [h]; rfl
/-- The end of an entry. -/
def endS (es : List Ent) (cur : Ent) (ents : Int) : St := if 0 < ents - 1 then ⟨.rep, es ++ [cur], cur, ents - 1, 0⟩ else ⟨.fin, es ++ [cur], cur, ents - 1, 0⟩
theorem holeS_end (p : Ph) (es : List Ent) (cur : Ent) (ents : Int) : holeS ⟨p, es, cur, ents, 0⟩ = endS es cur ents := by
  unfold holeS endS
  simp only
  rw [if_neg (by decide)]
theorem holeS_lo (p : Ph) (es : List Ent) (cur : Ent) (ents h : Int) (h0 : 0 < h) : holeS ⟨p, es, cur, ents, h⟩ = ⟨.lo, es, cur, ents, h - 1⟩ := by
  unfold holeS
  simp only
  rw [if_pos h0]
theorem lastHi_take {zs : List Iv} {j : Nat} (h0 : 0 < j) (h : j ≤ zs.length) : lastHi (zs.take j) = Hi zs (j - 1) := by
  unfold lastHi Hi
  rw [List.length_take, Nat.min_eq_left h]
  simp only [List.getD]
  rw [List.getElem?_take_of_lt (by omega)]
theorem take_snoc_iv {zs : List Iv} {j : Nat} (h : j < zs.length) : zs.take j ++ [(Lo zs j, Hi zs j)] = zs.take (j + 1) := by
  have e : (Lo zs j, Hi zs j) = zs[j] := by unfold Lo Hi; simp [List.getD, List.getElem?_eq_getElem h]
  rw [e, ← List.take_succ_eq_append_getElem h]
theorem lo_step {lm : Lim} {es : List Ent} {cur : Ent} {ents h rest : Int} {zs : List Iv} {j : Nat} (hj : j < zs.length) (hw : ∀ z ∈ zs, Word z.1 ∧ Word z.2) (hs : cur.hs = zs.take j) :
    stepS lm ⟨.lo, es, cur, ents, h⟩ (gapD zs 1 j) rest = .ok ⟨.hi (Lo zs j), es, cur, ents, h⟩ := by
  have h1 := (hs_at hw hj).1
  show (if cur.hs = [] then _ else _) = _
  by_cases h0 : j = 0
  · subst h0
    rw [if_pos (by rw [hs]; rfl)]
    rfl
  · have hne : ¬ cur.hs = [] := by
      rw [hs]; intro e
      have := congrArg List.length e
      rw [List.length_take, List.length_nil] at this
      omega
    rw [if_neg hne, hs, lastHi_take (by omega) (by omega)]
    have e : Hi zs (j - 1) + 1 + 1 + gapD zs 1 j = Lo zs j := by unfold gapD; rw [if_neg h0]; omega
    rw [e, if_pos h1.2]
theorem hi_step {lm : Lim} {es : List Ent} {cur : Ent} {ents h rest : Int} {zs : List Iv} {j : Nat} (hj : j < zs.length) (hw : ∀ z ∈ zs, Word z.1 ∧ Word z.2) (hs : cur.hs = zs.take j) (hm : Hi zs j < cur.mx) :
    stepS lm ⟨.hi (Lo zs j), es, cur, ents, h⟩ (Hi zs j - Lo zs j) rest = .ok (holeS ⟨.hi (Lo zs j), es, ⟨cur.rep, cur.mx, zs.take (j + 1)⟩, ents, h⟩) := by
  have h1 := (hs_at hw hj).2
  show (if _ ∧ _ then _ else _) = _
  have e : Lo zs j + (Hi zs j - Lo zs j) = Hi zs j := by omega
  rw [e, if_pos ⟨h1.2, hm⟩, hs, take_snoc_iv hj]
theorem dif_succ (zs : List Iv) (j : Nat) : dif zs 1 (j + 1) = dif zs 1 j ++ [gapD zs 1 j, Hi zs j - Lo zs j] := rfl
theorem pair_walk {lm : Lim} {len a : Int} {es : List Ent} {cur : Ent} {ents h : Int} {zs : List Iv} {j : Nat} (hj : j < zs.length) (hw : ∀ z ∈ zs, Word z.1 ∧ Word z.2) (hs : cur.hs = zs.take j) (hm : Hi zs j < cur.mx) :
    walkN lm len [gapD zs 1 j, Hi zs j - Lo zs j] ⟨.lo, es, cur, ents, h⟩ a = outN (holeS ⟨.hi (Lo zs j), es, ⟨cur.rep, cur.mx, zs.take (j + 1)⟩, ents, h⟩) (a + (joinB [gapD zs 1 j, Hi zs j - Lo zs j]).length) := by
  rw [walkN_cons (lo_step hj hw hs) rfl, walkN_one (hi_step hj hw hs hm)]
  congr 1
  rw [joinB_cons, joinB_cons, joinB_nil]
  simp only [List.length_append, List.length_nil]
  omega
theorem holes_walk {lm : Lim} {len a : Int} {es : List Ent} {r m : Int} {ents : Int} {zs : List Iv} (hw : ∀ z ∈ zs, Word z.1 ∧ Word z.2) (ht : ∀ i, i < zs.length → Hi zs i < m) : ∀ j, j < zs.length →
    walkN lm len (dif zs 1 j) ⟨.lo, es, ⟨r, m, []⟩, ents, zs.length - 1⟩ a = .ok (.inr (⟨.lo, es, ⟨r, m, zs.take j⟩, ents, zs.length - j - 1⟩, a + (joinB (dif zs 1 j)).length))
  | 0, h => by
    show Except.ok (Sum.inr _) = _
    simp [dif, joinB]
  | j + 1, h => by
    have ih := holes_walk (lm := lm) (len := len) (a := a) (es := es) (r := r) (ents := ents) hw ht j (by omega)
    rw [dif_succ, walkN_thru ih, pair_walk (by omega) hw rfl (ht j (by omega)), holeS_lo _ _ _ _ _ (by omega)]
    rw [outN_run rfl]
    congr 3
    · congr 1; omega
    · rw [joinB_append, List.length_append]; omega
theorem holes_all {lm : Lim} {len a : Int} {es : List Ent} {r m : Int} {ents : Int} {zs : List Iv} (h0 : 0 < zs.length) (hw : ∀ z ∈ zs, Word z.1 ∧ Word z.2) (ht : ∀ i, i < zs.length → Hi zs i < m) :
    walkN lm len (dif zs 1 zs.length) ⟨.lo, es, ⟨r, m, []⟩, ents, zs.length - 1⟩ a = outN (endS es ⟨r, m, zs⟩ ents) (a + (joinB (dif zs 1 zs.length)).length) := by
  have ih := holes_walk (lm := lm) (len := len) (a := a) (es := es) (r := r) (ents := ents) hw ht (zs.length - 1) (by omega)
  have e : dif zs 1 zs.length = dif zs 1 (zs.length - 1) ++ [gapD zs 1 (zs.length - 1), Hi zs (zs.length - 1) - Lo zs (zs.length - 1)] := by
    rw [← dif_succ]
    congr 1
    omega
  rw [e, walkN_thru ih, pair_walk (by omega) hw rfl (ht _ (by omega))]
  rw [show ((zs.length : Int) - ((zs.length - 1 : Nat) : Int) - 1) = 0 by omega, show zs.length - 1 + 1 = zs.length by omega, List.take_length, holeS_end]
  congr 1
  rw [joinB_append, List.length_append]; omega
theorem limitC_0 {x l n : Int} (h1 : x ≤ l) (h2 : x ≤ n) : limitC x l n = 0 := by
  unfold limitC
  rw [if_neg (by omega), if_neg (by omega)]
theorem rep_step {lm : Lim} {es : List Ent} {k : Nat} {cur : Ent} {ents h rest : Int} (hk : k < es.length) (hw : Word (es.getD k Ent.z).rep) :
    stepS lm ⟨.rep, es.take k, cur, ents, h⟩ (repN es k) rest = .ok ⟨.top, es.take k, ⟨(es.getD k Ent.z).rep, 0, []⟩, ents, h⟩ := by
  show (if es.take k = [] then _ else _) = _
  by_cases h0 : k = 0
  · subst h0
    rw [if_pos (show es.take 0 = [] from rfl)]
    rfl
  · have hne : ¬ es.take k = [] := by
      intro e
      have := congrArg List.length e
      rw [List.length_take, List.length_nil] at this
      omega
    have el : lastRep (es.take k) = (es.getD (k - 1) Ent.z).rep := by
      unfold lastRep
      rw [List.length_take, Nat.min_eq_left (by omega)]
      simp only [List.getD]
      rw [List.getElem?_take_of_lt (by omega)]
      rfl
    rw [if_neg hne, el]
    have e : (es.getD (k - 1) Ent.z).rep + 1 + repN es k = (es.getD k Ent.z).rep := by unfold repN; rw [if_neg h0]; omega
    rw [e, if_pos hw.2]
theorem ent_eta (e : Ent) : (⟨e.rep, e.mx, e.hs⟩ : Ent) = e := rfl
theorem entry_walk {lm : Lim} {len a : Int} {es : List Ent} {k : Nat} {cur : Ent} {ents h : Int} (hk : k < es.length) (hw : EntW (es.getD k Ent.z)) (hc : EntC (es.getD k Ent.z)) (hl : ((es.getD k Ent.z).hs.length : Int) ≤ lm.ho)
    (hr : a + (joinB (numE (repN es k) (es.getD k Ent.z))).length ≤ len) :
    walkN lm len (numE (repN es k) (es.getD k Ent.z)) ⟨.rep, es.take k, cur, ents, h⟩ a = outN (endS (es.take k) (es.getD k Ent.z) ents) (a + (joinB (numE (repN es k) (es.getD k Ent.z))).length) := by
  have s1 := fun rest => rep_step (lm := lm) (cur := cur) (ents := ents) (h := h) (rest := rest) hk hw.rep
  obtain ⟨e, ee⟩ : ∃ e, es.getD k Ent.z = e := ⟨_, rfl⟩
  rw [ee] at hw hc hl hr s1 ⊢
  obtain ⟨r, m, zs⟩ := e
  have hd := joinB_least (dif zs 1 zs.length)
  rw [dif_length] at hd
  have en : numE (repN es k) ⟨r, m, zs⟩ = repN es k :: m :: (zs.length : Int) :: dif zs 1 zs.length := rfl
  have hl : (zs.length : Int) ≤ lm.ho := hl
  rw [en] at hr ⊢
  simp only [joinB_cons, List.length_append] at hr ⊢
  rw [walkN_cons (s1 _) rfl, walkN_cons (s' := ⟨.op, es.take k, ⟨r, m, []⟩, ents, h⟩) rfl rfl]
  have s3 : ∀ rest, (zs.length : Int) ≤ rest → stepS lm ⟨.op, es.take k, ⟨r, m, []⟩, ents, h⟩ (zs.length : Int) rest = .ok (holeS ⟨.op, es.take k, ⟨r, m, []⟩, ents, zs.length⟩) := fun rest hrest => by
    show (if limitC _ _ _ ≠ 0 then _ else _) = _
    rw [limitC_0 hl hrest, if_neg (by simp)]
  by_cases h0 : zs.length = 0
  · have ez : zs = [] := List.length_eq_zero_iff.1 h0
    subst ez
    have s4 := s3 (len - (a + (vb 10 (repN es k)).length + (vb 10 m).length + (vb 10 (([] : List Iv).length : Int)).length)) (by simp only [List.length_nil] at hr ⊢; omega)
    rw [show (([] : List Iv).length : Int) = 0 from rfl] at s4 ⊢
    rw [holeS_end] at s4
    rw [show dif ([] : List Iv) 1 (List.length ([] : List Iv)) = [] from rfl, walkN_one s4]
    congr 1
    rw [joinB_nil]
    simp only [List.length_nil]
    omega
  · have s4 := s3 (len - (a + (vb 10 (repN es k)).length + (vb 10 m).length + (vb 10 (zs.length : Int)).length)) (by omega)
    rw [holeS_lo .op _ _ _ _ (show (0 : Int) < zs.length by omega)] at s4
    rw [walkN_cons s4 rfl, holes_all (zs := zs) (by omega) hw.hs hc.top]
    congr 1
    omega
/-- The numbers of a canonical vector. -/
theorem vec_walk {lm : Lim} {len a : Int} {es : List Ent} (hn : 0 < es.length) (hw : ∀ e ∈ es, EntW e) (hc : CanV es) (hl : (es.length : Int) ≤ lm.en) (hh : ∀ e ∈ es, (e.hs.length : Int) ≤ lm.ho) (hr : a + (joinB (numsV es)).length ≤ len) : ∀ k, k < es.length →
    ∃ cur h, walkN lm len (numsTo es k) St0 a = .ok (.inr (⟨.rep, es.take k, cur, (es.length : Int) - k, h⟩, a + (joinB (numsTo es k)).length)) ∧ (joinB (numsTo es (k + 1))).length ≤ (joinB (numsV es)).length
  | 0, h => by
    have pre : ∀ k, (joinB (numsTo es k)).length + (es.length - k) ≤ (joinB (numsV es)).length ∨ es.length < k := by
      intro k
      by_cases hk : k ≤ es.length
      · left
        have go : ∀ d, k + d ≤ es.length → (joinB (numsTo es k)).length + d ≤ (joinB (numsTo es (k + d))).length := by
          intro d
          induction d with
          | zero => intro _; simp
          | succ d ih =>
            intro hd
            have := ih (by omega)
            show _ ≤ (joinB (numsTo es (k + d + 1))).length
            rw [show numsTo es (k + d + 1) = numsTo es (k + d) ++ numE (repN es (k + d)) (es.getD (k + d) Ent.z) from rfl, joinB_append, List.length_append]
            have h3 := joinB_least (numE (repN es (k + d)) (es.getD (k + d) Ent.z))
            rw [numE_length] at h3
            omega
        have := go (es.length - k) (by omega)
        rw [show k + (es.length - k) = es.length by omega] at this
        exact this
      · right; omega
    have p0 := (pre 0).resolve_right (by omega)
    have p1 := (pre 1).resolve_right (by omega)
    refine ⟨St0.cur, St0.hls, ?_, (show (joinB (numsTo es 1)).length ≤ _ by omega)⟩
    rw [show numsTo es 0 = [(es.length : Int)] from rfl] at p0 ⊢
    have s1 : stepS lm St0 (es.length : Int) (len - (a + (vb 10 (es.length : Int)).length)) = .ok ⟨.rep, [], ⟨0, 0, []⟩, es.length, 0⟩ := by
      rw [joinB_cons, joinB_nil, List.append_nil] at p0
      show (if limitC _ _ _ ≠ 0 then _ else if _ then _ else _) = _
      rw [limitC_0 hl (by omega), if_neg (by simp), if_neg (by omega)]
      rfl
    rw [walkN_one s1]
    rw [outN_run rfl]
    rw [show ((es.length : Int) - ((0 : Nat) : Int)) = es.length by omega, joinB_cons, joinB_nil, List.append_nil]
    rfl
  | k + 1, h => by
    obtain ⟨cur, h1, h2, h3⟩ := vec_walk (lm := lm) hn hw hc hl hh hr k (by omega)
    have hkl : k < es.length := by omega
    have hm := hn
    have e1 : numsTo es (k + 1) = numsTo es k ++ numE (repN es k) (es.getD k Ent.z) := rfl
    have hle : (joinB (numsTo es (k + 1 + 1))).length ≤ (joinB (numsV es)).length := by
      have go : ∀ d, k + 2 + d ≤ es.length → (joinB (numsTo es (k + 2))).length ≤ (joinB (numsTo es (k + 2 + d))).length := by
        intro d
        induction d with
        | zero => intro _; exact Nat.le_refl _
        | succ d ih =>
          intro hd
          have := ih (by omega)
          show _ ≤ (joinB (numsTo es (k + 2 + d + 1))).length
          rw [show numsTo es (k + 2 + d + 1) = numsTo es (k + 2 + d) ++ numE (repN es (k + 2 + d)) (es.getD (k + 2 + d) Ent.z) from rfl, joinB_append, List.length_append]
          omega
      have := go (es.length - (k + 2)) (by omega)
      rw [show k + 2 + (es.length - (k + 2)) = es.length by omega] at this
      exact this
    rw [e1, joinB_append, List.length_append] at h3
    have ew := entry_walk (lm := lm) (len := len) (a := a + (joinB (numsTo es k)).length) (cur := cur) (ents := (es.length : Int) - k) (h := h1) hkl (hw _ (getDz_mem hkl)) (hc.ents k hkl) (hh _ (getDz_mem hkl)) (by omega)
    have e2 : endS (es.take k) (es.getD k Ent.z) ((es.length : Int) - k) = ⟨.rep, es.take (k + 1), es.getD k Ent.z, (es.length : Int) - ((k + 1 : Nat) : Int), 0⟩ := by
      unfold endS
      rw [if_pos (by omega), List.take_succ_eq_append_getElem hkl]
      congr 1
      · congr 1; simp [List.getD, List.getElem?_eq_getElem hkl]
      · omega
    refine ⟨es.getD k Ent.z, 0, ?_, hle⟩
    rw [e1, walkN_thru h2, ew, e2]
    rw [outN_run rfl, joinB_append, List.length_append]
    congr 3
    omega
theorem canon_walk {lm : Lim} {len a : Int} {es : List Ent} (hn : 0 < es.length) (hw : ∀ e ∈ es, EntW e) (hc : CanV es) (hl : (es.length : Int) ≤ lm.en) (hh : ∀ e ∈ es, (e.hs.length : Int) ≤ lm.ho) (hr : a + (joinB (numsV es)).length ≤ len) :
    walkN lm len (numsV es) St0 a = .ok (.inl (es, a + (joinB (numsV es)).length)) := by
  obtain ⟨cur, h1, h2, _⟩ := vec_walk (lm := lm) hn hw hc hl hh hr (es.length - 1) (by omega)
  have hkl : es.length - 1 < es.length := by omega
  have e1 : numsV es = numsTo es (es.length - 1) ++ numE (repN es (es.length - 1)) (es.getD (es.length - 1) Ent.z) := by
    show numsTo es es.length = _
    rw [show numsTo es (es.length - 1) ++ numE (repN es (es.length - 1)) (es.getD (es.length - 1) Ent.z) = numsTo es (es.length - 1 + 1) from rfl]
    congr 1
    omega
  rw [e1, joinB_append, List.length_append] at hr ⊢
  have ew := entry_walk (lm := lm) (len := len) (a := a + (joinB (numsTo es (es.length - 1))).length) (cur := cur) (ents := (es.length : Int) - ((es.length - 1 : Nat) : Int)) (h := h1) hkl (hw _ (getDz_mem hkl)) (hc.ents _ hkl) (hh _ (getDz_mem hkl)) (by omega)
  have e2 : endS (es.take (es.length - 1)) (es.getD (es.length - 1) Ent.z) ((es.length : Int) - ((es.length - 1 : Nat) : Int)) = ⟨.fin, es, es.getD (es.length - 1) Ent.z, 0, 0⟩ := by
    unfold endS
    rw [if_neg (by omega)]
    have e3 : es.take (es.length - 1) ++ [es.getD (es.length - 1) Ent.z] = es := by
      have := List.take_succ_eq_append_getElem hkl
      rw [show es.length - 1 + 1 = es.length by omega, List.take_length] at this
      rw [this]
      congr 1
      · rw [← this]
      · rw [← this]; simp [List.getD, List.getElem?_eq_getElem hkl]
    rw [e3]
    congr 1
    omega
  rw [walkN_thru h2, ew, e2]
  rw [outN_fin rfl]
  congr 3
  omega
end Go.Proofs.YtppeogalaikopaaDoor
namespace Go.Proofs.YtppeogalaikopaaDoor
open Go Go.RowKit

/-! ### Plain -/
theorem byteAt_drop (zs : List Int) (a i : Nat) : byteAt (zs.drop a) (0 + i) = byteAt zs (a + i) := by
  simp only [byteAt, List.getD, List.getElem?_drop, Nat.zero_add]
theorem acc_drop (zs : List Int) (a : Nat) : ∀ k, acc (zs.drop a) 0 k = acc zs a k
  | 0 => rfl
  | k + 1 => by rw [acc_at, acc_at, acc_drop zs a k, byteAt_drop]
/-- A number that was read has the bytes that were read. -/
theorem rd_once {zs : List Int} {a x n : Int} (hb : ∀ i, 0 ≤ byteAt zs i ∧ byteAt zs i ≤ 255) (h : Rd zs a (.ok (x, n))) : vb 10 x = (zs.drop a.toNat).take (n - a).toNat ∧ ((vb 10 x).length : Int) = n - a := by
  cases h with
  | ok K h0 h1 hs hp =>
    have hs' : Stops (zs.drop a.toNat) 0 K := ⟨by have := hs.lt; rw [List.length_drop]; omega, fun i hi => by rw [byteAt_drop]; exact hs.opens i hi, by rw [byteAt_drop]; exact hs.stop⟩
    have ho := once_plain (zs.drop a.toNat) (fun i => by have := byteAt_drop zs a.toNat i; rw [Nat.zero_add] at this; rw [this]; exact hb _) K hs' (by rw [byteAt_drop]; exact hp)
    rw [acc_drop] at ho
    have hl := hs.lt
    refine ⟨by rw [ho.2]; congr 1; omega, ?_⟩
    rw [ho.2, List.length_take, List.length_drop]
    omega
/-- What is read from here on is what is read in all. -/
structure GoN (lm : Lim) (zs : List Int) (o : Except (Int × Int) (List Ent × Int)) (s : St) (a : Nat) : Prop where
  run : Run lm zs s a o
  inv : StI s a
  le : a ≤ zs.length
def AfterN (lm : Lim) (zs : List Int) (o : Except (Int × Int) (List Ent × Int)) (s : St) (a : Nat) : Prop :=
  if s.ph.isFin then o = .ok (s.es, a) ∧ a ≤ zs.length else GoN lm zs o s a
theorem AfterN.go {lm : Lim} {zs : List Int} {o : Except (Int × Int) (List Ent × Int)} {s : St} {a : Nat} (h : AfterN lm zs o s a) (hf : s.ph.isFin = false) : GoN lm zs o s a := by unfold AfterN at h; rw [hf] at h; exact h
theorem AfterN.fin {lm : Lim} {zs : List Int} {o : Except (Int × Int) (List Ent × Int)} {s : St} {a : Nat} (h : AfterN lm zs o s a) (hf : s.ph.isFin = true) : o = .ok (s.es, a) ∧ a ≤ zs.length := by unfold AfterN at h; rw [hf] at h; exact h
theorem goN_err {lm : Lim} {zs : List Int} {o : Except (Int × Int) (List Ent × Int)} {s : St} {a : Nat} {c : Int} (h : GoN lm zs o s a) (hr : Rd zs a (.error c)) : o = .error (c, a) := run_err h.run hr
theorem goN_stop {lm : Lim} {zs : List Int} {o : Except (Int × Int) (List Ent × Int)} {s : St} {a n : Nat} {x c : Int} (h : GoN lm zs o s a) (hr : Rd zs a (.ok (x, n))) (hs : stepS lm s x (zs.length - n) = .error c) : o = .error (c, a) := run_stop h.run hr hs
theorem goN_step {lm : Lim} {zs : List Int} {o : Except (Int × Int) (List Ent × Int)} {s s' : St} {a n : Nat} {x : Int} (h : GoN lm zs o s a) (hr : Rd zs a (.ok (x, n))) (hs : stepS lm s x (zs.length - n) = .ok s') : AfterN lm zs o s' n := by
  obtain ⟨_, h1, h2, h3⟩ := rd_ok hr
  unfold AfterN
  cases hf : s'.ph.isFin with
  | true => exact ⟨run_fin h.run hr hs hf, by omega⟩
  | false => exact ⟨run_next h.run hr hs hf, step_inv hs h.inv h3 (by omega) (fin_iff.1 hf), by omega⟩
theorem rd_nat {zs : List Int} {a : Nat} {q : Except Int (Int × Int)} (h : Rd zs a q) : (∃ c, q = .error c ∧ (c = 5 ∨ c = 6)) ∨ ∃ (x : Int) (n : Nat), q = .ok (x, (n : Int)) ∧ a < n ∧ n ≤ zs.length ∧ Word x := by
  cases q with
  | error c => exact .inl ⟨c, rfl, rd_err h⟩
  | ok q =>
    obtain ⟨x, n⟩ := q
    obtain ⟨_, h1, h2, h3⟩ := rd_ok h
    exact .inr ⟨x, n.toNat, by rw [Int.toNat_of_nonneg (by omega)], by omega, by omega, h3⟩

/-! ### The cursor's block -/
def CurC (w : World) (p : Nat) (bv : Value) (nx en cd at' : Int) : Prop :=
  w.heap[p]? = some (.cells #[bv, .int .i64 nx, .int .i64 en, .int .i64 cd, .int .i64 at', .bool false] 42 (0, 0))
theorem CurC.lt {w : World} {p : Nat} {bv : Value} {nx en cd at' : Int} (h : CurC w p bv nx en cd at') : p < w.heap.size := Blk_lt h
theorem CurC.typed {w : World} {p : Nat} {bv : Value} {nx en cd at' : Int} (h : CurC w p bv nx en cd at') : Typed w 42 p := ⟨_, h⟩
theorem CurC.below {w w' : World} {p : Nat} {bv : Value} {nx en cd at' : Int} (h : CurC w p bv nx en cd at') (hb : Below w.heap.size w w') : CurC w' p bv nx en cd at' := (hb.block p h.lt).trans h
theorem CurC.cells {w : World} {p : Nat} {bv : Value} {nx en cd at' : Int} (h : CurC w p bv nx en cd at') : w.cell? ⟨p, 0, none⟩ = some bv ∧ w.cell? ⟨p, 1, none⟩ = some (.int .i64 nx) ∧ w.cell? ⟨p, 2, none⟩ = some (.int .i64 en) ∧ w.cell? ⟨p, 3, none⟩ = some (.int .i64 cd) ∧ w.cell? ⟨p, 4, none⟩ = some (.int .i64 at') ∧ w.cell? ⟨p, 5, none⟩ = some (.bool false) ∧ ∀ j, w.frozen? ⟨p, j, none⟩ = false := by
  have e : w.heap[p]? = _ := h
  refine ⟨?_, ?_, ?_, ?_, ?_, ?_, fun j => ?_⟩ <;> simp [World.cell?, World.frozen?, e]
theorem CurC.s1 {w : World} {p : Nat} {bv : Value} {nx en cd at' : Int} (h : CurC w p bv nx en cd at') (x : Int) : CurC (w.setCell ⟨p, 1, none⟩ (.int .i64 x)) p bv x en cd at' := heap_setCell_same _ _ 1 _ _ _ h
theorem CurC.s3 {w : World} {p : Nat} {bv : Value} {nx en cd at' : Int} (h : CurC w p bv nx en cd at') (x : Int) : CurC (w.setCell ⟨p, 3, none⟩ (.int .i64 x)) p bv nx en x at' := heap_setCell_same _ _ 3 _ _ _ h
theorem CurC.s4 {w : World} {p : Nat} {bv : Value} {nx en cd at' : Int} (h : CurC w p bv nx en cd at') (x : Int) : CurC (w.setCell ⟨p, 4, none⟩ (.int .i64 x)) p bv nx en cd x := heap_setCell_same _ _ 4 _ _ _ h
/-- The cursor in front of a number; the cursor behind an error. -/
def CGo (w : World) (p : Nat) (bv : Value) (len : Nat) (a : Nat) : Prop := CurC w p bv a len 0 0
def CErr (w : World) (p : Nat) (bv : Value) (len : Nat) (c at' : Int) : Prop := c ≠ 0 ∧ ∃ nx, CurC w p bv nx len c at'

theorem stopped_go (p : Nat) (bv : Value) (len a : Nat) (w : World) (h : CGo w p bv len a) :
    Calls Tryd.prog 39 #[.pointer (some ⟨p, 0, none⟩)] w fun e w' => e = .returned (.bool false) ∧ w = w' := by
  obtain ⟨_, _, _, c3, _, c5, _⟩ := h.cells
  clear h
  go_enter Tryd.func39, Tryd.ntmps39
  go_wp2
  go_ret
  exact ⟨rfl, rfl⟩
theorem stopped_err (p : Nat) (bv : Value) (len : Nat) (c at' : Int) (w : World) (h : CErr w p bv len c at') :
    Calls Tryd.prog 39 #[.pointer (some ⟨p, 0, none⟩)] w fun e w' => e = .returned (.bool true) ∧ w = w' := by
  obtain ⟨hc, nx, h⟩ := h
  obtain ⟨_, _, _, c3, _, c5, _⟩ := h.cells
  have q : (c != 0) = true := by simpa using hc
  clear h hc
  go_enter Tryd.func39, Tryd.ntmps39
  go_wp2
  go_ret
  exact ⟨rfl, rfl⟩
theorem fail_at (p : Nat) (bv : Value) (len a : Nat) (c at' : Int) (w : World) (h : CGo w p bv len a) :
    Calls Tryd.prog 38 #[.pointer (some ⟨p, 0, none⟩), .int .i64 c, .int .i64 at'] w fun e w' => e = .returned (.tuple #[]) ∧ CurC w' p bv a len c at' ∧ Only (fun b => b = p) w w' := by
  have K := hide (stopped_go p bv len a w h)
  have h3 := CurC.s3 h c
  have h4 := hide (h3.s4 at')
  obtain ⟨_, _, _, c3, _, _, fz⟩ := h.cells
  obtain ⟨_, _, _, _, c4, _, fz'⟩ := h3.cells
  have HO := hide (((Only.refl (fun b => b = p) w).setCell (p := ⟨p, 3, none⟩) (.inl rfl) (.int .i64 c)).setCell (p := ⟨p, 4, none⟩) (.inl rfl) (.int .i64 at'))
  clear h h3
  go_enter Tryd.func38, Tryd.ntmps38
  go_wp2_with fail
  refine K.out.mono ?_
  rintro e w1 ⟨rfl, rfl⟩
  go_wp2
  go_end0
  exact ⟨rfl, h4.out, HO.out⟩
theorem fail_go (p : Nat) (bv : Value) (len a : Nat) (c at' : Int) (hc : c ≠ 0) (w : World) (h : CGo w p bv len a) :
    Calls Tryd.prog 38 #[.pointer (some ⟨p, 0, none⟩), .int .i64 c, .int .i64 at'] w fun e w' => e = .returned (.tuple #[]) ∧ CErr w' p bv len c at' ∧ Only (fun b => b = p) w w' :=
  (fail_at p bv len a c at' w h).mono fun _ _ ⟨he, hC, hO⟩ => ⟨he, ⟨hc, a, hC⟩, hO⟩
theorem fail_err (p : Nat) (bv : Value) (len : Nat) (c0 at0 c at' : Int) (w : World) (h : CErr w p bv len c0 at0) :
    Calls Tryd.prog 38 #[.pointer (some ⟨p, 0, none⟩), .int .i64 c, .int .i64 at'] w fun e w' => e = .returned (.tuple #[]) ∧ w = w' := by
  have K := hide (stopped_err p bv len c0 at0 w h)
  clear h
  go_enter Tryd.func38, Tryd.ntmps38
  go_wp2_with fail
  refine K.out.mono ?_
  rintro e w1 ⟨rfl, rfl⟩
  go_wp2
  go_end0
  exact ⟨rfl, rfl⟩
end Go.Proofs.YtppeogalaikopaaDoor
namespace Go.Proofs.YtppeogalaikopaaDoor
open Go Go.RowKit

theorem num_err (p : Nat) (bv : Value) (len : Nat) (c at' : Int) (w : World) (h : CErr w p bv len c at') :
    Calls Tryd.prog 62 #[.pointer (some ⟨p, 0, none⟩)] w fun e w' => e = .returned (.tuple #[.int .u64 0, .int .i64 0]) ∧ w = w' := by
  have K := hide (stopped_err p bv len c at' w h)
  clear h
  go_enter Tryd.func62, Tryd.ntmps62
  go_wp2_with fail
  refine K.out.mono ?_
  rintro e w1 ⟨rfl, rfl⟩
  go_wp2
  go_ret2
  exact ⟨rfl, rfl⟩

theorem CurC.only {w w' : World} {p : Nat} {bv : Value} {nx en cd at' : Int} {may : Nat → Prop} (h : CurC w p bv nx en cd at') (ho : Only may w w') (hm : ¬ may p) : CurC w' p bv nx en cd at' := ho.obj hm h
theorem CurC.drewN {w : World} {p : Nat} {bv : Value} {nx en cd at' : Int} (h : CurC w p bv nx en cd at') (n : Nat) : CurC (w.drewN n) p bv nx en cd at' := h.below (bl_drewN (Below.refl _ _) n)
/-- Scan, in short: the state, the number and the index behind it. -/
theorem scan_rd (ad : Option Addr) (len cap : Nat) (zs : List Int) (a : Nat) (q : Except Int (Int × Int)) (hl : zs.length = len) (ha : a ≤ len) (hlm : len ≤ 1000000) (hr : Rd zs a q) :
    ∃ st x n : Int, ((∃ c, q = .error c ∧ x = 0 ∧ ((st = 2 ∧ c = 6) ∨ (st = 3 ∧ c = 5))) ∨ (st = 1 ∧ q = .ok (x, n))) ∧
      ∀ w, Ints .u8 w ad len zs → Calls Tryd.prog 77 #[.slice ad len cap, .int .i64 a, .int .i64 len] w fun e w' => e = .returned (.tuple #[.int .i64 st, .int .u64 x, .int .i64 n]) ∧ w = w' := by
  cases hr with
  | out g =>
    obtain rfl : a = len := by omega
    refine ⟨3, 0, a, .inl ⟨5, rfl, rfl, .inr ⟨rfl, rfl⟩⟩, fun w h => ?_⟩
    have K := scan_open ad a cap zs a a w h (Nat.le_refl _) hlm (by omega) (fun i hi => absurd hi (by omega)) (Int.le_refl _)
    rw [if_pos rfl] at K
    exact K
  | short g1 g2 g3 =>
    refine ⟨3, 0, len, .inl ⟨5, rfl, rfl, .inr ⟨rfl, rfl⟩⟩, fun w h => ?_⟩
    have K := scan_open ad len cap zs a len w h ha hlm (by omega) (by simpa using g3) (Int.le_refl _)
    rw [if_pos rfl] at K
    exact K
  | bad k g1 g2 g3 g4 =>
    have hst : Stops zs a k := by simpa using g3
    have hp : putS k (byteAt zs (a + k)) = 2 := by simpa using g4
    refine ⟨2, 0, a + k + 1, .inl ⟨6, rfl, rfl, .inl ⟨rfl, rfl⟩⟩, fun w h => ?_⟩
    have K := scan_stop ad len cap zs a len k w h ha hlm (by omega) hst (by have := hst.lt; omega)
    rw [hp] at K
    unfold stopX at K
    rw [if_neg (by rw [hp]; decide)] at K
    exact K
  | ok k g1 g2 g3 g4 =>
    have hst : Stops zs a k := by simpa using g3
    have hp : putS k (byteAt zs (a + k)) = 1 := by simpa using g4
    refine ⟨1, acc zs a (k + 1), a + k + 1, .inr ⟨rfl, by simp; omega⟩, fun w h => ?_⟩
    have K := scan_stop ad len cap zs a len k w h ha hlm (by omega) hst (by have := hst.lt; omega)
    rw [hp] at K
    unfold stopX at K
    rw [if_pos hp] at K
    exact K
set_option maxHeartbeats 1600000 in
theorem num_bad (p : Nat) (ad : Option Addr) (len cap : Nat) (zs : List Int) (a : Nat) (c : Int) (w : World) (hI : Ints .u8 w ad len zs) (ha : a ≤ len) (hlm : len ≤ 1000000) (h : CGo w p (.slice ad len cap) len a) (hr : Rd zs a (.error c)) :
    Calls Tryd.prog 62 #[.pointer (some ⟨p, 0, none⟩)] w fun e w' => e = .returned (.tuple #[.int .u64 0, .int .i64 a]) ∧ CErr w' p (.slice ad len cap) len c a ∧ Only (fun b => b = p) w w' := by
  have K := hide (stopped_go p _ len a w h)
  obtain ⟨st, x, n, hor, hK⟩ := scan_rd ad len cap zs a _ hI.length ha hlm hr
  have KS := hide (fun n => hK (w.drewN n) (hI.below (bl_drewN (Below.refl _ _) n)))
  have KF := hide (fun (c : Int) (hc : c ≠ 0) n => fail_go p _ len a c a hc (w.drewN n) (CurC.drewN h n))
  obtain ⟨c0, c1, c2, c3, c4, c5, fz⟩ := h.cells
  obtain ⟨hx, hs⟩ : x = 0 ∧ ((st = 2 ∧ c = 6) ∨ (st = 3 ∧ c = 5)) := by
    rcases hor with ⟨c', hc, hx, hs⟩ | ⟨_, hq⟩
    · cases hc; exact ⟨hx, hs⟩
    · cases hq
  subst hx
  clear hK hor h hI hr
  rcases hs with ⟨rfl, rfl⟩ | ⟨rfl, rfl⟩
  · go_enter Tryd.func62, Tryd.ntmps62
    go_wp2_with fail
    refine K.out.mono ?_
    rintro e w1 ⟨rfl, rfl⟩
    go_wp2_with fail
    go_quiet ((go_at_call 77; exact quiet_left (KS.out _)))
    go_wp2_with fail
    refine (KF.out 6 (by decide) _).mono ?_
    rintro e w2 ⟨rfl, hE, hO⟩
    have HE := hide hE
    have HO := hide hO
    clear hE hO
    go_wp2
    go_ret2
    exact ⟨rfl, HE.out, ((Only.refl _ _).drewN _).trans HO.out⟩
  · go_enter Tryd.func62, Tryd.ntmps62
    go_wp2_with fail
    refine K.out.mono ?_
    rintro e w1 ⟨rfl, rfl⟩
    go_wp2_with fail
    go_quiet ((go_at_call 77; exact quiet_left (KS.out _)))
    go_wp2_with fail
    refine (KF.out 5 (by decide) _).mono ?_
    rintro e w2 ⟨rfl, hE, hO⟩
    have HE := hide hE
    have HO := hide hO
    clear hE hO
    go_wp2
    go_ret2
    exact ⟨rfl, HE.out, ((Only.refl _ _).drewN _).trans HO.out⟩
set_option maxHeartbeats 1600000 in
theorem num_ok (p : Nat) (ad : Option Addr) (len cap : Nat) (zs : List Int) (a : Nat) (x : Int) (n : Nat) (w : World) (hI : Ints .u8 w ad len zs) (ha : a ≤ len) (hlm : len ≤ 1000000) (h : CGo w p (.slice ad len cap) len a) (hr : Rd zs a (.ok (x, (n : Int)))) :
    Calls Tryd.prog 62 #[.pointer (some ⟨p, 0, none⟩)] w fun e w' => e = .returned (.tuple #[.int .u64 x, .int .i64 a]) ∧ CGo w' p (.slice ad len cap) len n ∧ Only (fun b => b = p) w w' := by
  have K := hide (stopped_go p _ len a w h)
  obtain ⟨st, x', m, hor, hK⟩ := scan_rd ad len cap zs a _ hI.length ha hlm hr
  obtain ⟨rfl, rfl, rfl⟩ : st = 1 ∧ x = x' ∧ m = (n : Int) := by
    rcases hor with ⟨c', hc, _⟩ | ⟨h1, hq⟩
    · cases hc
    · cases hq; exact ⟨h1, rfl, rfl⟩
  have KS := hide (fun n => hK (w.drewN n) (hI.below (bl_drewN (Below.refl _ _) n)))
  have KG := hide (fun j => (CurC.drewN h j).s1 (n : Int))
  obtain ⟨c0, c1, c2, c3, c4, c5, fz⟩ := h.cells
  clear hK hor h hI hr
  go_enter Tryd.func62, Tryd.ntmps62
  go_wp2_with fail
  refine K.out.mono ?_
  rintro e w1 ⟨rfl, rfl⟩
  go_wp2_with fail
  go_quiet ((go_at_call 77; exact quiet_left (KS.out _)))
  go_wp2
  go_ret2
  exact ⟨rfl, KG.out _, ((Only.refl (fun b => b = p) w).drewN _).setCell (p := ⟨p, 1, none⟩) (.inl rfl) _⟩
theorem count_err (p : Nat) (bv : Value) (len : Nat) (c at' limit : Int) (w : World) (h : CErr w p bv len c at') :
    Calls Tryd.prog 37 #[.pointer (some ⟨p, 0, none⟩), .int .i64 limit] w fun e w' => e = .returned (.int .i64 0) ∧ w = w' := by
  have K := hide (num_err p bv len c at' w h)
  have K2 := hide (stopped_err p bv len c at' w h)
  clear h
  go_enter Tryd.func37, Tryd.ntmps37
  go_wp2_with fail
  refine K.out.mono ?_
  rintro e w1 ⟨rfl, rfl⟩
  go_wp2_with fail
  refine K2.out.mono ?_
  rintro e w1 ⟨rfl, rfl⟩
  go_wp2
  go_ret
  exact ⟨rfl, rfl⟩
theorem count_rd (p : Nat) (ad : Option Addr) (len cap : Nat) (zs : List Int) (a : Nat) (c limit : Int) (w : World) (hI : Ints .u8 w ad len zs) (ha : a ≤ len) (hlm : len ≤ 1000000) (h : CGo w p (.slice ad len cap) len a) (hr : Rd zs a (.error c)) :
    Calls Tryd.prog 37 #[.pointer (some ⟨p, 0, none⟩), .int .i64 limit] w fun e w' => e = .returned (.int .i64 0) ∧ CErr w' p (.slice ad len cap) len c a ∧ Only (fun b => b = p) w w' := by
  have K := hide (num_bad p ad len cap zs a c w hI ha hlm h hr)
  clear h hI hr
  go_enter Tryd.func37, Tryd.ntmps37
  go_wp2_with fail
  refine K.out.mono ?_
  rintro e w1 ⟨rfl, hE, hO⟩
  have HE := hide hE
  have HO := hide hO
  clear hE hO
  go_wp2_with fail
  refine (stopped_err p _ len c a _ HE.out).mono ?_
  rintro e w2 ⟨rfl, rfl⟩
  go_wp2
  go_ret
  exact ⟨rfl, HE.out, HO.out⟩
/-- The checks of a count behind the number. -/
structure CntK (p : Nat) (bv : Value) (len n a : Nat) (x : Int) (w : World) : Prop where
  num : Calls Tryd.prog 62 #[.pointer (some ⟨p, 0, none⟩)] w fun e w' => e = .returned (.tuple #[.int .u64 x, .int .i64 a]) ∧ CGo w' p bv len n ∧ Only (fun b => b = p) w w'
set_option maxHeartbeats 1600000 in
theorem count_7 (p : Nat) (bv : Value) (len n a : Nat) (x limit : Int) (w : World) (hx : Word x) (hl : -9223372036854775808 ≤ limit ∧ limit ≤ 9223372036854775807) (K : CntK p bv len n a x w) (h7 : max limit 0 < x) :
    Calls Tryd.prog 37 #[.pointer (some ⟨p, 0, none⟩), .int .i64 limit] w fun e w' => e = .returned (.int .i64 0) ∧ CErr w' p bv len 7 a ∧ Only (fun b => b = p) w w' := by
  have KN := hide K.num
  obtain ⟨hx0, hx1⟩ := hx
  obtain ⟨hl0, hl1⟩ := hl
  clear K
  by_cases g : limit < 0
  · have g2 : (x == 0) = false := by simp; omega
    go_enter Tryd.func37, Tryd.ntmps37
    go_wp2_with fail
    refine KN.out.mono ?_
    rintro e w1 ⟨rfl, hG, hO⟩
    have HG := hide hG
    have HO := hide hO
    clear hG hO
    go_wp2_with fail
    refine (stopped_go p _ len n _ HG.out).mono ?_
    rintro e w2 ⟨rfl, rfl⟩
    go_wp2_with fail
    refine (fail_go p _ len n 7 a (by decide) _ HG.out).mono ?_
    rintro e w3 ⟨rfl, hE, hO3⟩
    have HE := hide hE
    have HO3 := hide (HO.out.trans hO3)
    clear hE hO3
    go_wp2
    go_ret
    exact ⟨rfl, HE.out, HO3.out⟩
  · have g1 : 0 ≤ limit := by omega
    have m1 : IntKind.u64.wrap limit = limit := by rw [IntKind.wrap_u64]; omega
    have g2 : limit < x := by omega
    clear h7
    go_enter Tryd.func37, Tryd.ntmps37
    go_wp2_with fail
    refine KN.out.mono ?_
    rintro e w1 ⟨rfl, hG, hO⟩
    have HG := hide hG
    have HO := hide hO
    clear hG hO
    go_wp2_with fail
    refine (stopped_go p _ len n _ HG.out).mono ?_
    rintro e w2 ⟨rfl, rfl⟩
    go_wp2_with fail
    refine (fail_go p _ len n 7 a (by decide) _ HG.out).mono ?_
    rintro e w3 ⟨rfl, hE, hO3⟩
    have HE := hide hE
    have HO3 := hide (HO.out.trans hO3)
    clear hE hO3
    go_wp2
    go_ret
    exact ⟨rfl, HE.out, HO3.out⟩
set_option maxHeartbeats 1600000 in
theorem count_neg (p : Nat) (bv : Value) (len n a : Nat) (limit : Int) (w : World) (K : CntK p bv len n a 0 w) (hl : limit < 0) :
    Calls Tryd.prog 37 #[.pointer (some ⟨p, 0, none⟩), .int .i64 limit] w fun e w' => e = .returned (.int .i64 0) ∧ CGo w' p bv len n ∧ Only (fun b => b = p) w w' := by
  have KN := hide K.num
  clear K
  go_enter Tryd.func37, Tryd.ntmps37
  go_wp2_with fail
  refine KN.out.mono ?_
  rintro e w1 ⟨rfl, hG, hO⟩
  have HG := hide hG
  have HO := hide hO
  clear hG hO
  go_wp2_with fail
  refine (stopped_go p _ len n _ HG.out).mono ?_
  rintro e w2 ⟨rfl, rfl⟩
  go_wp2
  go_ret
  exact ⟨rfl, HG.out, HO.out⟩
set_option maxHeartbeats 1600000 in
theorem count_5 (p : Nat) (bv : Value) (len n a : Nat) (x limit : Int) (w : World) (hx : Word x) (hl : 0 ≤ limit ∧ limit ≤ 9223372036854775807) (K : CntK p bv len n a x w) (hn : n ≤ len) (hlm : len ≤ 1000000) (h7 : x ≤ limit) (h5 : (len : Int) - n < x) :
    Calls Tryd.prog 37 #[.pointer (some ⟨p, 0, none⟩), .int .i64 limit] w fun e w' => e = .returned (.int .i64 0) ∧ CErr w' p bv len 5 a ∧ Only (fun b => b = p) w w' := by
  have KN := hide K.num
  obtain ⟨hx0, hx1⟩ := hx
  obtain ⟨hl0, hl1⟩ := hl
  have m1 : IntKind.u64.wrap limit = limit := by rw [IntKind.wrap_u64]; omega
  have m2 : IntKind.i64.wrap ((len : Int) - n) = (len : Int) - n := by rw [IntKind.wrap_i64]; omega
  have m3 : IntKind.u64.wrap ((len : Int) - n) = (len : Int) - n := by rw [IntKind.wrap_u64]; omega
  have g1 : ¬ limit < 0 := by omega
  have g2 : ¬ limit < x := by omega
  clear K hx0 hx1 hl0 hl1
  go_enter Tryd.func37, Tryd.ntmps37
  go_wp2_with fail
  refine KN.out.mono ?_
  rintro e w1 ⟨rfl, hG, hO⟩
  have HG := hide hG
  have HO := hide hO
  obtain ⟨_, c1, c2, _, _, _, _⟩ := hG.cells
  clear hG hO
  go_wp2_with fail
  refine (stopped_go p _ len n _ HG.out).mono ?_
  rintro e w2 ⟨rfl, rfl⟩
  go_wp2_with fail
  go_quiet (fail)
  go_wp2_with fail
  refine (fail_go p _ len n 5 a (by decide) _ (CurC.drewN HG.out _)).mono ?_
  rintro e w3 ⟨rfl, hE, hO3⟩
  have HE := hide hE
  have HO3 := hide ((HO.out.drewN _).trans hO3)
  clear hE hO3
  go_wp2
  go_ret
  exact ⟨rfl, HE.out, HO3.out⟩
set_option maxHeartbeats 1600000 in
theorem count_yes (p : Nat) (bv : Value) (len n a : Nat) (x limit : Int) (w : World) (hx : Word x) (hl : 0 ≤ limit ∧ limit ≤ 9223372036854775807) (K : CntK p bv len n a x w) (hn : n ≤ len) (hlm : len ≤ 1000000) (h7 : x ≤ limit) (h5 : x ≤ (len : Int) - n) :
    Calls Tryd.prog 37 #[.pointer (some ⟨p, 0, none⟩), .int .i64 limit] w fun e w' => e = .returned (.int .i64 x) ∧ CGo w' p bv len n ∧ Only (fun b => b = p) w w' := by
  have KN := hide K.num
  obtain ⟨hx0, hx1⟩ := hx
  obtain ⟨hl0, hl1⟩ := hl
  have m1 : IntKind.u64.wrap limit = limit := by rw [IntKind.wrap_u64]; omega
  have m2 : IntKind.i64.wrap ((len : Int) - n) = (len : Int) - n := by rw [IntKind.wrap_i64]; omega
  have m3 : IntKind.u64.wrap ((len : Int) - n) = (len : Int) - n := by rw [IntKind.wrap_u64]; omega
  have m4 : IntKind.i64.wrap x = x := by rw [IntKind.wrap_i64]; omega
  have g1 : ¬ limit < 0 := by omega
  have g2 : ¬ limit < x := by omega
  have g3 : ¬ (len : Int) - n < x := by omega
  clear K hx0 hx1 hl0 hl1
  go_enter Tryd.func37, Tryd.ntmps37
  go_wp2_with fail
  refine KN.out.mono ?_
  rintro e w1 ⟨rfl, hG, hO⟩
  have HG := hide hG
  have HO := hide hO
  obtain ⟨_, c1, c2, _, _, _, _⟩ := hG.cells
  clear hG hO
  go_wp2_with fail
  refine (stopped_go p _ len n _ HG.out).mono ?_
  rintro e w2 ⟨rfl, rfl⟩
  go_wp2_with fail
  go_quiet (fail)
  go_wp2
  go_ret
  exact ⟨rfl, CurC.drewN HG.out _, HO.out.drewN _⟩
/-- Count over a limit, as the Reader's check. -/
theorem count_go (p : Nat) (ad : Option Addr) (len cap : Nat) (zs : List Int) (a : Nat) (limit : Int) (w : World) (hI : Ints .u8 w ad len zs) (ha : a ≤ len) (hlm : len ≤ 1000000) (h : CGo w p (.slice ad len cap) len a) (hl : -9223372036854775808 ≤ limit ∧ limit ≤ 9223372036854775807) :
    Calls Tryd.prog 37 #[.pointer (some ⟨p, 0, none⟩), .int .i64 limit] w fun e w' => Only (fun b => b = p) w w' ∧
      ((∃ c, (Rd zs a (.error c) ∨ ∃ (x : Int) (n : Nat), Rd zs a (.ok (x, (n : Int))) ∧ limitC x limit (zs.length - n) = c ∧ c ≠ 0) ∧ e = .returned (.int .i64 0) ∧ CErr w' p (.slice ad len cap) len c a) ∨
       (∃ (x n : Nat), Rd zs a (.ok ((x : Int), (n : Int))) ∧ limitC x limit (zs.length - n) = 0 ∧ e = .returned (.int .i64 x) ∧ CGo w' p (.slice ad len cap) len n ∧ x ≤ len ∧ n ≤ len)) := by
  obtain ⟨q, hq⟩ := rd_some zs a
  have hlen := hI.length
  rcases rd_nat hq with ⟨c, rfl, _⟩ | ⟨x, n, rfl, h1, h2, hx⟩
  · refine (count_rd p ad len cap zs a c limit w hI ha hlm h hq).mono ?_
    rintro e w' ⟨rfl, hE, hO⟩
    exact ⟨hO, .inl ⟨c, .inl hq, rfl, hE⟩⟩
  · have K : CntK p (.slice ad len cap) len n a x w := ⟨num_ok p ad len cap zs a x n w hI ha hlm h hq⟩
    obtain ⟨hx0, hx1⟩ := hx
    by_cases g7 : max limit 0 < x
    · refine (count_7 p _ len n a x limit w ⟨hx0, hx1⟩ hl K g7).mono ?_
      rintro e w' ⟨rfl, hE, hO⟩
      exact ⟨hO, .inl ⟨7, .inr ⟨x, n, hq, by unfold limitC; rw [if_pos g7], by decide⟩, rfl, hE⟩⟩
    · by_cases gl : limit < 0
      · obtain rfl : x = 0 := by omega
        refine (count_neg p _ len n a limit w K gl).mono ?_
        rintro e w' ⟨rfl, hG, hO⟩
        exact ⟨hO, .inr ⟨0, n, hq, by rw [show ((0 : Nat) : Int) = 0 from rfl]; unfold limitC; rw [if_neg g7, if_neg (by omega)], rfl, hG, by omega, by omega⟩⟩
      · by_cases g5 : (len : Int) - n < x
        · refine (count_5 p _ len n a x limit w ⟨hx0, hx1⟩ ⟨by omega, hl.2⟩ K (by omega) hlm (by omega) g5).mono ?_
          rintro e w' ⟨rfl, hE, hO⟩
          exact ⟨hO, .inl ⟨5, .inr ⟨x, n, hq, by unfold limitC; rw [if_neg g7, if_pos (by omega)], by decide⟩, rfl, hE⟩⟩
        · refine (count_yes p _ len n a x limit w ⟨hx0, hx1⟩ ⟨by omega, hl.2⟩ K (by omega) hlm (by omega) (by omega)).mono ?_
          rintro e w' ⟨rfl, hG, hO⟩
          have ex : x = (x.toNat : Int) := by omega
          exact ⟨hO, .inr ⟨x.toNat, n, by rw [← ex]; exact hq, by rw [← ex]; unfold limitC; rw [if_neg g7, if_neg (by omega)], by rw [← ex], hG, by omega, by omega⟩⟩
end Go.Proofs.YtppeogalaikopaaDoor
namespace Go.Proofs.YtppeogalaikopaaDoor
open Go Go.RowKit

/-- A predicate that looks at one block alone. -/
structure LocP (p : Nat) (C : World → Prop) : Prop where
  st : ∀ W W' : World, W'.heap[p]? = W.heap[p]? → C W → C W'
theorem LocP.below {p : Nat} {C : World → Prop} (h : LocP p C) {W W' : World} (hp : p < W.heap.size) (hb : Below W.heap.size W W') (hc : C W) : C W' := h.st W W' (hb.block p hp) hc
theorem cgo_loc (p : Nat) (bv : Value) (len a : Nat) : LocP p (fun W => CGo W p bv len a) := ⟨fun _ _ e h => e.trans h⟩
theorem cerr_loc (p : Nat) (bv : Value) (len : Nat) (c a : Int) : LocP p (fun W => CErr W p bv len c a) := ⟨fun _ _ e h => ⟨h.1, h.2.choose, e.trans h.2.choose_spec⟩⟩
/-- What a call does to the cursor: the value that it returns, the predicate behind it. -/
def Eff (p : Nat) (f : FuncId) (args : Array Value) (v : Value) (wb : World) (C C' : World → Prop) : Prop :=
  ∀ W, C W → Below wb.heap.size wb W → p < W.heap.size → Calls Tryd.prog f args W fun e w' => e = .returned v ∧ C' w' ∧ Only (fun b => b = p) W w'
theorem only_bel {p : Nat} {wb W W' : World} (hp : wb.heap.size ≤ p) (hb : Below wb.heap.size wb W) (ho : Only (fun b => b = p) W W') : Below wb.heap.size wb W' := hb.trans (ho.below hb.size (fun k hk => by subst hk; exact hp))

set_option maxHeartbeats 1600000 in
theorem rint_f_good (p : Nat) (wb w : World) (ad : Option Addr) (hcap : Nat) (x a1 lo y a2 : Int) (C0 C1 C3 : World → Prop) (hp : wb.heap.size ≤ p) (hB : Below wb.heap.size wb w) (hlt : p < w.heap.size) (h0 : C0 w)
    (L0 : LocP p C0) (L1 : LocP p C1) (L3 : LocP p C3) 
    (K1 : Eff p 62 #[.pointer (some ⟨p, 0, none⟩)] (.tuple #[.int .u64 x, .int .i64 a1]) wb C0 C1)
    (KL : ∀ W, Calls Tryd.prog 79 #[.bool true, .int .u64 0, .int .u64 1, .int .u64 x] W fun e w' => e = .returned (.tuple #[.int .u64 lo, .bool true]) ∧ Below W.heap.size W w')
    (K2 : Eff p 62 #[.pointer (some ⟨p, 0, none⟩)] (.tuple #[.int .u64 y, .int .i64 a2]) wb C1 C3)
    (wl : Word lo) (wy : Word y) (hs : lo + y < 18446744073709551616)
    (K5 : ∀ W, C3 W → Calls Tryd.prog 39 #[.pointer (some ⟨p, 0, none⟩)] W fun e w' => e = .returned (.bool false) ∧ W = w') :
    Calls Tryd.prog 64 #[.pointer (some ⟨p, 0, none⟩), .slice ad 0 hcap, .int .u64 1] w fun e w' => e = .returned (.agg #[.int .u64 lo, .int .u64 (lo + y)]) ∧ C3 w' ∧ Only (fun b => b = p) w w' := by
  obtain ⟨s, es⟩ : ∃ s, s = lo + y := ⟨_, rfl⟩
  have HS := hide (fun (W : World) (b : Nat) (hW : W.heap[b]? = some (.cells #[.int .u64 lo, .int .u64 y] 51 (0, 0))) => rsum_yes (some ⟨b, 0, none⟩) 2 2 [lo, y] s W (ints2 wl wy hW) (by rw [es]; simp) (by rw [es]; exact hs))
  rw [← es]
  clear hs es
  have H0 := hide h0; have HB := hide hB; have LL0 := hide L0; have LL1 := hide L1; have LL3 := hide L3; have KK1 := hide K1; have KKL := hide KL; have KK2 := hide K2; have KK5 := hide K5; have HP := hide hp
  clear h0 hB L0 L1 L3 K1 KL K2 K5 wl wy 
  go_enter Tryd.func64, Tryd.ntmps64
  go_wp2_with fail
  have hb0 : Below w.heap.size w (w.alloc (.cells #[.int .u64 0, .int .u64 0] 68)) := bl_alloc (Below.refl _ _) _
  refine (KK1.out _ (LL0.out.below hlt hb0 H0.out) (HB.out.alloc HB.out.size _) (keep_lt hb0 hlt)).mono ?_
  rintro e w1 ⟨rfl, hC1, hO1⟩
  have R1 : w1.heap[w.heap.size]? = some (.cells #[.int .u64 0, .int .u64 0] 68 (0, 0)) := hO1.obj (by omega) (heap_new_at _ _ rfl)
  have O1 := hide ((Only.of_below hb0).trans hO1)
  have C1' := hide hC1
  clear hC1 hO1 hb0 
  go_wp2_with fail
  refine (KKL.out w1).mono ?_
  rintro e w2 ⟨rfl, b2⟩
  have hl1 : p < w1.heap.size := Nat.lt_of_lt_of_le hlt O1.out.size
  have R2 := (b2.block _ (Blk_lt R1)).trans R1
  have O2 := hide (O1.out.call b2)
  have C2' := hide (LL1.out.below hl1 b2 C1'.out)
  clear b2 R1 hl1
  go_wp2_with fail
  refine (KK2.out w2 C2'.out (only_bel HP.out HB.out O2.out) (Nat.lt_of_lt_of_le hlt O2.out.size)).mono ?_
  rintro e w4 ⟨rfl, hC4, hO4⟩
  have R4 := hO4.obj (show ¬ w.heap.size = p by omega) R2
  have O4 := hide (O2.out.trans hO4)
  have C4' := hide hC4
  clear hC4 hO4 R2
  go_wp2_with fail
  refine (HS.out _ _ (heap_new_at _ _ rfl)).mono ?_
  rintro e w5 ⟨rfl, b5⟩
  have hb5 := bl_trans (bl_alloc (Below.refl w4.heap.size w4) _) b5
  have R5 := (hb5.block _ (Blk_lt R4)).trans R4
  have C5' := hide (LL3.out.below (Nat.lt_of_lt_of_le hlt O4.out.size) hb5 C4'.out)
  have O5 := hide (O4.out.call hb5)
  clear b5 hb5 R4
  go_wp2_with fail
  refine (KK5.out w5 C5'.out).mono ?_
  rintro e w7 ⟨rfl, rfl⟩
  have k0 : w5.cell? ⟨w.heap.size, 0, none⟩ = some (.int .u64 0) := by simp [World.cell?, R5]
  have k1 : w5.cell? ⟨w.heap.size, 1, none⟩ = some (.int .u64 0) := by simp [World.cell?, R5]
  have f0 : ∀ j, w5.frozen? ⟨w.heap.size, j, none⟩ = false := by intro j; simp [World.frozen?, R5]
  have e0 := heap_setCell_same _ _ 1 _ _ (.int .u64 s) (heap_setCell_same _ _ 0 _ _ (.int .u64 lo) R5)
  have FO := hide (((Only.refl (fun b => b = w.heap.size) w5).setCell (p := ⟨w.heap.size, 0, none⟩) (.inl rfl) (.int .u64 lo)).setCell (p := ⟨w.heap.size, 1, none⟩) (.inl rfl) (.int .u64 s))
  clear R5
  go_wp2
  refine bodyPost_ret (v := .agg #[.int .u64 lo, .int .u64 s]) ?_ rfl ⟨rfl, LL3.out.st _ _ (FO.out.block p (Nat.lt_of_lt_of_le hlt O5.out.size) (show ¬ p = w.heap.size by omega)) C5'.out, (O5.out.setCell (p := ⟨w.heap.size, 0, none⟩) (.inr (Nat.le_refl _)) _).setCell (p := ⟨w.heap.size, 1, none⟩) (.inr (Nat.le_refl _)) _⟩
  simp [results, Tryd.results64, go_sem, World.cell?, e0]
set_option maxHeartbeats 1600000 in
theorem rint_f_tt (p : Nat) (wb w : World) (ad : Option Addr) (hcap : Nat) (x a1 lo y a2 : Int) (C0 C1 C3 : World → Prop) (hp : wb.heap.size ≤ p) (hB : Below wb.heap.size wb w) (hlt : p < w.heap.size) (h0 : C0 w)
    (L0 : LocP p C0) (L1 : LocP p C1) (L3 : LocP p C3) 
    (K1 : Eff p 62 #[.pointer (some ⟨p, 0, none⟩)] (.tuple #[.int .u64 x, .int .i64 a1]) wb C0 C1)
    (KL : ∀ W, Calls Tryd.prog 79 #[.bool true, .int .u64 0, .int .u64 1, .int .u64 x] W fun e w' => e = .returned (.tuple #[.int .u64 lo, .bool true]) ∧ Below W.heap.size W w')
    (K2 : Eff p 62 #[.pointer (some ⟨p, 0, none⟩)] (.tuple #[.int .u64 y, .int .i64 a2]) wb C1 C3)
    (wl : Word lo) (wy : Word y) (hs : lo + y < 18446744073709551616)
    (K5 : ∀ W, C3 W → Calls Tryd.prog 39 #[.pointer (some ⟨p, 0, none⟩)] W fun e w' => e = .returned (.bool true) ∧ W = w') :
    Calls Tryd.prog 64 #[.pointer (some ⟨p, 0, none⟩), .slice ad 0 hcap, .int .u64 1] w fun e w' => e = .returned (.agg #[.int .u64 0, .int .u64 0]) ∧ C3 w' ∧ Only (fun b => b = p) w w' := by
  obtain ⟨s, es⟩ : ∃ s, s = lo + y := ⟨_, rfl⟩
  have HS := hide (fun (W : World) (b : Nat) (hW : W.heap[b]? = some (.cells #[.int .u64 lo, .int .u64 y] 51 (0, 0))) => rsum_yes (some ⟨b, 0, none⟩) 2 2 [lo, y] s W (ints2 wl wy hW) (by rw [es]; simp) (by rw [es]; exact hs))
  clear hs es
  have H0 := hide h0; have HB := hide hB; have LL0 := hide L0; have LL1 := hide L1; have LL3 := hide L3; have KK1 := hide K1; have KKL := hide KL; have KK2 := hide K2; have KK5 := hide K5; have HP := hide hp
  clear h0 hB L0 L1 L3 K1 KL K2 K5 wl wy 
  go_enter Tryd.func64, Tryd.ntmps64
  go_wp2_with fail
  have hb0 : Below w.heap.size w (w.alloc (.cells #[.int .u64 0, .int .u64 0] 68)) := bl_alloc (Below.refl _ _) _
  refine (KK1.out _ (LL0.out.below hlt hb0 H0.out) (HB.out.alloc HB.out.size _) (keep_lt hb0 hlt)).mono ?_
  rintro e w1 ⟨rfl, hC1, hO1⟩
  have R1 : w1.heap[w.heap.size]? = some (.cells #[.int .u64 0, .int .u64 0] 68 (0, 0)) := hO1.obj (by omega) (heap_new_at _ _ rfl)
  have O1 := hide ((Only.of_below hb0).trans hO1)
  have C1' := hide hC1
  clear hC1 hO1 hb0 
  go_wp2_with fail
  refine (KKL.out w1).mono ?_
  rintro e w2 ⟨rfl, b2⟩
  have hl1 : p < w1.heap.size := Nat.lt_of_lt_of_le hlt O1.out.size
  have R2 := (b2.block _ (Blk_lt R1)).trans R1
  have O2 := hide (O1.out.call b2)
  have C2' := hide (LL1.out.below hl1 b2 C1'.out)
  clear b2 R1 hl1
  go_wp2_with fail
  refine (KK2.out w2 C2'.out (only_bel HP.out HB.out O2.out) (Nat.lt_of_lt_of_le hlt O2.out.size)).mono ?_
  rintro e w4 ⟨rfl, hC4, hO4⟩
  have R4 := hO4.obj (show ¬ w.heap.size = p by omega) R2
  have O4 := hide (O2.out.trans hO4)
  have C4' := hide hC4
  clear hC4 hO4 R2
  go_wp2_with fail
  refine (HS.out _ _ (heap_new_at _ _ rfl)).mono ?_
  rintro e w5 ⟨rfl, b5⟩
  have hb5 := bl_trans (bl_alloc (Below.refl w4.heap.size w4) _) b5
  have R5 := (hb5.block _ (Blk_lt R4)).trans R4
  have C5' := hide (LL3.out.below (Nat.lt_of_lt_of_le hlt O4.out.size) hb5 C4'.out)
  have O5 := hide (O4.out.call hb5)
  clear b5 hb5 R4
  go_wp2_with fail
  refine (KK5.out w5 C5'.out).mono ?_
  rintro e w7 ⟨rfl, rfl⟩
  have k0 : w5.cell? ⟨w.heap.size, 0, none⟩ = some (.int .u64 0) := by simp [World.cell?, R5]
  have k1 : w5.cell? ⟨w.heap.size, 1, none⟩ = some (.int .u64 0) := by simp [World.cell?, R5]
  have f0 : ∀ j, w5.frozen? ⟨w.heap.size, j, none⟩ = false := by intro j; simp [World.frozen?, R5]
  have e0 := heap_setCell_same _ _ 1 _ _ (.int .u64 0) (heap_setCell_same _ _ 0 _ _ (.int .u64 0) R5)
  have FO := hide (((Only.refl (fun b => b = w.heap.size) w5).setCell (p := ⟨w.heap.size, 0, none⟩) (.inl rfl) (.int .u64 0)).setCell (p := ⟨w.heap.size, 1, none⟩) (.inl rfl) (.int .u64 0))
  clear R5
  go_wp2
  refine bodyPost_ret (v := .agg #[.int .u64 0, .int .u64 0]) ?_ rfl ⟨rfl, LL3.out.st _ _ (FO.out.block p (Nat.lt_of_lt_of_le hlt O5.out.size) (show ¬ p = w.heap.size by omega)) C5'.out, (O5.out.setCell (p := ⟨w.heap.size, 0, none⟩) (.inr (Nat.le_refl _)) _).setCell (p := ⟨w.heap.size, 1, none⟩) (.inr (Nat.le_refl _)) _⟩
  simp [results, Tryd.results64, go_sem, World.cell?, e0]
set_option maxHeartbeats 1600000 in
theorem rint_f_tf (p : Nat) (wb w : World) (ad : Option Addr) (hcap : Nat) (x a1 lo y a2 : Int) (C0 C1 C3 C4 : World → Prop) (hp : wb.heap.size ≤ p) (hB : Below wb.heap.size wb w) (hlt : p < w.heap.size) (h0 : C0 w)
    (L0 : LocP p C0) (L1 : LocP p C1) (L3 : LocP p C3) (L4 : LocP p C4) 
    (K1 : Eff p 62 #[.pointer (some ⟨p, 0, none⟩)] (.tuple #[.int .u64 x, .int .i64 a1]) wb C0 C1)
    (KL : ∀ W, Calls Tryd.prog 79 #[.bool true, .int .u64 0, .int .u64 1, .int .u64 x] W fun e w' => e = .returned (.tuple #[.int .u64 lo, .bool true]) ∧ Below W.heap.size W w')
    (K2 : Eff p 62 #[.pointer (some ⟨p, 0, none⟩)] (.tuple #[.int .u64 y, .int .i64 a2]) wb C1 C3)
    (wl : Word lo) (wy : Word y) (hs : ¬ lo + y < 18446744073709551616)
    (KG : Eff p 38 #[.pointer (some ⟨p, 0, none⟩), .int .i64 8, .int .i64 a2] (.tuple #[]) wb C3 C4)
    (K5 : ∀ W, C4 W → Calls Tryd.prog 39 #[.pointer (some ⟨p, 0, none⟩)] W fun e w' => e = .returned (.bool true) ∧ W = w') :
    Calls Tryd.prog 64 #[.pointer (some ⟨p, 0, none⟩), .slice ad 0 hcap, .int .u64 1] w fun e w' => e = .returned (.agg #[.int .u64 0, .int .u64 0]) ∧ C4 w' ∧ Only (fun b => b = p) w w' := by
  have HS := hide (fun (W : World) (b : Nat) (hW : W.heap[b]? = some (.cells #[.int .u64 lo, .int .u64 y] 51 (0, 0))) => rsum_no (some ⟨b, 0, none⟩) 2 2 [lo, y] W (ints2 wl wy hW) (by simpa using hs))
  clear hs
  have H0 := hide h0; have HB := hide hB; have LL0 := hide L0; have LL1 := hide L1; have LL3 := hide L3; have KK1 := hide K1; have KKL := hide KL; have KK2 := hide K2; have KK5 := hide K5; have HP := hide hp
  have LL4 := hide L4; have KKG := hide KG
  clear h0 hB L0 L1 L3 K1 KL K2 K5 wl wy L4 KG
  go_enter Tryd.func64, Tryd.ntmps64
  go_wp2_with fail
  have hb0 : Below w.heap.size w (w.alloc (.cells #[.int .u64 0, .int .u64 0] 68)) := bl_alloc (Below.refl _ _) _
  refine (KK1.out _ (LL0.out.below hlt hb0 H0.out) (HB.out.alloc HB.out.size _) (keep_lt hb0 hlt)).mono ?_
  rintro e w1 ⟨rfl, hC1, hO1⟩
  have R1 : w1.heap[w.heap.size]? = some (.cells #[.int .u64 0, .int .u64 0] 68 (0, 0)) := hO1.obj (by omega) (heap_new_at _ _ rfl)
  have O1 := hide ((Only.of_below hb0).trans hO1)
  have C1' := hide hC1
  clear hC1 hO1 hb0 
  go_wp2_with fail
  refine (KKL.out w1).mono ?_
  rintro e w2 ⟨rfl, b2⟩
  have hl1 : p < w1.heap.size := Nat.lt_of_lt_of_le hlt O1.out.size
  have R2 := (b2.block _ (Blk_lt R1)).trans R1
  have O2 := hide (O1.out.call b2)
  have C2' := hide (LL1.out.below hl1 b2 C1'.out)
  clear b2 R1 hl1
  go_wp2_with fail
  refine (KK2.out w2 C2'.out (only_bel HP.out HB.out O2.out) (Nat.lt_of_lt_of_le hlt O2.out.size)).mono ?_
  rintro e w4 ⟨rfl, hC4, hO4⟩
  have R4 := hO4.obj (show ¬ w.heap.size = p by omega) R2
  have O4 := hide (O2.out.trans hO4)
  have C4' := hide hC4
  clear hC4 hO4 R2
  go_wp2_with fail
  refine (HS.out _ _ (heap_new_at _ _ rfl)).mono ?_
  rintro e w5 ⟨rfl, b5⟩
  have hb5 := bl_trans (bl_alloc (Below.refl w4.heap.size w4) _) b5
  have R5 := (hb5.block _ (Blk_lt R4)).trans R4
  have C5' := hide (LL3.out.below (Nat.lt_of_lt_of_le hlt O4.out.size) hb5 C4'.out)
  have O5 := hide (O4.out.call hb5)
  clear b5 hb5 R4
  go_wp2_with fail
  refine (KKG.out w5 C5'.out (only_bel HP.out HB.out O5.out) (Nat.lt_of_lt_of_le hlt O5.out.size)).mono ?_
  rintro e w6 ⟨rfl, hC6, hO6⟩
  have R6 := hO6.obj (show ¬ w.heap.size = p by omega) R5
  have O6 := hide (O5.out.trans hO6)
  have C6' := hide hC6
  clear hC6 hO6 R5
  go_wp2_with fail
  refine (KK5.out w6 C6'.out).mono ?_
  rintro e w7 ⟨rfl, rfl⟩
  have k0 : w6.cell? ⟨w.heap.size, 0, none⟩ = some (.int .u64 0) := by simp [World.cell?, R6]
  have k1 : w6.cell? ⟨w.heap.size, 1, none⟩ = some (.int .u64 0) := by simp [World.cell?, R6]
  have f0 : ∀ j, w6.frozen? ⟨w.heap.size, j, none⟩ = false := by intro j; simp [World.frozen?, R6]
  have e0 := heap_setCell_same _ _ 1 _ _ (.int .u64 0) (heap_setCell_same _ _ 0 _ _ (.int .u64 0) R6)
  have FO := hide (((Only.refl (fun b => b = w.heap.size) w6).setCell (p := ⟨w.heap.size, 0, none⟩) (.inl rfl) (.int .u64 0)).setCell (p := ⟨w.heap.size, 1, none⟩) (.inl rfl) (.int .u64 0))
  clear R6
  go_wp2
  refine bodyPost_ret (v := .agg #[.int .u64 0, .int .u64 0]) ?_ rfl ⟨rfl, LL4.out.st _ _ (FO.out.block p (Nat.lt_of_lt_of_le hlt O6.out.size) (show ¬ p = w.heap.size by omega)) C6'.out, (O6.out.setCell (p := ⟨w.heap.size, 0, none⟩) (.inr (Nat.le_refl _)) _).setCell (p := ⟨w.heap.size, 1, none⟩) (.inr (Nat.le_refl _)) _⟩
  simp [results, Tryd.results64, go_sem, World.cell?, e0]
set_option maxHeartbeats 1600000 in
theorem rint_l_good (p : Nat) (wb w : World) (g off m hcap : Nat) (last x a1 lo y a2 : Int) (C0 C1 C3 : World → Prop) (hp : wb.heap.size ≤ p) (hB : Below wb.heap.size wb w) (hlt : p < w.heap.size) (h0 : C0 w)
    (L0 : LocP p C0) (L1 : LocP p C1) (L3 : LocP p C3) 
    (hg : g ≠ p) (hgl : g < w.heap.size) (hc : w.cell? ⟨g, off + m * 2 + 1, none⟩ = some (.int .u64 last)) (hm : m ≤ 1000000)
    (K1 : Eff p 62 #[.pointer (some ⟨p, 0, none⟩)] (.tuple #[.int .u64 x, .int .i64 a1]) wb C0 C1)
    (KL : ∀ W, Calls Tryd.prog 79 #[.bool false, .int .u64 last, .int .u64 1, .int .u64 x] W fun e w' => e = .returned (.tuple #[.int .u64 lo, .bool true]) ∧ Below W.heap.size W w')
    (K2 : Eff p 62 #[.pointer (some ⟨p, 0, none⟩)] (.tuple #[.int .u64 y, .int .i64 a2]) wb C1 C3)
    (wl : Word lo) (wy : Word y) (hs : lo + y < 18446744073709551616)
    (K5 : ∀ W, C3 W → Calls Tryd.prog 39 #[.pointer (some ⟨p, 0, none⟩)] W fun e w' => e = .returned (.bool false) ∧ W = w') :
    Calls Tryd.prog 64 #[.pointer (some ⟨p, 0, none⟩), .slice (some ⟨g, off, none⟩) (m + 1) hcap, .int .u64 1] w fun e w' => e = .returned (.agg #[.int .u64 lo, .int .u64 (lo + y)]) ∧ C3 w' ∧ Only (fun b => b = p) w w' := by
  obtain ⟨s, es⟩ : ∃ s, s = lo + y := ⟨_, rfl⟩
  have HS := hide (fun (W : World) (b : Nat) (hW : W.heap[b]? = some (.cells #[.int .u64 lo, .int .u64 y] 51 (0, 0))) => rsum_yes (some ⟨b, 0, none⟩) 2 2 [lo, y] s W (ints2 wl wy hW) (by rw [es]; simp) (by rw [es]; exact hs))
  rw [← es]
  clear hs es
  have H0 := hide h0; have HB := hide hB; have LL0 := hide L0; have LL1 := hide L1; have LL3 := hide L3; have KK1 := hide K1; have KKL := hide KL; have KK2 := hide K2; have KK5 := hide K5; have HP := hide hp
  clear h0 hB L0 L1 L3 K1 KL K2 K5 wl wy 
  have q0 : IntKind.i64.wrap (((m + 1 : Nat) : Int) - 1) = (m : Int) := by rw [IntKind.wrap_i64]; omega
  have q1 : (0 : Int) ≤ (m : Int) := by omega
  have q2 : (m : Int) < ((m + 1 : Nat) : Int) := by omega
  have q3 : (0 : Int) < ((m + 1 : Nat) : Int) := by omega
  have q4 : ((((m + 1 : Nat) : Int)) == 0) = false := by simp; omega
  obtain ⟨n, en⟩ : ∃ n, n = m + 1 := ⟨_, rfl⟩
  rw [← en] at q0 q2 q3 q4 ⊢
  clear en
  go_enter Tryd.func64, Tryd.ntmps64
  go_wp2_with fail
  have hb0 : Below w.heap.size w (w.alloc (.cells #[.int .u64 0, .int .u64 0] 68)) := bl_alloc (Below.refl _ _) _
  refine (KK1.out _ (LL0.out.below hlt hb0 H0.out) (HB.out.alloc HB.out.size _) (keep_lt hb0 hlt)).mono ?_
  rintro e w1 ⟨rfl, hC1, hO1⟩
  have R1 : w1.heap[w.heap.size]? = some (.cells #[.int .u64 0, .int .u64 0] 68 (0, 0)) := hO1.obj (by omega) (heap_new_at _ _ rfl)
  have O1 := hide ((Only.of_below hb0).trans hO1)
  have c1 : w1.cell? ⟨g, off + m * 2 + 1, none⟩ = some (.int .u64 last) := hO1.cell hg (keep_cell hb0 hgl hc)
  have C1' := hide hC1
  clear hC1 hO1 hb0 hc
  go_wp2_with fail
  refine (KKL.out w1).mono ?_
  rintro e w2 ⟨rfl, b2⟩
  have hl1 : p < w1.heap.size := Nat.lt_of_lt_of_le hlt O1.out.size
  have R2 := (b2.block _ (Blk_lt R1)).trans R1
  have O2 := hide (O1.out.call b2)
  have C2' := hide (LL1.out.below hl1 b2 C1'.out)
  clear b2 R1 hl1
  go_wp2_with fail
  refine (KK2.out w2 C2'.out (only_bel HP.out HB.out O2.out) (Nat.lt_of_lt_of_le hlt O2.out.size)).mono ?_
  rintro e w4 ⟨rfl, hC4, hO4⟩
  have R4 := hO4.obj (show ¬ w.heap.size = p by omega) R2
  have O4 := hide (O2.out.trans hO4)
  have C4' := hide hC4
  clear hC4 hO4 R2
  go_wp2_with fail
  refine (HS.out _ _ (heap_new_at _ _ rfl)).mono ?_
  rintro e w5 ⟨rfl, b5⟩
  have hb5 := bl_trans (bl_alloc (Below.refl w4.heap.size w4) _) b5
  have R5 := (hb5.block _ (Blk_lt R4)).trans R4
  have C5' := hide (LL3.out.below (Nat.lt_of_lt_of_le hlt O4.out.size) hb5 C4'.out)
  have O5 := hide (O4.out.call hb5)
  clear b5 hb5 R4
  go_wp2_with fail
  refine (KK5.out w5 C5'.out).mono ?_
  rintro e w7 ⟨rfl, rfl⟩
  have k0 : w5.cell? ⟨w.heap.size, 0, none⟩ = some (.int .u64 0) := by simp [World.cell?, R5]
  have k1 : w5.cell? ⟨w.heap.size, 1, none⟩ = some (.int .u64 0) := by simp [World.cell?, R5]
  have f0 : ∀ j, w5.frozen? ⟨w.heap.size, j, none⟩ = false := by intro j; simp [World.frozen?, R5]
  have e0 := heap_setCell_same _ _ 1 _ _ (.int .u64 s) (heap_setCell_same _ _ 0 _ _ (.int .u64 lo) R5)
  have FO := hide (((Only.refl (fun b => b = w.heap.size) w5).setCell (p := ⟨w.heap.size, 0, none⟩) (.inl rfl) (.int .u64 lo)).setCell (p := ⟨w.heap.size, 1, none⟩) (.inl rfl) (.int .u64 s))
  clear R5
  go_wp2
  refine bodyPost_ret (v := .agg #[.int .u64 lo, .int .u64 s]) ?_ rfl ⟨rfl, LL3.out.st _ _ (FO.out.block p (Nat.lt_of_lt_of_le hlt O5.out.size) (show ¬ p = w.heap.size by omega)) C5'.out, (O5.out.setCell (p := ⟨w.heap.size, 0, none⟩) (.inr (Nat.le_refl _)) _).setCell (p := ⟨w.heap.size, 1, none⟩) (.inr (Nat.le_refl _)) _⟩
  simp [results, Tryd.results64, go_sem, World.cell?, e0]
set_option maxHeartbeats 1600000 in
theorem rint_l_tt (p : Nat) (wb w : World) (g off m hcap : Nat) (last x a1 lo y a2 : Int) (C0 C1 C3 : World → Prop) (hp : wb.heap.size ≤ p) (hB : Below wb.heap.size wb w) (hlt : p < w.heap.size) (h0 : C0 w)
    (L0 : LocP p C0) (L1 : LocP p C1) (L3 : LocP p C3) 
    (hg : g ≠ p) (hgl : g < w.heap.size) (hc : w.cell? ⟨g, off + m * 2 + 1, none⟩ = some (.int .u64 last)) (hm : m ≤ 1000000)
    (K1 : Eff p 62 #[.pointer (some ⟨p, 0, none⟩)] (.tuple #[.int .u64 x, .int .i64 a1]) wb C0 C1)
    (KL : ∀ W, Calls Tryd.prog 79 #[.bool false, .int .u64 last, .int .u64 1, .int .u64 x] W fun e w' => e = .returned (.tuple #[.int .u64 lo, .bool true]) ∧ Below W.heap.size W w')
    (K2 : Eff p 62 #[.pointer (some ⟨p, 0, none⟩)] (.tuple #[.int .u64 y, .int .i64 a2]) wb C1 C3)
    (wl : Word lo) (wy : Word y) (hs : lo + y < 18446744073709551616)
    (K5 : ∀ W, C3 W → Calls Tryd.prog 39 #[.pointer (some ⟨p, 0, none⟩)] W fun e w' => e = .returned (.bool true) ∧ W = w') :
    Calls Tryd.prog 64 #[.pointer (some ⟨p, 0, none⟩), .slice (some ⟨g, off, none⟩) (m + 1) hcap, .int .u64 1] w fun e w' => e = .returned (.agg #[.int .u64 0, .int .u64 0]) ∧ C3 w' ∧ Only (fun b => b = p) w w' := by
  obtain ⟨s, es⟩ : ∃ s, s = lo + y := ⟨_, rfl⟩
  have HS := hide (fun (W : World) (b : Nat) (hW : W.heap[b]? = some (.cells #[.int .u64 lo, .int .u64 y] 51 (0, 0))) => rsum_yes (some ⟨b, 0, none⟩) 2 2 [lo, y] s W (ints2 wl wy hW) (by rw [es]; simp) (by rw [es]; exact hs))
  clear hs es
  have H0 := hide h0; have HB := hide hB; have LL0 := hide L0; have LL1 := hide L1; have LL3 := hide L3; have KK1 := hide K1; have KKL := hide KL; have KK2 := hide K2; have KK5 := hide K5; have HP := hide hp
  clear h0 hB L0 L1 L3 K1 KL K2 K5 wl wy 
  have q0 : IntKind.i64.wrap (((m + 1 : Nat) : Int) - 1) = (m : Int) := by rw [IntKind.wrap_i64]; omega
  have q1 : (0 : Int) ≤ (m : Int) := by omega
  have q2 : (m : Int) < ((m + 1 : Nat) : Int) := by omega
  have q3 : (0 : Int) < ((m + 1 : Nat) : Int) := by omega
  have q4 : ((((m + 1 : Nat) : Int)) == 0) = false := by simp; omega
  obtain ⟨n, en⟩ : ∃ n, n = m + 1 := ⟨_, rfl⟩
  rw [← en] at q0 q2 q3 q4 ⊢
  clear en
  go_enter Tryd.func64, Tryd.ntmps64
  go_wp2_with fail
  have hb0 : Below w.heap.size w (w.alloc (.cells #[.int .u64 0, .int .u64 0] 68)) := bl_alloc (Below.refl _ _) _
  refine (KK1.out _ (LL0.out.below hlt hb0 H0.out) (HB.out.alloc HB.out.size _) (keep_lt hb0 hlt)).mono ?_
  rintro e w1 ⟨rfl, hC1, hO1⟩
  have R1 : w1.heap[w.heap.size]? = some (.cells #[.int .u64 0, .int .u64 0] 68 (0, 0)) := hO1.obj (by omega) (heap_new_at _ _ rfl)
  have O1 := hide ((Only.of_below hb0).trans hO1)
  have c1 : w1.cell? ⟨g, off + m * 2 + 1, none⟩ = some (.int .u64 last) := hO1.cell hg (keep_cell hb0 hgl hc)
  have C1' := hide hC1
  clear hC1 hO1 hb0 hc
  go_wp2_with fail
  refine (KKL.out w1).mono ?_
  rintro e w2 ⟨rfl, b2⟩
  have hl1 : p < w1.heap.size := Nat.lt_of_lt_of_le hlt O1.out.size
  have R2 := (b2.block _ (Blk_lt R1)).trans R1
  have O2 := hide (O1.out.call b2)
  have C2' := hide (LL1.out.below hl1 b2 C1'.out)
  clear b2 R1 hl1
  go_wp2_with fail
  refine (KK2.out w2 C2'.out (only_bel HP.out HB.out O2.out) (Nat.lt_of_lt_of_le hlt O2.out.size)).mono ?_
  rintro e w4 ⟨rfl, hC4, hO4⟩
  have R4 := hO4.obj (show ¬ w.heap.size = p by omega) R2
  have O4 := hide (O2.out.trans hO4)
  have C4' := hide hC4
  clear hC4 hO4 R2
  go_wp2_with fail
  refine (HS.out _ _ (heap_new_at _ _ rfl)).mono ?_
  rintro e w5 ⟨rfl, b5⟩
  have hb5 := bl_trans (bl_alloc (Below.refl w4.heap.size w4) _) b5
  have R5 := (hb5.block _ (Blk_lt R4)).trans R4
  have C5' := hide (LL3.out.below (Nat.lt_of_lt_of_le hlt O4.out.size) hb5 C4'.out)
  have O5 := hide (O4.out.call hb5)
  clear b5 hb5 R4
  go_wp2_with fail
  refine (KK5.out w5 C5'.out).mono ?_
  rintro e w7 ⟨rfl, rfl⟩
  have k0 : w5.cell? ⟨w.heap.size, 0, none⟩ = some (.int .u64 0) := by simp [World.cell?, R5]
  have k1 : w5.cell? ⟨w.heap.size, 1, none⟩ = some (.int .u64 0) := by simp [World.cell?, R5]
  have f0 : ∀ j, w5.frozen? ⟨w.heap.size, j, none⟩ = false := by intro j; simp [World.frozen?, R5]
  have e0 := heap_setCell_same _ _ 1 _ _ (.int .u64 0) (heap_setCell_same _ _ 0 _ _ (.int .u64 0) R5)
  have FO := hide (((Only.refl (fun b => b = w.heap.size) w5).setCell (p := ⟨w.heap.size, 0, none⟩) (.inl rfl) (.int .u64 0)).setCell (p := ⟨w.heap.size, 1, none⟩) (.inl rfl) (.int .u64 0))
  clear R5
  go_wp2
  refine bodyPost_ret (v := .agg #[.int .u64 0, .int .u64 0]) ?_ rfl ⟨rfl, LL3.out.st _ _ (FO.out.block p (Nat.lt_of_lt_of_le hlt O5.out.size) (show ¬ p = w.heap.size by omega)) C5'.out, (O5.out.setCell (p := ⟨w.heap.size, 0, none⟩) (.inr (Nat.le_refl _)) _).setCell (p := ⟨w.heap.size, 1, none⟩) (.inr (Nat.le_refl _)) _⟩
  simp [results, Tryd.results64, go_sem, World.cell?, e0]
set_option maxHeartbeats 1600000 in
theorem rint_l_ft (p : Nat) (wb w : World) (g off m hcap : Nat) (last x a1 lo y a2 : Int) (C0 C1 C2 C3 : World → Prop) (hp : wb.heap.size ≤ p) (hB : Below wb.heap.size wb w) (hlt : p < w.heap.size) (h0 : C0 w)
    (L0 : LocP p C0) (L1 : LocP p C1) (L2 : LocP p C2) (L3 : LocP p C3) 
    (hg : g ≠ p) (hgl : g < w.heap.size) (hc : w.cell? ⟨g, off + m * 2 + 1, none⟩ = some (.int .u64 last)) (hm : m ≤ 1000000)
    (K1 : Eff p 62 #[.pointer (some ⟨p, 0, none⟩)] (.tuple #[.int .u64 x, .int .i64 a1]) wb C0 C1)
    (KL : ∀ W, Calls Tryd.prog 79 #[.bool false, .int .u64 last, .int .u64 1, .int .u64 x] W fun e w' => e = .returned (.tuple #[.int .u64 lo, .bool false]) ∧ Below W.heap.size W w')
    (KF : Eff p 38 #[.pointer (some ⟨p, 0, none⟩), .int .i64 8, .int .i64 a1] (.tuple #[]) wb C1 C2)
    (K2 : Eff p 62 #[.pointer (some ⟨p, 0, none⟩)] (.tuple #[.int .u64 y, .int .i64 a2]) wb C2 C3)
    (wl : Word lo) (wy : Word y) (hs : lo + y < 18446744073709551616)
    (K5 : ∀ W, C3 W → Calls Tryd.prog 39 #[.pointer (some ⟨p, 0, none⟩)] W fun e w' => e = .returned (.bool true) ∧ W = w') :
    Calls Tryd.prog 64 #[.pointer (some ⟨p, 0, none⟩), .slice (some ⟨g, off, none⟩) (m + 1) hcap, .int .u64 1] w fun e w' => e = .returned (.agg #[.int .u64 0, .int .u64 0]) ∧ C3 w' ∧ Only (fun b => b = p) w w' := by
  obtain ⟨s, es⟩ : ∃ s, s = lo + y := ⟨_, rfl⟩
  have HS := hide (fun (W : World) (b : Nat) (hW : W.heap[b]? = some (.cells #[.int .u64 lo, .int .u64 y] 51 (0, 0))) => rsum_yes (some ⟨b, 0, none⟩) 2 2 [lo, y] s W (ints2 wl wy hW) (by rw [es]; simp) (by rw [es]; exact hs))
  clear hs es
  have H0 := hide h0; have HB := hide hB; have LL0 := hide L0; have LL1 := hide L1; have LL3 := hide L3; have KK1 := hide K1; have KKL := hide KL; have KK2 := hide K2; have KK5 := hide K5; have HP := hide hp
  have LL2 := hide L2; have KKF := hide KF
  clear h0 hB L0 L1 L3 K1 KL K2 K5 wl wy L2 KF 
  have q0 : IntKind.i64.wrap (((m + 1 : Nat) : Int) - 1) = (m : Int) := by rw [IntKind.wrap_i64]; omega
  have q1 : (0 : Int) ≤ (m : Int) := by omega
  have q2 : (m : Int) < ((m + 1 : Nat) : Int) := by omega
  have q3 : (0 : Int) < ((m + 1 : Nat) : Int) := by omega
  have q4 : ((((m + 1 : Nat) : Int)) == 0) = false := by simp; omega
  obtain ⟨n, en⟩ : ∃ n, n = m + 1 := ⟨_, rfl⟩
  rw [← en] at q0 q2 q3 q4 ⊢
  clear en
  go_enter Tryd.func64, Tryd.ntmps64
  go_wp2_with fail
  have hb0 : Below w.heap.size w (w.alloc (.cells #[.int .u64 0, .int .u64 0] 68)) := bl_alloc (Below.refl _ _) _
  refine (KK1.out _ (LL0.out.below hlt hb0 H0.out) (HB.out.alloc HB.out.size _) (keep_lt hb0 hlt)).mono ?_
  rintro e w1 ⟨rfl, hC1, hO1⟩
  have R1 : w1.heap[w.heap.size]? = some (.cells #[.int .u64 0, .int .u64 0] 68 (0, 0)) := hO1.obj (by omega) (heap_new_at _ _ rfl)
  have O1 := hide ((Only.of_below hb0).trans hO1)
  have c1 : w1.cell? ⟨g, off + m * 2 + 1, none⟩ = some (.int .u64 last) := hO1.cell hg (keep_cell hb0 hgl hc)
  have C1' := hide hC1
  clear hC1 hO1 hb0 hc
  go_wp2_with fail
  refine (KKL.out w1).mono ?_
  rintro e w2 ⟨rfl, b2⟩
  have hl1 : p < w1.heap.size := Nat.lt_of_lt_of_le hlt O1.out.size
  have R2 := (b2.block _ (Blk_lt R1)).trans R1
  have O2 := hide (O1.out.call b2)
  have C2' := hide (LL1.out.below hl1 b2 C1'.out)
  clear b2 R1 hl1
  go_wp2_with fail
  refine (KKF.out w2 C2'.out (only_bel HP.out HB.out O2.out) (Nat.lt_of_lt_of_le hlt O2.out.size)).mono ?_
  rintro e w3 ⟨rfl, hC3, hO3⟩
  have R3 := hO3.obj (show ¬ w.heap.size = p by omega) R2
  have O3 := hide (O2.out.trans hO3)
  have C3' := hide hC3
  clear hC3 hO3 R2
  go_wp2_with fail
  refine (KK2.out w3 C3'.out (only_bel HP.out HB.out O3.out) (Nat.lt_of_lt_of_le hlt O3.out.size)).mono ?_
  rintro e w4 ⟨rfl, hC4, hO4⟩
  have R4 := hO4.obj (show ¬ w.heap.size = p by omega) R3
  have O4 := hide (O3.out.trans hO4)
  have C4' := hide hC4
  clear hC4 hO4 R3
  go_wp2_with fail
  refine (HS.out _ _ (heap_new_at _ _ rfl)).mono ?_
  rintro e w5 ⟨rfl, b5⟩
  have hb5 := bl_trans (bl_alloc (Below.refl w4.heap.size w4) _) b5
  have R5 := (hb5.block _ (Blk_lt R4)).trans R4
  have C5' := hide (LL3.out.below (Nat.lt_of_lt_of_le hlt O4.out.size) hb5 C4'.out)
  have O5 := hide (O4.out.call hb5)
  clear b5 hb5 R4
  go_wp2_with fail
  refine (KK5.out w5 C5'.out).mono ?_
  rintro e w7 ⟨rfl, rfl⟩
  have k0 : w5.cell? ⟨w.heap.size, 0, none⟩ = some (.int .u64 0) := by simp [World.cell?, R5]
  have k1 : w5.cell? ⟨w.heap.size, 1, none⟩ = some (.int .u64 0) := by simp [World.cell?, R5]
  have f0 : ∀ j, w5.frozen? ⟨w.heap.size, j, none⟩ = false := by intro j; simp [World.frozen?, R5]
  have e0 := heap_setCell_same _ _ 1 _ _ (.int .u64 0) (heap_setCell_same _ _ 0 _ _ (.int .u64 0) R5)
  have FO := hide (((Only.refl (fun b => b = w.heap.size) w5).setCell (p := ⟨w.heap.size, 0, none⟩) (.inl rfl) (.int .u64 0)).setCell (p := ⟨w.heap.size, 1, none⟩) (.inl rfl) (.int .u64 0))
  clear R5
  go_wp2
  refine bodyPost_ret (v := .agg #[.int .u64 0, .int .u64 0]) ?_ rfl ⟨rfl, LL3.out.st _ _ (FO.out.block p (Nat.lt_of_lt_of_le hlt O5.out.size) (show ¬ p = w.heap.size by omega)) C5'.out, (O5.out.setCell (p := ⟨w.heap.size, 0, none⟩) (.inr (Nat.le_refl _)) _).setCell (p := ⟨w.heap.size, 1, none⟩) (.inr (Nat.le_refl _)) _⟩
  simp [results, Tryd.results64, go_sem, World.cell?, e0]
set_option maxHeartbeats 1600000 in
theorem rint_l_tf (p : Nat) (wb w : World) (g off m hcap : Nat) (last x a1 lo y a2 : Int) (C0 C1 C3 C4 : World → Prop) (hp : wb.heap.size ≤ p) (hB : Below wb.heap.size wb w) (hlt : p < w.heap.size) (h0 : C0 w)
    (L0 : LocP p C0) (L1 : LocP p C1) (L3 : LocP p C3) (L4 : LocP p C4) 
    (hg : g ≠ p) (hgl : g < w.heap.size) (hc : w.cell? ⟨g, off + m * 2 + 1, none⟩ = some (.int .u64 last)) (hm : m ≤ 1000000)
    (K1 : Eff p 62 #[.pointer (some ⟨p, 0, none⟩)] (.tuple #[.int .u64 x, .int .i64 a1]) wb C0 C1)
    (KL : ∀ W, Calls Tryd.prog 79 #[.bool false, .int .u64 last, .int .u64 1, .int .u64 x] W fun e w' => e = .returned (.tuple #[.int .u64 lo, .bool true]) ∧ Below W.heap.size W w')
    (K2 : Eff p 62 #[.pointer (some ⟨p, 0, none⟩)] (.tuple #[.int .u64 y, .int .i64 a2]) wb C1 C3)
    (wl : Word lo) (wy : Word y) (hs : ¬ lo + y < 18446744073709551616)
    (KG : Eff p 38 #[.pointer (some ⟨p, 0, none⟩), .int .i64 8, .int .i64 a2] (.tuple #[]) wb C3 C4)
    (K5 : ∀ W, C4 W → Calls Tryd.prog 39 #[.pointer (some ⟨p, 0, none⟩)] W fun e w' => e = .returned (.bool true) ∧ W = w') :
    Calls Tryd.prog 64 #[.pointer (some ⟨p, 0, none⟩), .slice (some ⟨g, off, none⟩) (m + 1) hcap, .int .u64 1] w fun e w' => e = .returned (.agg #[.int .u64 0, .int .u64 0]) ∧ C4 w' ∧ Only (fun b => b = p) w w' := by
  have HS := hide (fun (W : World) (b : Nat) (hW : W.heap[b]? = some (.cells #[.int .u64 lo, .int .u64 y] 51 (0, 0))) => rsum_no (some ⟨b, 0, none⟩) 2 2 [lo, y] W (ints2 wl wy hW) (by simpa using hs))
  clear hs
  have H0 := hide h0; have HB := hide hB; have LL0 := hide L0; have LL1 := hide L1; have LL3 := hide L3; have KK1 := hide K1; have KKL := hide KL; have KK2 := hide K2; have KK5 := hide K5; have HP := hide hp
  have LL4 := hide L4; have KKG := hide KG
  clear h0 hB L0 L1 L3 K1 KL K2 K5 wl wy L4 KG
  have q0 : IntKind.i64.wrap (((m + 1 : Nat) : Int) - 1) = (m : Int) := by rw [IntKind.wrap_i64]; omega
  have q1 : (0 : Int) ≤ (m : Int) := by omega
  have q2 : (m : Int) < ((m + 1 : Nat) : Int) := by omega
  have q3 : (0 : Int) < ((m + 1 : Nat) : Int) := by omega
  have q4 : ((((m + 1 : Nat) : Int)) == 0) = false := by simp; omega
  obtain ⟨n, en⟩ : ∃ n, n = m + 1 := ⟨_, rfl⟩
  rw [← en] at q0 q2 q3 q4 ⊢
  clear en
  go_enter Tryd.func64, Tryd.ntmps64
  go_wp2_with fail
  have hb0 : Below w.heap.size w (w.alloc (.cells #[.int .u64 0, .int .u64 0] 68)) := bl_alloc (Below.refl _ _) _
  refine (KK1.out _ (LL0.out.below hlt hb0 H0.out) (HB.out.alloc HB.out.size _) (keep_lt hb0 hlt)).mono ?_
  rintro e w1 ⟨rfl, hC1, hO1⟩
  have R1 : w1.heap[w.heap.size]? = some (.cells #[.int .u64 0, .int .u64 0] 68 (0, 0)) := hO1.obj (by omega) (heap_new_at _ _ rfl)
  have O1 := hide ((Only.of_below hb0).trans hO1)
  have c1 : w1.cell? ⟨g, off + m * 2 + 1, none⟩ = some (.int .u64 last) := hO1.cell hg (keep_cell hb0 hgl hc)
  have C1' := hide hC1
  clear hC1 hO1 hb0 hc
  go_wp2_with fail
  refine (KKL.out w1).mono ?_
  rintro e w2 ⟨rfl, b2⟩
  have hl1 : p < w1.heap.size := Nat.lt_of_lt_of_le hlt O1.out.size
  have R2 := (b2.block _ (Blk_lt R1)).trans R1
  have O2 := hide (O1.out.call b2)
  have C2' := hide (LL1.out.below hl1 b2 C1'.out)
  clear b2 R1 hl1
  go_wp2_with fail
  refine (KK2.out w2 C2'.out (only_bel HP.out HB.out O2.out) (Nat.lt_of_lt_of_le hlt O2.out.size)).mono ?_
  rintro e w4 ⟨rfl, hC4, hO4⟩
  have R4 := hO4.obj (show ¬ w.heap.size = p by omega) R2
  have O4 := hide (O2.out.trans hO4)
  have C4' := hide hC4
  clear hC4 hO4 R2
  go_wp2_with fail
  refine (HS.out _ _ (heap_new_at _ _ rfl)).mono ?_
  rintro e w5 ⟨rfl, b5⟩
  have hb5 := bl_trans (bl_alloc (Below.refl w4.heap.size w4) _) b5
  have R5 := (hb5.block _ (Blk_lt R4)).trans R4
  have C5' := hide (LL3.out.below (Nat.lt_of_lt_of_le hlt O4.out.size) hb5 C4'.out)
  have O5 := hide (O4.out.call hb5)
  clear b5 hb5 R4
  go_wp2_with fail
  refine (KKG.out w5 C5'.out (only_bel HP.out HB.out O5.out) (Nat.lt_of_lt_of_le hlt O5.out.size)).mono ?_
  rintro e w6 ⟨rfl, hC6, hO6⟩
  have R6 := hO6.obj (show ¬ w.heap.size = p by omega) R5
  have O6 := hide (O5.out.trans hO6)
  have C6' := hide hC6
  clear hC6 hO6 R5
  go_wp2_with fail
  refine (KK5.out w6 C6'.out).mono ?_
  rintro e w7 ⟨rfl, rfl⟩
  have k0 : w6.cell? ⟨w.heap.size, 0, none⟩ = some (.int .u64 0) := by simp [World.cell?, R6]
  have k1 : w6.cell? ⟨w.heap.size, 1, none⟩ = some (.int .u64 0) := by simp [World.cell?, R6]
  have f0 : ∀ j, w6.frozen? ⟨w.heap.size, j, none⟩ = false := by intro j; simp [World.frozen?, R6]
  have e0 := heap_setCell_same _ _ 1 _ _ (.int .u64 0) (heap_setCell_same _ _ 0 _ _ (.int .u64 0) R6)
  have FO := hide (((Only.refl (fun b => b = w.heap.size) w6).setCell (p := ⟨w.heap.size, 0, none⟩) (.inl rfl) (.int .u64 0)).setCell (p := ⟨w.heap.size, 1, none⟩) (.inl rfl) (.int .u64 0))
  clear R6
  go_wp2
  refine bodyPost_ret (v := .agg #[.int .u64 0, .int .u64 0]) ?_ rfl ⟨rfl, LL4.out.st _ _ (FO.out.block p (Nat.lt_of_lt_of_le hlt O6.out.size) (show ¬ p = w.heap.size by omega)) C6'.out, (O6.out.setCell (p := ⟨w.heap.size, 0, none⟩) (.inr (Nat.le_refl _)) _).setCell (p := ⟨w.heap.size, 1, none⟩) (.inr (Nat.le_refl _)) _⟩
  simp [results, Tryd.results64, go_sem, World.cell?, e0]
end Go.Proofs.YtppeogalaikopaaDoor
namespace Go.Proofs.YtppeogalaikopaaDoor
open Go Go.RowKit

section
variable {lm : Lim} {zs : List Int} {o : Except (Int × Int) (List Ent × Int)} {ad : Option Addr} {len cap p : Nat} {wb : World}
theorem eff_num_ok (hI : Ints .u8 wb ad len zs) (hlm : len ≤ 1000000) {a n : Nat} {x : Int} (ha : a ≤ len) (hr : Rd zs a (.ok (x, (n : Int)))) :
    Eff p 62 #[.pointer (some ⟨p, 0, none⟩)] (.tuple #[.int .u64 x, .int .i64 a]) wb (fun W => CGo W p (.slice ad len cap) len a) (fun W => CGo W p (.slice ad len cap) len n) :=
  fun W hc hb _ => num_ok p ad len cap zs a x n W (hI.below hb) ha hlm hc hr
theorem eff_num_bad (hI : Ints .u8 wb ad len zs) (hlm : len ≤ 1000000) {a : Nat} {c : Int} (ha : a ≤ len) (hr : Rd zs a (.error c)) :
    Eff p 62 #[.pointer (some ⟨p, 0, none⟩)] (.tuple #[.int .u64 0, .int .i64 a]) wb (fun W => CGo W p (.slice ad len cap) len a) (fun W => CErr W p (.slice ad len cap) len c a) :=
  fun W hc hb _ => num_bad p ad len cap zs a c W (hI.below hb) ha hlm hc hr
theorem eff_num_err {bv : Value} {c a : Int} :
    Eff p 62 #[.pointer (some ⟨p, 0, none⟩)] (.tuple #[.int .u64 0, .int .i64 (0 : Int)]) wb (fun W => CErr W p bv len c a) (fun W => CErr W p bv len c a) :=
  fun W hc _ _ => (num_err p bv len c a W hc).mono fun _ _ ⟨he, hw⟩ => ⟨he, hw ▸ hc, hw ▸ Only.refl _ _⟩
theorem eff_fail_go {bv : Value} {a : Nat} {c at' : Int} (hc0 : c ≠ 0) :
    Eff p 38 #[.pointer (some ⟨p, 0, none⟩), .int .i64 c, .int .i64 at'] (.tuple #[]) wb (fun W => CGo W p bv len a) (fun W => CErr W p bv len c at') :=
  fun W hc _ _ => fail_go p bv len a c at' hc0 W hc
theorem eff_fail_err {bv : Value} {c0 a0 c at' : Int} :
    Eff p 38 #[.pointer (some ⟨p, 0, none⟩), .int .i64 c, .int .i64 at'] (.tuple #[]) wb (fun W => CErr W p bv len c0 a0) (fun W => CErr W p bv len c0 a0) :=
  fun W hc _ _ => (fail_err p bv len c0 a0 c at' W hc).mono fun _ _ ⟨he, hw⟩ => ⟨he, hw ▸ hc, hw ▸ Only.refl _ _⟩

/-- What Interval comes to. -/
def IvPost (lm : Lim) (zs : List Int) (o : Except (Int × Int) (List Ent × Int)) (p : Nat) (bv : Value) (len : Nat) (es : List Ent) (cur : Ent) (ents h : Int) (w : World) (e : Ending) (w' : World) : Prop :=
  Only (fun b => b = p) w w' ∧
    ((∃ c at', o = .error (c, at') ∧ CErr w' p bv len c at' ∧ e = .returned (.agg #[.int .u64 0, .int .u64 0])) ∨
     (∃ (lo y : Int) (n n2 : Nat), e = .returned (.agg #[.int .u64 lo, .int .u64 (lo + y)]) ∧ Word lo ∧ Word (lo + y) ∧ Word y ∧ GoN lm zs o ⟨.hi lo, es, cur, ents, h⟩ n ∧ Rd zs n (.ok (y, (n2 : Int))) ∧ CGo w' p bv len n2 ∧ n < n2 ∧ n2 ≤ len))
theorem lo_first_step {es : List Ent} {cur : Ent} {ents h x rest : Int} (h0 : cur.hs = []) : stepS lm ⟨.lo, es, cur, ents, h⟩ x rest = .ok ⟨.hi x, es, cur, ents, h⟩ := by
  show (if cur.hs = [] then _ else _) = _
  rw [if_pos h0]
theorem lo_later_step {es : List Ent} {cur : Ent} {ents h x rest : Int} (h0 : ¬ cur.hs = []) (hs : lastHi cur.hs + 1 + 1 + x < 18446744073709551616) : stepS lm ⟨.lo, es, cur, ents, h⟩ x rest = .ok ⟨.hi (lastHi cur.hs + 1 + 1 + x), es, cur, ents, h⟩ := by
  show (if cur.hs = [] then _ else _) = _
  rw [if_neg h0, if_pos hs]
theorem lo_later_over {es : List Ent} {cur : Ent} {ents h x rest : Int} (h0 : ¬ cur.hs = []) (hs : ¬ lastHi cur.hs + 1 + 1 + x < 18446744073709551616) : stepS lm ⟨.lo, es, cur, ents, h⟩ x rest = .error 8 := by
  show (if cur.hs = [] then _ else _) = _
  rw [if_neg h0, if_neg hs]
theorem hiS_over {es : List Ent} {cur : Ent} {ents h l x rest : Int} (hs : ¬ l + x < 18446744073709551616) : stepS lm ⟨.hi l, es, cur, ents, h⟩ x rest = .error 8 := by
  show (if _ ∧ _ then _ else _) = _
  rw [if_neg (fun hh => hs hh.1)]
theorem go_of_lo {s : St} {es : List Ent} {cur : Ent} {ents h l : Int} {a n : Nat} {x : Int} (hg : GoN lm zs o s a) (hr : Rd zs a (.ok (x, (n : Int)))) (hs : ∀ rest, stepS lm s x rest = .ok ⟨.hi l, es, cur, ents, h⟩) : GoN lm zs o ⟨.hi l, es, cur, ents, h⟩ n := (goN_step hg hr (hs _)).go rfl
theorem zw : Word 0 := ⟨by decide, by decide⟩
theorem interval_go (hI : Ints .u8 wb ad len zs) (hlm : len ≤ 1000000) (hp : wb.heap.size ≤ p) {es : List Ent} {cur : Ent} {ents h : Int} {a base : Nat} {hv : Value} (w : World) (hB : Below wb.heap.size wb w) (hG : CGo w p (.slice ad len cap) len a) (hg : GoN lm zs o ⟨.lo, es, cur, ents, h⟩ a)
    (hO : OwnL w base 68 hv cur.hs) :
    Calls Tryd.prog 64 #[.pointer (some ⟨p, 0, none⟩), hv, .int .u64 1] w (IvPost lm zs o p (.slice ad len cap) len es cur ents h w) := by
  have hl := hI.length
  have hal : a ≤ len := by have := hg.le; omega
  have hlt := CurC.lt hG
  have hsm : cur.hs.length ≤ 1000000 := by have := hg.inv.hs; simp only at this; omega
  obtain ⟨q, hq⟩ := rd_some zs a
  have st_go : ∀ (n : Nat) W, CGo W p (.slice ad len cap) len n → Calls Tryd.prog 39 #[.pointer (some ⟨p, 0, none⟩)] W fun e w' => e = .returned (.bool false) ∧ W = w' := fun n W hC => stopped_go p _ len n W hC
  have st_err : ∀ (c a : Int) W, CErr W p (.slice ad len cap) len c a → Calls Tryd.prog 39 #[.pointer (some ⟨p, 0, none⟩)] W fun e w' => e = .returned (.bool true) ∧ W = w' := fun c a W hC => stopped_err p _ len c a W hC
  by_cases h0 : cur.hs = []
  · obtain ⟨ha, hcap, ehv, _, _⟩ := hO.prs
    rw [h0] at ehv
    simp only [List.length_nil] at ehv
    subst ehv
    rcases rd_nat hq with ⟨c, rfl, _⟩ | ⟨x, n, rfl, h1, h2, hx⟩
    · have ho := goN_err hg hq
      refine (rint_f_tt p wb w ha hcap 0 a 0 0 0 _ _ _ hp hB hlt hG (cgo_loc p (.slice ad len cap) len a) (cerr_loc p (.slice ad len cap) len c a) (cerr_loc p (.slice ad len cap) len c a) (eff_num_bad hI hlm hal hq) (fun W => rlo_first 0 1 0 W) eff_num_err zw zw (by decide) (st_err c a)).mono ?_
      rintro e w' ⟨he, hC, hw⟩
      exact ⟨hw, .inl ⟨c, a, ho, hC, he⟩⟩
    · have hg2 := go_of_lo hg hq (fun _ => lo_first_step h0)
      have hnl : n ≤ len := by omega
      obtain ⟨q2, hq2⟩ := rd_some zs n
      rcases rd_nat hq2 with ⟨c, rfl, _⟩ | ⟨y, n2, rfl, h3, h4, hy⟩
      · have ho := goN_err hg2 hq2
        refine (rint_f_tt p wb w ha hcap x a x 0 n _ _ _ hp hB hlt hG (cgo_loc p (.slice ad len cap) len a) (cgo_loc p (.slice ad len cap) len n) (cerr_loc p (.slice ad len cap) len c n) (eff_num_ok hI hlm hal hq) (fun W => rlo_first 0 1 x W) (eff_num_bad hI hlm hnl hq2) hx zw (by have := hx.2; omega) (st_err c n)).mono ?_
        rintro e w' ⟨he, hC, hw⟩
        exact ⟨hw, .inl ⟨c, n, ho, hC, he⟩⟩
      · by_cases hs : x + y < 18446744073709551616
        · refine (rint_f_good p wb w ha hcap x a x y n _ _ _ hp hB hlt hG (cgo_loc p (.slice ad len cap) len a) (cgo_loc p (.slice ad len cap) len n) (cgo_loc p (.slice ad len cap) len n2) (eff_num_ok hI hlm hal hq) (fun W => rlo_first 0 1 x W) (eff_num_ok hI hlm hnl hq2) hx hy hs (st_go n2)).mono ?_
          rintro e w' ⟨he, hC, hw⟩
          exact ⟨hw, .inr ⟨x, y, n, n2, he, hx, ⟨by have := hx.1; have := hy.1; omega, hs⟩, hy, hg2, hq2, hC, h3, by omega⟩⟩
        · have ho := goN_stop hg2 hq2 (hiS_over hs)
          refine (rint_f_tf p wb w ha hcap x a x y n _ _ _ _ hp hB hlt hG (cgo_loc p (.slice ad len cap) len a) (cgo_loc p (.slice ad len cap) len n) (cgo_loc p (.slice ad len cap) len n2) (cerr_loc p (.slice ad len cap) len 8 n) (eff_num_ok hI hlm hal hq) (fun W => rlo_first 0 1 x W) (eff_num_ok hI hlm hnl hq2) hx hy hs (eff_fail_go (by decide)) (st_err 8 n)).mono ?_
          rintro e w' ⟨he, hC, hw⟩
          exact ⟨hw, .inl ⟨8, n, ho, hC, he⟩⟩
  · obtain ⟨m, hm⟩ : ∃ m, cur.hs.length = m + 1 := ⟨cur.hs.length - 1, by have := List.length_pos_iff.2 h0; omega⟩
    obtain ⟨g, hcap, ehv, hgl, hcell⟩ := hO.ended hm (by omega)
    have hword : Word (Hi cur.hs m) := (hs_at hO.words (by omega)).2
    have elast : lastHi cur.hs = Hi cur.hs m := by unfold lastHi; rw [hm]; rfl
    rw [Nat.add_sub_cancel] at hcell
    subst ehv
    have hgp : g ≠ p := Typed.ne (own_typed hO.row (k := g) rfl) (CurC.typed hG) (by decide)
    have hc0 : w.cell? ⟨g, 0 + m * 2 + 1, none⟩ = some (.int .u64 (Hi cur.hs m)) := by rw [Nat.zero_add]; exact hcell
    have hm6 : m ≤ 1000000 := by omega
    obtain ⟨last, el⟩ : ∃ last, Hi cur.hs m = last := ⟨_, rfl⟩
    rw [el] at hc0 hword elast
    rcases rd_nat hq with ⟨c, rfl, _⟩ | ⟨x, n, rfl, h1, h2, hx⟩
    · have ho := goN_err hg hq
      by_cases hs0 : last + 1 + 1 + 0 < 18446744073709551616
      · have wl : Word (last + 1 + 1 + 0) := ⟨by have := hword.1; omega, hs0⟩
        refine (rint_l_tt p wb w g 0 m hcap last 0 a (last + 1 + 1 + 0) 0 0 _ _ _ hp hB hlt hG (cgo_loc p (.slice ad len cap) len a) (cerr_loc p (.slice ad len cap) len c a) (cerr_loc p (.slice ad len cap) len c a) hgp hgl hc0 hm6 (eff_num_bad hI hlm hal hq) (fun W => rlo_yes last 1 0 W one_word hword zw hs0) eff_num_err wl zw (by omega) (st_err c a)).mono ?_
        rintro e w' ⟨he, hC, hw⟩
        exact ⟨hw, .inl ⟨c, a, ho, hC, he⟩⟩
      · refine (rint_l_ft p wb w g 0 m hcap last 0 a 0 0 0 _ _ _ _ hp hB hlt hG (cgo_loc p (.slice ad len cap) len a) (cerr_loc p (.slice ad len cap) len c a) (cerr_loc p (.slice ad len cap) len c a) (cerr_loc p (.slice ad len cap) len c a) hgp hgl hc0 hm6 (eff_num_bad hI hlm hal hq) (fun W => rlo_no last 1 0 W one_word hword zw hs0) eff_fail_err eff_num_err zw zw (by decide) (st_err c a)).mono ?_
        rintro e w' ⟨he, hC, hw⟩
        exact ⟨hw, .inl ⟨c, a, ho, hC, he⟩⟩
    · have hnl : n ≤ len := by omega
      by_cases hs0 : last + 1 + 1 + x < 18446744073709551616
      · have hg2 := go_of_lo (l := last + 1 + 1 + x) hg hq (fun _ => by rw [← elast] at hs0 ⊢; exact lo_later_step h0 hs0)
        have wl : Word (last + 1 + 1 + x) := ⟨by have := hword.1; have := hx.1; omega, hs0⟩
        obtain ⟨q2, hq2⟩ := rd_some zs n
        rcases rd_nat hq2 with ⟨c, rfl, _⟩ | ⟨y, n2, rfl, h3, h4, hy⟩
        · have ho := goN_err hg2 hq2
          refine (rint_l_tt p wb w g 0 m hcap last x a (last + 1 + 1 + x) 0 n _ _ _ hp hB hlt hG (cgo_loc p (.slice ad len cap) len a) (cgo_loc p (.slice ad len cap) len n) (cerr_loc p (.slice ad len cap) len c n) hgp hgl hc0 hm6 (eff_num_ok hI hlm hal hq) (fun W => rlo_yes last 1 x W one_word hword hx hs0) (eff_num_bad hI hlm hnl hq2) wl zw (by omega) (st_err c n)).mono ?_
          rintro e w' ⟨he, hC, hw⟩
          exact ⟨hw, .inl ⟨c, n, ho, hC, he⟩⟩
        · by_cases hs : last + 1 + 1 + x + y < 18446744073709551616
          · refine (rint_l_good p wb w g 0 m hcap last x a (last + 1 + 1 + x) y n _ _ _ hp hB hlt hG (cgo_loc p (.slice ad len cap) len a) (cgo_loc p (.slice ad len cap) len n) (cgo_loc p (.slice ad len cap) len n2) hgp hgl hc0 hm6 (eff_num_ok hI hlm hal hq) (fun W => rlo_yes last 1 x W one_word hword hx hs0) (eff_num_ok hI hlm hnl hq2) wl hy hs (st_go n2)).mono ?_
            rintro e w' ⟨he, hC, hw⟩
            exact ⟨hw, .inr ⟨_, y, n, n2, he, wl, ⟨by have := wl.1; have := hy.1; omega, hs⟩, hy, hg2, hq2, hC, h3, by omega⟩⟩
          · have ho := goN_stop hg2 hq2 (hiS_over hs)
            refine (rint_l_tf p wb w g 0 m hcap last x a (last + 1 + 1 + x) y n _ _ _ _ hp hB hlt hG (cgo_loc p (.slice ad len cap) len a) (cgo_loc p (.slice ad len cap) len n) (cgo_loc p (.slice ad len cap) len n2) (cerr_loc p (.slice ad len cap) len 8 n) hgp hgl hc0 hm6 (eff_num_ok hI hlm hal hq) (fun W => rlo_yes last 1 x W one_word hword hx hs0) (eff_num_ok hI hlm hnl hq2) wl hy hs (eff_fail_go (by decide)) (st_err 8 n)).mono ?_
            rintro e w' ⟨he, hC, hw⟩
            exact ⟨hw, .inl ⟨8, n, ho, hC, he⟩⟩
      · have ho := goN_stop hg hq (by rw [← elast] at hs0; exact lo_later_over h0 hs0)
        refine (rint_l_ft p wb w g 0 m hcap last x a 0 0 0 _ _ _ _ hp hB hlt hG (cgo_loc p (.slice ad len cap) len a) (cgo_loc p (.slice ad len cap) len n) (cerr_loc p (.slice ad len cap) len 8 a) (cerr_loc p (.slice ad len cap) len 8 a) hgp hgl hc0 hm6 (eff_num_ok hI hlm hal hq) (fun W => rlo_no last 1 x W one_word hword hx hs0) (eff_fail_go (by decide)) eff_num_err zw zw (by decide) (st_err 8 a)).mono ?_
        rintro e w' ⟨he, hC, hw⟩
        exact ⟨hw, .inl ⟨8, a, ho, hC, he⟩⟩
end
end Go.Proofs.YtppeogalaikopaaDoor
