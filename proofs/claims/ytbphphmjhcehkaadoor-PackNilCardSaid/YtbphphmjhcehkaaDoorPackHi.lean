/- pack's Reader: the state hi. -/
import Derived.Test.YtbphphmjhcehkaaDoorPackOpen
import Derived.Test.YtbphphmjhcehkaaDoorPackRep
import Derived.Test.YtbphphmjhcehkaaDoorTake
namespace Go.Proofs.YtbphphmjhcehkaaDoor
open Go Go.RowKit
set_option linter.unusedSimpArgs false

theorem row_kept {X Y : World} {b : Nat} {o : Obj} (hb : Below X.heap.size X Y) (h : X.heap[b]? = some o) : Y.heap[b]? = some o := (hb.block _ (Blk_lt h)).trans h
structure HiT (r : Nat) (lm : Lim) (fn v : Value) (ents hls : Int) (cp : Value) (b8 : Nat) (lo hi : Int) (W : World) : Prop where
  rd : RdR W r lm fn .nilIface v ents hls cp
  s0 : W.cell? ⟨b8, 0, none⟩ = some (.int .u64 lo)
  s1 : W.cell? ⟨b8, 1, none⟩ = some (.int .u64 hi)
theorem keep_c {X Y : World} {b i : Nat} {v : Value} (hb : Below X.heap.size X Y) (hc : X.cell? ⟨b, i, none⟩ = some v) : Y.cell? ⟨b, i, none⟩ = some v := keep_cell hb (block_lt_of_cell hc) hc
theorem HiT.below {r : Nat} {lm : Lim} {fn v : Value} {ents hls : Int} {cp : Value} {b8 : Nat} {lo hi : Int} {W W' : World} (h : HiT r lm fn v ents hls cp b8 lo hi W) (hb : Below W.heap.size W W') : HiT r lm fn v ents hls cp b8 lo hi W' :=
  ⟨h.rd.below hb, keep_c hb h.s0, keep_c hb h.s1⟩
theorem HiT.drew {r : Nat} {lm : Lim} {fn v : Value} {ents hls : Int} {cp : Value} {b8 : Nat} {lo hi : Int} {W : World} (h : HiT r lm fn v ents hls cp b8 lo hi W) : HiT r lm fn v ents hls cp b8 lo hi W.drew := h.below (bl_drew (Below.refl _ _))
theorem HiT.alloc {r : Nat} {lm : Lim} {fn v : Value} {ents hls : Int} {cp : Value} {b8 : Nat} {lo hi : Int} {W : World} (h : HiT r lm fn v ents hls cp b8 lo hi W) (o : Obj) : HiT r lm fn v ents hls cp b8 lo hi (W.alloc o) := h.below (bl_alloc (Below.refl _ _) _)
theorem HiT.new8 {r : Nat} {lm : Lim} {fn v : Value} {ents hls : Int} {cp : Value} {b8 : Nat} {lo hi : Int} {W : World} (_ : HiT r lm fn v ents hls cp b8 lo hi W) : (W.alloc (.cells #[.int .u64 lo, .int .u64 hi] 68)).heap[W.heap.size]? = some (.cells #[.int .u64 lo, .int .u64 hi] 68 (0, 0)) := heap_new_at _ _ rfl
theorem hnew2 {w : World} {b : Nat} {x y : Value} {t : TypeId} (h : w.heap[b]? = some (.cells #[x, y] t (0, 0))) : ∀ j u, [x, y][j]? = some u → w.cell? ((⟨b, 0, none⟩ : Addr).add j) = some u := by
  have ea : ∀ j, (⟨b, 0, none⟩ : Addr).add j = ⟨b, 0 + j, none⟩ := by
    intro j
    unfold Addr.add; split <;> simp_all
  intro j u hj
  rw [ea]
  match j, hj with
  | 0, hj => simp at hj; subst hj; simp [World.cell?, h]
  | 1, hj => simp at hj; subst hj; simp [World.cell?, h]
theorem info_ival : (Tryd.prog.info? 68).map (fun i => (i.zero, i.size, i.bytes)) = some (some (.agg #[.int .u64 0, .int .u64 0]), 2, 16) := by kernel_rfl
structure HiH (W0 : World) (r : Nat) (lm : Lim) (fn v : Value) (ents hls : Int) (cp : Value) (b8 : Nat) (lo hi : Int) (g o : Nat) (mx : Int) (W : World) : Prop where
  rd : RdR W r lm fn .nilIface v ents hls cp
  s0 : W.cell? ⟨b8, 0, none⟩ = some (.int .u64 lo)
  s1 : W.cell? ⟨b8, 1, none⟩ = some (.int .u64 hi)
  cm : W.cell? ⟨g, o, none⟩ = some (.int .u64 mx)
  bl : Below W0.heap.size W0 W
theorem HiH.below {W0 : World} {r : Nat} {lm : Lim} {fn v : Value} {ents hls : Int} {cp : Value} {b8 : Nat} {lo hi : Int} {g o : Nat} {mx : Int} {W W' : World} (h : HiH W0 r lm fn v ents hls cp b8 lo hi g o mx W) (hb : Below W.heap.size W W') : HiH W0 r lm fn v ents hls cp b8 lo hi g o mx W' :=
  ⟨h.rd.below hb, keep_c hb h.s0, keep_c hb h.s1, keep_c hb h.cm, bl_trans h.bl hb⟩
theorem HiH.drew {W0 : World} {r : Nat} {lm : Lim} {fn v : Value} {ents hls : Int} {cp : Value} {b8 : Nat} {lo hi : Int} {g o : Nat} {mx : Int} {W : World} (h : HiH W0 r lm fn v ents hls cp b8 lo hi g o mx W) : HiH W0 r lm fn v ents hls cp b8 lo hi g o mx W.drew := h.below (bl_drew (Below.refl _ _))
theorem row_hv {w : World} {base B g cap : Nat} {hv : Value} {l : List EV} {e : Ent} (h : RowC w base (.slice (some ⟨g, 0, none⟩) (l.length + 1) cap) l e B hv) : w.cell? ⟨g, l.length * 3 + 2, none⟩ = some hv := by
  obtain ⟨g', cap', e1, _, _, _, _, _, _, _, c2⟩ := row_slice h
  simp at e1
  obtain ⟨rfl, _⟩ := e1
  exact c2
theorem lastHi_snoc (zs : List Iv) (x y : Int) : lastHi (zs ++ [(x, y)]) = y := by
  unfold lastHi Hi
  rw [getD_snoc]
  simp
theorem hi_push {W w3 : World} {base r g cap B p b8 : Nat} {lm : Lim} {fn cp hv hv' : Value} {ents hls lo hi clo llo lhi x y : Int} {sm : Bool} {f : FuncId} {l : List EV} {cur : Ent}
    (hbr : base ≤ r) (hT : HiT r lm fn (.slice (some ⟨g, 0, none⟩) (l.length + 1) cap) ents hls cp b8 x y W) (hC : RowC W base (.slice (some ⟨g, 0, none⟩) (l.length + 1) cap) l cur B hv)
    (hK : CurOk W base cp { cur with hs := cur.hs ++ [(lo, hi)] } none p clo llo lhi sm f) (h1 : Word lo) (h2 : Word hi) (h8 : ∀ k, hv.ownBlock = some k → k ≠ b8) (ng : g ≠ b8)
    (hown : w3.ownsRow B 68 2 hv' (cur.hs.length + 1) (cellsL cur.hs ++ [.int .u64 lo, .int .u64 hi])) (hg : W.grownBy w3 hv.ownBlock) :
    (HiT r lm fn (.slice (some ⟨g, 0, none⟩) (l.length + 1) cap) ents hls cp b8 x y w3 ∧ w3.cell? ⟨g, l.length * 3 + 2, none⟩ = some hv ∧ ∀ j, w3.frozen? ⟨g, j, none⟩ = false) ∧
    HiT r lm fn (.slice (some ⟨g, 0, none⟩) (l.length + 1) cap) ents hls cp b8 x y (w3.setCell ⟨g, l.length * 3 + 2, none⟩ hv') ∧
    RowC (w3.setCell ⟨g, l.length * 3 + 2, none⟩ hv') base (.slice (some ⟨g, 0, none⟩) (l.length + 1) cap) l { cur with hs := cur.hs ++ [(lo, hi)] } B hv' ∧
    CurOk (w3.setCell ⟨g, l.length * 3 + 2, none⟩ hv') base cp { cur with hs := cur.hs ++ [(lo, hi)] } none p clo llo lhi sm f ∧ Below base W (w3.setCell ⟨g, l.length * 3 + 2, none⟩ hv') := by
  have hR := hT.rd
  have hlt := hR.lt
  obtain ⟨g', cap', e1, hbg, hgl, hty, _, _, _, _, cH⟩ := row_slice hC
  simp at e1
  obtain ⟨rfl, rfl⟩ := e1
  have o1 : Only (fun b => hv.ownBlock = some b) W w3 := only_of_grown hg
  have th : ∀ k, hv.ownBlock = some k → Typed W 68 k := fun k hk => own_typed hC.own.row hk
  have nr : ¬ hv.ownBlock = some r := fun hk => hR.typed.ne (th _ hk) (by decide) rfl
  have ngb : ¬ hv.ownBlock = some g := fun hk => hty.ne (th _ hk) (by decide) rfl
  have np : ¬ hv.ownBlock = some p := fun hk => hK.typed.ne (th _ hk) (by decide) rfl
  have n8 : ¬ hv.ownBlock = some b8 := fun hk => h8 _ hk rfl
  have hT3 : HiT r lm fn (.slice (some ⟨g, 0, none⟩) (l.length + 1) cap) ents hls cp b8 x y w3 := ⟨hR.only o1 nr, o1.cell n8 hT.s0, o1.cell n8 hT.s1⟩
  have hty3 : Typed w3 65 g := by obtain ⟨cs, e⟩ := hty; exact ⟨cs, o1.obj ngb e⟩
  have hR3 := hT3.rd
  have hK3 := hK.only o1 np
  have o2 : Only (fun b => b = g) w3 (w3.setCell ⟨g, l.length * 3 + 2, none⟩ hv') := (Only.refl (fun b => b = g) w3).setCell (p := ⟨g, l.length * 3 + 2, none⟩) (.inl rfl) _
  have hrow3 := own_only hC.row o1 (fun k hk hy => by simp [Value.ownBlock] at hk; subst hk; exact ngb hy)
  have hs := hrow3.stored (l.length * 3 + 2) hv'
  rw [cellsE_hv l cur hv hv' (cur.hs ++ [(lo, hi)])] at hs
  have nrg : ¬ r = g := fun e => hR.typed.ne hty (by decide) e
  have n8g : ¬ b8 = g := fun e => ng e.symm
  refine ⟨⟨hT3, o1.cell ngb cH, hrow3.frozenAt⟩, ⟨hR3.only o2 nrg, o2.cell n8g hT3.s0, o2.cell n8g hT3.s1⟩, ⟨hs.1, hC.le, Nat.le_trans hC.lt (Nat.le_trans o1.size o2.size), fun q hq => ?_, hC.words, ⟨?_, ?_⟩, ⟨hC.word.rep, hC.word.mx, ?_⟩⟩, hK3.only o2 (fun e => hK.typed.ne hty (by decide) e), ?_⟩
  · refine ((hC.fins q hq).only o1 fun k hk => .inl (hC.own.row.lt k hk).1).only o2 fun k hk => .inr ?_
    subst hk
    exact hty3.not (by decide)
  · have hrow : w3.ownsRow B 68 2 hv' (cur.hs ++ [(lo, hi)]).length (cellsL (cur.hs ++ [(lo, hi)])) := by
      rw [cellsL_snoc] at hown
      simpa using hown
    exact own_only hrow o2 (fun k hk hy => by subst hy; exact hty3.ne (own_typed hrow hk) (by decide) rfl)
  · intro z hz
    rcases List.mem_append.1 hz with hz | hz
    · exact hC.own.words z hz
    · obtain rfl : z = (lo, hi) := by simpa using hz
      exact ⟨h1, h2⟩
  · intro z hz
    rcases List.mem_append.1 hz with hz | hz
    · exact hC.word.hs z hz
    · obtain rfl : z = (lo, hi) := by simpa using hz
      exact ⟨h1, h2⟩
  · have hle : base ≤ W.heap.size := by have := hC.le; have := hC.lt; omega
    refine (o1.below hle fun k hk => Nat.le_trans hC.le (hC.own.row.lt k hk).1).trans (o2.below (Nat.le_trans hle o1.size) fun k hk => by subst hk; exact hbg)

set_option maxRecDepth 100000 in
set_option maxHeartbeats 8000000 in
theorem hi_over (lm : Lim) (base r p : Nat) (fn v cp : Value) (cur : Ent) (ents hls x rest lo llo lhi : Int) (sm : Bool) (f : FuncId) (w : World) (hR : RdR w r lm fn .nilIface v ents hls cp) (hK : CurOk w base cp cur (some lo) p lo llo lhi sm f) (hl : Word lo) (hx : Word x) (hs : ¬ lo + x < 18446744073709551616) :
    Calls Tryd.prog 104 #[.pointer (some ⟨r, 0, none⟩), .int .u64 x, .int .i64 rest] w fun e w' => e = .returned (.tuple #[.nilFunc, .iface 44 (.int .i64 8)]) ∧ Below w.heap.size w w' := by
  have hmx : Tryd.prog.follows .mixedOrders = true := by kernel_rfl
  have hcp := hK.ptr
  subst hcp
  have c10 := hR.c10
  have KH := hide (hi_no p x 1 lo llo lhi sm f w hK.cur hl hx hs)
  clear hR hK hl hx hs
  go_enter Tryd.func104, Tryd.ntmps104
  go_wp2_with fail
  refine KH.out.mono ?_
  rintro e w1 ⟨rfl, b1⟩
  have B2 := hide (bl_alloc b1 (.cells #[.int .u64 0, .int .u64 0] 68))
  clear b1
  go_wp2_with fail
  refine wp_region_held_drew (S := Below w.heap.size w) hmx (bl_drew B2.out) (fun hS => ?_)
  refine wpAnyH_takeD (i := 0) (d := some 19) (v := (.bool false)) rfl rfl (by kernel_rfl) (by kernel_rfl) (by kernel_rfl) (fun _ _ _ h => h) (Or.inl ⟨by rfl, ?_⟩) (by assumption) ?_
  · intro X hX; go_simp
  simp only [Act.put, List.setIfInBounds_toArray, List.set_cons_zero, List.set_cons_succ]
  refine wpAnyH_takeD (i := 1) (d := some 20) (v := (.bool true)) rfl rfl (by kernel_rfl) (by kernel_rfl) (by kernel_rfl) (fun _ _ _ h => h) (Or.inl ⟨by rfl, ?_⟩) (by assumption) ?_
  · intro X hX; go_simp
  simp only [Act.put, List.setIfInBounds_toArray, List.set_cons_zero, List.set_cons_succ]
  refine wpAnyH_takeD (i := 2) (d := some 21) (v := (.bool true)) rfl rfl (by kernel_rfl) (by kernel_rfl) (by kernel_rfl) (fun _ _ _ h => h) (Or.inl ⟨by rfl, ?_⟩) (by assumption) ?_
  · intro X hX; go_simp
  simp only [Act.put, List.setIfInBounds_toArray, List.set_cons_zero, List.set_cons_succ]
  refine wpAnyH_takeD (i := 3) (d := some 22) (v := undef) rfl rfl (by kernel_rfl) (by kernel_rfl) (by kernel_rfl) (fun _ _ _ h => h) (Or.inr ⟨by rfl, rfl⟩) (by assumption) ?_
  simp only [Act.put, List.setIfInBounds_toArray, List.set_cons_zero, List.set_cons_succ]
  refine wpAnyH_takeD (i := 4) (d := some 23) (v := undef) rfl rfl (by kernel_rfl) (by kernel_rfl) (by kernel_rfl) (fun _ _ _ h => h) (Or.inr ⟨by rfl, rfl⟩) (by assumption) ?_
  simp only [Act.put, List.setIfInBounds_toArray, List.set_cons_zero, List.set_cons_succ]
  refine wpAnyH_takeD (i := 5) (d := some 24) (v := undef) rfl rfl (by kernel_rfl) (by kernel_rfl) (by kernel_rfl) (fun _ _ _ h => h) (Or.inr ⟨by rfl, rfl⟩) (by assumption) ?_
  simp only [Act.put, List.setIfInBounds_toArray, List.set_cons_zero, List.set_cons_succ]
  refine wpAnyH_takeD (i := 6) (d := some 25) (v := undef) rfl rfl (by kernel_rfl) (by kernel_rfl) (by kernel_rfl) (fun _ _ _ h => h) (Or.inr ⟨by rfl, rfl⟩) (by assumption) ?_
  simp only [Act.put, List.setIfInBounds_toArray, List.set_cons_zero, List.set_cons_succ]
  refine wpAnyH_takeD (i := 7) (d := some 26) (v := undef) rfl rfl (by kernel_rfl) (by kernel_rfl) (by kernel_rfl) (fun _ _ _ h => h) (Or.inr ⟨by rfl, rfl⟩) (by assumption) ?_
  simp only [Act.put, List.setIfInBounds_toArray, List.set_cons_zero, List.set_cons_succ]
  refine wpAnyH_takeD (i := 8) (d := some 27) (v := undef) rfl rfl (by kernel_rfl) (by kernel_rfl) (by kernel_rfl) (fun _ _ _ h => h) (Or.inr ⟨by rfl, rfl⟩) (by assumption) ?_
  simp only [Act.put, List.setIfInBounds_toArray, List.set_cons_zero, List.set_cons_succ]
  refine wpAnyH_takeD (i := 9) (d := some 28) (v := undef) rfl rfl (by kernel_rfl) (by kernel_rfl) (by kernel_rfl) (fun _ _ _ h => h) (Or.inr ⟨by rfl, rfl⟩) (by assumption) ?_
  simp only [Act.put, List.setIfInBounds_toArray, List.set_cons_zero, List.set_cons_succ]
  refine wpAnyH_takeD (i := 10) (d := some 29) (v := undef) rfl rfl (by kernel_rfl) (by kernel_rfl) (by kernel_rfl) (fun _ _ _ h => h) (Or.inr ⟨by rfl, rfl⟩) (by assumption) ?_
  simp only [Act.put, List.setIfInBounds_toArray, List.set_cons_zero, List.set_cons_succ]
  refine wpAnyH_takeD (i := 11) (d := some 30) (v := (.bool true)) rfl rfl (by kernel_rfl) (by kernel_rfl) (by kernel_rfl) (fun _ _ _ h => h) (Or.inl ⟨by rfl, ?_⟩) (by assumption) ?_
  · intro X hX; go_simp
  simp only [Act.put, List.setIfInBounds_toArray, List.set_cons_zero, List.set_cons_succ]
  refine wpAnyH_done (by kernel_rfl) ?_ _
  go_wp2
  go_ret2
  exact ⟨rfl, hS⟩

set_option maxRecDepth 100000 in
set_option maxHeartbeats 8000000 in
theorem hi_large (lm : Lim) (base r p g cap B : Nat) (fn cp hv : Value) (l : List EV) (cur : Ent) (ents hls x rest lo llo lhi : Int) (sm : Bool) (f : FuncId) (w : World) (hbr : base ≤ r) (hR : RdR w r lm fn .nilIface (.slice (some ⟨g, 0, none⟩) (l.length + 1) cap) ents hls cp)
    (hC : RowC w base (.slice (some ⟨g, 0, none⟩) (l.length + 1) cap) l cur B hv) (hK : CurOk w base cp cur (some lo) p lo llo lhi sm f) (hl : Word lo) (hx : Word x) (hs : lo + x < 18446744073709551616) (hm : cur.mx ≤ lo + x) :
    Calls Tryd.prog 104 #[.pointer (some ⟨r, 0, none⟩), .int .u64 x, .int .i64 rest] w fun e w' => e = .returned (.tuple #[.nilFunc, .iface 44 (.int .i64 8)]) ∧ Below base w w' ∧ RdR w' r lm fn .nilIface (.slice (some ⟨g, 0, none⟩) (l.length + 1) cap) ents hls cp := by
  have hmx : Tryd.prog.follows .mixedOrders = true := by kernel_rfl
  have hcp := hK.ptr
  subst hcp
  have c10 := hR.c10
  have KH := hide (hi_yes p x 1 lo llo lhi sm f w hK.cur hl hx hs)
  have hgl : g < w.heap.size := (row_slice hC).elim fun g' h => h.elim fun cap' h => by obtain ⟨e1, _, h2, _⟩ := h; simp at e1; obtain ⟨rfl, _⟩ := e1; exact h2
  have hty : Typed w 65 g := (row_slice hC).elim fun g' h => h.elim fun cap' h => by obtain ⟨e1, _, _, h2, _⟩ := h; simp at e1; obtain ⟨rfl, _⟩ := e1; exact h2
  have hlen : l.length + 1 ≤ 9223372036854775807 := (row_slice hC).elim fun g' h => h.elim fun cap' h => h.2.2.2.2.1
  have cM : w.cell? ⟨g, l.length * 3 + 1, none⟩ = some (.int .u64 cur.mx) := (row_slice hC).elim fun g' h => h.elim fun cap' h => by obtain ⟨e1, _, _, _, _, _, _, h2, _⟩ := h; simp at e1; obtain ⟨rfl, _⟩ := e1; exact h2
  have KE := hide (fun (W : World) (hW : RdR W r lm fn .nilIface (.slice (some ⟨g, 0, none⟩) (l.length + 1) cap) ents hls (.pointer (some ⟨p, 0, none⟩))) => entry_any lm r g l.length cap fn .nilIface (.pointer (some ⟨p, 0, none⟩)) ents hls W hW hlen)
  obtain ⟨hi, ehi⟩ : ∃ y, y = lo + x := ⟨_, rfl⟩
  have hhi : Word hi := by have := hl.1; have := hx.1; rw [ehi]; exact ⟨by omega, hs⟩
  rw [← ehi] at KH
  rw [← ehi] at hm
  have HR := hide hR
  have HC := hide hC
  have HK := hide hK
  have HTY := hide hty
  have CM := hide cM
  obtain ⟨mx, emx⟩ : ∃ mx, cur.mx = mx := ⟨_, rfl⟩
  rw [emx] at CM hm
  clear hR hC hK hl hx hs hty cM ehi hhi emx
  go_enter Tryd.func104, Tryd.ntmps104
  go_wp2_with fail
  refine KH.out.mono ?_
  rintro e w1 ⟨rfl, hcu, ho⟩
  have tp := HK.out.typed
  have hR1 := HR.out.only ho (fun e => HR.out.typed.ne tp (by decide) e)
  have hty1 : Typed w1 65 g := by obtain ⟨cs, e⟩ := HTY.out; exact ⟨cs, ho.obj (fun e => HTY.out.ne tp (by decide) e) e⟩
  have hgp : ¬ g = p := fun e => HTY.out.ne tp (by decide) e
  have hm1 : ∀ k, k = p → ¬ Typed w 65 k ∧ ¬ Typed w 68 k := fun k hk => by subst hk; exact ⟨tp.not (by decide), tp.not (by decide)⟩
  have C1 := hide (HC.out.only ho hm1)
  have B1 := hide (ho.below (n := base) (by have := HR.out.lt; omega) (fun k hk => by subst hk; exact HK.out.le))
  have cM1 := ho.cell hgp CM.out
  have hr1 := hR1.lt
  have hS0 : HiH w1 r lm fn (.slice (some ⟨g, 0, none⟩) (l.length + 1) cap) ents hls (.pointer (some ⟨p, 0, none⟩)) w1.heap.size lo hi g (l.length * 3 + 1) mx (w1.alloc (.cells #[.int .u64 lo, .int .u64 hi] 68)) :=
    ⟨hR1.below (bl_alloc (Below.refl _ _) _), by simp, by simp, keep_c (bl_alloc (Below.refl _ _) _) cM1, bl_alloc (Below.refl _ _) _⟩
  obtain ⟨b8, eb8⟩ : ∃ b, w1.heap.size = b := ⟨_, rfl⟩
  rw [eb8] at hS0
  have HW1 := hide hr1
  clear hcu ho tp hR1 hty1 hgp hm1 cM1 c10 hr1
  go_wp2_with fail
  refine wp_region_held_drew (S := HiH w1 r lm fn (.slice (some ⟨g, 0, none⟩) (l.length + 1) cap) ents hls (.pointer (some ⟨p, 0, none⟩)) b8 lo hi g (l.length * 3 + 1) mx) hmx hS0.drew (fun hS => ?_)
  refine wpAnyH_takeD (i := 0) (d := some 19) (v := (.bool true)) rfl rfl (by kernel_rfl) (by kernel_rfl) (by kernel_rfl) (fun _ _ _ h => h) (Or.inl ⟨by rfl, ?_⟩) (by assumption) ?_
  · intro X hX; go_simp
  simp only [Act.put, List.setIfInBounds_toArray, List.set_cons_zero, List.set_cons_succ]
  refine wpAnyH_takeD (i := 1) (d := some 20) (v := (.bool false)) rfl rfl (by kernel_rfl) (by kernel_rfl) (by kernel_rfl) (fun _ _ _ h => h) (Or.inl ⟨by rfl, ?_⟩) (by assumption) ?_
  · intro X hX; go_simp
  simp only [Act.put, List.setIfInBounds_toArray, List.set_cons_zero, List.set_cons_succ]
  refine wpAnyH_takeD (i := 2) (d := some 21) (v := (.bool false)) rfl rfl (by kernel_rfl) (by kernel_rfl) (by kernel_rfl) (fun _ _ _ h => h) (Or.inl ⟨by rfl, ?_⟩) (by assumption) ?_
  · intro X hX; go_simp
  simp only [Act.put, List.setIfInBounds_toArray, List.set_cons_zero, List.set_cons_succ]
  refine wpAnyH_takeD (i := 3) (d := some 22) (v := (.pointer (some ⟨b8, 1, none⟩))) rfl rfl (by kernel_rfl) (by kernel_rfl) (by kernel_rfl) (fun _ _ _ h => h) (Or.inl ⟨by rfl, ?_⟩) (by assumption) ?_
  · intro X hX; go_simp
  simp only [Act.put, List.setIfInBounds_toArray, List.set_cons_zero, List.set_cons_succ]
  refine wpAnyH_takeD (i := 4) (d := some 23) (v := (.int .u64 hi)) rfl rfl (by kernel_rfl) (by kernel_rfl) (by kernel_rfl) (fun _ _ _ h => h) (Or.inl ⟨by rfl, ?_⟩) (by assumption) ?_
  · intro X hX; obtain ⟨d0, d1, d2, d3, d4⟩ := hX; go_simp
  simp only [Act.put, List.setIfInBounds_toArray, List.set_cons_zero, List.set_cons_succ]
  refine wpAnyH_takeD (i := 5) (d := some 24) (v := (.pointer (some ⟨r, 0, none⟩))) rfl rfl (by kernel_rfl) (by kernel_rfl) (by kernel_rfl) (fun _ _ _ h => h) (Or.inl ⟨by rfl, ?_⟩) (by assumption) ?_
  · intro X hX; go_simp
  simp only [Act.put, List.setIfInBounds_toArray, List.set_cons_zero, List.set_cons_succ]
  refine wpAnyH_ready (rs := [6]) (by kernel_rfl) (by simp) ?_
  refine AllReadyH.cons (o := _) rfl (fun K hK => ?_) AllReadyH.nil
  go_simp
  refine (KE.out _ hS.rd).mono ?_
  rintro e wq ⟨rfl, hb⟩
  have hS := hS.below hb
  clear hb
  go_simp
  refine hK.out _ _ hS (fun _ => ?_)
  clear hK K
  refine wpAnyH_takeD (i := 7) (d := some 26) (v := (.pointer (some ⟨g, l.length * 3, none⟩))) rfl rfl (by kernel_rfl) (by kernel_rfl) (by kernel_rfl) (fun _ _ _ h => h) (Or.inl ⟨by rfl, ?_⟩) (by assumption) ?_
  · intro X hX; go_simp
  simp only [Act.put, List.setIfInBounds_toArray, List.set_cons_zero, List.set_cons_succ]
  refine wpAnyH_takeD (i := 8) (d := some 27) (v := (.pointer (some ⟨g, l.length * 3 + 1, none⟩))) rfl rfl (by kernel_rfl) (by kernel_rfl) (by kernel_rfl) (fun _ _ _ h => h) (Or.inl ⟨by rfl, ?_⟩) (by assumption) ?_
  · intro X hX; go_simp
  simp only [Act.put, List.setIfInBounds_toArray, List.set_cons_zero, List.set_cons_succ]
  refine wpAnyH_takeD (i := 9) (d := some 28) (v := (.int .u64 mx)) rfl rfl (by kernel_rfl) (by kernel_rfl) (by kernel_rfl) (fun _ _ _ h => h) (Or.inl ⟨by rfl, ?_⟩) (by assumption) ?_
  · intro X hX; obtain ⟨d0, d1, d2, d3, d4⟩ := hX; go_simp
  simp only [Act.put, List.setIfInBounds_toArray, List.set_cons_zero, List.set_cons_succ]
  refine wpAnyH_takeD (i := 10) (d := some 29) (v := (.bool true)) rfl rfl (by kernel_rfl) (by kernel_rfl) (by kernel_rfl) (fun _ _ _ h => h) (Or.inl ⟨by rfl, ?_⟩) (by assumption) ?_
  · intro X hX; go_simp
  simp only [Act.put, List.setIfInBounds_toArray, List.set_cons_zero, List.set_cons_succ]
  refine wpAnyH_takeD (i := 11) (d := some 30) (v := (.bool true)) rfl rfl (by kernel_rfl) (by kernel_rfl) (by kernel_rfl) (fun _ _ _ h => h) (Or.inl ⟨by rfl, ?_⟩) (by assumption) ?_
  · intro X hX; go_simp
  simp only [Act.put, List.setIfInBounds_toArray, List.set_cons_zero, List.set_cons_succ]
  refine wpAnyH_done (by kernel_rfl) ?_ _
  go_wp2
  go_ret2
  exact ⟨rfl, B1.out.trans (below_of hS.bl (by have := HW1.out; omega)), hS.rd⟩

set_option maxRecDepth 100000 in
set_option maxHeartbeats 8000000 in
theorem hi_good (lm : Lim) (base r p g cap B : Nat) (fn cp hv : Value) (l : List EV) (cur : Ent) (ents hls x rest lo llo lhi : Int) (sm : Bool) (f : FuncId) (w : World) (hbr : base ≤ r) (hR : RdR w r lm fn .nilIface (.slice (some ⟨g, 0, none⟩) (l.length + 1) cap) ents hls cp)
    (hC : RowC w base (.slice (some ⟨g, 0, none⟩) (l.length + 1) cap) l cur B hv) (hK : CurOk w base cp cur (some lo) p lo llo lhi sm f) (hl : Word lo) (hx : Word x) (hs : lo + x < 18446744073709551616) (hm : lo + x < cur.mx) (hlm : cur.hs.length ≤ 1000000) (he : 0 < ents ∧ ents < 18446744073709551616) (hh : 0 ≤ hls ∧ hls < 18446744073709551616) :
    Calls Tryd.prog 104 #[.pointer (some ⟨r, 0, none⟩), .int .u64 x, .int .i64 rest] w fun e w' => e = .returned (.tuple #[(holeS ⟨.lo, l.map (·.1), { cur with hs := cur.hs ++ [(lo, lo + x)] }, ents, hls⟩).ph.fn r, .nilIface]) ∧ Below base w w' ∧ MemF w' base r lm fn .nilIface (holeS ⟨.lo, l.map (·.1), { cur with hs := cur.hs ++ [(lo, lo + x)] }, ents, hls⟩) := by
  have hmx : Tryd.prog.follows .mixedOrders = true := by kernel_rfl
  have hcp := hK.ptr
  subst hcp
  have c10 := hR.c10
  have KH := hide (hi_yes p x 1 lo llo lhi sm f w hK.cur hl hx hs)
  have hgl : g < w.heap.size := (row_slice hC).elim fun g' h => h.elim fun cap' h => by obtain ⟨e1, _, h2, _⟩ := h; simp at e1; obtain ⟨rfl, _⟩ := e1; exact h2
  have hty : Typed w 65 g := (row_slice hC).elim fun g' h => h.elim fun cap' h => by obtain ⟨e1, _, _, h2, _⟩ := h; simp at e1; obtain ⟨rfl, _⟩ := e1; exact h2
  have hlen : l.length + 1 ≤ 9223372036854775807 := (row_slice hC).elim fun g' h => h.elim fun cap' h => h.2.2.2.2.1
  have cM : w.cell? ⟨g, l.length * 3 + 1, none⟩ = some (.int .u64 cur.mx) := (row_slice hC).elim fun g' h => h.elim fun cap' h => by obtain ⟨e1, _, _, _, _, _, _, h2, _⟩ := h; simp at e1; obtain ⟨rfl, _⟩ := e1; exact h2
  have KE := hide (fun (W : World) (hW : RdR W r lm fn .nilIface (.slice (some ⟨g, 0, none⟩) (l.length + 1) cap) ents hls (.pointer (some ⟨p, 0, none⟩))) => entry_any lm r g l.length cap fn .nilIface (.pointer (some ⟨p, 0, none⟩)) ents hls W hW hlen)
  obtain ⟨hi, ehi⟩ : ∃ y, y = lo + x := ⟨_, rfl⟩
  have hhi : Word hi := by have := hl.1; have := hx.1; rw [ehi]; exact ⟨by omega, hs⟩
  rw [← ehi] at KH
  rw [← ehi] at hm ⊢
  obtain ⟨i0, hi0, hz0, hz1, hz2⟩ := info_parts info_ival
  have HR := hide hR
  have HC := hide hC
  have HK := hide hK
  have HTY := hide hty
  have CM := hide cM
  have WLO := hide hl
  have WHI := hide hhi
  obtain ⟨mx, emx⟩ : ∃ mx, cur.mx = mx := ⟨_, rfl⟩
  rw [emx] at CM hm
  clear hR hC hK hl hx hs hty cM ehi hhi emx
  have hm' : ¬ mx ≤ hi := by omega
  go_enter Tryd.func104, Tryd.ntmps104
  go_wp2_with fail
  refine KH.out.mono ?_
  rintro e w1 ⟨rfl, hcu, ho⟩
  have tp := HK.out.typed
  have hR1 := HR.out.only ho (fun e => HR.out.typed.ne tp (by decide) e)
  have hty1 : Typed w1 65 g := by obtain ⟨cs, e⟩ := HTY.out; exact ⟨cs, ho.obj (fun e => HTY.out.ne tp (by decide) e) e⟩
  have hgp : ¬ g = p := fun e => HTY.out.ne tp (by decide) e
  have hm1 : ∀ k, k = p → ¬ Typed w 65 k ∧ ¬ Typed w 68 k := fun k hk => by subst hk; exact ⟨tp.not (by decide), tp.not (by decide)⟩
  have C1 := hide (HC.out.only ho hm1)
  have B1 := hide (ho.below (n := base) (by have := HR.out.lt; omega) (fun k hk => by subst hk; exact HK.out.le))
  have cM1 := ho.cell hgp CM.out
  have hr1 := hR1.lt
  have hS0 : HiH w1 r lm fn (.slice (some ⟨g, 0, none⟩) (l.length + 1) cap) ents hls (.pointer (some ⟨p, 0, none⟩)) w1.heap.size lo hi g (l.length * 3 + 1) mx (w1.alloc (.cells #[.int .u64 lo, .int .u64 hi] 68)) :=
    ⟨hR1.below (bl_alloc (Below.refl _ _) _), by simp, by simp, keep_c (bl_alloc (Below.refl _ _) _) cM1, bl_alloc (Below.refl _ _) _⟩
  have K1 : CurOk w1 base (.pointer (some ⟨p, 0, none⟩)) { cur with hs := cur.hs ++ [(lo, hi)] } none p lo lo hi true 106 := ⟨rfl, HK.out.le, hcu, fun y hy => (by cases hy), .inr ⟨by simp, rfl, (lastHi_snoc _ _ _).symm, WHI.out⟩⟩
  have HCC := hide (fun (W : World) (hb : Below w1.heap.size w1 W) => And.intro (C1.out.only (may := fun _ => False) (Only.of_below hb) (fun _ hk => hk.elim)) (K1.only (may := fun _ => False) (Only.of_below hb) (fun hk => hk)))
  have N8 := hide (fun k (hk : hv.ownBlock = some k) => Nat.ne_of_lt (C1.out.own.row.lt k hk).2)
  have NG := hide (Nat.ne_of_lt (Nat.lt_of_lt_of_le hgl ho.size))
  have LTB := hide C1.out.lt
  have LTW := hide (show base ≤ w1.heap.size from Nat.le_trans C1.out.le C1.out.lt)
  obtain ⟨b8, eb8⟩ : ∃ b, w1.heap.size = b := ⟨_, rfl⟩
  rw [eb8] at hS0 N8 NG
  clear hcu ho tp hR1 hty1 hgp hm1 cM1 c10 hr1 hgl K1
  go_wp2_with fail
  refine wp_region_held_drew (S := HiH w1 r lm fn (.slice (some ⟨g, 0, none⟩) (l.length + 1) cap) ents hls (.pointer (some ⟨p, 0, none⟩)) b8 lo hi g (l.length * 3 + 1) mx) hmx hS0.drew (fun hS => ?_)
  refine wpAnyH_takeD (i := 0) (d := some 19) (v := (.bool true)) rfl rfl (by kernel_rfl) (by kernel_rfl) (by kernel_rfl) (fun _ _ _ h => h) (Or.inl ⟨by rfl, ?_⟩) (by assumption) ?_
  · intro X hX; go_simp
  simp only [Act.put, List.setIfInBounds_toArray, List.set_cons_zero, List.set_cons_succ]
  refine wpAnyH_takeD (i := 1) (d := some 20) (v := (.bool false)) rfl rfl (by kernel_rfl) (by kernel_rfl) (by kernel_rfl) (fun _ _ _ h => h) (Or.inl ⟨by rfl, ?_⟩) (by assumption) ?_
  · intro X hX; go_simp
  simp only [Act.put, List.setIfInBounds_toArray, List.set_cons_zero, List.set_cons_succ]
  refine wpAnyH_takeD (i := 2) (d := some 21) (v := (.bool false)) rfl rfl (by kernel_rfl) (by kernel_rfl) (by kernel_rfl) (fun _ _ _ h => h) (Or.inl ⟨by rfl, ?_⟩) (by assumption) ?_
  · intro X hX; go_simp
  simp only [Act.put, List.setIfInBounds_toArray, List.set_cons_zero, List.set_cons_succ]
  refine wpAnyH_takeD (i := 3) (d := some 22) (v := (.pointer (some ⟨b8, 1, none⟩))) rfl rfl (by kernel_rfl) (by kernel_rfl) (by kernel_rfl) (fun _ _ _ h => h) (Or.inl ⟨by rfl, ?_⟩) (by assumption) ?_
  · intro X hX; go_simp
  simp only [Act.put, List.setIfInBounds_toArray, List.set_cons_zero, List.set_cons_succ]
  refine wpAnyH_takeD (i := 4) (d := some 23) (v := (.int .u64 hi)) rfl rfl (by kernel_rfl) (by kernel_rfl) (by kernel_rfl) (fun _ _ _ h => h) (Or.inl ⟨by rfl, ?_⟩) (by assumption) ?_
  · intro X hX; obtain ⟨d0, d1, d2, d3, d4⟩ := hX; go_simp
  simp only [Act.put, List.setIfInBounds_toArray, List.set_cons_zero, List.set_cons_succ]
  refine wpAnyH_takeD (i := 5) (d := some 24) (v := (.pointer (some ⟨r, 0, none⟩))) rfl rfl (by kernel_rfl) (by kernel_rfl) (by kernel_rfl) (fun _ _ _ h => h) (Or.inl ⟨by rfl, ?_⟩) (by assumption) ?_
  · intro X hX; go_simp
  simp only [Act.put, List.setIfInBounds_toArray, List.set_cons_zero, List.set_cons_succ]
  refine wpAnyH_ready (rs := [6]) (by kernel_rfl) (by simp) ?_
  refine AllReadyH.cons (o := _) rfl (fun K hK => ?_) AllReadyH.nil
  go_simp
  refine (KE.out _ hS.rd).mono ?_
  rintro e wq ⟨rfl, hb⟩
  have hS := hS.below hb
  clear hb
  go_simp
  refine hK.out _ _ hS (fun _ => ?_)
  clear hK K
  refine wpAnyH_takeD (i := 7) (d := some 26) (v := (.pointer (some ⟨g, l.length * 3, none⟩))) rfl rfl (by kernel_rfl) (by kernel_rfl) (by kernel_rfl) (fun _ _ _ h => h) (Or.inl ⟨by rfl, ?_⟩) (by assumption) ?_
  · intro X hX; go_simp
  simp only [Act.put, List.setIfInBounds_toArray, List.set_cons_zero, List.set_cons_succ]
  refine wpAnyH_takeD (i := 8) (d := some 27) (v := (.pointer (some ⟨g, l.length * 3 + 1, none⟩))) rfl rfl (by kernel_rfl) (by kernel_rfl) (by kernel_rfl) (fun _ _ _ h => h) (Or.inl ⟨by rfl, ?_⟩) (by assumption) ?_
  · intro X hX; go_simp
  simp only [Act.put, List.setIfInBounds_toArray, List.set_cons_zero, List.set_cons_succ]
  refine wpAnyH_takeD (i := 9) (d := some 28) (v := (.int .u64 mx)) rfl rfl (by kernel_rfl) (by kernel_rfl) (by kernel_rfl) (fun _ _ _ h => h) (Or.inl ⟨by rfl, ?_⟩) (by assumption) ?_
  · intro X hX; obtain ⟨d0, d1, d2, d3, d4⟩ := hX; go_simp
  simp only [Act.put, List.setIfInBounds_toArray, List.set_cons_zero, List.set_cons_succ]
  refine wpAnyH_takeD (i := 10) (d := some 29) (v := (.bool false)) rfl rfl (by kernel_rfl) (by kernel_rfl) (by kernel_rfl) (fun _ _ _ h => h) (Or.inl ⟨by rfl, ?_⟩) (by assumption) ?_
  · intro X hX; go_simp
  simp only [Act.put, List.setIfInBounds_toArray, List.set_cons_zero, List.set_cons_succ]
  refine wpAnyH_takeD (i := 11) (d := some 30) (v := (.bool false)) rfl rfl (by kernel_rfl) (by kernel_rfl) (by kernel_rfl) (fun _ _ _ h => h) (Or.inl ⟨by rfl, ?_⟩) (by assumption) ?_
  · intro X hX; go_simp
  simp only [Act.put, List.setIfInBounds_toArray, List.set_cons_zero, List.set_cons_succ]
  refine wpAnyH_done (by kernel_rfl) ?_ _
  have hT0 : HiT r lm fn (.slice (some ⟨g, 0, none⟩) (l.length + 1) cap) ents hls (.pointer (some ⟨p, 0, none⟩)) b8 lo hi _ := ⟨hS.rd, hS.s0, hS.s1⟩
  have HB0 := hide (bl_drew hS.bl)
  clear hS hS0
  go_wp2_with fail
  refine wp_region_held_drew (S := HiT r lm fn (.slice (some ⟨g, 0, none⟩) (l.length + 1) cap) ents hls (.pointer (some ⟨p, 0, none⟩)) b8 lo hi) hmx hT0.drew (fun hS => ?_)
  have hB := HB0.out
  refine wpAnyH_takeD (i := 0) (d := some 32) (v := (.pointer (some ⟨r, 0, none⟩))) rfl rfl (by kernel_rfl) (by kernel_rfl) (by kernel_rfl) (fun _ _ _ h => h) (Or.inl ⟨by rfl, ?_⟩) (by assumption) ?_
  · intro X hX; go_simp
  simp only [Act.put, List.setIfInBounds_toArray, List.set_cons_zero, List.set_cons_succ]
  refine wpAnyH_takeD (i := 2) (d := some 34) (v := (.pointer (some ⟨r, 0, none⟩))) rfl rfl (by kernel_rfl) (by kernel_rfl) (by kernel_rfl) (fun _ _ _ h => h) (Or.inl ⟨by rfl, ?_⟩) (by assumption) ?_
  · intro X hX; go_simp
  simp only [Act.put, List.setIfInBounds_toArray, List.set_cons_zero, List.set_cons_succ]
  refine wpAnyH_takeD (i := 7) (d := some 39) (v := (.agg #[.int .u64 lo, .int .u64 hi])) rfl rfl (by kernel_rfl) (by kernel_rfl) (by kernel_rfl) (fun _ _ _ h => h) (Or.inl ⟨by rfl, ?_⟩) (by assumption) ?_
  · intro X hX; obtain ⟨d0, d1, d2⟩ := hX; go_simp
  simp only [Act.put, List.setIfInBounds_toArray, List.set_cons_zero, List.set_cons_succ]
  refine wpAnyH_ready (rs := [1, 8]) (by kernel_rfl) (by simp) ?_
  refine AllReadyH.cons (o := _) rfl (fun K hK => ?_) (AllReadyH.cons (o := _) rfl (fun K hK => ?_) AllReadyH.nil)
  · skip
    go_simp
    refine (KE.out _ hS.rd).mono ?_
    rintro e wq ⟨rfl, hb⟩
    have hS := hS.below hb
    have hB := bl_trans hB hb
    clear hb
    go_simp
    refine hK.out _ _ hS (fun _ => ?_)
    clear hK K
    refine wpAnyH_ready (rs := [3, 8]) (by kernel_rfl) (by simp) ?_
    refine AllReadyH.cons (o := _) rfl (fun K hK => ?_) (AllReadyH.cons (o := _) rfl (fun K hK => ?_) AllReadyH.nil)
    · skip
      go_simp
      refine (KE.out _ hS.rd).mono ?_
      rintro e wq ⟨rfl, hb⟩
      have hS := hS.below hb
      have hB := bl_trans hB hb
      clear hb
      go_simp
      refine hK.out _ _ hS (fun _ => ?_)
      clear hK K
      refine wpAnyH_takeD (i := 4) (d := some 36) (v := (.pointer (some ⟨g, l.length * 3, none⟩))) rfl rfl (by kernel_rfl) (by kernel_rfl) (by kernel_rfl) (fun _ _ _ h => h) (Or.inl ⟨by rfl, ?_⟩) (by assumption) ?_
      · intro X hX; go_simp
      simp only [Act.put, List.setIfInBounds_toArray, List.set_cons_zero, List.set_cons_succ]
      refine wpAnyH_takeD (i := 5) (d := some 37) (v := (.pointer (some ⟨g, l.length * 3 + 2, none⟩))) rfl rfl (by kernel_rfl) (by kernel_rfl) (by kernel_rfl) (fun _ _ _ h => h) (Or.inl ⟨by rfl, ?_⟩) (by assumption) ?_
      · intro X hX; go_simp
      simp only [Act.put, List.setIfInBounds_toArray, List.set_cons_zero, List.set_cons_succ]
      refine wpAnyH_ready (rs := [6, 8]) (by kernel_rfl) (by simp) ?_
      refine AllReadyH.cons (o := _) rfl (fun K hK => ?_) (AllReadyH.cons (o := _) rfl (fun K hK => ?_) AllReadyH.nil)
      · skip
        have cH := row_hv (HCC.out _ hB).1
        go_simp
        refine hK.out _ _ hS (fun _ => ?_)
        clear hK K cH
        refine wpAnyH_ready (rs := [8]) (by kernel_rfl) (by simp) ?_
        refine AllReadyH.cons (o := _) rfl (fun K hK => ?_) AllReadyH.nil
        go_simp
        refine hK.out _ _ (hS.alloc _) (fun _ => ?_)
        clear hK K
        have R8 := hS.new8
        have hB := bl_alloc hB (.cells #[.int .u64 lo, .int .u64 hi] 68)
        have hS := hS.alloc (.cells #[.int .u64 lo, .int .u64 hi] 68)
        refine wpAnyH_ready (rs := [9]) (by kernel_rfl) (by simp) ?_
        refine AllReadyH.cons (o := _) rfl (fun K hK => ?_) AllReadyH.nil
        rw [if_pos (by rfl)]
        refine wp_append_own _ (.tmp 38) (.tmp 40) 63 rfl B 68 i0 (.agg #[.int .u64 0, .int .u64 0]) 2 16 Tryd.underlying63 hi0 hz0 hz1 hz2 rfl (by decide) _ _ _ rfl (HCC.out _ hB).1.own.row ⟨_, 0, none⟩ 1 1 [.int .u64 lo, .int .u64 hi] rfl rfl (hnew2 R8) (by intro u hu; simp at hu; rcases hu with rfl | rfl <;> rfl) (by unfold maxLen; omega) (by omega) (by have := hB.size; have := LTB.out; omega) ?_
        intro hv' w3 hown hgrow _
        obtain ⟨a', cap', rfl, _⟩ := own_len hown
        have P := hide (hi_push hbr hS (HCC.out _ hB).1 (HCC.out _ hB).2 WLO.out WHI.out N8.out NG.out hown hgrow)
        have PB := hide (B1.out.trans ((below_of hB LTW.out).trans P.out.2.2.2.2))
        clear hown hgrow hB R8
        refine hK.out _ _ P.out.1.1 (fun _ => ?_)
        clear hK K hS
        have hS := P.out.1.1
        refine wpAnyH_takeD (i := 10) (d := some 42) (v := (.pointer (some ⟨g, l.length * 3, none⟩))) rfl rfl (by kernel_rfl) (by kernel_rfl) (by kernel_rfl) (fun _ _ _ h => h) (Or.inl ⟨by rfl, ?_⟩) (by assumption) ?_
        · intro X hX; go_simp
        simp only [Act.put, List.setIfInBounds_toArray, List.set_cons_zero, List.set_cons_succ]
        refine wpAnyH_takeD (i := 11) (d := some 43) (v := (.pointer (some ⟨g, l.length * 3 + 2, none⟩))) rfl rfl (by kernel_rfl) (by kernel_rfl) (by kernel_rfl) (fun _ _ _ h => h) (Or.inl ⟨by rfl, ?_⟩) (by assumption) ?_
        · intro X hX; go_simp
        simp only [Act.put, List.setIfInBounds_toArray, List.set_cons_zero, List.set_cons_succ]
        clear hS
        have gH := P.out.1.2.1
        have fG := P.out.1.2.2
        refine wpAnyH_ready (rs := [12]) (by kernel_rfl) (by simp) ?_
        refine AllReadyH.cons (o := _) rfl (fun K hK => ?_) AllReadyH.nil
        go_simp
        refine hK.out _ _ P.out.2.1 (fun _ => ?_)
        clear hK K gH fG
        refine wpAnyH_done (by kernel_rfl) ?_ _
        have hR3 := P.out.2.1.rd
        have KH := hide (hole_any lm r fn .nilIface _ _ ents hls _ hR3 he hh)
        have D := hide (fun w2 h1 h2 => hole_post (w2 := w2) (ph := .lo) (lm := lm) (fn := fn) (ents := ents) (hls := hls) hbr hR3.typed rfl P.out.2.2.1 P.out.2.2.2.1 h1 h2)
        have HL3 := hide (show base ≤ _ from Nat.le_trans hbr (Nat.le_of_lt hR3.lt))
        rw [← hole_fn r .lo (l.map (·.1)) { cur with hs := cur.hs ++ [(lo, hi)] } ents hls] at KH
        obtain ⟨fv, efv⟩ : ∃ fv, (holeS ⟨.lo, l.map (·.1), { cur with hs := cur.hs ++ [(lo, hi)] }, ents, hls⟩).ph.fn r = fv := ⟨_, rfl⟩
        rw [efv] at KH
        have EFV := hide efv
        clear hR3 efv
        go_wp2_with fail
        refine KH.out.mono ?_
        rintro e w5 ⟨rfl, hR5, ho5⟩
        have hM := hide (D.out w5 hR5 ho5)
        have hB5 := hide (PB.out.trans (ho5.below HL3.out (fun k hk => by subst hk; exact hbr)))
        clear hR5 ho5
        go_wp2
        go_ret2
        exact ⟨by rw [EFV.out] <;> rfl, hB5.out, hM.out⟩
      · skip
        go_simp
        refine hK.out _ _ (hS.alloc _) (fun _ => ?_)
        clear hK K
        have R8 := hS.new8
        have hB := bl_alloc hB (.cells #[.int .u64 lo, .int .u64 hi] 68)
        have hS := hS.alloc (.cells #[.int .u64 lo, .int .u64 hi] 68)
        refine wpAnyH_ready (rs := [6]) (by kernel_rfl) (by simp) ?_
        refine AllReadyH.cons (o := _) rfl (fun K hK => ?_) AllReadyH.nil
        have cH := row_hv (HCC.out _ hB).1
        go_simp
        refine hK.out _ _ hS (fun _ => ?_)
        clear hK K cH
        refine wpAnyH_ready (rs := [9]) (by kernel_rfl) (by simp) ?_
        refine AllReadyH.cons (o := _) rfl (fun K hK => ?_) AllReadyH.nil
        rw [if_pos (by rfl)]
        refine wp_append_own _ (.tmp 38) (.tmp 40) 63 rfl B 68 i0 (.agg #[.int .u64 0, .int .u64 0]) 2 16 Tryd.underlying63 hi0 hz0 hz1 hz2 rfl (by decide) _ _ _ rfl (HCC.out _ hB).1.own.row ⟨_, 0, none⟩ 1 1 [.int .u64 lo, .int .u64 hi] rfl rfl (hnew2 R8) (by intro u hu; simp at hu; rcases hu with rfl | rfl <;> rfl) (by unfold maxLen; omega) (by omega) (by have := hB.size; have := LTB.out; omega) ?_
        intro hv' w3 hown hgrow _
        obtain ⟨a', cap', rfl, _⟩ := own_len hown
        have P := hide (hi_push hbr hS (HCC.out _ hB).1 (HCC.out _ hB).2 WLO.out WHI.out N8.out NG.out hown hgrow)
        have PB := hide (B1.out.trans ((below_of hB LTW.out).trans P.out.2.2.2.2))
        clear hown hgrow hB R8
        refine hK.out _ _ P.out.1.1 (fun _ => ?_)
        clear hK K hS
        have hS := P.out.1.1
        refine wpAnyH_takeD (i := 10) (d := some 42) (v := (.pointer (some ⟨g, l.length * 3, none⟩))) rfl rfl (by kernel_rfl) (by kernel_rfl) (by kernel_rfl) (fun _ _ _ h => h) (Or.inl ⟨by rfl, ?_⟩) (by assumption) ?_
        · intro X hX; go_simp
        simp only [Act.put, List.setIfInBounds_toArray, List.set_cons_zero, List.set_cons_succ]
        refine wpAnyH_takeD (i := 11) (d := some 43) (v := (.pointer (some ⟨g, l.length * 3 + 2, none⟩))) rfl rfl (by kernel_rfl) (by kernel_rfl) (by kernel_rfl) (fun _ _ _ h => h) (Or.inl ⟨by rfl, ?_⟩) (by assumption) ?_
        · intro X hX; go_simp
        simp only [Act.put, List.setIfInBounds_toArray, List.set_cons_zero, List.set_cons_succ]
        clear hS
        have gH := P.out.1.2.1
        have fG := P.out.1.2.2
        refine wpAnyH_ready (rs := [12]) (by kernel_rfl) (by simp) ?_
        refine AllReadyH.cons (o := _) rfl (fun K hK => ?_) AllReadyH.nil
        go_simp
        refine hK.out _ _ P.out.2.1 (fun _ => ?_)
        clear hK K gH fG
        refine wpAnyH_done (by kernel_rfl) ?_ _
        have hR3 := P.out.2.1.rd
        have KH := hide (hole_any lm r fn .nilIface _ _ ents hls _ hR3 he hh)
        have D := hide (fun w2 h1 h2 => hole_post (w2 := w2) (ph := .lo) (lm := lm) (fn := fn) (ents := ents) (hls := hls) hbr hR3.typed rfl P.out.2.2.1 P.out.2.2.2.1 h1 h2)
        have HL3 := hide (show base ≤ _ from Nat.le_trans hbr (Nat.le_of_lt hR3.lt))
        rw [← hole_fn r .lo (l.map (·.1)) { cur with hs := cur.hs ++ [(lo, hi)] } ents hls] at KH
        obtain ⟨fv, efv⟩ : ∃ fv, (holeS ⟨.lo, l.map (·.1), { cur with hs := cur.hs ++ [(lo, hi)] }, ents, hls⟩).ph.fn r = fv := ⟨_, rfl⟩
        rw [efv] at KH
        have EFV := hide efv
        clear hR3 efv
        go_wp2_with fail
        refine KH.out.mono ?_
        rintro e w5 ⟨rfl, hR5, ho5⟩
        have hM := hide (D.out w5 hR5 ho5)
        have hB5 := hide (PB.out.trans (ho5.below HL3.out (fun k hk => by subst hk; exact hbr)))
        clear hR5 ho5
        go_wp2
        go_ret2
        exact ⟨by rw [EFV.out] <;> rfl, hB5.out, hM.out⟩
    · skip
      go_simp
      refine hK.out _ _ (hS.alloc _) (fun _ => ?_)
      clear hK K
      have R8 := hS.new8
      have hB := bl_alloc hB (.cells #[.int .u64 lo, .int .u64 hi] 68)
      have hS := hS.alloc (.cells #[.int .u64 lo, .int .u64 hi] 68)
      refine wpAnyH_ready (rs := [3]) (by kernel_rfl) (by simp) ?_
      refine AllReadyH.cons (o := _) rfl (fun K hK => ?_) AllReadyH.nil
      go_simp
      refine (KE.out _ hS.rd).mono ?_
      rintro e wq ⟨rfl, hb⟩
      have hS := hS.below hb
      have hB := bl_trans hB hb
      have R8 := row_kept hb R8
      clear hb
      go_simp
      refine hK.out _ _ hS (fun _ => ?_)
      clear hK K
      refine wpAnyH_takeD (i := 4) (d := some 36) (v := (.pointer (some ⟨g, l.length * 3, none⟩))) rfl rfl (by kernel_rfl) (by kernel_rfl) (by kernel_rfl) (fun _ _ _ h => h) (Or.inl ⟨by rfl, ?_⟩) (by assumption) ?_
      · intro X hX; go_simp
      simp only [Act.put, List.setIfInBounds_toArray, List.set_cons_zero, List.set_cons_succ]
      refine wpAnyH_takeD (i := 5) (d := some 37) (v := (.pointer (some ⟨g, l.length * 3 + 2, none⟩))) rfl rfl (by kernel_rfl) (by kernel_rfl) (by kernel_rfl) (fun _ _ _ h => h) (Or.inl ⟨by rfl, ?_⟩) (by assumption) ?_
      · intro X hX; go_simp
      simp only [Act.put, List.setIfInBounds_toArray, List.set_cons_zero, List.set_cons_succ]
      refine wpAnyH_ready (rs := [6]) (by kernel_rfl) (by simp) ?_
      refine AllReadyH.cons (o := _) rfl (fun K hK => ?_) AllReadyH.nil
      have cH := row_hv (HCC.out _ hB).1
      go_simp
      refine hK.out _ _ hS (fun _ => ?_)
      clear hK K cH
      refine wpAnyH_ready (rs := [9]) (by kernel_rfl) (by simp) ?_
      refine AllReadyH.cons (o := _) rfl (fun K hK => ?_) AllReadyH.nil
      rw [if_pos (by rfl)]
      refine wp_append_own _ (.tmp 38) (.tmp 40) 63 rfl B 68 i0 (.agg #[.int .u64 0, .int .u64 0]) 2 16 Tryd.underlying63 hi0 hz0 hz1 hz2 rfl (by decide) _ _ _ rfl (HCC.out _ hB).1.own.row ⟨_, 0, none⟩ 1 1 [.int .u64 lo, .int .u64 hi] rfl rfl (hnew2 R8) (by intro u hu; simp at hu; rcases hu with rfl | rfl <;> rfl) (by unfold maxLen; omega) (by omega) (by have := hB.size; have := LTB.out; omega) ?_
      intro hv' w3 hown hgrow _
      obtain ⟨a', cap', rfl, _⟩ := own_len hown
      have P := hide (hi_push hbr hS (HCC.out _ hB).1 (HCC.out _ hB).2 WLO.out WHI.out N8.out NG.out hown hgrow)
      have PB := hide (B1.out.trans ((below_of hB LTW.out).trans P.out.2.2.2.2))
      clear hown hgrow hB R8
      refine hK.out _ _ P.out.1.1 (fun _ => ?_)
      clear hK K hS
      have hS := P.out.1.1
      refine wpAnyH_takeD (i := 10) (d := some 42) (v := (.pointer (some ⟨g, l.length * 3, none⟩))) rfl rfl (by kernel_rfl) (by kernel_rfl) (by kernel_rfl) (fun _ _ _ h => h) (Or.inl ⟨by rfl, ?_⟩) (by assumption) ?_
      · intro X hX; go_simp
      simp only [Act.put, List.setIfInBounds_toArray, List.set_cons_zero, List.set_cons_succ]
      refine wpAnyH_takeD (i := 11) (d := some 43) (v := (.pointer (some ⟨g, l.length * 3 + 2, none⟩))) rfl rfl (by kernel_rfl) (by kernel_rfl) (by kernel_rfl) (fun _ _ _ h => h) (Or.inl ⟨by rfl, ?_⟩) (by assumption) ?_
      · intro X hX; go_simp
      simp only [Act.put, List.setIfInBounds_toArray, List.set_cons_zero, List.set_cons_succ]
      clear hS
      have gH := P.out.1.2.1
      have fG := P.out.1.2.2
      refine wpAnyH_ready (rs := [12]) (by kernel_rfl) (by simp) ?_
      refine AllReadyH.cons (o := _) rfl (fun K hK => ?_) AllReadyH.nil
      go_simp
      refine hK.out _ _ P.out.2.1 (fun _ => ?_)
      clear hK K gH fG
      refine wpAnyH_done (by kernel_rfl) ?_ _
      have hR3 := P.out.2.1.rd
      have KH := hide (hole_any lm r fn .nilIface _ _ ents hls _ hR3 he hh)
      have D := hide (fun w2 h1 h2 => hole_post (w2 := w2) (ph := .lo) (lm := lm) (fn := fn) (ents := ents) (hls := hls) hbr hR3.typed rfl P.out.2.2.1 P.out.2.2.2.1 h1 h2)
      have HL3 := hide (show base ≤ _ from Nat.le_trans hbr (Nat.le_of_lt hR3.lt))
      rw [← hole_fn r .lo (l.map (·.1)) { cur with hs := cur.hs ++ [(lo, hi)] } ents hls] at KH
      obtain ⟨fv, efv⟩ : ∃ fv, (holeS ⟨.lo, l.map (·.1), { cur with hs := cur.hs ++ [(lo, hi)] }, ents, hls⟩).ph.fn r = fv := ⟨_, rfl⟩
      rw [efv] at KH
      have EFV := hide efv
      clear hR3 efv
      go_wp2_with fail
      refine KH.out.mono ?_
      rintro e w5 ⟨rfl, hR5, ho5⟩
      have hM := hide (D.out w5 hR5 ho5)
      have hB5 := hide (PB.out.trans (ho5.below HL3.out (fun k hk => by subst hk; exact hbr)))
      clear hR5 ho5
      go_wp2
      go_ret2
      exact ⟨by rw [EFV.out] <;> rfl, hB5.out, hM.out⟩
  · skip
    go_simp
    refine hK.out _ _ (hS.alloc _) (fun _ => ?_)
    clear hK K
    have R8 := hS.new8
    have hB := bl_alloc hB (.cells #[.int .u64 lo, .int .u64 hi] 68)
    have hS := hS.alloc (.cells #[.int .u64 lo, .int .u64 hi] 68)
    refine wpAnyH_ready (rs := [1]) (by kernel_rfl) (by simp) ?_
    refine AllReadyH.cons (o := _) rfl (fun K hK => ?_) AllReadyH.nil
    go_simp
    refine (KE.out _ hS.rd).mono ?_
    rintro e wq ⟨rfl, hb⟩
    have hS := hS.below hb
    have hB := bl_trans hB hb
    have R8 := row_kept hb R8
    clear hb
    go_simp
    refine hK.out _ _ hS (fun _ => ?_)
    clear hK K
    refine wpAnyH_ready (rs := [3]) (by kernel_rfl) (by simp) ?_
    refine AllReadyH.cons (o := _) rfl (fun K hK => ?_) AllReadyH.nil
    go_simp
    refine (KE.out _ hS.rd).mono ?_
    rintro e wq ⟨rfl, hb⟩
    have hS := hS.below hb
    have hB := bl_trans hB hb
    have R8 := row_kept hb R8
    clear hb
    go_simp
    refine hK.out _ _ hS (fun _ => ?_)
    clear hK K
    refine wpAnyH_takeD (i := 4) (d := some 36) (v := (.pointer (some ⟨g, l.length * 3, none⟩))) rfl rfl (by kernel_rfl) (by kernel_rfl) (by kernel_rfl) (fun _ _ _ h => h) (Or.inl ⟨by rfl, ?_⟩) (by assumption) ?_
    · intro X hX; go_simp
    simp only [Act.put, List.setIfInBounds_toArray, List.set_cons_zero, List.set_cons_succ]
    refine wpAnyH_takeD (i := 5) (d := some 37) (v := (.pointer (some ⟨g, l.length * 3 + 2, none⟩))) rfl rfl (by kernel_rfl) (by kernel_rfl) (by kernel_rfl) (fun _ _ _ h => h) (Or.inl ⟨by rfl, ?_⟩) (by assumption) ?_
    · intro X hX; go_simp
    simp only [Act.put, List.setIfInBounds_toArray, List.set_cons_zero, List.set_cons_succ]
    refine wpAnyH_ready (rs := [6]) (by kernel_rfl) (by simp) ?_
    refine AllReadyH.cons (o := _) rfl (fun K hK => ?_) AllReadyH.nil
    have cH := row_hv (HCC.out _ hB).1
    go_simp
    refine hK.out _ _ hS (fun _ => ?_)
    clear hK K cH
    refine wpAnyH_ready (rs := [9]) (by kernel_rfl) (by simp) ?_
    refine AllReadyH.cons (o := _) rfl (fun K hK => ?_) AllReadyH.nil
    rw [if_pos (by rfl)]
    refine wp_append_own _ (.tmp 38) (.tmp 40) 63 rfl B 68 i0 (.agg #[.int .u64 0, .int .u64 0]) 2 16 Tryd.underlying63 hi0 hz0 hz1 hz2 rfl (by decide) _ _ _ rfl (HCC.out _ hB).1.own.row ⟨_, 0, none⟩ 1 1 [.int .u64 lo, .int .u64 hi] rfl rfl (hnew2 R8) (by intro u hu; simp at hu; rcases hu with rfl | rfl <;> rfl) (by unfold maxLen; omega) (by omega) (by have := hB.size; have := LTB.out; omega) ?_
    intro hv' w3 hown hgrow _
    obtain ⟨a', cap', rfl, _⟩ := own_len hown
    have P := hide (hi_push hbr hS (HCC.out _ hB).1 (HCC.out _ hB).2 WLO.out WHI.out N8.out NG.out hown hgrow)
    have PB := hide (B1.out.trans ((below_of hB LTW.out).trans P.out.2.2.2.2))
    clear hown hgrow hB R8
    refine hK.out _ _ P.out.1.1 (fun _ => ?_)
    clear hK K hS
    have hS := P.out.1.1
    refine wpAnyH_takeD (i := 10) (d := some 42) (v := (.pointer (some ⟨g, l.length * 3, none⟩))) rfl rfl (by kernel_rfl) (by kernel_rfl) (by kernel_rfl) (fun _ _ _ h => h) (Or.inl ⟨by rfl, ?_⟩) (by assumption) ?_
    · intro X hX; go_simp
    simp only [Act.put, List.setIfInBounds_toArray, List.set_cons_zero, List.set_cons_succ]
    refine wpAnyH_takeD (i := 11) (d := some 43) (v := (.pointer (some ⟨g, l.length * 3 + 2, none⟩))) rfl rfl (by kernel_rfl) (by kernel_rfl) (by kernel_rfl) (fun _ _ _ h => h) (Or.inl ⟨by rfl, ?_⟩) (by assumption) ?_
    · intro X hX; go_simp
    simp only [Act.put, List.setIfInBounds_toArray, List.set_cons_zero, List.set_cons_succ]
    clear hS
    have gH := P.out.1.2.1
    have fG := P.out.1.2.2
    refine wpAnyH_ready (rs := [12]) (by kernel_rfl) (by simp) ?_
    refine AllReadyH.cons (o := _) rfl (fun K hK => ?_) AllReadyH.nil
    go_simp
    refine hK.out _ _ P.out.2.1 (fun _ => ?_)
    clear hK K gH fG
    refine wpAnyH_done (by kernel_rfl) ?_ _
    have hR3 := P.out.2.1.rd
    have KH := hide (hole_any lm r fn .nilIface _ _ ents hls _ hR3 he hh)
    have D := hide (fun w2 h1 h2 => hole_post (w2 := w2) (ph := .lo) (lm := lm) (fn := fn) (ents := ents) (hls := hls) hbr hR3.typed rfl P.out.2.2.1 P.out.2.2.2.1 h1 h2)
    have HL3 := hide (show base ≤ _ from Nat.le_trans hbr (Nat.le_of_lt hR3.lt))
    rw [← hole_fn r .lo (l.map (·.1)) { cur with hs := cur.hs ++ [(lo, hi)] } ents hls] at KH
    obtain ⟨fv, efv⟩ : ∃ fv, (holeS ⟨.lo, l.map (·.1), { cur with hs := cur.hs ++ [(lo, hi)] }, ents, hls⟩).ph.fn r = fv := ⟨_, rfl⟩
    rw [efv] at KH
    have EFV := hide efv
    clear hR3 efv
    go_wp2_with fail
    refine KH.out.mono ?_
    rintro e w5 ⟨rfl, hR5, ho5⟩
    have hM := hide (D.out w5 hR5 ho5)
    have hB5 := hide (PB.out.trans (ho5.below HL3.out (fun k hk => by subst hk; exact hbr)))
    clear hR5 ho5
    go_wp2
    go_ret2
    exact ⟨by rw [EFV.out] <;> rfl, hB5.out, hM.out⟩

theorem hi_any (lm : Lim) (base r : Nat) (lo : Int) (fn : Value) (s : St) (x rest : Int) (w : World) (h : MemF w base r lm fn .nilIface s) (hp : s.ph = .hi lo) (hx : Word x) (he : 0 < s.ents ∧ s.ents < 18446744073709551616) (hh : 0 ≤ s.hls ∧ s.hls < 18446744073709551616) (hm : s.cur.hs.length ≤ 1000000) :
    Calls Tryd.prog 104 #[.pointer (some ⟨r, 0, none⟩), .int .u64 x, .int .i64 rest] w fun e w' => StepPost lm base r fn (stepS lm s x rest) w e w' := by
  obtain ⟨ph, es, cur, ents, hls⟩ := s
  obtain rfl : ph = .hi lo := hp
  obtain ⟨hbr, v, cp, hR, l, B, hv, p, lo', llo, lhi, sm, f, hes, hC, hK⟩ := h
  have hes' : l.map (·.1) = es := hes
  subst hes'
  obtain ⟨e1, hl⟩ := hK.opn lo rfl
  subst e1
  have e0 : stepS lm ⟨.hi lo', l.map (·.1), cur, ents, hls⟩ x rest = if lo' + x < 18446744073709551616 ∧ lo' + x < cur.mx then .ok (holeS ⟨.hi lo', l.map (·.1), { cur with hs := cur.hs ++ [(lo', lo' + x)] }, ents, hls⟩) else .error 8 := rfl
  have eh : holeS ⟨.hi lo', l.map (·.1), { cur with hs := cur.hs ++ [(lo', lo' + x)] }, ents, hls⟩ = holeS ⟨.lo, l.map (·.1), { cur with hs := cur.hs ++ [(lo', lo' + x)] }, ents, hls⟩ := by unfold holeS; rfl
  obtain ⟨g, cap, rfl, _⟩ := row_slice hC
  by_cases hs : lo' + x < 18446744073709551616
  · by_cases hq : lo' + x < cur.mx
    · refine (hi_good lm base r p g cap B fn cp hv l cur ents hls x rest lo' llo lhi sm f w hbr hR hC hK hl hx hs hq hm he hh).mono ?_
      rintro e w' ⟨h1, hb, hM⟩
      exact .ok ((e0.trans (if_pos ⟨hs, hq⟩)).trans (by rw [eh])) hb h1 hM
    · refine (hi_large lm base r p g cap B fn cp hv l cur ents hls x rest lo' llo lhi sm f w hbr hR hC hK hl hx hs (by omega)).mono ?_
      rintro e w' ⟨h1, hb, hr⟩
      exact .err (e0.trans (if_neg (fun h => hq h.2))) hb h1 _ _ _ _ hr
  · refine (hi_over lm base r p fn _ cp cur ents hls x rest lo' llo lhi sm f w hR hK hl hx hs).mono ?_
    rintro e w' ⟨h1, hb⟩
    exact .err (e0.trans (if_neg (fun h => hs h.1))) (below_of hb (by have := hR.lt; omega)) h1 _ _ _ _ (hR.below hb)
end Go.Proofs.YtbphphmjhcehkaaDoor
