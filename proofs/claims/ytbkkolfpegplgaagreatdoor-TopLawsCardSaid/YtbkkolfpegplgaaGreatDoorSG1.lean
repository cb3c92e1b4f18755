/- Small helpers that all texts of this seat use: words, numbers of 128 bits, endings, and 'nothing that was there has changed'. Lists of intervals: how a slice of intervals is read, and when a list is correct. Contracts of the small functions of the packages word and kenningref02: neighbours, differences, widths, sums and comparisons, for all words. 'Of what was there, only some blocks have changed'. No program in sight. Contracts of the reference of layer 3: an interval is correct, has a number, is related to another one. Plain laws on differences of intervals. No program in sight. Lists of intervals as sets of numbers; two normal lists with the same numbers are the same. No program in sight. Operations on sets, piece by piece: where the next change lies, the pieces, what is merged out of them. No program in sight. setops.next: the next change of a list. Lists of strings that are read. -/
import Derived.Test.YtbkkolfpegplgaaGreatDoorRows
import Derived.WalkKit
import Derived.WalkSpells
import Derived.WalkLawsBesides
set_option maxHeartbeats 3200000
set_option maxRecDepth 100000
set_option linter.unusedSimpArgs false
namespace Go.Proofs.YtbkkolfpegplgaaGreatDoor
open Go.RowKit
theorem hide {p:Prop} (h:p):Hid p:=h
/-- A word of 64 bits. -/
def Word (x:Int):Prop:=0≤x∧x<18446744073709551616
/-- A number of 128 bits: its high and its low part, and the number of two parts. -/
def hi64 (n:Int):Int:=n / 18446744073709551616 % 18446744073709551616
def lo64 (n:Int):Int:=n % 18446744073709551616
def val (h l:Int):Int:=h * 18446744073709551616+l
def Long (n:Int):Prop:=0≤n∧n<340282366920938463463374607431768211456
theorem word_hi (n:Int):Word (hi64 n):=by unfold Word hi64;omega
theorem word_lo (n:Int):Word (lo64 n):=by unfold Word lo64;omega
theorem val_hilo {n:Int} (h:Long n):val (hi64 n) (lo64 n)=n:=by unfold Long at h;unfold hi64 lo64 val;omega
theorem val_zero (l:Int):val 0 l=l:=by unfold val;omega
theorem ret_ib {k:IntKind} {a a':Int} {b b':Bool} (ha:a=a') (hb:b=b'):Ending.returned (.tuple #[.int k a,.bool b])=.returned (.tuple #[.int k a',.bool b']):=by rw [ha,hb]
theorem ret_agg {k k':IntKind} {a a' b b':Int} (ha:a=a') (hb:b=b'):Ending.returned (.agg #[.int k a,.int k' b])=.returned (.agg #[.int k a',.int k' b']):=by rw [ha,hb]
theorem ret_int {k:IntKind} {a b:Int} (h:a=b):Ending.returned (.int k a)=.returned (.int k b):=by rw [h]
theorem ret_bool {a b:Bool} (h:a=b):Ending.returned (.bool a)=.returned (.bool b):=by rw [h]
/-! ### Nothing that was there has changed -/
theorem bl_alloc {a w:World} (h:Below a.heap.size a w) (o:Obj):Below a.heap.size a (w.alloc o):=h.alloc h.size o
theorem bl_drew {a w:World} (h:Below a.heap.size a w):Below a.heap.size a w.drew:=h.drew
theorem bl_drewN {a w:World} (h:Below a.heap.size a w) (n:Nat):Below a.heap.size a (w.drewN n):=below_drewN h n
theorem bl_trans {a w w1:World} (h:Below a.heap.size a w) (k:Below w.heap.size w w1):Below a.heap.size a w1:=h.trans (k.mono h.size)
theorem bl_set {a w:World} {p:Addr} (h:Below a.heap.size a w) (hp:a.heap.size≤p.block) (u:Value):Below a.heap.size a (w.setCell p u):=h.setCell hp u
theorem bcell {W w1:World} (hb:Below W.heap.size W w1):(∀b o,b<W.heap.size→w1.cell? ⟨b,o,none⟩=W.cell? ⟨b,o,none⟩)∧(∀b o,b<W.heap.size→w1.frozen? ⟨b,o,none⟩=W.frozen? ⟨b,o,none⟩):=
 ⟨fun b o h=>hb.cell (p:=⟨b,o,none⟩) h,fun b o h=>hb.frozen (p:=⟨b,o,none⟩) h⟩
theorem heap_new_at (w:World) (o:Obj) {g:Nat} (h:g=w.heap.size):(w.alloc o).heap[g]?=some o:=by subst h;exact Go.heap_alloc_new w o
theorem heap_old_at (w:World) (o:Obj) {g:Nat} {x:Obj} (h:g<w.heap.size) (hx:w.heap[g]?=some x):(w.alloc o).heap[g]?=some x:=(Below.heap_alloc w o g h).trans hx
theorem keep_cell {X Y:World} {b i:Nat} {v:Value} (hb:Below X.heap.size X Y) (hlt:b<X.heap.size) (hc:X.cell? ⟨b,i,none⟩=some v):Y.cell? ⟨b,i,none⟩=some v:=(hb.cell (p:=⟨b,i,none⟩) hlt).trans hc
theorem keep_lt {X Y:World} {n:Nat} (hb:Below X.heap.size X Y) (h:n<X.heap.size):n<Y.heap.size:=Nat.lt_of_lt_of_le h hb.size
theorem Blk_lt {w:World} {g:Nat} {o:Obj} (h:w.heap[g]?=some o):g<w.heap.size:=(Array.getElem?_eq_some_iff.1 h).1
/-! ### Slices of integers that are read -/
/-- The slice value (a, len) holds the integers zs. -/
structure Ints (k:IntKind) (w:World) (a:Option Addr) (len:Nat) (zs:List Int):Prop where
 length:zs.length=len
 most:len≤9223372036854775807
 wf:∀z∈zs,(Lit.int k z).wf=true
 cells:∀i,i<len→∃b off,a=some ⟨b,off,none⟩∧b<w.heap.size∧w.cell? ⟨b,off+i,none⟩=some (.int k (zs.getD i 0))
theorem Ints.below {k:IntKind} {w w1:World} {a:Option Addr} {len:Nat} {zs:List Int} (h:Ints k w a len zs) (hb:Below w.heap.size w w1):Ints k w1 a len zs:=
 ⟨h.length,h.most,h.wf,fun i hi=>by
  obtain ⟨b,off,e,hlt,hc⟩:=h.cells i hi
  exact ⟨b,off,e,Nat.lt_of_lt_of_le hlt hb.size,(hb.cell (p:=⟨b,off+i,none⟩) hlt).trans hc⟩⟩
theorem Ints.getD_wf {k:IntKind} {w:World} {a:Option Addr} {len:Nat} {zs:List Int} (h:Ints k w a len zs) {i:Nat} (hi:i<len):(Lit.int k (zs.getD i 0)).wf=true:=by
 have hl:=h.length
 have e:zs.getD i 0=zs[i]'(by omega):=by simp [List.getD,List.getElem?_eq_getElem (show i<zs.length by omega)]
 rw [e]
 exact h.wf _ (List.getElem_mem _)
/-- A row of integers of the call's own, read as a slice. -/
theorem ints_of_own {k:IntKind} {w:World} {base:Nat} {e:TypeId} {v:Value} {n:Nat} {zs:List Int} (h:w.ownsRow base e 1 v n (zs.map (Value.int k))) (hm:n≤9223372036854775807) (hw:∀z∈zs,(Lit.int k z).wf=true) :
  ∃a cap,v=.slice a n cap∧n≤cap∧cap≤9223372036854775807∧Ints k w a n zs:=by
 obtain ⟨hl,h⟩:=h
 simp at hl
 rcases h with ⟨rfl,rfl⟩ | ⟨g,cap,cur,rfl,hb,hg,hnc,hcm,hcs,hx⟩
 ·exact ⟨none,0,rfl,Nat.le_refl _,by omega,hl,hm,hw,fun i hi=>absurd hi (by omega)⟩
 ·refine ⟨_,cap,rfl,hnc,by unfold maxLen at hcm;omega,hl,hm,hw,fun i hi=>⟨g,0,rfl,Blk_lt hg,?_⟩⟩
  rw [cell_of_row _ _ _ _ _ _ hg,Nat.zero_add]
  have e1:(cur.toList.take (n * 1))[i]?=cur[i]?:=by simp [hi]
  rw [← e1,hx,List.getElem?_map]
  simp [List.getD,List.getElem?_eq_getElem (show i<zs.length by omega)]
theorem word_of_wf {x:Int} (h:(Lit.int .u64 x).wf=true):Word x:=by
 simp [Lit.wf,IntKind.min,IntKind.max,IntKind.signed,IntKind.bits] at h
 exact ⟨by omega,by omega⟩
abbrev Iv:=Int×Int
def Lo (zs:List Iv) (i:Nat):Int:=(zs.getD i (0,0)).1
def Hi (zs:List Iv) (i:Nat):Int:=(zs.getD i (0,0)).2
/-- The slice value (a, len) holds the intervals zs. -/
structure Prs (w:World) (a:Option Addr) (len:Nat) (zs:List Iv):Prop where
 length:zs.length=len
 most:len≤9223372036854775807
 words:∀z∈zs,Word z.1∧Word z.2
 cells:∀i,i<len→∃b off,a=some ⟨b,off,none⟩∧b<w.heap.size∧w.cell? ⟨b,off+i * 2,none⟩=some (.int .u64 (Lo zs i))∧w.cell? ⟨b,off+i * 2+1,none⟩=some (.int .u64 (Hi zs i))
theorem Prs.below {w w1:World} {a:Option Addr} {len:Nat} {zs:List Iv} (h:Prs w a len zs) (hb:Below w.heap.size w w1):Prs w1 a len zs:=
 ⟨h.length,h.most,h.words,fun i hi=>by
  obtain ⟨b,off,e,hlt,h1,h2⟩:=h.cells i hi
  exact ⟨b,off,e,Nat.lt_of_lt_of_le hlt hb.size,keep_cell hb hlt h1,keep_cell hb hlt h2⟩⟩
theorem Prs.word {w:World} {a:Option Addr} {len:Nat} {zs:List Iv} (h:Prs w a len zs) {i:Nat} (hi:i<len):Word (Lo zs i)∧Word (Hi zs i):=by
 have hl:=h.length
 have e:zs.getD i (0,0)=zs[i]'(by omega):=by simp [List.getD,List.getElem?_eq_getElem (show i<zs.length by omega)]
 unfold Lo Hi
 rw [e]
 exact h.words _ (List.getElem_mem _)
/-- The first k intervals are correct, and numbers are between them. -/
def CorTo (zs:List Iv) (k:Nat):Prop:=∀i,i<k→Lo zs i≤Hi zs i∧(0<i→Hi zs (i-1)+1<Lo zs i)
def Cor (zs:List Iv):Prop:=CorTo zs zs.length
theorem CorTo.succ {zs:List Iv} {k:Nat} (h:CorTo zs k) (h1:Lo zs k≤Hi zs k) (h2:0<k→Hi zs (k-1)+1<Lo zs k):CorTo zs (k+1):=by
 intro i hi
 by_cases e:i=k
 ·subst e;exact ⟨h1,h2⟩
 ·exact h i (by omega)
theorem getD_snoc (l:List Iv) (x:Iv) (i:Nat):(l ++ [x]).getD i (0,0)=if i<l.length then l.getD i (0,0) else if i=l.length then x else (0,0):=by
 simp only [List.getD,List.getElem?_append]
 split
 ·rfl
 ·split
  ·next h=>subst h;simp
  ·next h1 h2=>
   have:i-l.length≠0:=by omega
   rw [List.getElem?_eq_none (by simp;omega)]
   rfl
/-! ### Neighbours -/
def nextV (x:Int):Int:=lo64 (x+1)
def nextB (x:Int):Bool:=decide (x+1<18446744073709551616)
def prevV (x:Int):Int:=if x=0 then 0 else x-1
def prevB (x:Int):Bool:=decide (0<x)
theorem next_any (x:Int) (h:Word x) (w:World) :
  Calls Tryz.prog 184 #[.int .u64 x] w fun e w'=>e=.returned (.tuple #[.int .u64 (nextV x),.bool (nextB x)])∧w=w':=by
 obtain ⟨h0,h1⟩:=h
 have e1:IntKind.u64.wrap (x+1)=nextV x:=by rw [IntKind.wrap_u64];rfl
 have e2:(IntKind.u64.wrap (x+1) != 0)=nextB x:=by
  rw [IntKind.wrap_u64,Bool.eq_iff_iff];unfold nextB;simp;omega
 have E1:Hid (IntKind.u64.wrap (x+1)=nextV x):=e1
 have E2:Hid ((IntKind.u64.wrap (x+1) != 0)=nextB x):=e2
 clear e1 e2
 go_enter Tryz.func184,Tryz.ntmps184
 go_wp2
 go_ret2
 exact ⟨ret_ib E1.out E2.out,rfl⟩
theorem prev_any (x:Int) (h:Word x) (w:World) :
  Calls Tryz.prog 185 #[.int .u64 x] w fun e w'=>e=.returned (.tuple #[.int .u64 (prevV x),.bool (prevB x)])∧w=w':=by
 obtain ⟨h0,h1⟩:=h
 by_cases hx:x=0
 ·subst hx
  go_enter Tryz.func185,Tryz.ntmps185
  go_wp2
  go_ret2
  exact ⟨ret_ib rfl rfl,rfl⟩
 ·have hp:1≤x:=by omega
  clear hx
  go_enter Tryz.func185,Tryz.ntmps185
  go_wp2
  go_ret2
  exact ⟨ret_ib (by unfold prevV;rw [if_neg (by omega)]) (by unfold prevB;simp;omega),rfl⟩
/-! ### Differences -/
def btV (a b:Int):Int:=if a<b then b-a-1 else 0
def btB (a b:Int):Bool:=decide (a<b)
theorem between_any (a b:Int) (ha:Word a) (hb:Word b) (w:World) :
  Calls Tryz.prog 89 #[.int .u64 a,.int .u64 b] w fun e w'=>e=.returned (.tuple #[.int .u64 (btV a b),.bool (btB a b)])∧w=w':=by
 obtain ⟨h0,h1⟩:=ha;obtain ⟨h2,h3⟩:=hb
 go_enter Tryz.func89,Tryz.ntmps89
 go_wp2
 ·have hc:b≤a:=by assumption
  go_ret2
  exact ⟨ret_ib (by unfold btV;rw [if_neg (by omega)]) (by unfold btB;simp;omega),rfl⟩
 ·have hc:a<b:=by assumption
  go_ret2
  exact ⟨ret_ib (by unfold btV;rw [if_pos hc]) (by unfold btB;simp;omega),rfl⟩
/-! ### Sums of counts, widths -/
theorem plus_hi_c {ah al bh bl:Int} (h:(al+bl) % 18446744073709551616<al) (h2:Word al) (h4:Word bl) :
  ((ah+bh) % 18446744073709551616+1) % 18446744073709551616=hi64 (val ah al+val bh bl):=by unfold Word at h2 h4;unfold hi64 val;omega
theorem plus_hi_n {ah al bh bl:Int} (h:al≤(al+bl) % 18446744073709551616) (h2:Word al) (h4:Word bl) :
  (ah+bh) % 18446744073709551616=hi64 (val ah al+val bh bl):=by unfold Word at h2 h4;unfold hi64 val;omega
theorem plus_lo {ah al bh bl:Int}:(al+bl) % 18446744073709551616=lo64 (val ah al+val bh bl):=by unfold lo64 val;omega
theorem plus_any (ah al bh bl:Int) (h1:Word ah) (h2:Word al) (h3:Word bh) (h4:Word bl) (w:World) :
  Calls Tryz.prog 263 #[.agg #[.int .u64 ah,.int .u64 al],.agg #[.int .u64 bh,.int .u64 bl]] w fun e w'=>
   e=.returned (.agg #[.int .u64 (hi64 (val ah al+val bh bl)),.int .u64 (lo64 (val ah al+val bh bl))])∧Below w.heap.size w w':=by
 have H2:=h2;have H4:=h4
 obtain ⟨a1,a2⟩:=h1;obtain ⟨b1,b2⟩:=h2;obtain ⟨c1,c2⟩:=h3;obtain ⟨d1,d2⟩:=h4
 go_enter Tryz.func263,Tryz.ntmps263
 go_wp2
 ·have hc:IntKind.u64.wrap (al+bl)<al:=by assumption
  refine bodyPost_ret (v:=.agg #[.int .u64 (IntKind.u64.wrap (IntKind.u64.wrap (ah+bh)+1)),.int .u64 (IntKind.u64.wrap (al+bl))]) (by simp [results,Tryz.results263,go_sem]) rfl ⟨?_,?_⟩
  ·simp only [IntKind.wrap_u64] at hc ⊢
   exact ret_agg (plus_hi_c hc H2 H4) plus_lo
  ·repeat (first | exact Below.refl _ _ | refine bl_alloc ?_ _ | refine bl_drew ?_ | refine bl_set ?_ (by first | (simp;done) | (simp;omega)) _ | refine bl_trans ?_ (by assumption))
 ·have hc:al≤IntKind.u64.wrap (al+bl):=by assumption
  refine bodyPost_ret (v:=.agg #[.int .u64 (IntKind.u64.wrap (ah+bh)),.int .u64 (IntKind.u64.wrap (al+bl))]) (by simp [results,Tryz.results263,go_sem]) rfl ⟨?_,?_⟩
  ·simp only [IntKind.wrap_u64] at hc ⊢
   exact ret_agg (plus_hi_n hc H2 H4) plus_lo
  ·repeat (first | exact Below.refl _ _ | refine bl_alloc ?_ _ | refine bl_drew ?_ | refine bl_set ?_ (by first | (simp;done) | (simp;omega)) _ | refine bl_trans ?_ (by assumption))
/-- How many numbers are in an interval. -/
def wd (lo hi:Int):Int:=if lo≤hi then hi-lo+1 else 0
/-- The order of two numbers. -/
def cmpI (m n:Int):Int:=if m=n then 0 else if m<n then -1 else 1
/-! ### The same, case by case -/
theorem next_lt (x:Int) (h:Word x) (hx:x<18446744073709551615) (w:World) :
  Calls Tryz.prog 184 #[.int .u64 x] w fun e w'=>e=.returned (.tuple #[.int .u64 (x+1),.bool true])∧w=w':=
 (next_any x h w).mono fun _ _ ⟨he,hw⟩=>⟨he.trans (ret_ib (by unfold Word at h;unfold nextV lo64;omega) (by unfold nextB;simp;omega)),hw⟩
theorem next_top (w:World) :
  Calls Tryz.prog 184 #[.int .u64 18446744073709551615] w fun e w'=>e=.returned (.tuple #[.int .u64 0,.bool false])∧w=w':=
 (next_any _ ⟨by decide,by decide⟩ w).mono fun _ _ ⟨he,hw⟩=>⟨he.trans (ret_ib (by decide) (by decide)),hw⟩
theorem prev_pos (x:Int) (h:Word x) (hx:0<x) (w:World) :
  Calls Tryz.prog 185 #[.int .u64 x] w fun e w'=>e=.returned (.tuple #[.int .u64 (x-1),.bool true])∧w=w':=
 (prev_any x h w).mono fun _ _ ⟨he,hw⟩=>⟨he.trans (ret_ib (by unfold prevV;rw [if_neg (by omega)]) (by unfold prevB;simp;omega)),hw⟩
theorem prev_zero (w:World) :
  Calls Tryz.prog 185 #[.int .u64 0] w fun e w'=>e=.returned (.tuple #[.int .u64 0,.bool false])∧w=w':=
 (prev_any _ ⟨by decide,by decide⟩ w).mono fun _ _ ⟨he,hw⟩=>⟨he.trans (ret_ib (by decide) (by decide)),hw⟩
theorem between_lt (a b:Int) (ha:Word a) (hb:Word b) (h:a<b) (w:World) :
  Calls Tryz.prog 89 #[.int .u64 a,.int .u64 b] w fun e w'=>e=.returned (.tuple #[.int .u64 (b-a-1),.bool true])∧w=w':=
 (between_any a b ha hb w).mono fun _ _ ⟨he,hw⟩=>⟨he.trans (ret_ib (by unfold btV;rw [if_pos h]) (by unfold btB;simp;omega)),hw⟩
theorem between_ge (a b:Int) (ha:Word a) (hb:Word b) (h:b≤a) (w:World) :
  Calls Tryz.prog 89 #[.int .u64 a,.int .u64 b] w fun e w'=>e=.returned (.tuple #[.int .u64 0,.bool false])∧w=w':=
 (between_any a b ha hb w).mono fun _ _ ⟨he,hw⟩=>⟨he.trans (ret_ib (by unfold btV;rw [if_neg (by omega)]) (by unfold btB;simp;omega)),hw⟩
end Go.Proofs.YtbkkolfpegplgaaGreatDoor
namespace Go.Proofs.YtbkkolfpegplgaaGreatDoor
open Go Go.RowKit
/-- Of what was there, only the blocks that may change have changed. -/
structure Only (may:Nat→Prop) (W W':World):Prop where
 os:W'.os=W.os
 tape:W'.tape=W.tape
 output:W'.output=W.output
 size:W.heap.size≤W'.heap.size
 block:∀k,k<W.heap.size→¬may k→W'.heap[k]?=W.heap[k]?
variable {may:Nat→Prop} {A B C:World}
theorem Only.refl (may:Nat→Prop) (W:World):Only may W W:=⟨rfl,rfl,rfl,Nat.le_refl _,fun _ _ _=>rfl⟩
theorem Only.trans (h:Only may A B) (k:Only may B C):Only may A C:=
 ⟨k.os.trans h.os,k.tape.trans h.tape,k.output.trans h.output,Nat.le_trans h.size k.size,fun i hi hl=>(k.block i (Nat.lt_of_lt_of_le hi h.size) hl).trans (h.block i hi hl)⟩
theorem Only.wide {may':Nat→Prop} (h:Only may A B) (hm:∀k,may k→may' k):Only may' A B:=
 ⟨h.os,h.tape,h.output,h.size,fun i hi hl=>h.block i hi (fun hk=>hl (hm i hk))⟩
theorem Only.of_below (h:Below A.heap.size A B):Only may A B:=⟨h.os,h.tape,h.output,h.size,fun i hi _=>h.block i hi⟩
theorem Only.below {n:Nat} (h:Only may A B) (hs:n≤A.heap.size) (hm:∀k,may k→n≤k):Below n A B:=⟨h.os,h.tape,h.output,h.size,fun i hi=>h.block i (by omega) (fun hk=>by have:=hm i hk;omega)⟩
theorem Only.alloc (h:Only may A B) (o:Obj):Only may A (B.alloc o):=
 ⟨h.os,h.tape,h.output,Nat.le_trans h.size (by simp),fun i hi hl=>(Below.heap_alloc B o i (Nat.lt_of_lt_of_le hi h.size)).trans (h.block i hi hl)⟩
theorem Only.drew (h:Only may A B):Only may A B.drew:=⟨h.os,h.tape,h.output,h.size,h.block⟩
theorem Only.drewN (h:Only may A B) (n:Nat):Only may A (B.drewN n):=h.trans ⟨rfl,rfl,rfl,Nat.le_refl _,fun _ _ _=>rfl⟩
theorem Only.call (h:Only may A B) (k:Below B.heap.size B C):Only may A C:=h.trans (Only.of_below k)
theorem Only.setCell (h:Only may A B) {p:Addr} (hp:may p.block∨A.heap.size≤p.block) (v:Value):Only may A (B.setCell p v):=
 ⟨h.os,h.tape,h.output,by simpa [World.setCell] using h.size,fun i hi hl=>(Below.heap_setCell B p v i (by rintro rfl;rcases hp with hp | hp<;>first | exact hl hp | omega)).trans (h.block i hi hl)⟩
theorem Only.obj (h:Only may A B) {b:Nat} {o:Obj} (hb:¬may b) (hc:A.heap[b]?=some o):B.heap[b]?=some o:=
 (h.block b (Array.getElem?_eq_some_iff.1 hc).1 hb).trans hc
theorem Only.cell (h:Only may A B) {b i:Nat} {v:Value} (hb:¬may b) (hc:A.cell? ⟨b,i,none⟩=some v):B.cell? ⟨b,i,none⟩=some v:=by
 refine (World.cell?_of_block (w:=A) ?_).trans hc
 refine h.block b ?_ hb
 rcases Nat.lt_or_ge b A.heap.size with hlt | hge
 ·exact hlt
 ·have e:A.heap[b]?=none:=by simp;omega
  simp [World.cell?,e] at hc
end Go.Proofs.YtbkkolfpegplgaaGreatDoor
namespace Go.Proofs.YtbkkolfpegplgaaGreatDoor
open Go.RowKit
theorem rright_any (lo hi:Int) (h1:Word lo) (h2:Word hi) (w:World) :
  Calls Tryz.prog 170 #[.agg #[.int .u64 lo,.int .u64 hi]] w fun e w'=>e=.returned (.bool (decide (lo≤hi)))∧Below w.heap.size w w':=by
 obtain ⟨a1,a2⟩:=h1;obtain ⟨b1,b2⟩:=h2
 go_enter Tryz.func170,Tryz.ntmps170
 go_wp2
 go_ret
 exact ⟨rfl,by repeat (first | exact Below.refl _ _ | refine bl_alloc ?_ _)⟩
theorem rright_yes (lo hi:Int) (h1:Word lo) (h2:Word hi) (h:lo≤hi) (w:World) :
  Calls Tryz.prog 170 #[.agg #[.int .u64 lo,.int .u64 hi]] w fun e w'=>e=.returned (.bool true)∧Below w.heap.size w w':=
 (rright_any lo hi h1 h2 w).mono fun _ _ ⟨he,hb⟩=>⟨he.trans (ret_bool (by simp;omega)),hb⟩
theorem rright_no (lo hi:Int) (h1:Word lo) (h2:Word hi) (h:hi<lo) (w:World) :
  Calls Tryz.prog 170 #[.agg #[.int .u64 lo,.int .u64 hi]] w fun e w'=>e=.returned (.bool false)∧Below w.heap.size w w':=
 (rright_any lo hi h1 h2 w).mono fun _ _ ⟨he,hb⟩=>⟨he.trans (ret_bool (by simp;omega)),hb⟩
/-- The relation of two intervals: 0 before, 1 touching, 2 meeting, 3 touched, 4 behind. -/
def relI (al ah bl bh:Int):Int:=if ah<bl then (if bl-ah=1 then 1 else 0) else if bh<al then (if al-bh=1 then 3 else 4) else 2
theorem rrelate_any (al ah bl bh:Int) (h1:Word al) (h2:Word ah) (h3:Word bl) (h4:Word bh) (w:World) :
  Calls Tryz.prog 171 #[.agg #[.int .u64 al,.int .u64 ah],.agg #[.int .u64 bl,.int .u64 bh]] w fun e w'=>e=.returned (.int .i64 (relI al ah bl bh))∧Below w.heap.size w w':=by
 obtain ⟨a1,a2⟩:=h1;obtain ⟨b1,b2⟩:=h2;obtain ⟨c1,c2⟩:=h3;obtain ⟨d1,d2⟩:=h4
 go_enter Tryz.func171,Tryz.ntmps171
 go_wp2
 all_goals go_ret
 all_goals (refine ⟨ret_int ?_,by repeat (first | exact Below.refl _ _ | refine bl_alloc ?_ _)⟩)
 all_goals ((try simp only [beq_iff_eq,beq_eq_false_iff_ne,ne_eq] at *);unfold relI;split<;>(try split)<;>(try split)<;>omega)
def hasI (lo hi x:Int):Bool:=decide (lo≤x∧x≤hi)
end Go.Proofs.YtbkkolfpegplgaaGreatDoor
namespace Go.Proofs.YtbkkolfpegplgaaGreatDoor
/-- The first k intervals are correct and apart by ap. -/
def ApTo (zs:List Iv) (ap:Int) (k:Nat):Prop:=∀i,i<k→Lo zs i≤Hi zs i∧(0<i→Hi zs (i-1)<Lo zs i∧ap≤Lo zs i-Hi zs (i-1)-1)
theorem ApTo.zero (zs:List Iv) (ap:Int):ApTo zs ap 0:=fun i h=>absurd h (by omega)
theorem ApTo.succ {zs:List Iv} {ap:Int} {k:Nat} (h:ApTo zs ap k) (h1:Lo zs k≤Hi zs k) (h2:0<k→Hi zs (k-1)<Lo zs k∧ap≤Lo zs k-Hi zs (k-1)-1):ApTo zs ap (k+1):=by
 intro i hi
 by_cases e:i=k
 ·subst e;exact ⟨h1,h2⟩
 ·exact h i (by omega)
/-- The differences of the first k intervals. -/
def gapD (zs:List Iv) (ap:Int) (i:Nat):Int:=if i=0 then Lo zs 0 else Lo zs i-Hi zs (i-1)-1-ap
def dif (zs:List Iv) (ap:Int):Nat→List Int
 | 0=>[]
 | k+1=>dif zs ap k ++ [gapD zs ap k,Hi zs k-Lo zs k]
theorem dif_length (zs:List Iv) (ap:Int):∀k,(dif zs ap k).length=2 * k:=by
 intro k
 induction k with
 | zero=>rfl
 | succ k ih=>unfold dif;rw [List.length_append,ih];simp;omega
/-- The intervals of differences, as long as they are words. -/
def hiN (ds:List Int) (ap:Int):Nat→Int
 | 0=>ds.getD 0 0+ds.getD 1 0
 | j+1=>hiN ds ap j+1+ap+ds.getD (2 * (j+1)) 0+ds.getD (2 * (j+1)+1) 0
def loN (ds:List Int) (ap:Int):Nat→Int
 | 0=>ds.getD 0 0
 | j+1=>hiN ds ap j+1+ap+ds.getD (2 * (j+1)) 0
def ivs (ds:List Int) (ap:Int) (j:Nat):List Iv:=(List.range j).map fun i=>(loN ds ap i,hiN ds ap i)
/-- All sums of the first k differences are words. -/
def OkTo (ds:List Int) (ap:Int) (k:Nat):Prop:=(∀j,2 * j<k→loN ds ap j<18446744073709551616)∧(∀j,2 * j+1<k→hiN ds ap j<18446744073709551616)
def SumsOk (ds:List Int) (ap:Int):Prop:=ds.length % 2=0∧OkTo ds ap ds.length
/-- A number is in a list. -/
def InL (zs:List Iv) (x:Int):Prop:=∃z∈zs,z.1≤x∧x≤z.2
instance (zs:List Iv) (x:Int):Decidable (InL zs x):=by unfold InL;infer_instance
theorem inL_nil (x:Int):¬InL [] x:=fun ⟨_,h,_⟩=>by cases h
theorem inL_cons {z:Iv} {zs:List Iv} {x:Int}:InL (z :: zs) x↔(z.1≤x∧x≤z.2)∨InL zs x:=by
 constructor
 ·rintro ⟨y,hy,h⟩
  rcases List.mem_cons.1 hy with rfl | hy
  ·exact .inl h
  ·exact .inr ⟨y,hy,h⟩
 ·rintro (h | ⟨y,hy,h⟩)
  ·exact ⟨z,by simp,h⟩
  ·exact ⟨y,by simp [hy],h⟩
theorem inL_append {zs ys:List Iv} {x:Int}:InL (zs ++ ys) x↔InL zs x∨InL ys x:=by
 constructor
 ·rintro ⟨y,hy,h⟩
  rcases List.mem_append.1 hy with hy | hy
  ·exact .inl ⟨y,hy,h⟩
  ·exact .inr ⟨y,hy,h⟩
 ·rintro (⟨y,hy,h⟩ | ⟨y,hy,h⟩)
  ·exact ⟨y,by simp [hy],h⟩
  ·exact ⟨y,by simp [hy],h⟩
theorem inL_one {z:Iv} {x:Int}:InL [z] x↔z.1≤x∧x≤z.2:=by
 rw [inL_cons]
 exact ⟨fun h=>h.elim id (fun h=>absurd h (inL_nil x)),.inl⟩
/-- A normal list, all of it from m on. -/
def Nor (m:Int):List Iv→Prop
 | []=>True
 | z :: zs=>m≤z.1∧z.1≤z.2∧Nor (z.2+2) zs
theorem Nor.ge {m:Int}:∀{zs:List Iv},Nor m zs→∀{x},InL zs x→m≤x
 | [],_,x,h=>absurd h (inL_nil x)
 | z :: zs,⟨h1,h2,h3⟩,x,h=>by
   rcases inL_cons.1 h with h | h
   ·omega
   ·have:=h3.ge h;omega
theorem nor_unique:∀{zs ys:List Iv} {m m':Int},Nor m zs→Nor m' ys→(∀x,InL zs x↔InL ys x)→zs=ys
 | [],[],_,_,_,_,_=>rfl
 | [],y :: ys,_,_,_,hy,h=>absurd ((h y.1).2 (inL_cons.2 (.inl ⟨Int.le_refl _,hy.2.1⟩))) (inL_nil _)
 | z :: zs,[],_,_,hz,_,h=>absurd ((h z.1).1 (inL_cons.2 (.inl ⟨Int.le_refl _,hz.2.1⟩))) (inL_nil _)
 | z :: zs,y :: ys,_,_,⟨_,hz2,hz3⟩,⟨_,hy2,hy3⟩,h=>by
   have a1:∀{x},InL (z :: zs) x→z.1≤x:=fun hx=>by
    rcases inL_cons.1 hx with hx | hx
    ·exact hx.1
    ·have:=hz3.ge hx;omega
   have b1:∀{x},InL (y :: ys) x→y.1≤x:=fun hx=>by
    rcases inL_cons.1 hx with hx | hx
    ·exact hx.1
    ·have:=hy3.ge hx;omega
   have e1:z.1=y.1:=by
    have h1:=b1 ((h z.1).1 (inL_cons.2 (.inl ⟨Int.le_refl _,hz2⟩)))
    have h2:=a1 ((h y.1).2 (inL_cons.2 (.inl ⟨Int.le_refl _,hy2⟩)))
    omega
   have a2:¬InL (z :: zs) (z.2+1):=fun hx=>by
    rcases inL_cons.1 hx with hx | hx
    ·omega
    ·have:=hz3.ge hx;omega
   have b2:¬InL (y :: ys) (y.2+1):=fun hx=>by
    rcases inL_cons.1 hx with hx | hx
    ·omega
    ·have:=hy3.ge hx;omega
   have e2:z.2=y.2:=by
    by_cases g:z.2<y.2
    ·exact absurd ((h (z.2+1)).2 (inL_cons.2 (.inl ⟨by omega,by omega⟩))) a2
    ·by_cases g':y.2<z.2
     ·exact absurd ((h (y.2+1)).1 (inL_cons.2 (.inl ⟨by omega,by omega⟩))) b2
     ·omega
   have e:z=y:=Prod.ext e1 e2
   subst e
   congr 1
   refine nor_unique hz3 hy3 fun x=>?_
   constructor
   ·intro hx
    rcases inL_cons.1 ((h x).1 (inL_cons.2 (.inr hx))) with g | g
    ·have:=hz3.ge hx;omega
    ·exact g
   ·intro hx
    rcases inL_cons.1 ((h x).2 (inL_cons.2 (.inr hx))) with g | g
    ·have:=hy3.ge hx;omega
    ·exact g
/-- Normal and correct lists are the same. -/
theorem lo_cons (z:Iv) (zs:List Iv) (i:Nat):Lo (z :: zs) (i+1)=Lo zs i:=rfl
theorem hi_cons (z:Iv) (zs:List Iv) (i:Nat):Hi (z :: zs) (i+1)=Hi zs i:=rfl
theorem cor_tail {z:Iv} {zs:List Iv} (h:Cor (z :: zs)):Cor zs:=fun i hi=>by
 have h1:=h (i+1) (by simpa using hi)
 refine ⟨h1.1,fun h0=>?_⟩
 have h2:=h1.2 (by omega)
 obtain ⟨j,rfl⟩:∃j,i=j+1:=⟨i-1,by omega⟩
 simpa [lo_cons,hi_cons] using h2
theorem nor_of_cor:∀{zs:List Iv} {m:Int},Cor zs→(zs=[]∨m≤Lo zs 0)→Nor m zs
 | [],_,_,_=>trivial
 | z :: zs,m,h,hm=>by
   refine ⟨hm.elim (fun e=>by cases e) id,(h 0 (by simp)).1,nor_of_cor (cor_tail h) ?_⟩
   cases zs with
   | nil=>exact .inl rfl
   | cons y ys=>
     right
     have:=(h 1 (by simp)).2 (by omega)
     simp only [Nat.sub_self] at this
     have e1:Hi (z :: y :: ys) 0=z.2:=rfl
     have e2:Lo (z :: y :: ys) 1=Lo (y :: ys) 0:=rfl
     rw [e1,e2] at this
     omega
theorem cor_of_nor:∀{zs:List Iv} {m:Int},Nor m zs→Cor zs
 | [],_,_=>fun i hi=>absurd hi (by simp)
 | z :: zs,m,⟨_,h2,h3⟩=>by
   have ih:=cor_of_nor h3
   intro i hi
   cases i with
   | zero=>exact ⟨h2,fun h=>absurd h (by omega)⟩
   | succ j=>
     have hj:j<zs.length:=by simpa using hi
     have h1:=ih j hj
     refine ⟨h1.1,fun _=>?_⟩
     cases j with
     | zero=>
       cases zs with
       | nil=>simp at hj
       | cons y ys=>
         have e1:Hi (z :: y :: ys) (0+1-1)=z.2:=rfl
         have e2:Lo (z :: y :: ys) (0+1)=y.1:=rfl
         rw [e1,e2]
         have:=h3.1
         omega
     | succ k=>exact h1.2 (by omega)
theorem cor_unique {zs ys:List Iv} (hz:Cor zs) (hy:Cor ys) (h:∀x,InL zs x↔InL ys x):zs=ys:=
 nor_unique (m:=Lo zs 0) (m':=Lo ys 0) (nor_of_cor hz (.inr (Int.le_refl _))) (nor_of_cor hy (.inr (Int.le_refl _))) h
/-- The numbers of a list by its index. -/
theorem inL_at {zs:List Iv} {x:Int}:InL zs x↔∃i,i<zs.length∧Lo zs i≤x∧x≤Hi zs i:=by
 constructor
 ·rintro ⟨z,hz,h⟩
  obtain ⟨i,hi,e⟩:=List.mem_iff_getElem.1 hz
  refine ⟨i,hi,?_⟩
  have e1:zs.getD i (0,0)=z:=by simp [List.getD,List.getElem?_eq_getElem hi,e]
  unfold Lo Hi
  rw [e1]
  exact h
 ·rintro ⟨i,hi,h⟩
  refine ⟨zs[i],List.getElem_mem _,?_⟩
  have e1:zs.getD i (0,0)=zs[i]:=by simp [List.getD,List.getElem?_eq_getElem hi]
  unfold Lo Hi at h
  rw [e1] at h
  exact h
/-- The order of the ends of a correct list. -/
theorem cor_lo_lt {zs:List Iv} (h:Cor zs):∀{i j},i<j→j<zs.length→Hi zs i+1<Lo zs j
 | i,0,hij,_=>absurd hij (by omega)
 | i,j+1,hij,hj=>by
   have h1:=(h (j+1) hj).2 (by omega)
   rw [Nat.add_sub_cancel] at h1
   by_cases e:i=j
   ·subst e;exact h1
   ·have h2:=cor_lo_lt h (i:=i) (j:=j) (by omega) (by omega)
    have h3:=(h j (by omega)).1
    omega
/-! ### The next change of one list -/
def nextL:List Iv→Int→Option Int
 | [],_=>none
 | z :: zs,x=>if x<z.1 then some z.1 else if z.2+1<18446744073709551616∧x<z.2+1 then some (z.2+1) else nextL zs x
/-- The numbers at which a list may change. -/
def ends:List Iv→List Int
 | []=>[]
 | z :: zs=>z.1 :: (z.2+1) :: ends zs
theorem ends_length (zs:List Iv):(ends zs).length=2 * zs.length:=by
 induction zs with
 | nil=>rfl
 | cons z zs ih=>simp only [ends,List.length_cons,ih];omega
theorem nextL_some:∀{zs:List Iv} {m x y:Int},Nor m zs→(∀z∈zs,Word z.1∧Word z.2)→nextL zs x=some y→x<y∧y<18446744073709551616∧y∈ends zs∧∀t,x≤t→t<y→(InL zs t↔InL zs x)
 | [],_,_,_,_,_,h=>by cases h
 | z :: zs,m,x,y,⟨h1,h2,h3⟩,hw,h=>by
   unfold nextL at h
   obtain ⟨w1,w2⟩:=hw z (by simp)
   by_cases g:x<z.1
   ·rw [if_pos g] at h
    cases h
    refine ⟨g,w1.2,by simp [ends],fun t ht1 ht2=>?_⟩
    have a:∀s,s<z.1→¬InL (z :: zs) s:=fun s hs hin=>by
     rcases inL_cons.1 hin with q | q
     ·omega
     ·have:=h3.ge q;omega
    exact ⟨fun q=>absurd q (a t ht2),fun q=>absurd q (a x g)⟩
   ·rw [if_neg g] at h
    by_cases g2:z.2+1<18446744073709551616∧x<z.2+1
    ·rw [if_pos g2] at h
     cases h
     refine ⟨g2.2,g2.1,by simp [ends],fun t ht1 ht2=>?_⟩
     exact ⟨fun _=>inL_cons.2 (.inl ⟨by omega,by omega⟩),fun _=>inL_cons.2 (.inl ⟨by omega,by omega⟩)⟩
    ·rw [if_neg g2] at h
     obtain ⟨a1,a2,a3,a4⟩:=nextL_some h3 (fun q hq=>hw q (by simp [hq])) h
     have hx:z.2<x:=by
      have:=w2.2
      by_cases e:z.2+1<18446744073709551616
      ·have:¬x<z.2+1:=fun q=>g2 ⟨e,q⟩
       omega
      ·
       have hz:zs=[]∨zs≠[]:=by cases zs<;>simp
       rcases hz with rfl | hz
       ·cases h
       ·obtain ⟨q,qs,rfl⟩:∃q qs,zs=q :: qs:=by cases zs with | nil=>exact absurd rfl hz | cons q qs=>exact ⟨q,qs,rfl⟩
        have:=h3.1
        have:=(hw q (by simp)).1.2
        omega
     refine ⟨a1,a2,by simp [ends,a3],fun t ht1 ht2=>?_⟩
     rw [inL_cons,inL_cons,a4 t ht1 ht2]
     exact ⟨fun q=>q.elim (fun q=>by omega) .inr,fun q=>q.elim (fun q=>by omega) .inr⟩
theorem nextL_none:∀{zs:List Iv} {m x:Int},Nor m zs→(∀z∈zs,Word z.1∧Word z.2)→nextL zs x=none→∀t,x≤t→t<18446744073709551616→(InL zs t↔InL zs x)
 | [],_,_,_,_,_,t,_,_=>⟨fun h=>absurd h (inL_nil t),fun h=>absurd h (inL_nil _)⟩
 | z :: zs,m,x,⟨h1,h2,h3⟩,hw,h,t,ht1,ht2=>by
   unfold nextL at h
   obtain ⟨w1,w2⟩:=hw z (by simp)
   by_cases g:x<z.1
   ·rw [if_pos g] at h;cases h
   ·rw [if_neg g] at h
    by_cases g2:z.2+1<18446744073709551616∧x<z.2+1
    ·rw [if_pos g2] at h;cases h
    ·rw [if_neg g2] at h
     have ih:=nextL_none h3 (fun q hq=>hw q (by simp [hq])) h t ht1 ht2
     rw [inL_cons,inL_cons,ih]
     by_cases e:z.2+1<18446744073709551616
     ·have:¬x<z.2+1:=fun q=>g2 ⟨e,q⟩
      exact ⟨fun q=>q.elim (fun q=>by omega) .inr,fun q=>q.elim (fun q=>by omega) .inr⟩
     ·exact ⟨fun q=>q.elim (fun _=>by have:=w2.2;by_cases k:x≤z.2<;>first | exact .inl ⟨by omega,k⟩ | omega) .inr,
       fun q=>q.elim (fun _=>.inl ⟨by omega,by omega⟩) .inr⟩
/-- What lies below a number does not matter. -/
theorem nextL_skip:∀(zs:List Iv) (i:Nat) (x:Int),(∀j,j<i→Lo zs j≤Hi zs j∧Hi zs j<x)→nextL (zs.drop i) x=nextL zs x
 | zs,0,x,_=>rfl
 | [],i+1,x,_=>by simp
 | z :: zs,i+1,x,h=>by
   have h0:=h 0 (by omega)
   have e1:Lo (z :: zs) 0=z.1:=rfl
   have e2:Hi (z :: zs) 0=z.2:=rfl
   rw [e1,e2] at h0
   rw [List.drop_succ_cons,nextL_skip zs i x (fun j hj=>h (j+1) (by omega))]
   conv=>rhs;unfold nextL
   rw [if_neg (by omega),if_neg (by omega)]
theorem nextL_at (zs:List Iv) (x:Int):∀k,k≤zs.length→(∀j,j<k→¬x<Lo zs j∧¬(Hi zs j+1<18446744073709551616∧x<Hi zs j+1))→nextL zs x=nextL (zs.drop k) x:=by
 induction zs with
 | nil=>intro k hk _;simp
 | cons z zs ih=>
   intro k hk h
   cases k with
   | zero=>rfl
   | succ k=>
     have h0:=h 0 (by omega)
     have e1:Lo (z :: zs) 0=z.1:=rfl
     have e2:Hi (z :: zs) 0=z.2:=rfl
     rw [e1,e2] at h0
     rw [List.drop_succ_cons,← ih k (by simpa using hk) (fun j hj=>h (j+1) (by omega))]
     conv=>lhs;unfold nextL
     rw [if_neg h0.1,if_neg h0.2]
theorem drop_lohi {zs:List Iv} {k:Nat} (h:k<zs.length):zs.drop k=(Lo zs k,Hi zs k) :: zs.drop (k+1):=by
 rw [List.drop_eq_getElem_cons h]
 congr 1
 unfold Lo Hi
 simp [List.getD,List.getElem?_eq_getElem h]
/-! ### The pieces of two lists -/
def nx (zs ys:List Iv) (x:Int):Option Int:=
 match nextL zs x,nextL ys x with
 | none,o=>o
 | some a,none=>some a
 | some a,some b=>some (if b<a then b else a)
theorem nx_some {zs ys:List Iv} {m m' x y:Int} (hz:Nor m zs) (hy:Nor m' ys) (wz:∀z∈zs,Word z.1∧Word z.2) (wy:∀z∈ys,Word z.1∧Word z.2) (h:nx zs ys x=some y) :
  x<y∧y<18446744073709551616∧y∈ends zs ++ ends ys∧∀t,x≤t→t<y→(InL zs t↔InL zs x)∧(InL ys t↔InL ys x):=by
 unfold nx at h
 cases h1:nextL zs x with
 | none=>
   rw [h1] at h
   simp only at h
   obtain ⟨a1,a2,a3,a4⟩:=nextL_some hy wy h
   exact ⟨a1,a2,by simp [a3],fun t ht1 ht2=>⟨nextL_none hz wz h1 t ht1 (by omega),a4 t ht1 ht2⟩⟩
 | some a=>
   obtain ⟨a1,a2,a3,a4⟩:=nextL_some hz wz h1
   rw [h1] at h
   cases h2:nextL ys x with
   | none=>
     rw [h2] at h
     cases h
     exact ⟨a1,a2,by simp [a3],fun t ht1 ht2=>⟨a4 t ht1 ht2,nextL_none hy wy h2 t ht1 (by omega)⟩⟩
   | some b=>
     obtain ⟨b1,b2,b3,b4⟩:=nextL_some hy wy h2
     rw [h2] at h
     simp only at h
     by_cases g:b<a
     ·rw [if_pos g] at h
      cases h
      exact ⟨b1,b2,by simp [b3],fun t ht1 ht2=>⟨a4 t ht1 (by omega),b4 t ht1 ht2⟩⟩
     ·rw [if_neg g] at h
      cases h
      exact ⟨a1,a2,by simp [a3],fun t ht1 ht2=>⟨a4 t ht1 ht2,b4 t ht1 (by omega)⟩⟩
theorem nx_none {zs ys:List Iv} {m m' x:Int} (hz:Nor m zs) (hy:Nor m' ys) (wz:∀z∈zs,Word z.1∧Word z.2) (wy:∀z∈ys,Word z.1∧Word z.2) (h:nx zs ys x=none) :
  ∀t,x≤t→t<18446744073709551616→(InL zs t↔InL zs x)∧(InL ys t↔InL ys x):=by
 unfold nx at h
 cases h1:nextL zs x with
 | none=>
   rw [h1] at h
   simp only at h
   exact fun t ht1 ht2=>⟨nextL_none hz wz h1 t ht1 ht2,nextL_none hy wy h t ht1 ht2⟩
 | some a=>
   rw [h1] at h
   cases h2:nextL ys x with
   | none=>rw [h2] at h;cases h
   | some b=>rw [h2] at h;cases h
/-- The start of piece k. -/
def fr (zs ys:List Iv):Nat→Int
 | 0=>0
 | k+1=>(nx zs ys (fr zs ys k)).getD 0
/-- How many numbers of a list are greater. -/
def above (l:List Int) (x:Int):Nat:=(l.filter (fun y=>decide (x<y))).length
theorem above_le (l:List Int) (x:Int):above l x≤l.length:=List.length_filter_le _ _
theorem above_lt {l:List Int} {x y:Int} (h:x<y) (hy:y∈l):above l y<above l x:=by
 induction l with
 | nil=>cases hy
 | cons z zs ih=>
   have mono:∀l:List Int,above l y≤above l x:=by
    intro l
    induction l with
    | nil=>exact Nat.le_refl _
    | cons q qs ih2=>
      unfold above at *
      simp only [List.filter_cons]
      by_cases g:y<q
      ·have g':x<q:=by omega
       simp only [g,g',decide_true,if_true,List.length_cons]
       omega
      ·by_cases g':x<q
       ·simp only [g,g',decide_true,decide_false,if_true,Bool.false_eq_true,if_false,List.length_cons]
        omega
       ·simp only [g,g',decide_false,Bool.false_eq_true,if_false]
        exact ih2
   rcases List.mem_cons.1 hy with rfl | hy'
   ·have:=mono zs
    unfold above at *
    simp only [List.filter_cons]
    simp only [h,decide_true,if_true,List.length_cons,Int.lt_irrefl,decide_false,Bool.false_eq_true,if_false]
    omega
   ·have:=ih hy'
    unfold above at *
    simp only [List.filter_cons]
    by_cases g:y<z
    ·have g':x<z:=by omega
     simp only [g,g',decide_true,if_true,List.length_cons]
     omega
    ·by_cases g':x<z
     ·simp only [g,g',decide_true,decide_false,if_true,Bool.false_eq_true,if_false,List.length_cons]
      omega
     ·simp only [g,g',decide_false,Bool.false_eq_true,if_false]
      exact this
/-- There are N pieces. -/
structure Pieces (zs ys:List Iv) (N:Nat):Prop where
 pos:0<N
 most:N≤2 * zs.length+2 * ys.length+1
 next:∀k,k+1<N→nx zs ys (fr zs ys k)=some (fr zs ys (k+1))
 last:nx zs ys (fr zs ys (N-1))=none
theorem pieces_some {zs ys:List Iv} {m m':Int} (hz:Nor m zs) (hy:Nor m' ys) (wz:∀z∈zs,Word z.1∧Word z.2) (wy:∀z∈ys,Word z.1∧Word z.2):∃N,Pieces zs ys N:=by
 have key:∀(c k:Nat),above (ends zs ++ ends ys) (fr zs ys k)≤c→(∀j,j<k→nx zs ys (fr zs ys j)=some (fr zs ys (j+1)))→k+c≤2 * zs.length+2 * ys.length→∃N,Pieces zs ys N:=by
  intro c
  induction c with
  | zero=>
    intro k hc hk hm
    refine ⟨k+1,by omega,by omega,fun j hj=>hk j (by omega),?_⟩
    rw [Nat.add_sub_cancel]
    cases h:nx zs ys (fr zs ys k) with
    | none=>rfl
    | some y=>
      obtain ⟨h1,_,h3,_⟩:=nx_some hz hy wz wy h
      have:=above_lt h1 h3
      omega
  | succ c ih=>
    intro k hc hk hm
    cases h:nx zs ys (fr zs ys k) with
    | none=>exact ⟨k+1,by omega,by omega,fun j hj=>hk j (by omega),by rw [Nat.add_sub_cancel];exact h⟩
    | some y=>
      obtain ⟨h1,_,h3,_⟩:=nx_some hz hy wz wy h
      have e:fr zs ys (k+1)=y:=by show (nx zs ys (fr zs ys k)).getD 0=y;rw [h];rfl
      have:=above_lt h1 h3
      refine ih (k+1) (by rw [e];omega) (fun j hj=>?_) (by omega)
      by_cases g:j=k
      ·subst g;rw [e];exact h
      ·exact hk j (by omega)
 have hl:(ends zs ++ ends ys).length=2 * zs.length+2 * ys.length:=by rw [List.length_append,ends_length,ends_length]
 exact key (2 * zs.length+2 * ys.length) 0 (by rw [← hl];exact above_le _ _) (fun j hj=>absurd hj (by omega)) (by omega)
/-- The last number of piece k. -/
def pto (zs ys:List Iv) (N k:Nat):Int:=if k+1<N then fr zs ys (k+1)-1 else 18446744073709551615
theorem fr_next {zs ys:List Iv} {N k:Nat} (h:k+1<N):fr zs ys (k+1)=pto zs ys N k+1:=by unfold pto;rw [if_pos h];omega
section
variable {zs ys:List Iv} {m m':Int} {N:Nat} (hz:Nor m zs) (hy:Nor m' ys) (wz:∀z∈zs,Word z.1∧Word z.2) (wy:∀z∈ys,Word z.1∧Word z.2) (hN:Pieces zs ys N)
include hz hy wz wy hN
theorem fr_word:∀k,k<N→0≤fr zs ys k∧fr zs ys k<18446744073709551616
 | 0,_=>⟨Int.le_refl _,by show (0:Int)<_;decide⟩
 | k+1,h=>by
   have h1:=nx_some hz hy wz wy (hN.next k h)
   have h2:=fr_word k (by omega)
   exact ⟨by omega,h1.2.1⟩
theorem pto_ge {k:Nat} (h:k<N):fr zs ys k≤pto zs ys N k∧pto zs ys N k<18446744073709551616:=by
 unfold pto
 by_cases g:k+1<N
 ·rw [if_pos g]
  have h1:=nx_some hz hy wz wy (hN.next k g)
  omega
 ·rw [if_neg g]
  have:=fr_word hz hy wz wy hN k h
  omega
theorem piece_same {k:Nat} (h:k<N) {t:Int} (h1:fr zs ys k≤t) (h2:t≤pto zs ys N k):(InL zs t↔InL zs (fr zs ys k))∧(InL ys t↔InL ys (fr zs ys k)):=by
 unfold pto at h2
 by_cases g:k+1<N
 ·rw [if_pos g] at h2
  exact (nx_some hz hy wz wy (hN.next k g)).2.2.2 t h1 (by omega)
 ·rw [if_neg g] at h2
  have hl:=hN.last
  have e:N-1=k:=by omega
  rw [e] at hl
  exact nx_none hz hy wz wy hl t h1 (by omega)
end
/-! ### What is merged -/
/-- A piece is put behind a list, joined to its last interval if they touch. -/
def putP (l:List Iv) (p:Iv):List Iv:=if l≠[]∧Hi l (l.length-1)+1=p.1 then l.take (l.length-1) ++ [(Lo l (l.length-1),p.2)] else l ++ [p]
/-- The pieces that are taken among the first k. -/
def mrg (zs ys:List Iv) (N:Nat) (tk:Bool→Bool→Bool):Nat→List Iv
 | 0=>[]
 | k+1=>if tk (decide (InL zs (fr zs ys k))) (decide (InL ys (fr zs ys k))) then putP (mrg zs ys N tk k) (fr zs ys k,pto zs ys N k) else mrg zs ys N tk k
theorem take_last {l:List Iv} (h:l≠[]):l=l.take (l.length-1) ++ [(Lo l (l.length-1),Hi l (l.length-1))]:=by
 have hl:l.length-1<l.length:=by have:=List.length_pos_iff.2 h;omega
 have e:(Lo l (l.length-1),Hi l (l.length-1))=l[l.length-1]:=by unfold Lo Hi;simp [List.getD,List.getElem?_eq_getElem hl]
 rw [e,← List.take_succ_eq_append_getElem hl,List.take_of_length_le (by omega)]
theorem nor_append:∀{l:List Iv} {m:Int} {p:Iv},Nor m l→(∀x,InL l x→x+1<p.1)→m≤p.1→p.1≤p.2→Nor m (l ++ [p])
 | [],_,_,_,_,h1,h2=>⟨h1,h2,trivial⟩
 | z :: zs,m,p,⟨a1,a2,a3⟩,hx,h1,h2=>by
   have:=hx z.2 (inL_cons.2 (.inl ⟨a2,Int.le_refl _⟩))
   exact ⟨a1,a2,nor_append a3 (fun x hx'=>hx x (inL_cons.2 (.inr hx'))) (by omega) h2⟩
theorem nor_cut:∀{l:List Iv} {m:Int} {p:Iv},Nor m (l ++ [p])→Nor m l∧(∀x,InL l x→x+1<p.1)∧m≤p.1∧p.1≤p.2
 | [],_,_,⟨h1,h2,_⟩=>⟨trivial,fun x h=>absurd h (inL_nil x),h1,h2⟩
 | z :: zs,m,p,⟨a1,a2,a3⟩=>by
   obtain ⟨b1,b2,b3,b4⟩:=nor_cut a3
   refine ⟨⟨a1,a2,b1⟩,fun x hx=>?_,by omega,b4⟩
   rcases inL_cons.1 hx with q | q
   ·omega
   ·exact b2 x q
theorem putP_nor {l:List Iv} {m:Int} {p:Iv} (h:Nor m l) (hx:∀x,InL l x→x<p.1) (h1:m≤p.1) (h2:p.1≤p.2):Nor m (putP l p)∧∀x,InL (putP l p) x↔InL l x∨(p.1≤x∧x≤p.2):=by
 unfold putP
 by_cases g:l≠[]∧Hi l (l.length-1)+1=p.1
 ·rw [if_pos g]
  have e:=take_last g.1
  generalize ea:l.take (l.length-1)=a at e ⊢
  generalize eb:Lo l (l.length-1)=lo at e ⊢
  generalize ec:Hi l (l.length-1)=hi at e g
  subst e
  obtain ⟨b1,b2,b3,b4⟩:=nor_cut h
  simp only at b2 b3 b4
  refine ⟨nor_append b1 b2 b3 (by show lo≤p.2;omega),fun x=>?_⟩
  rw [inL_append,inL_append,inL_one,inL_one]
  simp only
  constructor
  ·rintro (q | q)
   ·exact .inl (.inl q)
   ·by_cases k:x≤hi
    ·exact .inl (.inr ⟨q.1,k⟩)
    ·exact .inr ⟨by omega,q.2⟩
  ·rintro ((q | q) | q)
   ·exact .inl q
   ·exact .inr ⟨q.1,by omega⟩
   ·exact .inr ⟨by omega,q.2⟩
 ·rw [if_neg g]
  refine ⟨nor_append h (fun x hx'=>?_) h1 h2,fun x=>by rw [inL_append,inL_one]⟩
  by_cases e:l=[]
  ·subst e;exact absurd hx' (inL_nil x)
  ·have hh:¬Hi l (l.length-1)+1=p.1:=fun q=>g ⟨e,q⟩
   have e2:=take_last e
   have hin:InL l (Hi l (l.length-1)):=by
    have hc:=cor_of_nor h
    have hl:l.length-1<l.length:=by have:=List.length_pos_iff.2 e;omega
    exact inL_at.2 ⟨_,hl,(hc _ hl).1,Int.le_refl _⟩
   have a1:=hx _ hin
   have a2:x≤Hi l (l.length-1):=by
    rw [e2] at h
    obtain ⟨b1,b2,b3,b4⟩:=nor_cut h
    rw [e2] at hx'
    rcases inL_append.1 hx' with q | q
    ·have:=b2 x q;simp only at this b4;omega
    ·exact (inL_one.1 q).2
   omega
theorem putP_len (l:List Iv) (p:Iv):(putP l p).length≤l.length+1:=by
 unfold putP
 split
 ·simp only [List.length_append,List.length_take,List.length_cons,List.length_nil];omega
 ·simp
section
variable {zs ys:List Iv} {m m':Int} {N:Nat} (hz:Nor m zs) (hy:Nor m' ys) (wz:∀z∈zs,Word z.1∧Word z.2) (wy:∀z∈ys,Word z.1∧Word z.2) (hN:Pieces zs ys N) (tk:Bool→Bool→Bool)
include hz hy wz wy hN
theorem mrg_is:∀k,k≤N→Nor 0 (mrg zs ys N tk k)∧(∀x,InL (mrg zs ys N tk k) x↔0≤x∧x<18446744073709551616∧(0<k→x≤pto zs ys N (k-1))∧0<k∧tk (decide (InL zs x)) (decide (InL ys x))=true)
 | 0,_=>⟨trivial,fun x=>⟨fun h=>absurd h (inL_nil x),fun h=>absurd h.2.2.2.1 (by omega)⟩⟩
 | k+1,hk=>by
   obtain ⟨ih1,ih2⟩:=mrg_is k (by omega)
   have hf:=fr_word hz hy wz wy hN k (by omega)
   have ht:=pto_ge hz hy wz wy hN (show k<N by omega)
   have hlow:∀x,InL (mrg zs ys N tk k) x→x<fr zs ys k:=fun x hx=>by
    obtain ⟨_,_,h3,h4,_⟩:=(ih2 x).1 hx
    have:=h3 h4
    have e:=fr_next (zs:=zs) (ys:=ys) (N:=N) (k:=k-1) (by omega)
    rw [show k-1+1=k by omega] at e
    omega
   have hlow2:∀x,(0<k→x≤pto zs ys N (k-1))∧0<k∧0≤x↔0<k∧0≤x∧x<fr zs ys k:=fun x=>by
    by_cases g:0<k
    ·have e:=fr_next (zs:=zs) (ys:=ys) (N:=N) (k:=k-1) (by omega)
     rw [show k-1+1=k by omega] at e
     constructor
     ·rintro ⟨a,b,c⟩;have:=a b;exact ⟨b,c,by omega⟩
     ·rintro ⟨a,b,c⟩;exact ⟨fun _=>by omega,a,b⟩
    ·constructor
     ·rintro ⟨a,b,c⟩;exact absurd b g
     ·rintro ⟨a,b,c⟩;exact absurd a g
   have h0:k=0→fr zs ys k=0:=fun e=>by subst e;rfl
   have hsame:∀{t},fr zs ys k≤t→t≤pto zs ys N k→tk (decide (InL zs t)) (decide (InL ys t))=tk (decide (InL zs (fr zs ys k))) (decide (InL ys (fr zs ys k))):=fun {t} a b=>by
    obtain ⟨p1,p2⟩:=piece_same hz hy wz wy hN (show k<N by omega) a b
    rw [decide_eq_decide.2 p1,decide_eq_decide.2 p2]
   have split3:∀x,(0≤x∧x<18446744073709551616∧(0<k+1→x≤pto zs ys N (k+1-1))∧0<k+1∧tk (decide (InL zs x)) (decide (InL ys x))=true) ↔
     InL (mrg zs ys N tk k) x∨((fr zs ys k≤x∧x≤pto zs ys N k)∧tk (decide (InL zs (fr zs ys k))) (decide (InL ys (fr zs ys k)))=true):=fun x=>by
    rw [ih2,Nat.add_sub_cancel]
    constructor
    ·rintro ⟨a1,a2,a3,_,a5⟩
     have a3':=a3 (by omega)
     by_cases g:fr zs ys k≤x
     ·exact .inr ⟨⟨g,a3'⟩,by rw [← hsame g a3'];exact a5⟩
     ·have hk0:0<k:=by
       by_cases e:k=0
       ·have:=h0 e;omega
       ·omega
      obtain ⟨b1,b2,b3⟩:=(hlow2 x).2 ⟨hk0,a1,by omega⟩
      exact .inl ⟨a1,a2,b1,b2,a5⟩
    ·rintro (⟨a1,a2,a3,a4,a5⟩ | ⟨⟨a1,a2⟩,a3⟩)
     ·obtain ⟨b1,b2,b3⟩:=(hlow2 x).1 ⟨a3,a4,a1⟩
      exact ⟨a1,a2,fun _=>by omega,by omega,a5⟩
     ·exact ⟨by omega,by omega,fun _=>a2,by omega,by rw [hsame a1 a2];exact a3⟩
   unfold mrg
   by_cases g:tk (decide (InL zs (fr zs ys k))) (decide (InL ys (fr zs ys k)))=true
   ·rw [if_pos g]
    obtain ⟨p1,p2⟩:=putP_nor (p:=(fr zs ys k,pto zs ys N k)) ih1 hlow hf.1 ht.1
    refine ⟨p1,fun x=>?_⟩
    rw [p2,split3]
    exact ⟨fun q=>q.elim .inl (fun q=>.inr ⟨q,g⟩),fun q=>q.elim .inl (fun q=>.inr q.1)⟩
   ·rw [if_neg g]
    refine ⟨ih1,fun x=>?_⟩
    rw [split3]
    exact ⟨.inl,fun q=>q.elim id (fun q=>absurd q.2 g)⟩
theorem mrg_all:Cor (mrg zs ys N tk N)∧(∀z∈mrg zs ys N tk N,Word z.1∧Word z.2)∧∀x,InL (mrg zs ys N tk N) x↔0≤x∧x<18446744073709551616∧tk (decide (InL zs x)) (decide (InL ys x))=true:=by
 obtain ⟨h1,h2⟩:=mrg_is hz hy wz wy hN tk N (Nat.le_refl _)
 have hp:=hN.pos
 have e:pto zs ys N (N-1)=18446744073709551615:=by unfold pto;rw [if_neg (by omega)]
 have h3:∀x,InL (mrg zs ys N tk N) x↔0≤x∧x<18446744073709551616∧tk (decide (InL zs x)) (decide (InL ys x))=true:=fun x=>by
  rw [h2,e]
  constructor
  ·rintro ⟨a,b,_,_,c⟩;exact ⟨a,b,c⟩
  ·rintro ⟨a,b,c⟩;exact ⟨a,b,fun _=>by omega,hp,c⟩
 refine ⟨cor_of_nor h1,fun z hz'=>?_,h3⟩
 obtain ⟨i,hi,ez⟩:=List.mem_iff_getElem.1 hz'
 have hc:=(cor_of_nor h1 i hi).1
 have e1:Lo (mrg zs ys N tk N) i=z.1:=by unfold Lo;simp [List.getD,List.getElem?_eq_getElem hi,ez]
 have e2:Hi (mrg zs ys N tk N) i=z.2:=by unfold Hi;simp [List.getD,List.getElem?_eq_getElem hi,ez]
 rw [e1,e2] at hc
 have a:=(h3 z.1).1 ⟨z,hz',Int.le_refl _,hc⟩
 have b:=(h3 z.2).1 ⟨z,hz',hc,Int.le_refl _⟩
 exact ⟨⟨a.1,a.2.1⟩,⟨b.1,b.2.1⟩⟩
end
/-! ### How long the list of an operation is -/
theorem nodup_len {α:Type} [DecidableEq α]:∀{l m:List α},l.Nodup→(∀x∈l,x∈m)→l.length≤m.length
 | [],_,_,_=>Nat.zero_le _
 | x :: xs,m,h,hs=>by
   obtain ⟨h1,h2⟩:=List.nodup_cons.1 h
   have hm:x∈m:=hs x (by simp)
   have:=nodup_len (m:=m.erase x) h2 fun y hy=>(List.mem_erase_of_ne (fun e=>h1 (by rw [← e];exact hy))).2 (hs y (by simp [hy]))
   rw [List.length_erase_of_mem hm] at this
   have:=List.length_pos_of_mem hm
   simp only [List.length_cons]
   omega
theorem nor_nodup:∀{l:List Iv} {m:Int},Nor m l→(l.map (·.1)).Nodup
 | [],_,_=>by simp
 | z :: zs,m,⟨h1,h2,h3⟩=>by
   rw [List.map_cons,List.nodup_cons]
   refine ⟨fun hm=>?_,nor_nodup h3⟩
   obtain ⟨y,hy,e⟩:=List.mem_map.1 hm
   have hc:=cor_of_nor h3
   obtain ⟨i,hi,ey⟩:=List.mem_iff_getElem.1 hy
   have hle:y.1≤y.2:=by
    have:=(hc i hi).1
    unfold Lo Hi at this
    simpa [List.getD,List.getElem?_eq_getElem hi,ey] using this
   have:=h3.ge ⟨y,hy,Int.le_refl _,hle⟩
   omega
/-- The start of an interval: the number in front of it is not in the list. -/
theorem start_in {l:List Iv} (h:Cor l) {z:Iv} (hz:z∈l):InL l z.1∧¬InL l (z.1-1):=by
 obtain ⟨i,hi,ez⟩:=List.mem_iff_getElem.1 hz
 have e1:Lo l i=z.1:=by unfold Lo;simp [List.getD,List.getElem?_eq_getElem hi,ez]
 refine ⟨inL_at.2 ⟨i,hi,by omega,by have:=(h i hi).1;omega⟩,fun hn=>?_⟩
 obtain ⟨j,hj,h1,h2⟩:=inL_at.1 hn
 rcases Nat.lt_trichotomy i j with g | g | g
 ·have:=cor_lo_lt h g hj
  have:=(h i hi).1
  omega
 ·subst g;omega
 ·have:=cor_lo_lt h g hi
  omega
/-- A number of a list whose neighbour is not in it starts an interval; one that is not in it, behind one that is, ends one. -/
theorem start_of {l:List Iv} {x:Int} (h1:InL l x) (h2:¬InL l (x-1)):x∈l.map (·.1):=by
 obtain ⟨z,hz,a,b⟩:=h1
 refine List.mem_map.2 ⟨z,hz,?_⟩
 by_cases g:z.1=x
 ·exact g
 ·exact absurd ⟨z,hz,by omega,by omega⟩ h2
theorem end_of {l:List Iv} {x:Int} (h1:¬InL l x) (h2:InL l (x-1)):x∈l.map (fun z=>z.2+1):=by
 obtain ⟨z,hz,a,b⟩:=h2
 refine List.mem_map.2 ⟨z,hz,?_⟩
 by_cases g:z.2+1=x
 ·exact g
 ·exact absurd ⟨z,hz,by omega,by omega⟩ h1
def tkU:Bool→Bool→Bool:=fun a b=>a || b
def tkM:Bool→Bool→Bool:=fun a b=>a && b
def tkD:Bool→Bool→Bool:=fun a b=>a && !b
theorem op_len {zs ys out:List Iv} (tk:Bool→Bool→Bool) (ht:tk=tkU∨tk=tkM∨tk=tkD) (hc:Cor out) (hz0:∀x,InL zs x→0≤x) (hy0:∀x,InL ys x→0≤x)
  (h:∀x,InL out x↔0≤x∧x<18446744073709551616∧tk (decide (InL zs x)) (decide (InL ys x))=true):out.length≤zs.length+ys.length:=by
 have hn:=nor_nodup (nor_of_cor hc (m:=Lo out 0) (.inr (Int.le_refl _)))
 obtain ⟨g0,key⟩:∃g0:Iv→Int,∀x∈out.map (·.1),x∈zs.map (·.1) ++ ys.map g0:=by
  refine ⟨if tk true true=false then (fun z=>z.2+1) else (·.1),?_⟩
  intro x hx
  obtain ⟨z,hz,rfl⟩:=List.mem_map.1 hx
  obtain ⟨a1,a2⟩:=start_in hc hz
  obtain ⟨b1,b2,b3⟩:=(h z.1).1 a1
  have b4:¬(0≤z.1-1∧tk (decide (InL zs (z.1-1))) (decide (InL ys (z.1-1)))=true):=fun q=>a2 ((h _).2 ⟨q.1,by omega,q.2⟩)
  have zneg:z.1=0→¬InL zs (z.1-1):=fun e q=>by have:=hz0 _ q;omega
  have yneg:z.1=0→¬InL ys (z.1-1):=fun e q=>by have:=hy0 _ q;omega
  have hpos:z.1=0∨0≤z.1-1:=by omega
  rw [List.mem_append]
  rcases ht with rfl | rfl | rfl
  ·rw [if_neg (by decide)]
   simp only [tkU,Bool.or_eq_true,decide_eq_true_eq] at b3 b4
   rcases b3 with q | q
   ·by_cases g:InL zs (z.1-1)
    ·rcases hpos with e | e
     ·exact absurd g (zneg e)
     ·exact absurd ⟨e,.inl g⟩ b4
    ·exact .inl (start_of q g)
   ·by_cases g:InL ys (z.1-1)
    ·rcases hpos with e | e
     ·exact absurd g (yneg e)
     ·exact absurd ⟨e,.inr g⟩ b4
    ·exact .inr (start_of q g)
  ·rw [if_neg (by decide)]
   simp only [tkM,Bool.and_eq_true,decide_eq_true_eq] at b3 b4
   by_cases g:InL zs (z.1-1)
   ·by_cases g':InL ys (z.1-1)
    ·rcases hpos with e | e
     ·exact absurd g (zneg e)
     ·exact absurd ⟨e,g,g'⟩ b4
    ·exact .inr (start_of b3.2 g')
   ·exact .inl (start_of b3.1 g)
  ·rw [if_pos (by decide)]
   simp only [tkD,Bool.and_eq_true,decide_eq_true_eq,Bool.not_eq_true',decide_eq_false_iff_not] at b3 b4
   by_cases g:InL zs (z.1-1)
   ·by_cases g':InL ys (z.1-1)
    ·exact .inr (end_of b3.2 g')
    ·rcases hpos with e | e
     ·exact absurd g (zneg e)
     ·exact absurd ⟨e,g,g'⟩ b4
   ·exact .inl (start_of b3.1 g)
 have:=nodup_len hn key
 simpa using this
end Go.Proofs.YtbkkolfpegplgaaGreatDoor
namespace Go.Proofs.YtbkkolfpegplgaaGreatDoor
open Go.RowKit
/-- No change of the first k intervals lies behind x. -/
def NoChg (zs:List Iv) (x:Int) (k:Nat):Prop:=∀j,j<k→¬x<Lo zs j∧¬(Hi zs j+1<18446744073709551616∧x<Hi zs j+1)
/-- What next returns. -/
def nextR (o:Option Int):Value:=.tuple #[.int .u64 (o.getD 0),.bool o.isSome]
theorem nextL_here {zs:List Iv} {x:Int} {k:Nat} (hk:k<zs.length) (h:NoChg zs x k) :
  nextL zs x=if x<Lo zs k then some (Lo zs k) else if Hi zs k+1<18446744073709551616∧x<Hi zs k+1 then some (Hi zs k+1) else nextL (zs.drop (k+1)) x:=by
 rw [nextL_at zs x k (by omega) h,drop_lohi hk]
 conv=>lhs;unfold nextL
theorem nextL_over {zs:List Iv} {x:Int} (h:NoChg zs x zs.length):nextL zs x=none:=by
 rw [nextL_at zs x zs.length (Nat.le_refl _) h,List.drop_length]
 rfl
theorem opnext_any (a:Option Addr) (len cap:Nat) (zs:List Iv) (x:Int) (w:World) (h:Prs w a len zs) :
  Calls Tryz.prog 234 #[.slice a len cap,.int .u64 x] w fun e w'=>e=.returned (nextR (nextL zs x))∧Below w.heap.size w w':=by
 have hm:=h.most
 have hl:=hide h.length
 have H:=hide h
 clear h
 go_enter Tryz.func234,Tryz.ntmps234
 go_wp2
 go_loopw [12] (fun c wr=>∃k:Nat,k≤len∧c=.int .i64 k∧NoChg zs x k∧Below w.heap.size w wr) (fun c _=>len-(intOf c).toNat)
 case atStart=>exact ⟨0,Nat.zero_le _,rfl,fun j hj=>absurd hj (by omega),Below.refl _ _⟩
 case round=>
  obtain ⟨k,hk,rfl,hj,hb⟩:=hrel
  have HB:=hide hb
  have HJ:=hide hj
  have i0:(0:Int)≤(k:Int):=by omega
  by_cases hlt:k<len
  ·obtain ⟨b,off,rfl,hbl,hc1,hc2⟩:=(H.out.below hb).cells k hlt
   have hw:=H.out.word hlt
   have i1:(k:Int)<(len:Int):=by omega
   have hn:=hide (nextL_here (x:=x) (show k<zs.length by rw [hl.out];exact hlt) hj)
   have HNX:=hide (fun (g:¬x<Lo zs k) (g2:¬(Hi zs k+1<18446744073709551616∧x<Hi zs k+1))=>show NoChg zs x (k+1) from fun j hj'=>by
    by_cases e:j=k
    ·subst e;exact ⟨g,g2⟩
    ·exact hj j (by omega))
   obtain ⟨lo,elo⟩:∃lo,Lo zs k=lo:=⟨_,rfl⟩
   obtain ⟨hi,ehi⟩:∃hi,Hi zs k=hi:=⟨_,rfl⟩
   rw [elo] at hc1 hw hn HNX
   rw [ehi] at hc2 hw hn HNX
   clear elo ehi hb hj HJ
   by_cases g:x<lo
   ·have R:=hide (show nextR (nextL zs x)=.tuple #[.int .u64 lo,.bool true] from by rw [hn.out,if_pos g];rfl)
    clear hn HNX hw
    go_wp2
    go_ret2
    exact ⟨by rw [R.out];rfl,bl_alloc HB.out _⟩
   ·by_cases g1:hi<18446744073709551615
    ·have KN:=hide (fun W=>next_lt hi hw.2 g1 W)
     by_cases g2:x<hi+1
     ·have R:=hide (show nextR (nextL zs x)=.tuple #[.int .u64 (hi+1),.bool true] from by rw [hn.out,if_neg g,if_pos ⟨by omega,g2⟩];rfl)
      clear hn HNX hw g1
      go_wp2_with fail
      refine (KN.out _).mono ?_
      rintro e w1 ⟨rfl,rfl⟩
      go_wp2
      go_ret2
      exact ⟨by rw [R.out];rfl,bl_alloc HB.out _⟩
     ·have NXT:=hide (HNX.out g (fun q=>g2 q.2))
      clear hn HNX hw g1
      go_wp2_with fail
      refine (KN.out _).mono ?_
      rintro e w1 ⟨rfl,rfl⟩
      go_wp2
      go_roundw
      case rel=>exact ⟨k+1,by omega,by go_num,NXT.out,bl_alloc HB.out _⟩
      case measure=>simp [intOf];omega
    ·obtain rfl:hi=18446744073709551615:=by have:=hw.2.2;omega
     have KN:=hide (fun W=>next_top W)
     have NXT:=hide (HNX.out g (fun q=>by omega))
     clear hn HNX hw g1
     go_wp2_with fail
     refine (KN.out _).mono ?_
     rintro e w1 ⟨rfl,rfl⟩
     go_wp2
     go_roundw
     case rel=>exact ⟨k+1,by omega,by go_num,NXT.out,bl_alloc HB.out _⟩
     case measure=>simp [intOf];omega
  ·obtain rfl:k=len:=by omega
   have hnl:¬(k:Int)<(k:Int):=by omega
   have R:=hide (show nextR (nextL zs x)=.tuple #[.int .u64 0,.bool false] from by rw [nextL_over (by rw [hl.out];exact hj)];rfl)
   clear hb hj HJ
   go_wp2
   go_ret2
   exact ⟨by rw [R.out];rfl,HB.out⟩
/-- The slice value (a, len) holds the strings ss. -/
structure Strs (w:World) (a:Option Addr) (len:Nat) (ss:List ByteArray):Prop where
 length:ss.length=len
 most:len≤9223372036854775807
 sizes:∀s∈ss,s.size≤9223372036854775807
 cells:∀i,i<len→∃b off,a=some ⟨b,off,none⟩∧b<w.heap.size∧w.cell? ⟨b,off+i,none⟩=some (.string (ss.getD i ByteArray.empty))
end Go.Proofs.YtbkkolfpegplgaaGreatDoor
