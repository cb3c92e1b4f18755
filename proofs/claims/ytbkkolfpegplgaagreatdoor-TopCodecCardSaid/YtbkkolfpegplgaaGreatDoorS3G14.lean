/- Contracts of varint.Reader. -/
import Derived.Test.YtbkkolfpegplgaaGreatDoorS3G1
import Derived.Deep.RegionWith
import Derived.RegionTactic
import Derived.IntWalk
import Derived.Deep.RegionHeld3
set_option maxHeartbeats 3200000
namespace Go.Proofs.YtbkkolfpegplgaaGreatDoor
open Go.RowKit
def RdAt (w:World) (p:Nat) (x n st:Int):Prop:=w.heap[p]?=some (.cells #[.int .u64 x,.int .i64 n,.int .i64 st] 164 (0,0))
theorem RdAt.cells{w:World}{p:Nat}{x n st:Int}(h:RdAt w p x n st):w.cell? ⟨p,0,none⟩=some (.int .u64 x)∧w.cell? ⟨p,1,none⟩=some (.int .i64 n)∧w.cell? ⟨p,2,none⟩=some (.int .i64 st)∧(∀j,w.frozen? ⟨p,j,none⟩=false)∧p<w.heap.size:=by
 unfold RdAt at h;exact⟨by simp[World.cell?,h],by simp[World.cell?,h],by simp[World.cell?,h],by intro j;simp[World.frozen?,h],zh h⟩
theorem value_any(p:Nat)(x n st:Int)(w:World)(h:RdAt w p x n st):Calls Tryz.prog 97 #[.pointer (some ⟨p,0,none⟩)] w fun e w'=>e=.returned (.int .u64 (if st=1 then x else 0))∧w=w':=by
 obtain⟨c0,c1,c2,_,l0⟩:=h.cells;clear h;by_cases g:st=1
 ·subst g
  go_enter Tryz.func97,Tryz.ntmps97
  go_wp2
  go_ret
  exact⟨rfl,rfl⟩
 ·have q:(st != 1)=true:=by simp[g]
  go_enter Tryz.func97,Tryz.ntmps97
  go_wp2
  go_ret
  exact⟨rfl,rfl⟩
theorem len_any(p:Nat)(x n st:Int)(w:World)(h:RdAt w p x n st):Calls Tryz.prog 98 #[.pointer (some ⟨p,0,none⟩)] w fun e w'=>e=.returned (.int .i64 n)∧w=w':=by
 obtain⟨c0,c1,c2,_,l0⟩:=h.cells;clear h;go_enter Tryz.func98,Tryz.ntmps98
 go_wp2
 go_ret
 exact⟨rfl,rfl⟩
def putS (n c:Int):Int:=if c=0∧0<n∨1<c∧n=9 then 2 else if c<128 then 1 else 0
def putX (x n c:Int):Int:=bits .or .u64 x (IntKind.u64.wrap (IntKind.u64.wrap (bits .andNot .u8 c 128) * 2 ^ (7 * n).toNat))
theorem put_any(p:Nat)(x n c:Int)(w:World)(h:RdAt w p x n 0)(hn0:0≤n)(hn:n≤9)(hc0:0≤c) :
  Calls Tryz.prog 96 #[.pointer (some ⟨p,0,none⟩),.int .u8 c] w fun e w'=>e=.returned (.int .i64 (putS n c))∧RdAt w' p (putX x n c) (n+1) (putS n c)∧Only (fun b=>b=p) w w':=by
 obtain⟨c0,c1,c2,f0,l0⟩:=h.cells;have s1:IntKind.i64.wrap (n+1)=n+1:=IntWalk.i64_in _ (by omega);have s2:IntKind.i64.wrap (n+1-1)=n:=by rw[show n+1-1=n by omega];exact IntWalk.i64_in _ (by omega)
 have s3:IntKind.i64.wrap (7 * n)=7 * n:=IntWalk.i64_in _ (by omega);have hmx:Tryz.prog.follows .mixedOrders=true:=by kernel_rfl
 by_cases g0:c=0
 ·have q0:(c == 0)=true:=by simp[g0]
  have q1:¬1<c:=by omega
  have q2:c<128:=by omega
  by_cases g1:0<n
  ·have q3:1<n+1:=by omega
   have R:=z7 (show putS n c=2 by unfold putS;rw[if_pos (.inl ⟨g0,g1⟩)]);clear g0;go_enter Tryz.func96,Tryz.ntmps96
   go_wp2
   have r1:(w.setCell ⟨p,1,none⟩ (.int .i64 (n+1))).heap[p]?=some (.cells #[.int .u64 x,.int .i64 (n+1),.int .i64 0] 164 (0,0)):=heap_setCell_same _ _ 1 _ _ _ h;have o1:Only (fun b=>b=p) w (w.setCell ⟨p,1,none⟩ (.int .i64 (n+1))):=(Only.refl (fun b=>b=p) w).setCell (p:=⟨p,1,none⟩) (.inl rfl) _;obtain⟨W1,e1⟩:∃W1,w.setCell ⟨p,1,none⟩ (.int .i64 (n+1))=W1:=⟨_,rfl⟩;rw[e1]at r1 o1 ⊢;clear e1 c0 c1 c2 f0 l0;obtain⟨c0,c1,c2,f0,l0⟩:=RdAt.cells r1;go_region
   have r2:=heap_setCell_same _ _ 0 _ _ (.int .u64 (putX x n c)) r1;have o2:=(o1.setCell (p:=⟨p,0,none⟩) (.inl rfl) (.int .u64 (putX x n c))).drew;obtain⟨W2,e2⟩:∃W2,(W1.setCell ⟨p,0,none⟩ (.int .u64 (putX x n c))).drew=W2:=⟨_,rfl⟩;have r3:W2.heap[p]?=some (.cells #[.int .u64 (putX x n c),.int .i64 (n+1),.int .i64 0] 164 (0,0)):=by rw[← e2];exact r2
   rw[e2]at o2;have e3:=e2;unfold putX at e3;rw[e3];clear e2 e3 r2 r1 o1 c0 c1 c2 f0 l0;obtain⟨c0,c1,c2,f0,l0⟩:=RdAt.cells r3;have r4:=heap_setCell_same _ _ 2 _ _ (.int .i64 2) r3;go_wp2
   go_ret
   rw[R.out];exact⟨rfl,r4,o2.setCell (p:=⟨p,2,none⟩) (.inl rfl) _⟩
  ·have q3:¬1<n+1:=by omega
   have R:=z7 (show putS n c=1 by unfold putS;rw[if_neg (by omega),if_pos q2]);clear g0;go_enter Tryz.func96,Tryz.ntmps96
   go_wp2
   have r1:(w.setCell ⟨p,1,none⟩ (.int .i64 (n+1))).heap[p]?=some (.cells #[.int .u64 x,.int .i64 (n+1),.int .i64 0] 164 (0,0)):=heap_setCell_same _ _ 1 _ _ _ h;have o1:Only (fun b=>b=p) w (w.setCell ⟨p,1,none⟩ (.int .i64 (n+1))):=(Only.refl (fun b=>b=p) w).setCell (p:=⟨p,1,none⟩) (.inl rfl) _;obtain⟨W1,e1⟩:∃W1,w.setCell ⟨p,1,none⟩ (.int .i64 (n+1))=W1:=⟨_,rfl⟩;rw[e1]at r1 o1 ⊢;clear e1 c0 c1 c2 f0 l0;obtain⟨c0,c1,c2,f0,l0⟩:=RdAt.cells r1;go_region
   have r2:=heap_setCell_same _ _ 0 _ _ (.int .u64 (putX x n c)) r1;have o2:=(o1.setCell (p:=⟨p,0,none⟩) (.inl rfl) (.int .u64 (putX x n c))).drew;obtain⟨W2,e2⟩:∃W2,(W1.setCell ⟨p,0,none⟩ (.int .u64 (putX x n c))).drew=W2:=⟨_,rfl⟩;have r3:W2.heap[p]?=some (.cells #[.int .u64 (putX x n c),.int .i64 (n+1),.int .i64 0] 164 (0,0)):=by rw[← e2];exact r2
   rw[e2]at o2;have e3:=e2;unfold putX at e3;rw[e3];clear e2 e3 r2 r1 o1 c0 c1 c2 f0 l0;obtain⟨c0,c1,c2,f0,l0⟩:=RdAt.cells r3;have r4:=heap_setCell_same _ _ 2 _ _ (.int .i64 1) r3;go_wp2
   go_ret
   rw[R.out];exact⟨rfl,r4,o2.setCell (p:=⟨p,2,none⟩) (.inl rfl) _⟩
 ·have q0:(c == 0)=false:=by simp[g0]
  by_cases g1:1<c
  ·by_cases g2:n=9
   ·have q3:(n+1 == 10)=true:=by simp[g2]
    have R:=z7 (show putS n c=2 by unfold putS;rw[if_pos (.inr ⟨g1,g2⟩)]);clear g2;go_enter Tryz.func96,Tryz.ntmps96
    go_wp2
    have r1:(w.setCell ⟨p,1,none⟩ (.int .i64 (n+1))).heap[p]?=some (.cells #[.int .u64 x,.int .i64 (n+1),.int .i64 0] 164 (0,0)):=heap_setCell_same _ _ 1 _ _ _ h;have o1:Only (fun b=>b=p) w (w.setCell ⟨p,1,none⟩ (.int .i64 (n+1))):=(Only.refl (fun b=>b=p) w).setCell (p:=⟨p,1,none⟩) (.inl rfl) _;obtain⟨W1,e1⟩:∃W1,w.setCell ⟨p,1,none⟩ (.int .i64 (n+1))=W1:=⟨_,rfl⟩;rw[e1]at r1 o1 ⊢;clear e1 c0 c1 c2 f0 l0;obtain⟨c0,c1,c2,f0,l0⟩:=RdAt.cells r1;go_region
    have r2:=heap_setCell_same _ _ 0 _ _ (.int .u64 (putX x n c)) r1;have o2:=(o1.setCell (p:=⟨p,0,none⟩) (.inl rfl) (.int .u64 (putX x n c))).drew;obtain⟨W2,e2⟩:∃W2,(W1.setCell ⟨p,0,none⟩ (.int .u64 (putX x n c))).drew=W2:=⟨_,rfl⟩;have r3:W2.heap[p]?=some (.cells #[.int .u64 (putX x n c),.int .i64 (n+1),.int .i64 0] 164 (0,0)):=by rw[← e2];exact r2
    rw[e2]at o2;have e3:=e2;unfold putX at e3;rw[e3];clear e2 e3 r2 r1 o1 c0 c1 c2 f0 l0;obtain⟨c0,c1,c2,f0,l0⟩:=RdAt.cells r3;have r4:=heap_setCell_same _ _ 2 _ _ (.int .i64 2) r3;go_wp2
    go_ret
    rw[R.out];exact⟨rfl,r4,o2.setCell (p:=⟨p,2,none⟩) (.inl rfl) _⟩
   ·have q3:(n+1 == 10)=false:=by simp;omega
    by_cases g3:c<128
    ·skip
     have R:=z7 (show putS n c=1 by unfold putS;rw[if_neg (by omega),if_pos g3]);go_enter Tryz.func96,Tryz.ntmps96
     go_wp2
     have r1:(w.setCell ⟨p,1,none⟩ (.int .i64 (n+1))).heap[p]?=some (.cells #[.int .u64 x,.int .i64 (n+1),.int .i64 0] 164 (0,0)):=heap_setCell_same _ _ 1 _ _ _ h;have o1:Only (fun b=>b=p) w (w.setCell ⟨p,1,none⟩ (.int .i64 (n+1))):=(Only.refl (fun b=>b=p) w).setCell (p:=⟨p,1,none⟩) (.inl rfl) _;obtain⟨W1,e1⟩:∃W1,w.setCell ⟨p,1,none⟩ (.int .i64 (n+1))=W1:=⟨_,rfl⟩;rw[e1]at r1 o1 ⊢;clear e1 c0 c1 c2 f0 l0;obtain⟨c0,c1,c2,f0,l0⟩:=RdAt.cells r1;go_region
     have r2:=heap_setCell_same _ _ 0 _ _ (.int .u64 (putX x n c)) r1;have o2:=(o1.setCell (p:=⟨p,0,none⟩) (.inl rfl) (.int .u64 (putX x n c))).drew;obtain⟨W2,e2⟩:∃W2,(W1.setCell ⟨p,0,none⟩ (.int .u64 (putX x n c))).drew=W2:=⟨_,rfl⟩;have r3:W2.heap[p]?=some (.cells #[.int .u64 (putX x n c),.int .i64 (n+1),.int .i64 0] 164 (0,0)):=by rw[← e2];exact r2
     rw[e2]at o2;have e3:=e2;unfold putX at e3;rw[e3];clear e2 e3 r2 r1 o1 c0 c1 c2 f0 l0;obtain⟨c0,c1,c2,f0,l0⟩:=RdAt.cells r3;have r4:=heap_setCell_same _ _ 2 _ _ (.int .i64 1) r3;go_wp2
     go_ret
     rw[R.out];exact⟨rfl,r4,o2.setCell (p:=⟨p,2,none⟩) (.inl rfl) _⟩
    ·skip
     have R:=z7 (show putS n c=0 by unfold putS;rw[if_neg (by omega),if_neg g3]);go_enter Tryz.func96,Tryz.ntmps96
     go_wp2
     have r1:(w.setCell ⟨p,1,none⟩ (.int .i64 (n+1))).heap[p]?=some (.cells #[.int .u64 x,.int .i64 (n+1),.int .i64 0] 164 (0,0)):=heap_setCell_same _ _ 1 _ _ _ h;have o1:Only (fun b=>b=p) w (w.setCell ⟨p,1,none⟩ (.int .i64 (n+1))):=(Only.refl (fun b=>b=p) w).setCell (p:=⟨p,1,none⟩) (.inl rfl) _;obtain⟨W1,e1⟩:∃W1,w.setCell ⟨p,1,none⟩ (.int .i64 (n+1))=W1:=⟨_,rfl⟩;rw[e1]at r1 o1 ⊢;clear e1 c0 c1 c2 f0 l0;obtain⟨c0,c1,c2,f0,l0⟩:=RdAt.cells r1;go_region
     have r2:=heap_setCell_same _ _ 0 _ _ (.int .u64 (putX x n c)) r1;have o2:=(o1.setCell (p:=⟨p,0,none⟩) (.inl rfl) (.int .u64 (putX x n c))).drew;obtain⟨W2,e2⟩:∃W2,(W1.setCell ⟨p,0,none⟩ (.int .u64 (putX x n c))).drew=W2:=⟨_,rfl⟩;have r3:W2.heap[p]?=some (.cells #[.int .u64 (putX x n c),.int .i64 (n+1),.int .i64 0] 164 (0,0)):=by rw[← e2];exact r2
     rw[e2]at o2;have e3:=e2;unfold putX at e3;rw[e3];clear e2 e3 r2 r1 o1 c0 c1 c2 f0 l0;obtain⟨c0,c1,c2,f0,l0⟩:=RdAt.cells r3;have r4:=heap_setCell_same _ _ 2 _ _ (.int .i64 0) r3;go_wp2
     go_ret
     rw[R.out];exact⟨rfl,r4,o2.setCell (p:=⟨p,2,none⟩) (.inl rfl) _⟩
  ·have q2:c<128:=by omega
   have R:=z7 (show putS n c=1 by unfold putS;rw[if_neg (by omega),if_pos q2]);go_enter Tryz.func96,Tryz.ntmps96
   go_wp2
   have r1:(w.setCell ⟨p,1,none⟩ (.int .i64 (n+1))).heap[p]?=some (.cells #[.int .u64 x,.int .i64 (n+1),.int .i64 0] 164 (0,0)):=heap_setCell_same _ _ 1 _ _ _ h;have o1:Only (fun b=>b=p) w (w.setCell ⟨p,1,none⟩ (.int .i64 (n+1))):=(Only.refl (fun b=>b=p) w).setCell (p:=⟨p,1,none⟩) (.inl rfl) _;obtain⟨W1,e1⟩:∃W1,w.setCell ⟨p,1,none⟩ (.int .i64 (n+1))=W1:=⟨_,rfl⟩;rw[e1]at r1 o1 ⊢;clear e1 c0 c1 c2 f0 l0;obtain⟨c0,c1,c2,f0,l0⟩:=RdAt.cells r1;go_region
   have r2:=heap_setCell_same _ _ 0 _ _ (.int .u64 (putX x n c)) r1;have o2:=(o1.setCell (p:=⟨p,0,none⟩) (.inl rfl) (.int .u64 (putX x n c))).drew;obtain⟨W2,e2⟩:∃W2,(W1.setCell ⟨p,0,none⟩ (.int .u64 (putX x n c))).drew=W2:=⟨_,rfl⟩;have r3:W2.heap[p]?=some (.cells #[.int .u64 (putX x n c),.int .i64 (n+1),.int .i64 0] 164 (0,0)):=by rw[← e2];exact r2
   rw[e2]at o2;have e3:=e2;unfold putX at e3;rw[e3];clear e2 e3 r2 r1 o1 c0 c1 c2 f0 l0;obtain⟨c0,c1,c2,f0,l0⟩:=RdAt.cells r3;have r4:=heap_setCell_same _ _ 2 _ _ (.int .i64 1) r3;go_wp2
   go_ret
   rw[R.out];exact⟨rfl,r4,o2.setCell (p:=⟨p,2,none⟩) (.inl rfl) _⟩
end Go.Proofs.YtbkkolfpegplgaaGreatDoor
