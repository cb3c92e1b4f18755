import Derived.Test.YtbkkolfpegplgaaGreatDoorTG1
import Derived.Deep.RegionHeld3
open Go.Proofs.Tryz
set_option maxHeartbeats 3200000
namespace Go.Proofs.YtbkkolfpegplgaaGreatDoor
open Go.RowKit
def RdAt (w:World) (p:Nat) (x n st:Int):Prop:=w.heap[p]?=some (.cells #[.int .u64 x,.int .i64 n,.int .i64 st] 164 (0,0))
theorem RdAt.cells{w:World}{p:Nat}{x n b:Int}(h:RdAt w p x n b):w.cell? ⟨p,0,none⟩=some (.int .u64 x)∧w.cell? ⟨p,1,none⟩=some (.int .i64 n)∧w.cell? ⟨p,2,none⟩=some (.int .i64 b)∧(∀j,w.frozen? ⟨p,j,none⟩=false)∧p<w.heap.size:=by
 unfold RdAt at h;exact⟨by simp[World.cell?,h],by simp[World.cell?,h],by simp[World.cell?,h],by intro j;simp[World.frozen?,h],aO h⟩
theorem Ol(p:Nat)(x n b:Int)(w:World)(h:RdAt w p x n b):Calls prog 97 #[.pointer (some ⟨p,0,none⟩)] w fun e w'=>e=.returned (.int .u64 (if b=1 then x else 0))∧w=w':=by
 obtain⟨j,l,m,_,r⟩:=h.cells;clear h;by_cases g:b=1
 ·subst g;go_enter func97,ntmps97;go_wp2;go_ret;exact⟨rfl,rfl⟩
 have q:(b != 1)=true:=by simp[g]
 go_enter func97,ntmps97;go_wp2;go_ret;exact⟨rfl,rfl⟩
theorem Zp(p:Nat)(x n b:Int)(w:World)(h:RdAt w p x n b):Calls prog 98 #[.pointer (some ⟨p,0,none⟩)] w fun e w'=>e=.returned (.int .i64 n)∧w=w':=by
 obtain⟨j,l,m,_,r⟩:=h.cells;clear h;go_enter func98,ntmps98;go_wp2;go_ret;exact⟨rfl,rfl⟩
def dQ (n c:Int):Int:=if c=0∧0<n∨1<c∧n=9 then 2 else if c<128 then 1 else 0
def fN (x n c:Int):Int:=bits .or .u64 x (IntKind.u64.wrap (IntKind.u64.wrap (bits .andNot .u8 c 128) * 2 ^ (7 * n).toNat))
theorem vR(p:Nat)(x n c:Int)(w:World)(h:RdAt w p x n 0)(K:0≤n)(P:n≤9)(L:0≤c) :
  Calls prog 96 #[.pointer (some ⟨p,0,none⟩),.int .u8 c] w fun e w'=>e=.returned (.int .i64 (dQ n c))∧RdAt w' p (fN x n c) (n+1) (dQ n c)∧Only (fun b=>b=p) w w':=by
 obtain⟨m,r,s,u,y⟩:=h.cells;have s1:IntKind.i64.wrap (n+1)=n+1:=IntWalk.i64_in _ aA;have M:IntKind.i64.wrap (n+1-1)=n:=by rw[show n+1-1=n by omega];exact IntWalk.i64_in _ aA
 have N:IntKind.i64.wrap (7 * n)=7 * n:=IntWalk.i64_in _ aA;have I:prog.follows .mixedOrders=true:=aC;by_cases g0:c=0;have J:(c == 0)=true:=by simp[g0]
 have O:¬1<c:=aA;have G:c<128:=aA;by_cases g1:0<n
 ·have H:1<n+1:=aA;have R:=aI (show dQ n c=2 by unfold dQ;rw[if_pos (.inl ⟨g0,g1⟩)]);clear g0;go_enter func96,ntmps96;go_wp2;have j:(w.setCell ⟨p,1,none⟩ (.int .i64 (n+1))).heap[p]?=some (.cells #[.int .u64 x,.int .i64 (n+1),.int .i64 0] 164 (0,0)):=heap_setCell_same _ _ 1 _ _ _ h;have z:Only (fun b=>b=p) w (w.setCell ⟨p,1,none⟩ (.int .i64 (n+1))):=(Only.refl (fun b=>b=p) w).setCell (p:=⟨p,1,none⟩) (.inl rfl) _;obtain⟨W1,E⟩:=aG (w.setCell ⟨p,1,none⟩ (.int .i64 (n+1)));rw[E]at j z ⊢;clear E m r s u y;obtain⟨m,r,s,u,y⟩:=RdAt.cells j;go_region;have B:=heap_setCell_same _ _ 0 _ _ (.int .u64 (fN x n c)) j;have C:=(z.setCell (p:=⟨p,0,none⟩) (.inl rfl) (.int .u64 (fN x n c))).drew;obtain⟨W2,l⟩:=aG ((W1.setCell ⟨p,0,none⟩ (.int .u64 (fN x n c))).drew);have D:W2.heap[p]?=some (.cells #[.int .u64 (fN x n c),.int .i64 (n+1),.int .i64 0] 164 (0,0)):=by rw[← l];exact B
  rw[l]at C;have A:=l;unfold fN at A;rw[A];clear l A B j z m r s u y;obtain⟨m,r,s,u,y⟩:=RdAt.cells D;have F:=heap_setCell_same _ _ 2 _ _ (.int .i64 2) D;go_wp2;go_ret;rw[R.out];exact⟨rfl,F,C.setCell (p:=⟨p,2,none⟩) (.inl rfl) _⟩
 have H:¬1<n+1:=aA;have R:=aI (show dQ n c=1 by unfold dQ;rw[if_neg aA,if_pos G]);clear g0;rotate_left;have J:(c == 0)=false:=by simp[g0]
 by_cases g1:1<c
 ·by_cases g2:n=9
  ·have H:(n+1 == 10)=true:=by simp[g2]
   have R:=aI (show dQ n c=2 by unfold dQ;rw[if_pos (.inr ⟨g1,g2⟩)]);clear g2;go_enter func96,ntmps96;go_wp2;have j:(w.setCell ⟨p,1,none⟩ (.int .i64 (n+1))).heap[p]?=some (.cells #[.int .u64 x,.int .i64 (n+1),.int .i64 0] 164 (0,0)):=heap_setCell_same _ _ 1 _ _ _ h;have z:Only (fun b=>b=p) w (w.setCell ⟨p,1,none⟩ (.int .i64 (n+1))):=(Only.refl (fun b=>b=p) w).setCell (p:=⟨p,1,none⟩) (.inl rfl) _;obtain⟨W1,E⟩:=aG (w.setCell ⟨p,1,none⟩ (.int .i64 (n+1)));rw[E]at j z ⊢;clear E m r s u y;obtain⟨m,r,s,u,y⟩:=RdAt.cells j;go_region;have B:=heap_setCell_same _ _ 0 _ _ (.int .u64 (fN x n c)) j;have C:=(z.setCell (p:=⟨p,0,none⟩) (.inl rfl) (.int .u64 (fN x n c))).drew;obtain⟨W2,l⟩:=aG ((W1.setCell ⟨p,0,none⟩ (.int .u64 (fN x n c))).drew);have D:W2.heap[p]?=some (.cells #[.int .u64 (fN x n c),.int .i64 (n+1),.int .i64 0] 164 (0,0)):=by rw[← l];exact B
   rw[l]at C;have A:=l;unfold fN at A;rw[A];clear l A B j z m r s u y;obtain⟨m,r,s,u,y⟩:=RdAt.cells D;have F:=heap_setCell_same _ _ 2 _ _ (.int .i64 2) D;go_wp2;go_ret;rw[R.out];exact⟨rfl,F,C.setCell (p:=⟨p,2,none⟩) (.inl rfl) _⟩
  have H:(n+1 == 10)=false:=by simp;omega
  by_cases g3:c<128
  ·skip
   have R:=aI (show dQ n c=1 by unfold dQ;rw[if_neg aA,if_pos g3]);go_enter func96,ntmps96;go_wp2;have j:(w.setCell ⟨p,1,none⟩ (.int .i64 (n+1))).heap[p]?=some (.cells #[.int .u64 x,.int .i64 (n+1),.int .i64 0] 164 (0,0)):=heap_setCell_same _ _ 1 _ _ _ h;have z:Only (fun b=>b=p) w (w.setCell ⟨p,1,none⟩ (.int .i64 (n+1))):=(Only.refl (fun b=>b=p) w).setCell (p:=⟨p,1,none⟩) (.inl rfl) _;obtain⟨W1,E⟩:=aG (w.setCell ⟨p,1,none⟩ (.int .i64 (n+1)));rw[E]at j z ⊢;clear E m r s u y;obtain⟨m,r,s,u,y⟩:=RdAt.cells j;go_region;have B:=heap_setCell_same _ _ 0 _ _ (.int .u64 (fN x n c)) j;have C:=(z.setCell (p:=⟨p,0,none⟩) (.inl rfl) (.int .u64 (fN x n c))).drew;obtain⟨W2,l⟩:=aG ((W1.setCell ⟨p,0,none⟩ (.int .u64 (fN x n c))).drew);have D:W2.heap[p]?=some (.cells #[.int .u64 (fN x n c),.int .i64 (n+1),.int .i64 0] 164 (0,0)):=by rw[← l];exact B
   rw[l]at C;have A:=l;unfold fN at A;rw[A];clear l A B j z m r s u y;obtain⟨m,r,s,u,y⟩:=RdAt.cells D;have F:=heap_setCell_same _ _ 2 _ _ (.int .i64 1) D;go_wp2;go_ret;rw[R.out];exact⟨rfl,F,C.setCell (p:=⟨p,2,none⟩) (.inl rfl) _⟩
  skip
  have R:=aI (show dQ n c=0 by unfold dQ;rw[if_neg aA,if_neg g3]);go_enter func96,ntmps96;go_wp2;have j:(w.setCell ⟨p,1,none⟩ (.int .i64 (n+1))).heap[p]?=some (.cells #[.int .u64 x,.int .i64 (n+1),.int .i64 0] 164 (0,0)):=heap_setCell_same _ _ 1 _ _ _ h;have z:Only (fun b=>b=p) w (w.setCell ⟨p,1,none⟩ (.int .i64 (n+1))):=(Only.refl (fun b=>b=p) w).setCell (p:=⟨p,1,none⟩) (.inl rfl) _;obtain⟨W1,E⟩:=aG (w.setCell ⟨p,1,none⟩ (.int .i64 (n+1)));rw[E]at j z ⊢;clear E m r s u y;obtain⟨m,r,s,u,y⟩:=RdAt.cells j;go_region;have B:=heap_setCell_same _ _ 0 _ _ (.int .u64 (fN x n c)) j;have C:=(z.setCell (p:=⟨p,0,none⟩) (.inl rfl) (.int .u64 (fN x n c))).drew;obtain⟨W2,l⟩:=aG ((W1.setCell ⟨p,0,none⟩ (.int .u64 (fN x n c))).drew);have D:W2.heap[p]?=some (.cells #[.int .u64 (fN x n c),.int .i64 (n+1),.int .i64 0] 164 (0,0)):=by rw[← l];exact B
  rw[l]at C;have A:=l;unfold fN at A;rw[A];clear l A B j z m r s u y;obtain⟨m,r,s,u,y⟩:=RdAt.cells D;have F:=heap_setCell_same _ _ 2 _ _ (.int .i64 0) D;go_wp2;go_ret;rw[R.out];exact⟨rfl,F,C.setCell (p:=⟨p,2,none⟩) (.inl rfl) _⟩
 have G:c<128:=aA;have R:=aI (show dQ n c=1 by unfold dQ;rw[if_neg aA,if_pos G]);rotate_left
 all_goals
  go_enter func96,ntmps96;go_wp2;have j:(w.setCell ⟨p,1,none⟩ (.int .i64 (n+1))).heap[p]?=some (.cells #[.int .u64 x,.int .i64 (n+1),.int .i64 0] 164 (0,0)):=heap_setCell_same _ _ 1 _ _ _ h;have z:Only (fun b=>b=p) w (w.setCell ⟨p,1,none⟩ (.int .i64 (n+1))):=(Only.refl (fun b=>b=p) w).setCell (p:=⟨p,1,none⟩) (.inl rfl) _;obtain⟨W1,E⟩:=aG (w.setCell ⟨p,1,none⟩ (.int .i64 (n+1)));rw[E]at j z ⊢;clear E m r s u y;obtain⟨m,r,s,u,y⟩:=RdAt.cells j;go_region;have B:=heap_setCell_same _ _ 0 _ _ (.int .u64 (fN x n c)) j;have C:=(z.setCell (p:=⟨p,0,none⟩) (.inl rfl) (.int .u64 (fN x n c))).drew;obtain⟨W2,l⟩:=aG ((W1.setCell ⟨p,0,none⟩ (.int .u64 (fN x n c))).drew);have D:W2.heap[p]?=some (.cells #[.int .u64 (fN x n c),.int .i64 (n+1),.int .i64 0] 164 (0,0)):=by rw[← l];exact B
  rw[l]at C;have A:=l;unfold fN at A;rw[A];clear l A B j z m r s u y;obtain⟨m,r,s,u,y⟩:=RdAt.cells D;have F:=heap_setCell_same _ _ 2 _ _ (.int .i64 1) D;go_wp2;go_ret;rw[R.out];exact⟨rfl,F,C.setCell (p:=⟨p,2,none⟩) (.inl rfl) _⟩
end Go.Proofs.YtbkkolfpegplgaaGreatDoor
