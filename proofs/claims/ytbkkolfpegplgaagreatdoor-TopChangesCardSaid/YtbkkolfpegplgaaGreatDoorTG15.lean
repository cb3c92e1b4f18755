import Derived.Test.YtbkkolfpegplgaaGreatDoorTG14
import Derived.Test.YtbkkolfpegplgaaGreatDoorTG6
import Derived.Deep.QuietTactic
open Nat renaming add_assoc→PC,le_refl→PD,lt_or_ge→PE
open Go.Proofs.Tryz
set_option maxHeartbeats 800000
namespace Go.Proofs.YtbkkolfpegplgaaGreatDoor
open Go.RowKit
abbrev aW (zs:List Int) (i:Nat):Int:=zs.getD i 0
def kR (zs:List Int) (a:Nat):Nat→Int
 | 0=>0
 | k+1=>fN (kR zs a k) k (aW zs (a+k))
def Opens (zs:List Int) (a k:Nat):Prop:=∀i,i<k→dQ i (aW zs (a+i))=0
structure qG (zs:List Int) (a k:Nat):Prop where
 lt:a+k<zs.length
 opens:Opens zs a k
 stop:dQ k (aW zs (a+k))≠0
theorem DA(c:Int):dQ 9 c≠0:=by
 unfold dQ;by_cases h:c=0∨1<c
 ·rw[if_pos (by rcases h with h | h<;>simp[h])];decide
 rw[if_neg aA,if_pos aA];decide
theorem xL(n c:Int):dQ n c=0∨dQ n c=1∨dQ n c=2:=by
 unfold dQ;split
 ·exact .inr (.inr rfl)
 split
 ·exact .inr (.inl rfl)
 exact .inl rfl
theorem Opens.most{zs:List Int}{a k:Nat}(h:Opens zs a k):k≤9:=by
 rcases PE 9 k with h9 | h9
 ·exact absurd (h 9 h9) (DA _)
 exact h9
theorem Opens.succ{zs:List Int}{a k:Nat}(h:Opens zs a k)(hs:dQ k (aW zs (a+k))=0):Opens zs a (k+1):=by
 intro i hi;by_cases e:i=k
 ·subst e;exact hs
 exact h i aA
theorem Tg(zs:List Int)(a:Nat)(l:a≤zs.length):(∃k,qG zs a k)∨Opens zs a (zs.length-a):=by
 have b:∀m,a+m≤zs.length→(∃k,qG zs a k)∨Opens zs a m:=by
  intro m;induction m with
  | zero=>intro _;exact .inr (fun i hi=>absurd hi aA)
  | succ m ih=>
    intro j;rcases ih aA with h | h
    ·exact .inl h
    by_cases hs:dQ m (aW zs (a+m))=0
    ·exact .inr (h.succ hs)
    exact .inl ⟨m,aA,h,hs⟩
 exact b _ aA
theorem Ints.from0{k:IntKind}{w:World}{a:Option Addr}{len:Nat}{zs:List Int}(h:Ints k w a len zs)(h0:0<len) :
  ∃b off,a=some ⟨b,off,none⟩∧b<w.heap.size∧∀i,i<len→w.cell? ⟨b,off+i,none⟩=some (.int k (zs.getD i 0)):=by
 obtain⟨b,off,e,j,_⟩:=h.cells 0 h0;refine⟨b,off,e,j,fun i hi=>?_⟩;obtain⟨p,l,m,_,n⟩:=h.cells i hi;rw[e]at m
 cases m
 exact n
theorem cU(c n:Int)(b:c≠0)(w:World):Calls prog 73 #[.int .i64 c,.int .i64 n] w fun e w'=>e=.returned (.iface 107 (.agg #[.int .i64 c,.int .i64 n]))∧w=w':=by
 have j:(c == 0)=false:=by simp[b]
 clear b;go_enter func73,ntmps73;go_wp2;go_ret;exact⟨rfl,rfl⟩
def xF (zs:List Int) (at':Int) (k:Nat):Value:=
 if dQ k (aW zs (at'.toNat+k))=1 then .tuple #[.int .u64 (kR zs at'.toNat (k+1)),.int .i64 (at'+(k+1)),.nilIface]
 else .tuple #[.int .u64 0,.int .i64 0,.iface 107 (.agg #[.int .i64 6,.int .i64 at'])]
def Cn (at':Int):Value:=.tuple #[.int .u64 0,.int .i64 0,.iface 107 (.agg #[.int .i64 5,.int .i64 at'])]
theorem Uj(a:Option Addr)(len cap:Nat)(at':Int)(w:World)(ho:at'<0∨len≤at')(m:-4000000100≤at'∧at'≤4000000100) :
  Calls prog 54 #[.slice a len cap,.int .i64 at'] w fun e w'=>e=.returned (Cn at')∧Below w.heap.size w w':=by
 have K:=aI (fun W=>cU 5 at' aB W);unfold Cn;rcases ho with ho | ho
 ·have b:¬0≤at':=aA;go_enter func54,ntmps54;go_wp2_with fail;refine(K _).mono ?_;rintro e j ⟨rfl,rfl⟩;go_wp2;go_ret3;exact⟨rfl,aJ (Below.refl _ _) _⟩
 have b:0≤at':=aA;have l:¬at'<len:=aA;go_enter func54,ntmps54;go_wp2_with fail;refine(K _).mono ?_;rintro e j ⟨rfl,rfl⟩;go_wp2;go_ret3;exact⟨rfl,aJ (Below.refl _ _) _⟩
theorem uY{x:Int}(h:(Lit.int .u8 x).wf=true):0≤x∧x≤255:=by
 simp[Lit.wf,IntKind.min,IntKind.max,IntKind.signed,IntKind.bits]at h;omega
theorem Ac(a:Option Addr)(len cap:Nat)(zs:List Int)(at':Int)(K:Nat)(w:World)(h:Ints .u8 w a len zs)(ha:0≤at'∧at'<len)(S:len≤cap)(A1:len≤4000000000)(I:qG zs at'.toNat K) :
  Calls prog 54 #[.slice a len cap,.int .i64 at'] w fun e w'=>e=.returned (xF zs at' K)∧Below w.heap.size w w':=by
 obtain⟨a0,rfl⟩:∃a0:Nat,at'=a0:=⟨at'.toNat,aA⟩;obtain⟨Z,A0⟩:=ha;have hl:=h.length;obtain⟨b,off,rfl,A,j⟩:=h.from0 aA;have p:=aI j;have J:=aI (fun i (hi:i<len)=>uY (h.getD_wf hi));have T:(a0:Int)≤len:=aA;have z:(a0:Int).toNat=a0:=aA;have D:=aI (I);rw[z]at D;have U:=D.opens.most;have V:=D.lt;clear h j I;go_enter func54,ntmps54;go_wp2;go_loopw [22] (fun c wr=>∃k:Nat,c=.int .i64 k∧k≤K∧RdAt wr w.heap.size (kR zs a0 k) k 0∧Below w.heap.size w wr)
  (fun c _=>len-a0-(intOf c).toNat)
 case atStart=>exact⟨0,rfl,aA,aK _ _ rfl,aJ (Below.refl _ _) _⟩
 obtain⟨k,rfl,hk,R,s⟩:=hrel;have C:=aI s;have L:=aI R;have X:=s.size;clear R;rcases PE k K with hlt | hge
 ·skip
  have j:=((It s).1 b (off+(a0+k)) A).trans (p (a0+k) aA);have m:=(J (a0+k) aA).1;rw[← PC]at j;have P:(k:Int)<((len-a0:Nat):Int):=aA;have Q:(0:Int)≤(k:Int):=aA;have hs:dQ k (aW zs (a0+k))=0:=D.opens k hlt;have l:=aI (fun W (B:RdAt W w.heap.size (kR zs a0 k) k 0)=>vR w.heap.size (kR zs a0 k) k (aW zs (a0+k)) W B aA aA m);rw[hs,show fN (kR zs a0 k) k (aW zs (a0+k))=kR zs a0 (k+1)from rfl]at l;obtain⟨y,r⟩:=aG (aW zs (a0+k));unfold aW at r l;rw[r]at l j;clear m hs r s;go_wp2_with fail;refine(l _ L).mono ?_;rintro e O ⟨rfl,n,u⟩;have E:=aI n;have F:=aI (C.trans (u.below C.size (fun q H=>by subst H;exact PD _)));clear n u;go_wp2;go_roundw
  case rel=>exact⟨k+1,by go_num,aA,by have:=E.out;rwa [show(k:Int)+1=((k+1:Nat):Int) by omega]at this,F⟩
  simp[intOf];omega
 obtain rfl:k=K:=aA;rcases xL k (aW zs (a0+k))with h0 | h1 | h2
 ·exact absurd h0 D.stop
 ·have M:=aI (show xF zs a0 k=.tuple #[.int .u64 (kR zs a0 (k+1)),.int .i64 (a0+(k+1)),.nilIface] by unfold xF;rw[z,if_pos h1]);have j:=((It s).1 b (off+(a0+k)) A).trans (p (a0+k) aA);have m:=(J (a0+k) aA).1;rw[← PC]at j;have P:(k:Int)<((len-a0:Nat):Int):=aA;have Q:(0:Int)≤(k:Int):=aA;have hs:dQ k (aW zs (a0+k))=1:=h1;have l:=aI (fun W (B:RdAt W w.heap.size (kR zs a0 k) k 0)=>vR w.heap.size (kR zs a0 k) k (aW zs (a0+k)) W B aA aA m);rw[hs,show fN (kR zs a0 k) k (aW zs (a0+k))=kR zs a0 (k+1)from rfl]at l;obtain⟨y,r⟩:=aG (aW zs (a0+k));unfold aW at r l;rw[r]at l j;clear m hs r s;go_wp2_with fail;refine(l _ L).mono ?_;rintro e O ⟨rfl,n,u⟩;have E:=aI n;have F:=aI (C.trans (u.below C.size (fun q H=>by subst H;exact PD _)));clear n u;have G:=aI (Ol w.heap.size _ _ _ O E);rw[if_pos rfl]at G;have N:=aI (fun W (B:RdAt W w.heap.size (kR zs a0 (k+1)) (k+1) 1)=>Zp w.heap.size _ _ _ W B);clear h1;go_wp2_with fail;refine G.mono ?_;rintro e w2 ⟨rfl,rfl⟩;go_wp2_with fail;refine(N _ E).mono ?_;rintro e w2 ⟨rfl,rfl⟩;go_wp2;go_ret3;rw[M.out];exact⟨rfl,F⟩
 have M:=aI (show xF zs a0 k=.tuple #[.int .u64 0,.int .i64 0,.iface 107 (.agg #[.int .i64 6,.int .i64 a0])] by unfold xF;rw[z,if_neg aA]);have Y:=aI (fun W=>cU 6 a0 aB W);have j:=((It s).1 b (off+(a0+k)) A).trans (p (a0+k) aA);have m:=(J (a0+k) aA).1;rw[← PC]at j;have P:(k:Int)<((len-a0:Nat):Int):=aA;have Q:(0:Int)≤(k:Int):=aA;have hs:dQ k (aW zs (a0+k))=2:=h2;have l:=aI (fun W (B:RdAt W w.heap.size (kR zs a0 k) k 0)=>vR w.heap.size (kR zs a0 k) k (aW zs (a0+k)) W B aA aA m);rw[hs,show fN (kR zs a0 k) k (aW zs (a0+k))=kR zs a0 (k+1)from rfl]at l;obtain⟨y,r⟩:=aG (aW zs (a0+k));unfold aW at r l;rw[r]at l j;clear m hs r s;go_wp2_with fail;refine(l _ L).mono ?_;rintro e O ⟨rfl,n,u⟩;have E:=aI n;have F:=aI (C.trans (u.below C.size (fun q H=>by subst H;exact PD _)));clear n u;clear h2;go_wp2_with fail;refine(Y _).mono ?_;rintro e w2 ⟨rfl,rfl⟩;go_wp2;go_ret3;rw[M.out];exact⟨rfl,F⟩
theorem Jr(a:Option Addr)(len cap:Nat)(zs:List Int)(at':Int)(w:World)(h:Ints .u8 w a len zs)(T:0≤at'∧at'<len)(F:len≤cap)(U:len≤4000000000)(s:Opens zs at'.toNat (zs.length-at'.toNat)) :
  Calls prog 54 #[.slice a len cap,.int .i64 at'] w fun e w'=>e=.returned (Cn at')∧Below w.heap.size w w':=by
 obtain⟨a0,rfl⟩:∃a0:Nat,at'=a0:=⟨at'.toNat,aA⟩;obtain⟨Q,R⟩:=T;have G:=h.length;obtain⟨b,off,rfl,B,j⟩:=h.from0 aA;have m:=aI j;have H:=aI (fun i (hi:i<len)=>uY (h.getD_wf hi));have I:(a0:Int)≤len:=aA;have z:(a0:Int).toNat=a0:=aA;have u:=aI (s);rw[z]at u;rw[G]at u;have J:=u.most;have K:=aI (fun W=>cU 5 a0 aB W);clear h j s;have RV:=aI (show Cn a0=.tuple #[.int .u64 0,.int .i64 0,.iface 107 (.agg #[.int .i64 5,.int .i64 a0])] from rfl);go_enter func54,ntmps54;go_wp2;go_loopw [22] (fun c wr=>∃k:Nat,c=.int .i64 k∧a0+k≤len∧RdAt wr w.heap.size (kR zs a0 k) k 0∧Below w.heap.size w wr)
  (fun c _=>len-a0-(intOf c).toNat)
 case atStart=>exact⟨0,rfl,aA,aK _ _ rfl,aJ (Below.refl _ _) _⟩
 obtain⟨k,rfl,Y,D,p⟩:=hrel;have A:=aI p;have L:=aI D;have M:=p.size;clear D;rcases PE (a0+k) len with hlt | hge
 ·skip
  have j:=((It p).1 b (off+(a0+k)) B).trans (m (a0+k) aA);have n:=(H (a0+k) aA).1;rw[← PC]at j;have N:(k:Int)<((len-a0:Nat):Int):=aA;have X:(0:Int)≤(k:Int):=aA;have hs:dQ k (aW zs (a0+k))=0:=u.out k aA;have l:=aI (fun W (V:RdAt W w.heap.size (kR zs a0 k) k 0)=>vR w.heap.size (kR zs a0 k) k (aW zs (a0+k)) W V aA aA n);rw[hs,show fN (kR zs a0 k) k (aW zs (a0+k))=kR zs a0 (k+1)from rfl]at l;obtain⟨y,C⟩:=aG (aW zs (a0+k));unfold aW at C l;rw[C]at l j;clear n hs C p;go_wp2_with fail;refine(l _ L).mono ?_;rintro e Z ⟨rfl,r,E⟩;have O:=aI r;have P:=aI (A.trans (E.below A.size (fun q S=>by subst S;exact PD _)));clear r E;go_wp2;go_roundw
  case rel=>exact⟨k+1,by go_num,aA,by have:=O.out;rwa [show(k:Int)+1=((k+1:Nat):Int) by omega]at this,P⟩
  simp[intOf];omega
 have N:¬(k:Int)<((len-a0:Nat):Int):=aA;clear p;go_wp2_with fail;refine(K _).mono ?_;rintro e w2 ⟨rfl,rfl⟩;go_wp2;go_ret3;rw[RV.out];exact⟨rfl,A⟩
theorem Rx(c:Int)(h0:0≤c)(h1:c≤255):bits .andNot .u8 c 128=c % 128:=by
 have all:∀n:Fin 256,bits .andNot .u8 (n.val:Int) 128=(n.val:Int) % 128:=by decide +kernel
 have:=all ⟨c.toNat,aA⟩;simpa only [Int.toNat_of_nonneg h0]using this
theorem Un(x n c:Int)(h0:0≤c)(h1:c≤255):fN x n c=bits .or .u64 x (IntKind.u64.wrap (c % 128 * 2 ^ (7 * n).toNat)):=by
 unfold fN;rw[Rx c h0 h1,IntWalk.u64_in (c % 128) aA]
theorem DB{n c:Int}(h:dQ n c=1):¬(c=0∧0<n∨1<c∧n=9)∧c<128:=by
 unfold dQ at h;split at h
 ·simp at h
 split at h
 ·exact⟨aF,aF⟩
 simp at h
theorem DC{n c:Int}(h:dQ n c=0):¬(c=0∧0<n∨1<c∧n=9)∧¬c<128:=by
 unfold dQ at h;split at h
 ·simp at h
 split at h
 ·simp at h
 exact⟨aF,aF⟩
def MP (zs:List Int) (a k:Nat):Int:=if dQ k (aW zs (a+k))=1 then kR zs a (k+1)else 0
def JW:Value:=.tuple #[.int .u64 0,.int .i64 0,.int .i64 5]
end Go.Proofs.YtbkkolfpegplgaaGreatDoor
