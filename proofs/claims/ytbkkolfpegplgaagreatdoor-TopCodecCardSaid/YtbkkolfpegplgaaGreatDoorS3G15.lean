/- varint.Read: what the bytes from an index on are, and its contract. The reference's Scan and Read. The reference's Read beside varint.Read. -/
import Derived.Test.YtbkkolfpegplgaaGreatDoorS3G14
import Derived.Test.YtbkkolfpegplgaaGreatDoorS3G6
import Derived.Deep.QuietTactic
import Derived.OwnWalk
set_option maxHeartbeats 800000
namespace Go.Proofs.YtbkkolfpegplgaaGreatDoor
open Go.RowKit
abbrev byteAt (zs:List Int) (i:Nat):Int:=zs.getD i 0
def acc (zs:List Int) (a:Nat):Nat→Int
 | 0=>0
 | k+1=>putX (acc zs a k) k (byteAt zs (a+k))
def Opens (zs:List Int) (a k:Nat):Prop:=∀i,i<k→putS i (byteAt zs (a+i))=0
structure Stops (zs:List Int) (a k:Nat):Prop where
 lt:a+k<zs.length
 opens:Opens zs a k
 stop:putS k (byteAt zs (a+k))≠0
theorem putS_9(c:Int):putS 9 c≠0:=by
 unfold putS;by_cases h:c=0∨1<c
 ·rw[if_pos (by rcases h with h | h<;>simp[h])];decide
 ·rw[if_neg (by omega),if_pos (by omega)];decide
theorem putS_cases(n c:Int):putS n c=0∨putS n c=1∨putS n c=2:=by
 unfold putS;split
 ·exact .inr (.inr rfl)
 ·split
  ·exact .inr (.inl rfl)
  ·exact .inl rfl
theorem Opens.most{zs:List Int}{a k:Nat}(h:Opens zs a k):k≤9:=by
 rcases Nat.lt_or_ge 9 k with h9 | h9
 ·exact absurd (h 9 h9) (putS_9 _)
 ·exact h9
theorem Opens.succ{zs:List Int}{a k:Nat}(h:Opens zs a k)(hs:putS k (byteAt zs (a+k))=0):Opens zs a (k+1):=by
 intro i hi;by_cases e:i=k
 ·subst e;exact hs
 ·exact h i (by omega)
theorem Ints.from0{k:IntKind}{w:World}{a:Option Addr}{len:Nat}{zs:List Int}(h:Ints k w a len zs)(h0:0<len) :
  ∃b off,a=some ⟨b,off,none⟩∧b<w.heap.size∧∀i,i<len→w.cell? ⟨b,off+i,none⟩=some (.int k (zs.getD i 0)):=by
 obtain⟨b,off,e,hlt,_⟩:=h.cells 0 h0;refine⟨b,off,e,hlt,fun i hi=>?_⟩;obtain⟨b',off',e',_,hc⟩:=h.cells i hi;rw[e]at e'
 cases e'
 exact hc
theorem z17(c n:Int)(hc:c≠0)(w:World):Calls Tryz.prog 73 #[.int .i64 c,.int .i64 n] w fun e w'=>e=.returned (.iface 107 (.agg #[.int .i64 c,.int .i64 n]))∧w=w':=by
 have q0:(c == 0)=false:=by simp[hc]
 clear hc;go_enter Tryz.func73,Tryz.ntmps73
 go_wp2
 go_ret
 exact⟨rfl,rfl⟩
def readV (zs:List Int) (at':Int) (k:Nat):Value:=
 if putS k (byteAt zs (at'.toNat+k))=1 then .tuple #[.int .u64 (acc zs at'.toNat (k+1)),.int .i64 (at'+(k+1)),.nilIface]
 else .tuple #[.int .u64 0,.int .i64 0,.iface 107 (.agg #[.int .i64 6,.int .i64 at'])]
def shortV (at':Int):Value:=.tuple #[.int .u64 0,.int .i64 0,.iface 107 (.agg #[.int .i64 5,.int .i64 at'])]
theorem read_out(a:Option Addr)(len cap:Nat)(at':Int)(w:World)(ho:at'<0∨len≤at')(hb:-4000000100≤at'∧at'≤4000000100) :
  Calls Tryz.prog 54 #[.slice a len cap,.int .i64 at'] w fun e w'=>e=.returned (shortV at')∧Below w.heap.size w w':=by
 have K:=z7 (fun W=>z17 5 at' (by decide) W);unfold shortV;rcases ho with ho | ho
 ·have q0:¬0≤at':=by omega
  go_enter Tryz.func54,Tryz.ntmps54
  go_wp2_with fail
  refine(K.out _).mono ?_;rintro e w1 ⟨rfl,rfl⟩;go_wp2
  go_ret3
  exact⟨rfl,zc (Below.refl _ _) _⟩
 ·have q0:0≤at':=by omega
  have q1:¬at'<len:=by omega
  go_enter Tryz.func54,Tryz.ntmps54
  go_wp2_with fail
  refine(K.out _).mono ?_;rintro e w1 ⟨rfl,rfl⟩;go_wp2
  go_ret3
  exact⟨rfl,zc (Below.refl _ _) _⟩
theorem byte_of_wf'{x:Int}(h:(Lit.int .u8 x).wf=true):0≤x∧x≤255:=by
 simp[Lit.wf,IntKind.min,IntKind.max,IntKind.signed,IntKind.bits]at h;omega
theorem read_stop(a:Option Addr)(len cap:Nat)(zs:List Int)(at':Int)(K:Nat)(w:World)(h:Ints .u8 w a len zs)(ha:0≤at'∧at'<len)(hcap:len≤cap)(hlm:len≤4000000000)(hst:Stops zs at'.toNat K) :
  Calls Tryz.prog 54 #[.slice a len cap,.int .i64 at'] w fun e w'=>e=.returned (readV zs at' K)∧Below w.heap.size w w':=by
 obtain⟨a0,rfl⟩:∃a0:Nat,at'=a0:=⟨at'.toNat,by omega⟩;obtain⟨ha0,ha1⟩:=ha;have hl:=h.length;obtain⟨b,off,rfl,hbl,hcell⟩:=h.from0 (by omega);have CELL:=z7 hcell;have WF:=z7 (fun i (hi:i<len)=>byte_of_wf' (h.getD_wf hi));have hx1:(a0:Int)≤len:=by omega
 have hx2:(a0:Int).toNat=a0:=by omega
 have ST:=z7 (hst);rw[hx2]at ST;have hK9:=ST.out.opens.most;have hKl:=ST.out.lt;clear h hcell hst;go_enter Tryz.func54,Tryz.ntmps54
 go_wp2
 go_loopw [22] (fun c wr=>∃k:Nat,c=.int .i64 k∧k≤K∧RdAt wr w.heap.size (acc zs a0 k) k 0∧Below w.heap.size w wr)
  (fun c _=>len-a0-(intOf c).toNat)
 case atStart=>exact⟨0,rfl,by omega,ze _ _ rfl,zc (Below.refl _ _) _⟩
 case round=>
  obtain⟨k,rfl,hk,hr,hb⟩:=hrel;have HB:=z7 hb;have HR:=z7 hr;have hlw:=hb.size;clear hr;rcases Nat.lt_or_ge k K with hlt | hge
  ·skip
   have hcell:=((bcell hb).1 b (off+(a0+k)) hbl).trans (CELL.out (a0+k) (by omega));have hc0:=(WF.out (a0+k) (by omega)).1;rw[← Nat.add_assoc]at hcell;have i1:(k:Int)<((len-a0:Nat):Int):=by omega
   have i0:(0:Int)≤(k:Int):=by omega
   have hs:putS k (byteAt zs (a0+k))=0:=ST.out.opens k hlt;have PUT:=z7 (fun W (hW:RdAt W w.heap.size (acc zs a0 k) k 0)=>put_any w.heap.size (acc zs a0 k) k (byteAt zs (a0+k)) W hW (by omega) (by omega) hc0);rw[hs,show putX (acc zs a0 k) k (byteAt zs (a0+k))=acc zs a0 (k+1)from rfl]at PUT;obtain⟨y,ey⟩:∃y,byteAt zs (a0+k)=y:=⟨_,rfl⟩;unfold byteAt at ey PUT;rw[ey]at PUT hcell;clear hc0 hs ey hb;go_wp2_with fail
   refine(PUT.out _ HR.out).mono ?_;rintro e w1 ⟨rfl,hr1,o1⟩;have R1:=z7 hr1;have B1:=z7 (HB.out.trans (o1.below HB.out.size (fun q hq=>by subst hq;exact Nat.le_refl _)));clear hr1 o1;go_wp2
   go_roundw
   case rel=>exact⟨k+1,by go_num,by omega,by have:=R1.out;rwa [show(k:Int)+1=((k+1:Nat):Int) by omega]at this,B1.out⟩
   case measure=>simp[intOf];omega
  ·obtain rfl:k=K:=by omega
   rcases putS_cases k (byteAt zs (a0+k))with h0 | h1 | h2
   ·exact absurd h0 ST.out.stop
   ·have VV:=z7 (show readV zs a0 k=.tuple #[.int .u64 (acc zs a0 (k+1)),.int .i64 (a0+(k+1)),.nilIface] by unfold readV;rw[hx2,if_pos h1])
    have hcell:=((bcell hb).1 b (off+(a0+k)) hbl).trans (CELL.out (a0+k) (by omega));have hc0:=(WF.out (a0+k) (by omega)).1;rw[← Nat.add_assoc]at hcell;have i1:(k:Int)<((len-a0:Nat):Int):=by omega
    have i0:(0:Int)≤(k:Int):=by omega
    have hs:putS k (byteAt zs (a0+k))=1:=h1;have PUT:=z7 (fun W (hW:RdAt W w.heap.size (acc zs a0 k) k 0)=>put_any w.heap.size (acc zs a0 k) k (byteAt zs (a0+k)) W hW (by omega) (by omega) hc0);rw[hs,show putX (acc zs a0 k) k (byteAt zs (a0+k))=acc zs a0 (k+1)from rfl]at PUT;obtain⟨y,ey⟩:∃y,byteAt zs (a0+k)=y:=⟨_,rfl⟩;unfold byteAt at ey PUT;rw[ey]at PUT hcell;clear hc0 hs ey hb;go_wp2_with fail
    refine(PUT.out _ HR.out).mono ?_;rintro e w1 ⟨rfl,hr1,o1⟩;have R1:=z7 hr1;have B1:=z7 (HB.out.trans (o1.below HB.out.size (fun q hq=>by subst hq;exact Nat.le_refl _)));clear hr1 o1;have VAL:=z7 (value_any w.heap.size _ _ _ w1 R1.out);rw[if_pos rfl]at VAL;have LEN:=z7 (fun W (hW:RdAt W w.heap.size (acc zs a0 (k+1)) (k+1) 1)=>len_any w.heap.size _ _ _ W hW);clear h1;go_wp2_with fail
    refine VAL.out.mono ?_;rintro e w2 ⟨rfl,rfl⟩;go_wp2_with fail
    refine(LEN.out _ R1.out).mono ?_;rintro e w2 ⟨rfl,rfl⟩;go_wp2
    go_ret3
    rw[VV.out];exact⟨rfl,B1.out⟩
   ·have VV:=z7 (show readV zs a0 k=.tuple #[.int .u64 0,.int .i64 0,.iface 107 (.agg #[.int .i64 6,.int .i64 a0])] by unfold readV;rw[hx2,if_neg (by omega)])
    have FN:=z7 (fun W=>z17 6 a0 (by decide) W);have hcell:=((bcell hb).1 b (off+(a0+k)) hbl).trans (CELL.out (a0+k) (by omega));have hc0:=(WF.out (a0+k) (by omega)).1;rw[← Nat.add_assoc]at hcell;have i1:(k:Int)<((len-a0:Nat):Int):=by omega
    have i0:(0:Int)≤(k:Int):=by omega
    have hs:putS k (byteAt zs (a0+k))=2:=h2;have PUT:=z7 (fun W (hW:RdAt W w.heap.size (acc zs a0 k) k 0)=>put_any w.heap.size (acc zs a0 k) k (byteAt zs (a0+k)) W hW (by omega) (by omega) hc0);rw[hs,show putX (acc zs a0 k) k (byteAt zs (a0+k))=acc zs a0 (k+1)from rfl]at PUT;obtain⟨y,ey⟩:∃y,byteAt zs (a0+k)=y:=⟨_,rfl⟩;unfold byteAt at ey PUT;rw[ey]at PUT hcell;clear hc0 hs ey hb;go_wp2_with fail
    refine(PUT.out _ HR.out).mono ?_;rintro e w1 ⟨rfl,hr1,o1⟩;have R1:=z7 hr1;have B1:=z7 (HB.out.trans (o1.below HB.out.size (fun q hq=>by subst hq;exact Nat.le_refl _)));clear hr1 o1;clear h2;go_wp2_with fail
    refine(FN.out _).mono ?_;rintro e w2 ⟨rfl,rfl⟩;go_wp2
    go_ret3
    rw[VV.out];exact⟨rfl,B1.out⟩
theorem read_short(a:Option Addr)(len cap:Nat)(zs:List Int)(at':Int)(w:World)(h:Ints .u8 w a len zs)(ha:0≤at'∧at'<len)(hcap:len≤cap)(hlm:len≤4000000000)(hop:Opens zs at'.toNat (zs.length-at'.toNat)) :
  Calls Tryz.prog 54 #[.slice a len cap,.int .i64 at'] w fun e w'=>e=.returned (shortV at')∧Below w.heap.size w w':=by
 obtain⟨a0,rfl⟩:∃a0:Nat,at'=a0:=⟨at'.toNat,by omega⟩;obtain⟨ha0,ha1⟩:=ha;have hl:=h.length;obtain⟨b,off,rfl,hbl,hcell⟩:=h.from0 (by omega);have CELL:=z7 hcell;have WF:=z7 (fun i (hi:i<len)=>byte_of_wf' (h.getD_wf hi));have hx1:(a0:Int)≤len:=by omega
 have hx2:(a0:Int).toNat=a0:=by omega
 have ST:=z7 (hop);rw[hx2]at ST;rw[hl]at ST;have hL9:=ST.out.most;have FN:=z7 (fun W=>z17 5 a0 (by decide) W);clear h hcell hop;have RV:=z7 (show shortV a0=.tuple #[.int .u64 0,.int .i64 0,.iface 107 (.agg #[.int .i64 5,.int .i64 a0])] from rfl);go_enter Tryz.func54,Tryz.ntmps54
 go_wp2
 go_loopw [22] (fun c wr=>∃k:Nat,c=.int .i64 k∧a0+k≤len∧RdAt wr w.heap.size (acc zs a0 k) k 0∧Below w.heap.size w wr)
  (fun c _=>len-a0-(intOf c).toNat)
 case atStart=>exact⟨0,rfl,by omega,ze _ _ rfl,zc (Below.refl _ _) _⟩
 case round=>
  obtain⟨k,rfl,hk,hr,hb⟩:=hrel;have HB:=z7 hb;have HR:=z7 hr;have hlw:=hb.size;clear hr;rcases Nat.lt_or_ge (a0+k) len with hlt | hge
  ·skip
   have hcell:=((bcell hb).1 b (off+(a0+k)) hbl).trans (CELL.out (a0+k) (by omega));have hc0:=(WF.out (a0+k) (by omega)).1;rw[← Nat.add_assoc]at hcell;have i1:(k:Int)<((len-a0:Nat):Int):=by omega
   have i0:(0:Int)≤(k:Int):=by omega
   have hs:putS k (byteAt zs (a0+k))=0:=ST.out k (by omega);have PUT:=z7 (fun W (hW:RdAt W w.heap.size (acc zs a0 k) k 0)=>put_any w.heap.size (acc zs a0 k) k (byteAt zs (a0+k)) W hW (by omega) (by omega) hc0);rw[hs,show putX (acc zs a0 k) k (byteAt zs (a0+k))=acc zs a0 (k+1)from rfl]at PUT;obtain⟨y,ey⟩:∃y,byteAt zs (a0+k)=y:=⟨_,rfl⟩;unfold byteAt at ey PUT;rw[ey]at PUT hcell;clear hc0 hs ey hb;go_wp2_with fail
   refine(PUT.out _ HR.out).mono ?_;rintro e w1 ⟨rfl,hr1,o1⟩;have R1:=z7 hr1;have B1:=z7 (HB.out.trans (o1.below HB.out.size (fun q hq=>by subst hq;exact Nat.le_refl _)));clear hr1 o1;go_wp2
   go_roundw
   case rel=>exact⟨k+1,by go_num,by omega,by have:=R1.out;rwa [show(k:Int)+1=((k+1:Nat):Int) by omega]at this,B1.out⟩
   case measure=>simp[intOf];omega
  ·have i1:¬(k:Int)<((len-a0:Nat):Int):=by omega
   clear hb;go_wp2_with fail
   refine(FN.out _).mono ?_;rintro e w2 ⟨rfl,rfl⟩;go_wp2
   go_ret3
   rw[RV.out];exact⟨rfl,HB.out⟩
theorem andnot128(c:Int)(h0:0≤c)(h1:c≤255):bits .andNot .u8 c 128=c % 128:=by
 have all:∀n:Fin 256,bits .andNot .u8 (n.val:Int) 128=(n.val:Int) % 128:=by decide +kernel
 have:=all ⟨c.toNat,by omega⟩;simpa only [Int.toNat_of_nonneg h0]using this
theorem putX_mod(x n c:Int)(h0:0≤c)(h1:c≤255):putX x n c=bits .or .u64 x (IntKind.u64.wrap (c % 128 * 2 ^ (7 * n).toNat)):=by
 unfold putX;rw[andnot128 c h0 h1,IntWalk.u64_in (c % 128) (by omega)]
def stopX (zs:List Int) (a k:Nat):Int:=if putS k (byteAt zs (a+k))=1 then acc zs a (k+1)else 0
def rshort:Value:=.tuple #[.int .u64 0,.int .i64 0,.int .i64 5]
end Go.Proofs.YtbkkolfpegplgaaGreatDoor
