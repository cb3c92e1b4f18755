/- crc.Sum and crc.Append: the checksum is a function of the bytes. -/
import Derived.Test.YtbkkolfpegplgaaGreatDoorS3G10
import Derived.Test.YtbkkolfpegplgaaGreatDoorS3G5
set_option maxHeartbeats 3200000
set_option maxRecDepth 100000
set_option linter.unusedVariables false
set_option linter.unusedSimpArgs false
namespace Go.Proofs.YtbkkolfpegplgaaGreatDoor
open Go Go.RowKit
def crcB (y:Int):Int:=bits .xor .u32 (y / 2) (bits .and .u32 3988292384 (-bits .and .u32 y 1 % 4294967296))
def crcI:Nat→Int→Int
 | 0,y=>y
 | j+1,y=>crcB (crcI j y)
def crcK (zs:List Int):Nat→Int
 | 0=>bits .xor .u32 IntKind.u32.max 0
 | k+1=>crcI 8 (bits .xor .u32 (crcK zs k) (zs.getD k 0 % 4294967296))
def crcX (zs:List Int):Int:=bits .xor .u32 IntKind.u32.max (crcK zs zs.length)
theorem crcput_any(q:Nat)(a:Option Addr)(len cap:Nat)(zs:List Int)(w:World)(hq:w.heap[q]?=some (.cells #[.int .u32 0] 275 (0,0)))(h:Ints .u8 w a len zs) :
  Calls Tryz.prog 178 #[.pointer (some ⟨q,0,none⟩),.slice a len cap] w fun e w'=>e=.returned (.tuple #[])∧w'=w.setCell ⟨q,0,none⟩ (.int .u32 (crcX zs)):=by
 have H:=z7 h;have hm:=h.most;have c0:w.cell? ⟨q,0,none⟩=some (.int .u32 0):=by simp[World.cell?,hq]
 have f0:w.frozen? ⟨q,0,none⟩=false:=frozen_of_row _ _ 0 _ _ hq;clear h;go_enter Tryz.func178,Tryz.ntmps178
 go_wp2
 go_loopw [4,16] (fun x c wr=>∃(k:Nat),k≤len∧c=.int .i64 k∧x=.int .u32 (crcK zs k)∧wr=w) (fun _ c _=>len-(intOf c).toNat)
 case atStart=>exact⟨0,Nat.zero_le _,rfl,rfl,rfl⟩
 case round=>
  obtain⟨k,hk,rfl,rfl,hw⟩:=hrel;obtain rfl:=hw.symm;obtain⟨y,ey⟩:∃y,crcK zs k=y:=⟨_,rfl⟩;have EY:=z7 ey;rw[ey];clear ey;have i0:(0:Int)≤(k:Int):=by omega
  by_cases hlt:k<len
  ·obtain⟨b,off,rfl,hbl,hc⟩:=H.out.cells k hlt
   have i1:(k:Int)<(len:Int):=by omega
   obtain⟨z,ez⟩:∃z,zs.getD k 0=z:=⟨_,rfl⟩;rw[ez]at hc;have EZ:=z7 ez;clear ez;obtain⟨x0,ex0⟩:∃x0,bits BinOp.xor IntKind.u32 y (z % 4294967296)=x0:=⟨_,rfl⟩;have EX0:=z7 ex0;go_wp2
   clear ex0;go_loopw [4,24] (fun x c wr=>∃(j:Nat),j≤8∧c=.int .i64 j∧x=.int .u32 (crcI j x0)∧wr=w) (fun _ c _=>8-(intOf c).toNat)
   case atStart=>exact⟨0,by omega,rfl,rfl,rfl⟩
   case round=>
    obtain⟨j,hj,rfl,rfl,hw⟩:=hrel;obtain rfl:=hw.symm;obtain⟨y1,ey1⟩:∃y1,crcI j x0=y1:=⟨_,rfl⟩;have EY1:=z7 ey1;rw[ey1];clear ey1;by_cases hj8:j<8
    ·have j1:(j:Int)<8:=by omega
     go_wp2
     go_roundw
     case rel=>exact⟨j+1,by omega,by simp,by show _=Value.int .u32 (crcB (crcI j x0));rw[EY1.out];rfl,trivial⟩
     case measure=>simp[intOf];omega
    ·obtain rfl:j=8:=by omega
     go_wp2
     go_roundw
     case rel=>exact⟨k+1,by omega,by simp,by show _=Value.int .u32 (crcI 8 (bits .xor .u32 (crcK zs k) (zs.getD k 0 % 4294967296)));rw[EY.out,EZ.out,EX0.out,EY1.out],trivial⟩
     case measure=>simp[intOf];omega
  ·obtain rfl:k=len:=by omega
   have hl:=H.out.length;go_wp2
   go_end0
   exact⟨rfl,by rw[← EY.out];unfold crcX;rw[hl]⟩
theorem crcsum_any(a:Option Addr)(len cap:Nat)(zs:List Int)(w:World)(h:Ints .u8 w a len zs) :
  Calls Tryz.prog 126 #[.slice a len cap] w fun e w'=>e=.returned (.int .u32 (crcX zs))∧Below w.heap.size w w':=by
 obtain⟨w1,ew1⟩:∃w1,w.alloc (.cells #[.int .u32 0] 275)=w1:=⟨_,rfl⟩;have b1:Below w.heap.size w w1:=by rw[← ew1];exact zc (Below.refl _ _) _
 have q1:w1.heap[w.heap.size]?=some (.cells #[.int .u32 0] 275 (0,0)):=by rw[← ew1];exact ze _ _ rfl
 have K:=z7 (crcput_any w.heap.size a len cap zs w1 q1 (h.below b1));have B1:=z7 b1;have Q1:=z7 q1;clear h b1 q1;go_enter Tryz.func126,Tryz.ntmps126
 go_wp2_with fail
 clear ew1;refine K.out.mono ?_;rintro e w2 ⟨rfl,rfl⟩;have q2:=heap_setCell_same w1 _ 0 _ _ (.int .u32 (crcX zs)) Q1.out;have c2:(w1.setCell ⟨w.heap.size,0,none⟩ (.int .u32 (crcX zs))).cell? ⟨w.heap.size,0,none⟩=some (.int .u32 (crcX zs)):=by simp[World.cell?,q2]
 have B2:=z7 (B1.out.trans (((Only.refl (fun b=>b=w.heap.size) w1).setCell (p:=⟨w.heap.size,0,none⟩) (.inl rfl) (.int .u32 (crcX zs))).below (n:=w.heap.size) B1.out.size (fun b hb=>by omega)));obtain⟨w3,ew3⟩:∃w3,w1.setCell ⟨w.heap.size,0,none⟩ (.int .u32 (crcX zs))=w3:=⟨_,rfl⟩;rw[ew3]at c2 B2 ⊢;obtain⟨s,es⟩:∃s,crcX zs=s:=⟨_,rfl⟩;have ES:=z7 es;rw[es]at c2;clear q2 ew3 es;go_wp2
 go_ret
 exact⟨by rw[ES.out];rfl,B2.out⟩
def crc4 (s:Int) (i:Nat):Int:=s / (2 ^ (8 * i)) % 256
def sum4 (s:Int):List Int:=[crc4 s 0,crc4 s 1,crc4 s 2,crc4 s 3]
def arr4 (s:Int) (k:Nat):Array Value:=#[.int .u8 (if 0<k then crc4 s 0 else 0),.int .u8 (if 1<k then crc4 s 1 else 0),.int .u8 (if 2<k then crc4 s 2 else 0),.int .u8 (if 3<k then crc4 s 3 else 0)]
theorem crcapp_any(w0:World)(v:Value)(zs:List Int)(s:Int)(w:World)(h:OwnB w w0.heap.size v zs)(h0:Below w0.heap.size w0 w)(hn:zs.length≤1000000) :
  Calls Tryz.prog 125 #[v,.int .u32 s] w fun e w'=>∃v',e=.returned v'∧OwnB w' w0.heap.size v' (zs ++ sum4 s)∧Below w0.heap.size w0 w':=by
 obtain⟨a,cap,rfl,_⟩:=h.ints (by omega);have H:=z7 h;have B0:=z7 h0;clear h h0;go_enter Tryz.func125,Tryz.ntmps125
 go_wp2
 go_loopw [7] (fun c wr=>∃(k:Nat),k≤4∧c=.int .i64 k∧wr.heap[w.heap.size]?=some (.cells (arr4 s k) 194 (0,0))∧Below w.heap.size w wr) (fun c _=>4-(intOf c).toNat)
 case atStart=>exact⟨0,by omega,rfl,ze _ _ rfl,zc (Below.refl _ _) _⟩
 case round=>
  obtain⟨k,hk,rfl,hq,hb⟩:=hrel;have HQ:=z7 hq;have HB:=z7 hb;have f0:∀j,wr.frozen? ⟨w.heap.size,j,none⟩=false:=fun j=>frozen_of_row _ _ j _ _ hq;clear hq hb;by_cases hlt:k<4
  ·have hc:k=0∨k=1∨k=2∨k=3:=by omega
   rcases hc with rfl | rfl | rfl | rfl
   ·have cj:wr.cell? ⟨w.heap.size,0,none⟩=some (.int .u8 0):=by simp[World.cell?,HQ.out,arr4]
    go_wp2
    go_roundw
    case rel=>
     refine⟨1,by omega,rfl,?_,HB.out.trans (((Only.refl (fun b=>b=w.heap.size) wr).setCell (p:=⟨w.heap.size,0,none⟩) (.inl rfl) _).below (n:=w.heap.size) HB.out.size (fun b hb=>by omega))⟩;rw[heap_setCell_same _ _ 0 _ _ _ HQ.out];simp[arr4,crc4,Array.setIfInBounds]
    case measure=>simp[intOf]
   ·have cj:wr.cell? ⟨w.heap.size,1,none⟩=some (.int .u8 0):=by simp[World.cell?,HQ.out,arr4]
    go_wp2
    go_roundw
    case rel=>
     refine⟨2,by omega,rfl,?_,HB.out.trans (((Only.refl (fun b=>b=w.heap.size) wr).setCell (p:=⟨w.heap.size,1,none⟩) (.inl rfl) _).below (n:=w.heap.size) HB.out.size (fun b hb=>by omega))⟩;rw[heap_setCell_same _ _ 1 _ _ _ HQ.out];simp[arr4,crc4,Array.setIfInBounds]
    case measure=>simp[intOf]
   ·have cj:wr.cell? ⟨w.heap.size,2,none⟩=some (.int .u8 0):=by simp[World.cell?,HQ.out,arr4]
    go_wp2
    go_roundw
    case rel=>
     refine⟨3,by omega,rfl,?_,HB.out.trans (((Only.refl (fun b=>b=w.heap.size) wr).setCell (p:=⟨w.heap.size,2,none⟩) (.inl rfl) _).below (n:=w.heap.size) HB.out.size (fun b hb=>by omega))⟩;rw[heap_setCell_same _ _ 2 _ _ _ HQ.out];simp[arr4,crc4,Array.setIfInBounds]
    case measure=>simp[intOf]
   ·have cj:wr.cell? ⟨w.heap.size,3,none⟩=some (.int .u8 0):=by simp[World.cell?,HQ.out,arr4]
    go_wp2
    go_roundw
    case rel=>
     refine⟨4,by omega,rfl,?_,HB.out.trans (((Only.refl (fun b=>b=w.heap.size) wr).setCell (p:=⟨w.heap.size,3,none⟩) (.inl rfl) _).below (n:=w.heap.size) HB.out.size (fun b hb=>by omega))⟩;rw[heap_setCell_same _ _ 3 _ _ _ HQ.out];simp[arr4,crc4,Array.setIfInBounds]
    case measure=>simp[intOf]
  ·obtain rfl:k=4:=by omega
   obtain⟨i0,hi,hz0,hz1,hz2⟩:=info_parts info_u8;have hnew:∀j u,([.int .u8 (crc4 s 0),.int .u8 (crc4 s 1),.int .u8 (crc4 s 2),.int .u8 (crc4 s 3)]:List Value)[j]?=some u→wr.cell? ((⟨w.heap.size,0,none⟩:Addr).add j)=some u:=by
    intro j u hj;have ea:(⟨w.heap.size,0,none⟩:Addr).add j=⟨w.heap.size,0+j,none⟩:=by unfold Addr.add;split<;>simp_all
    rw[ea];simp only[World.cell?,HQ.out,Nat.zero_add];simpa[arr4]using hj
   have HN:=z7 hnew;have HO:=z7 (H.out.below HB.out);have B1:=z7 (B0.out.trans (HB.out.mono B0.out.size));clear hnew;go_wp2_with(at_builtin;go_loud(refine wpList_append_own_at _ rfl _ _ 33 rfl w0.heap.size 5 i0 (.int .u8 0) 1 1 Tryz.underlying33 hi hz0 hz1 hz2 rfl (by decide) _ _ _ rfl HO.out.row ⟨w.heap.size,0,none⟩ 4 4 [.int .u8 (crc4 s 0),.int .u8 (crc4 s 1),.int .u8 (crc4 s 2),.int .u8 (crc4 s 3)] rfl rfl HN.out (by intro u hu;simp at hu;rcases hu with rfl | rfl | rfl | rfl<;>rfl) (by unfold maxLen;omega) (by omega) B1.out.size ?_);intro v' w1 hown hgrow _ _;have HW:=z7 hown;have HG:=z7 hgrow;clear hown hgrow)
   go_ret
   have hs4:∀z∈sum4 s,0≤z∧z≤255:=fun z hz=>by
    unfold sum4 crc4 at hz;simp at hz
    rcases hz with rfl | rfl | rfl | rfl<;>omega
   refine⟨_,rfl,⟨by rw[List.length_append,List.map_append];exact HW.out,fun z hz=>?_⟩,B1.out.trans ((z2o HG.out).below (n:=w0.heap.size) B1.out.size (fun b hb=>(HO.out.row.lt b hb).1))⟩;rcases List.mem_append.1 hz with hz | hz
   ·exact HO.out.bytes z hz
   ·exact hs4 z hz
end Go.Proofs.YtbkkolfpegplgaaGreatDoor
