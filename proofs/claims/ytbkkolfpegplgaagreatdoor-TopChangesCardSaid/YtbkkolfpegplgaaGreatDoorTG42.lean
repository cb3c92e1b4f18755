import Derived.Test.YtbkkolfpegplgaaGreatDoorTG10
import Derived.Test.YtbkkolfpegplgaaGreatDoorTG5
open Array renaming setIfInBounds→PC
open Go.World renaming cell?→PD
open Go.Proofs.Tryz
set_option maxHeartbeats 3200000
set_option maxRecDepth 100000
set_option linter.unusedVariables false
set_option linter.unusedSimpArgs false
namespace Go.Proofs.YtbkkolfpegplgaaGreatDoor
open Go Go.RowKit
def IU (y:Int):Int:=bits .xor .u32 (y / 2) (bits .and .u32 3988292384 (-bits .and .u32 y 1 % 4294967296))
def Rm:Nat→Int→Int
 | 0,y=>y
 | j+1,y=>IU (Rm j y)
def Xd (zs:List Int):Nat→Int
 | 0=>bits .xor .u32 IntKind.u32.max 0
 | k+1=>Rm 8 (bits .xor .u32 (Xd zs k) (zs.getD k 0 % 4294967296))
def kV (zs:List Int):Int:=bits .xor .u32 IntKind.u32.max (Xd zs zs.length)
theorem Lf(q:Nat)(a:Option Addr)(len cap:Nat)(zs:List Int)(w:World)(B:w.heap[q]?=some (.cells #[.int .u32 0] 275 (0,0)))(h:Ints .u8 w a len zs) :
  Calls prog 178 #[.pointer (some ⟨q,0,none⟩),.slice a len cap] w fun e w'=>e=.returned (.tuple #[])∧w'=w.setCell ⟨q,0,none⟩ (.int .u32 (kV zs)):=by
 have H:=aI h;have G:=h.most;have I:w.cell? ⟨q,0,none⟩=some (.int .u32 0):=by simp[PD,B]
 have J:w.frozen? ⟨q,0,none⟩=false:=frozen_of_row _ _ 0 _ _ B;clear h;go_enter func178,ntmps178;go_wp2;go_loopw [4,16] (fun x c wr=>∃(k:Nat),k≤len∧c=.int .i64 k∧x=.int .u32 (Xd zs k)∧wr=w) (fun _ c _=>len-(intOf c).toNat)
 case atStart=>exact⟨0,Nat.zero_le _,rfl,rfl,rfl⟩
 obtain⟨k,N,rfl,rfl,r⟩:=hrel;obtain rfl:=r.symm;obtain⟨y,s⟩:=aG (Xd zs k);have A:=aI s;rw[s];clear s;have K:(0:Int)≤(k:Int):=aA;by_cases hlt:k<len
 ·obtain⟨b,off,rfl,E,F⟩:=H.cells k hlt;have L:(k:Int)<(len:Int):=aA;obtain⟨z,u⟩:=aG (zs.getD k 0);rw[u]at F;have C:=aI u;clear u;obtain⟨x0,n⟩:=aG (bits BinOp.xor IntKind.u32 y (z % 4294967296));have p:=aI n;go_wp2;clear n;go_loopw [4,24] (fun x c wr=>∃(j:Nat),j≤8∧c=.int .i64 j∧x=.int .u32 (Rm j x0)∧wr=w) (fun _ c _=>8-(intOf c).toNat)
  case atStart=>exact⟨0,aA,rfl,rfl,rfl⟩
  obtain⟨j,O,rfl,rfl,r⟩:=hrel;obtain rfl:=r.symm;obtain⟨y1,l⟩:=aG (Rm j x0);have m:=aI l;rw[l];clear l;by_cases hj8:j<8
  ·have M:(j:Int)<8:=aA;go_wp2;go_roundw
   case rel=>exact⟨j+1,aA,aD,by show _=Value.int .u32 (IU (Rm j x0));rw[m.out];rfl,trivial⟩
   simp[intOf];omega
  obtain rfl:j=8:=aA;go_wp2;go_roundw
  case rel=>exact⟨k+1,aA,aD,by show _=Value.int .u32 (Rm 8 (bits .xor .u32 (Xd zs k) (zs.getD k 0 % 4294967296)));rw[A.out,C.out,p.out,m.out],trivial⟩
  simp[intOf];omega
 obtain rfl:k=len:=aA;have D:=H.length;go_wp2;go_end0;exact⟨rfl,by rw[← A.out];unfold kV;rw[D]⟩
theorem yM(a:Option Addr)(len cap:Nat)(zs:List Int)(w:World)(h:Ints .u8 w a len zs) :
  Calls prog 126 #[.slice a len cap] w fun e w'=>e=.returned (.int .u32 (kV zs))∧Below w.heap.size w w':=by
 obtain⟨w1,j⟩:=aG (w.alloc (.cells #[.int .u32 0] 275));have b1:Below w.heap.size w w1:=by rw[← j];exact aJ (Below.refl _ _) _
 have m:w1.heap[w.heap.size]?=some (.cells #[.int .u32 0] 275 (0,0)):=by rw[← j];exact aK _ _ rfl
 have K:=aI (Lf w.heap.size a len cap zs w1 m (h.below b1));have r:=aI b1;have A:=aI m;clear h b1 m;go_enter func126,ntmps126;go_wp2_with fail;clear j;refine K.mono ?_;rintro e w2 ⟨rfl,rfl⟩;have u:=heap_setCell_same w1 _ 0 _ _ (.int .u32 (kV zs)) A;have y:(w1.setCell ⟨w.heap.size,0,none⟩ (.int .u32 (kV zs))).cell? ⟨w.heap.size,0,none⟩=some (.int .u32 (kV zs)):=by simp[PD,u]
 have z:=aI (r.trans (((Only.refl (fun b=>b=w.heap.size) w1).setCell (p:=⟨w.heap.size,0,none⟩) (.inl rfl) (.int .u32 (kV zs))).below (n:=w.heap.size) r.size (fun b C=>aA)));obtain⟨w3,l⟩:=aG (w1.setCell ⟨w.heap.size,0,none⟩ (.int .u32 (kV zs)));rw[l]at y z ⊢;obtain⟨s,es⟩:=aG (kV zs);have B:=aI es;rw[es]at y;clear u l es;go_wp2;go_ret;exact⟨by rw[B.out];rfl,z⟩
def lW (s:Int) (i:Nat):Int:=s / (2 ^ (8 * i)) % 256
def qN (s:Int):List Int:=[lW s 0,lW s 1,lW s 2,lW s 3]
def zK (s:Int) (k:Nat):Array Value:=#[.int .u8 (if 0<k then lW s 0 else 0),.int .u8 (if 1<k then lW s 1 else 0),.int .u8 (if 2<k then lW s 2 else 0),.int .u8 (if 3<k then lW s 3 else 0)]
theorem yN(D:World)(v:Value)(zs:List Int)(s:Int)(w:World)(h:OwnB w D.heap.size v zs)(h0:Below D.heap.size D w)(hn:zs.length≤1000000) :
  Calls prog 125 #[v,.int .u32 s] w fun e w'=>∃N,e=.returned N∧OwnB w' D.heap.size N (zs ++ qN s)∧Below D.heap.size D w':=by
 obtain⟨a,cap,rfl,_⟩:=h.ints aA;have H:=aI h;have O:=aI h0;clear h h0;go_enter func125,ntmps125;go_wp2;go_loopw [7] (fun c wr=>∃(k:Nat),k≤4∧c=.int .i64 k∧wr.heap[w.heap.size]?=some (.cells (zK s k) 194 (0,0))∧Below w.heap.size w wr) (fun c _=>4-(intOf c).toNat)
 case atStart=>exact⟨0,aA,rfl,aK _ _ rfl,aJ (Below.refl _ _) _⟩
 obtain⟨k,Y,rfl,J,B⟩:=hrel;have r:=aI J;have m:=aI B;have X:∀j,wr.frozen? ⟨w.heap.size,j,none⟩=false:=fun j=>frozen_of_row _ _ j _ _ J;clear J B;by_cases hlt:k<4
 ·have Q:k=0∨k=1∨k=2∨k=3:=aA;rcases Q with rfl | rfl | rfl | rfl
  ·have E:wr.cell? ⟨w.heap.size,0,none⟩=some (.int .u8 0):=by simp[PD,r.out,zK]
   go_wp2;go_roundw
   case rel=>
    refine⟨1,aA,rfl,?_,m.trans (((Only.refl (fun b=>b=w.heap.size) wr).setCell (p:=⟨w.heap.size,0,none⟩) (.inl rfl) _).below (n:=w.heap.size) m.size (fun b B=>aA))⟩;rw[heap_setCell_same _ _ 0 _ _ _ r.out];simp[zK,lW,PC]
   simp[intOf]
  ·have E:wr.cell? ⟨w.heap.size,1,none⟩=some (.int .u8 0):=by simp[PD,r.out,zK]
   go_wp2;go_roundw
   case rel=>
    refine⟨2,aA,rfl,?_,m.trans (((Only.refl (fun b=>b=w.heap.size) wr).setCell (p:=⟨w.heap.size,1,none⟩) (.inl rfl) _).below (n:=w.heap.size) m.size (fun b B=>aA))⟩;rw[heap_setCell_same _ _ 1 _ _ _ r.out];simp[zK,lW,PC]
   simp[intOf]
  ·have E:wr.cell? ⟨w.heap.size,2,none⟩=some (.int .u8 0):=by simp[PD,r.out,zK]
   go_wp2;go_roundw
   case rel=>
    refine⟨3,aA,rfl,?_,m.trans (((Only.refl (fun b=>b=w.heap.size) wr).setCell (p:=⟨w.heap.size,2,none⟩) (.inl rfl) _).below (n:=w.heap.size) m.size (fun b B=>aA))⟩;rw[heap_setCell_same _ _ 2 _ _ _ r.out];simp[zK,lW,PC]
   simp[intOf]
  have E:wr.cell? ⟨w.heap.size,3,none⟩=some (.int .u8 0):=by simp[PD,r.out,zK]
  go_wp2;go_roundw
  case rel=>
   refine⟨4,aA,rfl,?_,m.trans (((Only.refl (fun b=>b=w.heap.size) wr).setCell (p:=⟨w.heap.size,3,none⟩) (.inl rfl) _).below (n:=w.heap.size) m.size (fun b B=>aA))⟩;rw[heap_setCell_same _ _ 3 _ _ _ r.out];simp[zK,lW,PC]
  simp[intOf]
 obtain rfl:k=4:=aA;obtain⟨V,hi,K,L,M⟩:=info_parts wA;have A:∀j u,([.int .u8 (lW s 0),.int .u8 (lW s 1),.int .u8 (lW s 2),.int .u8 (lW s 3)]:List Value)[j]?=some u→wr.cell? ((⟨w.heap.size,0,none⟩:Addr).add j)=some u:=by
  intro j u W;have R:(⟨w.heap.size,0,none⟩:Addr).add j=⟨w.heap.size,0+j,none⟩:=by unfold Addr.add;split<;>simp_all
  rw[R];simp only[PD,r.out,Nat.zero_add];simpa[zK]using W
 have S:=aI A;have F:=aI (H.below m);have G:=aI (O.trans (m.mono O.size));clear A;go_wp2_with(at_builtin;go_loud(refine wpList_append_own_at _ rfl _ _ 33 rfl D.heap.size 5 V (.int .u8 0) 1 1 underlying33 hi K L M rfl aB _ _ _ rfl F.row ⟨w.heap.size,0,none⟩ 4 4 [.int .u8 (lW s 0),.int .u8 (lW s 1),.int .u8 (lW s 2),.int .u8 (lW s 3)] rfl rfl S (by intro u P;simp at P;rcases P with rfl | rfl | rfl | rfl<;>rfl) (by unfold maxLen;omega) aA G.size ?_);intro N Z C l _ _;have T:=aI C;have U:=aI l;clear C l)
 go_ret;have I:∀z∈qN s,0≤z∧z≤255:=fun z y=>by
  unfold qN lW at y;simp at y;rcases y with rfl | rfl | rfl | rfl<;>omega
 refine⟨_,rfl,⟨by rw[List.length_append,List.map_append];exact T,fun z y=>?_⟩,G.trans ((iR U).below (n:=D.heap.size) G.size (fun b B=>(F.row.lt b B).1))⟩;rcases List.mem_append.1 y with y | y
 ·exact F.bytes z y
 exact I z y
end Go.Proofs.YtbkkolfpegplgaaGreatDoor
