import Derived.Test.YtbkkolfpegplgaaGreatDoorTG30
import Derived.Test.YtbkkolfpegplgaaGreatDoorTG9
import Derived.Sort.Walk7
open Go.Sort renaming ahead→PC
open Go.Value renaming int→PD
open Nat renaming xor_lt_two_pow→PE,one_shiftLeft→PF
open Go.Proofs.Tryz
set_option maxHeartbeats 1000000
set_option maxRecDepth 100000
set_option linter.unusedVariables false
set_option linter.unusedSimpArgs false
namespace Go.Proofs.YtbkkolfpegplgaaGreatDoor
open Go Go.RowKit Go.Sort
theorem lC(x:Int)(w:World)(h0:0≤x)(h1:x≤18446744073709551615) :
  Calls prog 149 #[.int .u64 x] w fun e w'=>e=.returned (.int .i64 (Lib.bitLen x.toNat))∧w'=w:=by
 go_enter func149,ntmps149;go_wp2_with(go_at_call 147;refine(An x _ ⟨h0,aA⟩).mono ?_;rintro e w' ⟨rfl,rfl⟩);go_ret;exact⟨rfl,rfl⟩
theorem sV(rb ro X:Nat)(hX:X<18446744073709551616)(w:World)(hc:w.cell? ⟨rb,ro,none⟩=some (.int .u64 X))(hf:w.frozen? ⟨rb,ro,none⟩=false) :
  Calls prog 240 #[.pointer (some ⟨rb,ro,none⟩)] w fun e w'=>e=.returned (.int .u64 (xorNextN X:Nat))∧w'=(w.setCell ⟨rb,ro,none⟩ (.int .u64 (xorNextN X:Nat))).drewN 3:=by
 obtain⟨A,b⟩:=aH (X ^^^ (X * 8192 % 18446744073709551616):Nat);obtain⟨B,j⟩:=aH (A ^^^ (A / 128):Nat);obtain⟨C,l⟩:=aH (B ^^^ (B * 131072 % 18446744073709551616):Nat);have m:A<18446744073709551616:=by rw[b];exact PE (n:=64) aA aA
 have p:B<18446744073709551616:=by rw[j];exact PE (n:=64) aA aA
 have s:bits .xor .u64 (X:Int) (IntKind.u64.wrap ((X:Int) * 8192))=(A:Int):=by
  rw[IntKind.wrap_u64,show((X:Int) * 8192 % 18446744073709551616)=((X * 8192 % 18446744073709551616:Nat):Int) by omega,bits_xor_u64_nat _ _ hX aA,b]
 have u:bits .xor .u64 (A:Int) ((A:Int) / 128)=(B:Int):=by
  rw[show((A:Int) / 128)=((A / 128:Nat):Int) by omega,bits_xor_u64_nat _ _ m aA,j]
 have y:bits .xor .u64 (B:Int) (IntKind.u64.wrap ((B:Int) * 131072))=(C:Int):=by
  rw[IntKind.wrap_u64,show((B:Int) * 131072 % 18446744073709551616)=((B * 131072 % 18446744073709551616:Nat):Int) by omega,bits_xor_u64_nat _ _ p aA,l]
 have hv:xorNextN X=C:=by unfold xorNextN;simp only[];rw[← b,← j,← l]
 rw[hv];clear b j l hv;have r:∀v v',(w.setCell ⟨rb,ro,none⟩ v).setCell ⟨rb,ro,none⟩ v'=w.setCell ⟨rb,ro,none⟩ v':=setCell_setCell w rb ro;go_enter func240,ntmps240;go_wp2;go_region
 all_goals go_wp2
 all_goals go_region
 all_goals go_wp2
 all_goals go_region
 all_goals go_wp2
 go_ret;exact⟨rfl,rfl⟩
theorem rK(n:Nat)(m:n<4611686018427387904)(w:World) :
  Calls prog 239 #[.int .i64 n] w fun e w'=>e=.returned (.int .u64 ((1 <<< bitsLen n:Nat):Int))∧w'=w:=by
 have b:∀w,Calls prog 149 #[.int .u64 (n:Int)] w fun e w'=>e=.returned (.int .i64 (bitsLen n:Nat))∧w'=w:=fun w=>by
  have h:=lC (n:Int) w aA aA;rwa [Int.toNat_natCast,bitLen_eq _ aA]at h
 have j:bitsLen n≤62:=(bitsLen_le_iff n 62).2 aA;have l:=wrap_two_pow (bitsLen n) j;go_enter func239,ntmps239;go_wp2_with(first | (go_at_call 149;refine(b _).mono ?_;rintro e w' ⟨rfl,rfl⟩))
 go_ret;exact⟨rfl,rfl⟩
theorem mB(blk off cap a L:Nat)(d:Array Int)(w:World)(S:Holds (PD .u64) w blk off d)(j:blk<w.heap.size)(hb:a+L≤d.size)(A3:d.size<4611686018427387904)(h8:8≤L) :
  Calls prog 250 #[.slice (some ⟨blk,off,none⟩) d.size cap,.int .i64 a,.int .i64 ((a+L:Nat):Int)] w fun e w'=>
   e=.returned (.tuple #[])∧∃n os,w'=grow (putRow (PD .u64) (PC w n) blk off (breakPatterns d a (a+L))) os:=by
 rw[breakPatterns_eq d a L h8];obtain⟨M,z⟩:=aH (1 <<< bitsLen L:Nat);have Z:1≤M:=by rw[z,PF];exact Nat.two_pow_pos _
 have A0:M≤2 * L:=by rw[z,PF];exact two_pow_bitsLen_le aA
 have D:∀w,Calls prog 239 #[.int .i64 (L:Int)] w fun e w'=>e=.returned (.int .u64 (M:Int))∧w'=w:=by rw[z];exact fun w=>rK L aA w
 rw[← z];clear z;have T:Hid (Holds (PD .u64) w blk off d):=S;have E:Hid (w.alloc (Obj.cells #[.int .u64 (L:Int)] 335)=grow (putRow (PD .u64) (PC w 0) blk off d) #[Obj.cells #[.int .u64 ((UInt64.ofNat L).toNat:Int)] 335]):=by
  show _=_;rw[show PC w 0=w from rfl,putRow_self _ _ _ _ _ S,alloc_eq_grow,show(UInt64.ofNat L).toNat=L from by simp;omega]
 clear S;go_enter func250,ntmps250;go_wp2_with(first | (go_at_call 239;rw[show((a:Int)+(L:Int)-(a:Int))=(L:Int) by omega];refine(D _).mono ?_;rintro e w' ⟨rfl,rfl⟩))
 go_loopw [9] (fun Q wr=>∃(t n:Nat) (r:UInt64) (b:Array Int),Q=.int .i64 ((a+L / 4 * 2-1+t:Nat):Int)∧t≤3∧b.size=d.size ∧
   wr=grow (putRow (PD .u64) (PC w n) blk off b) #[Obj.cells #[.int .u64 (r.toNat:Int)] 335] ∧
   bpRest a L M (a+L / 4 * 2-1) (3-t) t (r,b)=bpRest a L M (a+L / 4 * 2-1) 3 0 (UInt64.ofNat L,d)) (fun Q _=>a+L / 4 * 2+3-(intOf Q).toNat)
 case atStart=>exact⟨0,0,UInt64.ofNat L,d,by congr 1;omega,aA,rfl,E,rfl⟩
 obtain⟨t,n,r,b,rfl,ht,u,y,X⟩:=hrel;obtain⟨R,l⟩:=aH (r.toNat:Nat);have U:R<18446744073709551616:=by rw[l];exact r.toNat_lt
 obtain⟨m,p⟩:=aH (xorNextN R:Nat);have F:m<18446744073709551616:=by rw[p];exact xorNextN_lt R U
 obtain⟨O,C⟩:=aH (m &&& (M-1):Nat);have lO:O≤M-1:=by rw[C];exact Nat.and_le_right
 have V:bits .and .u64 (m:Int) ((M:Int)-1)=(O:Int):=by
  rw[show((M:Int)-1)=((M-1:Nat):Int) by omega,bits_and_u64_nat _ _ F aA,C]
 obtain⟨G,P⟩:∃G:Nat→Int,∀x,G x=b[x]!:=⟨fun x=>b[x]!,fun _=>rfl⟩;have A:(putRow (PD .u64) (PC w n) blk off b).heap.size=w.heap.size:=aD;have A1:∀x,x<d.size→wr.cell? ⟨blk,off+x,none⟩=some (.int .u64 (G x)):=fun x Y=>by
  rw[y,cell?_grow _ _ _ (by rw[A];exact j),P];exact cell?_putRow _ _ _ _ d b (holds_ahead _ _ _ _ _ _ T) u x aA
 have A2:∀x,x<d.size→wr.frozen? ⟨blk,off+x,none⟩=false:=fun x Y=>by
  rw[y,frozen?_grow _ _ _ (by rw[A];exact j),frozen?_putRow];exact((holds_ahead _ _ n _ _ _ T) x Y).2
 have H:wr.cell? ⟨w.heap.size,0,none⟩=some (.int .u64 (R:Int)):=by rw[y,l,← A];exact grow_one_cell _ _ _
 have I:wr.frozen? ⟨w.heap.size,0,none⟩=false:=by rw[y,← A];exact grow_one_frozen _ _ _
 have s:Calls prog 240 #[.pointer (some ⟨w.heap.size,0,none⟩)] wr fun e w'=>e=.returned (.int .u64 (m:Int))∧w'=(wr.setCell ⟨w.heap.size,0,none⟩ (.int .u64 (m:Int))).drewN 3:=by
  rw[p];exact sV _ _ R U wr H I
 have J:Hid (wr=grow (putRow (PD .u64) (PC w n) blk off b) #[Obj.cells #[.int .u64 (r.toNat:Int)] 335]):=y;have W:Hid (∀x,G x=b[x]!):=P;have K:Hid (bpRest a L M (a+L / 4 * 2-1) (3-t) t (r,b)=bpRest a L M (a+L / 4 * 2-1) 3 0 (UInt64.ofNat L,d)):=X;have B:Hid (m=(xorNext r).toNat∧O=(xorNext r).toNat &&& (M-1)):=by
  have e:m=(xorNext r).toNat:=by rw[p,l,xorNext_toNat]
  exact⟨e,by rw[C,e]⟩
 clear y P X l p C;go_wp2_with(first | (go_at_call 240;refine s.mono ?_;rintro e w' ⟨rfl,rfl⟩))
 ·
  have N:L≤O:=aA;by_cases hEq:a+L / 4 * 2-1+t=a+(O-L)
  all_goals
   go_region
   all_goals go_wp2
   go_roundw
   case rel=>
    refine⟨t+1,n+4,xorNext r,swp b (a+L / 4 * 2-1+t) (a+(O-L)),by first | rfl | (congr 1<;>omega),aA,by rw[size_swp];exact u,?_,?_⟩
    ·(try rw[hEq])
     rw[J.out,B.1];simp only[W.out];exact step_world (PD .u64) w n 4 blk off b _ _ j aA aA _ _ _
    rw[← K.out,bp_step a L M _ t r b (O-L) aA (by rw[← B.2,if_pos aA])]
   simp[intOf];omega
 ·have N:¬L≤O:=aA;by_cases hEq:a+L / 4 * 2-1+t=a+O
  all_goals
   go_region
   all_goals go_wp2
   go_roundw
   case rel=>
    refine⟨t+1,n+4,xorNext r,swp b (a+L / 4 * 2-1+t) (a+O),by first | rfl | (congr 1<;>omega),aA,by rw[size_swp];exact u,?_,?_⟩
    ·(try rw[hEq])
     rw[J.out,B.1];simp only[W.out];exact step_world (PD .u64) w n 4 blk off b _ _ j aA aA _ _ _
    rw[← K.out,bp_step a L M _ t r b O aA (by rw[← B.2,if_neg aA])]
   simp[intOf];omega

 obtain rfl:t=3:=aA;go_end0;exact⟨rfl,n,_,by rw[← K.out,J.out];rfl⟩
theorem nY(blk off cap a b:Nat)(d:Array Int)(w:World)(m:Holds (PD .u64) w blk off d)(j:blk<w.heap.size)(r:a≤b)(s:b≤d.size)(p:d.size<4611686018427387904) :
  Calls prog 250 #[.slice (some ⟨blk,off,none⟩) d.size cap,.int .i64 a,.int .i64 b] w fun e w'=>
   e=.returned (.tuple #[])∧∃n os,w'=grow (putRow (PD .u64) (PC w n) blk off (breakPatterns d a b)) os:=by
 obtain⟨L,rfl⟩:∃L,b=a+L:=⟨b-a,aA⟩;by_cases h8:8≤L
 ·exact mB blk off cap a L d w m j s p h8
 have hv:breakPatterns d a (a+L)=d:=by unfold breakPatterns;simp only[Nat.add_sub_cancel_left];rw[if_neg h8]
 rw[hv];have l:Hid (w=grow (putRow (PD .u64) (PC w 0) blk off d) #[]):=by
  show _=_;rw[grow_empty,show PC w 0=w from rfl,putRow_self _ _ _ _ _ m]
 clear m;go_enter func250,ntmps250;go_wp2;go_end0;exact⟨rfl,0,#[],l⟩
end Go.Proofs.YtbkkolfpegplgaaGreatDoor
