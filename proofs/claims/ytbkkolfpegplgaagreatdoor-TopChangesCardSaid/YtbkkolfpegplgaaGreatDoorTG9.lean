import Derived.Test.YtbkkolfpegplgaaGreatDoorTG1
import Derived.Lib.BitFns
import Derived.Lib.Strings
import Derived.Lib.Slices
import Derived.Lib.Small
import Derived.Lib.Walk
open Go.Proofs.Tryz
set_option maxRecDepth 100000
namespace Go.Proofs.YtbkkolfpegplgaaGreatDoor
open Go.RowKit
def vb:Nat→Int→List Int
 | 0,_=>[]
 | f+1,x=>if x<128 then [x] else(x % 128+128) :: vb f (x / 128)
theorem gX(f:Nat){x:Int}(h:x<128):vb (f+1) x=[x]:=by simp[vb,h]
theorem nW(f:Nat){x:Int}(h:128≤x):vb (f+1) x=(x % 128+128) :: vb f (x / 128):=by
 have:¬x<128:=aA;simp[vb,this]
theorem Cd(f:Nat)(x:Int)(b:0<f):1≤(vb f x).length:=by
 obtain⟨g,rfl⟩:∃g,f=g+1:=⟨f-1,aA⟩;unfold vb;split<;>simp
theorem jF:∀(f:Nat) (x:Int),(vb f x).length≤f
 | 0,_=>by simp[vb]
 | f+1,x=>by
   unfold vb;split
   ·simp
   simp;exact jF f _
theorem Em:∀(f:Nat) (x:Int),0≤x→∀c∈vb f x,0≤c∧c≤255
 | 0,_,_=>by simp[vb]
 | f+1,x,h0=>by
   unfold vb;split
   ·intro c b;simp at b;omega
   intro c b;simp at b;rcases b with rfl | b
   ·omega
   exact Em f _ (by omega) c b
theorem Ly:∀(f:Nat) (x:Int),0≤x→x<128 ^ f→x<18446744073709551616→0<f→(((vb f x).length:Nat):Int)=max 1 (((Lib.bitLen x.toNat:Int)+6) / 7)
 | 0,_,_,_,_,h=>absurd h (by omega)
 | f+1,x,h0,hx,hw,_=>by
   by_cases hs:x<128
   ·rw[gX f hs];have:=Lib.bitLen_le x.toNat 7 aA aA;simp;omega
   rw[nW f aA];have e:=Lib.bitLen_shift 7 x.toNat aA aA;have b:x.toNat / 2 ^ 7=(x / 128).toNat:=aA;rw[b]at e;have j:0<f:=by
    rcases Nat.eq_zero_or_pos f with h | h
    ·subst h;simp at hx;omega
    exact h
   have m:(128:Int) ^ (f+1)=128 ^ f * 128:=Int.pow_succ ..;have n:=Ly f (x / 128) aA aA aA j;simp only[List.length_cons];rw[e];have l:1≤Lib.bitLen (x / 128).toNat:=by
    rcases Nat.eq_zero_or_pos (Lib.bitLen (x / 128).toNat)with h | h
    ·exfalso
     have:=Lib.bitLen_half (x / 128).toNat aA aA;omega
    exact h
   omega
theorem An(x:Int)(w:World)(h:aL x) :
  Calls prog 147 #[.int .u64 x] w fun e w'=>e=.returned (.int .i64 (Lib.bitLen x.toNat))∧w=w':=by
 obtain⟨h0,h1⟩:=h;have j:∀(k:Nat) (y:Int),y=x / 2 ^ k→0≤y→y≤255→2 ^ k≤x∨k=0→wrap64 (k+wrap64 (Lib.len8 y))=Lib.bitLen x.toNat:=by
  intro k y p u z r;rw[Lib.len8_of y u z];have l:=Lib.bitLen_le8' y u z;have s:Lib.bitLen x.toNat=k+Lib.bitLen y.toNat:=by
   rcases r with r | rfl
   ·have n:2 ^ k≤x.toNat:=by
     have:((2 ^ k:Nat):Int)≤x:=by push_cast;exact r
     omega
    rw[Lib.bitLen_shift k x.toNat n aA];have A:y=((x.toNat / 2 ^ k:Nat):Int):=by
     rw[p,Int.natCast_ediv];rw[Int.toNat_of_nonneg h0];push_cast
     rfl
    rw[A,Int.toNat_natCast]
   simp at p;rw[p];omega
  have B:=Lib.bitLen_le x.toNat 64 aA aA;unfold wrap64;omega
 have m:prog.underlying 9=some .string:=aC;by_cases c32:4294967296≤x;skip
 by_cases c16:65536≤x / 4294967296;skip
 by_cases c8:256≤x / 4294967296 / 65536;skip
 have b:0≤x / 4294967296 / 65536 / 256∧x / 4294967296 / 65536 / 256≤255:=aA;have q:∀W,(Instr.index 9 (.string Lib.len8tab) (.int .u8 (x / 4294967296 / 65536 / 256))).run prog W=.ok (.int .u8 (Lib.len8 (x / 4294967296 / 65536 / 256))) W:=fun W=>Lib.run_index_len8tab W 9 .u8 _ m b.1 b.2;have F:=aI (j 56 (x / 4294967296 / 65536 / 256) aA b.1 b.2 (.inl aA));rotate_left;skip
 have b:0≤x / 4294967296 / 65536∧x / 4294967296 / 65536≤255:=aA;have q:∀W,(Instr.index 9 (.string Lib.len8tab) (.int .u8 (x / 4294967296 / 65536))).run prog W=.ok (.int .u8 (Lib.len8 (x / 4294967296 / 65536))) W:=fun W=>Lib.run_index_len8tab W 9 .u8 _ m b.1 b.2;have F:=aI (j 48 (x / 4294967296 / 65536) aA b.1 b.2 (.inl aA));rotate_left;skip
 by_cases c8:256≤x / 4294967296;skip
 have b:0≤x / 4294967296 / 256∧x / 4294967296 / 256≤255:=aA;have q:∀W,(Instr.index 9 (.string Lib.len8tab) (.int .u8 (x / 4294967296 / 256))).run prog W=.ok (.int .u8 (Lib.len8 (x / 4294967296 / 256))) W:=fun W=>Lib.run_index_len8tab W 9 .u8 _ m b.1 b.2;have F:=aI (j 40 (x / 4294967296 / 256) aA b.1 b.2 (.inl aA));rotate_left;skip
 have b:0≤x / 4294967296∧x / 4294967296≤255:=aA;have q:∀W,(Instr.index 9 (.string Lib.len8tab) (.int .u8 (x / 4294967296))).run prog W=.ok (.int .u8 (Lib.len8 (x / 4294967296))) W:=fun W=>Lib.run_index_len8tab W 9 .u8 _ m b.1 b.2;have F:=aI (j 32 (x / 4294967296) aA b.1 b.2 (.inl aA));rotate_left;skip
 by_cases c16:65536≤x;skip
 by_cases c8:256≤x / 65536;skip
 have b:0≤x / 65536 / 256∧x / 65536 / 256≤255:=aA;have q:∀W,(Instr.index 9 (.string Lib.len8tab) (.int .u8 (x / 65536 / 256))).run prog W=.ok (.int .u8 (Lib.len8 (x / 65536 / 256))) W:=fun W=>Lib.run_index_len8tab W 9 .u8 _ m b.1 b.2;have F:=aI (j 24 (x / 65536 / 256) aA b.1 b.2 (.inl aA));rotate_left;skip
 have b:0≤x / 65536∧x / 65536≤255:=aA;have q:∀W,(Instr.index 9 (.string Lib.len8tab) (.int .u8 (x / 65536))).run prog W=.ok (.int .u8 (Lib.len8 (x / 65536))) W:=fun W=>Lib.run_index_len8tab W 9 .u8 _ m b.1 b.2;have F:=aI (j 16 (x / 65536) aA b.1 b.2 (.inl aA));rotate_left;skip
 by_cases c8:256≤x;skip
 have b:0≤x / 256∧x / 256≤255:=aA;have q:∀W,(Instr.index 9 (.string Lib.len8tab) (.int .u8 (x / 256))).run prog W=.ok (.int .u8 (Lib.len8 (x / 256))) W:=fun W=>Lib.run_index_len8tab W 9 .u8 _ m b.1 b.2;have F:=aI (j 8 (x / 256) aA b.1 b.2 (.inl aA));rotate_left
 ·skip
  have b:0≤x∧x≤255:=aA;have q:∀W,(Instr.index 9 (.string Lib.len8tab) (.int .u8 (x))).run prog W=.ok (.int .u8 (Lib.len8 (x))) W:=fun W=>Lib.run_index_len8tab W 9 .u8 _ m b.1 b.2;have F:=aI (j 0 (x) aA b.1 b.2 (.inr rfl));clear j b m;go_enter func147,ntmps147;go_wp2;go_ret;refine⟨congrArg Ending.returned (congrArg (Value.int IntKind.i64) ?_),rfl⟩;exact(by simpa using F.out)
 all_goals
  clear j b m;go_enter func147,ntmps147;go_wp2;go_ret;refine⟨congrArg Ending.returned (congrArg (Value.int IntKind.i64) ?_),rfl⟩;exact F
theorem rP(x:Int)(w:World)(h:aL x) :
  Calls prog 88 #[.int .u64 x] w fun e w'=>e=.returned (.int .i64 (vb 10 x).length)∧w=w':=by
 have K:=aI (fun W=>An x W h);obtain⟨h0,h1⟩:=h;have l:=Lib.bitLen_le x.toNat 64 aA aA;have e:=aI (Ly 10 x h0 aA h1 aA);obtain⟨b,j⟩:=aG (Lib.bitLen x.toNat);rw[j]at l K e;clear j;go_enter func88,ntmps88;go_wp2_with fail;refine(K _).mono ?_;rintro e m ⟨rfl,rfl⟩;go_wp2;go_ret;rw[e.out];exact⟨Cv aA,rfl⟩
end Go.Proofs.YtbkkolfpegplgaaGreatDoor
