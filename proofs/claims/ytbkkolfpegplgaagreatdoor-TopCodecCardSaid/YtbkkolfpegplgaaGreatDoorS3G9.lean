/- bits.Len64, varint.Size; the bytes of a number as data. -/
import Derived.Test.YtbkkolfpegplgaaGreatDoorS3G1
import Derived.Lib.BitFns
import Derived.Lib.Strings
import Derived.Lib.Slices
import Derived.Lib.Small
import Derived.Lib.Walk
import Derived.IntWalk
set_option maxRecDepth 100000
namespace Go.Proofs.YtbkkolfpegplgaaGreatDoor
open Go.RowKit
def vb:Nat→Int→List Int
 | 0,_=>[]
 | f+1,x=>if x<128 then [x] else(x % 128+128) :: vb f (x / 128)
theorem z4p(f:Nat){x:Int}(h:x<128):vb (f+1) x=[x]:=by simp[vb,h]
theorem vb_big(f:Nat){x:Int}(h:128≤x):vb (f+1) x=(x % 128+128) :: vb f (x / 128):=by
 have:¬x<128:=by omega
 simp[vb,this]
theorem vb_len(f:Nat)(x:Int)(hf:0<f):1≤(vb f x).length:=by
 obtain⟨g,rfl⟩:∃g,f=g+1:=⟨f-1,by omega⟩;unfold vb;split<;>simp
theorem z4a:∀(f:Nat) (x:Int),(vb f x).length≤f
 | 0,_=>by simp[vb]
 | f+1,x=>by
   unfold vb;split
   ·simp
   ·simp;exact z4a f _
theorem size_vb:∀(f:Nat) (x:Int),0≤x→x<128 ^ f→x<18446744073709551616→0<f→(((vb f x).length:Nat):Int)=max 1 (((Lib.bitLen x.toNat:Int)+6) / 7)
 | 0,_,_,_,_,h=>absurd h (by omega)
 | f+1,x,h0,hx,hw,_=>by
   by_cases hs:x<128
   ·rw[z4p f hs]
    have:=Lib.bitLen_le x.toNat 7 (by omega) (by omega);simp
    omega
   ·rw[vb_big f (by omega)]
    have e:=Lib.bitLen_shift 7 x.toNat (by omega) (by omega);have e2:x.toNat / 2 ^ 7=(x / 128).toNat:=by omega
    rw[e2]at e;have hf:0<f:=by
     rcases Nat.eq_zero_or_pos f with h | h
     ·subst h;simp at hx;omega
     ·exact h
    have hp:(128:Int) ^ (f+1)=128 ^ f * 128:=Int.pow_succ ..;have ih:=size_vb f (x / 128) (by omega) (by omega) (by omega) hf;simp only[List.length_cons];rw[e];have hb1:1≤Lib.bitLen (x / 128).toNat:=by
     rcases Nat.eq_zero_or_pos (Lib.bitLen (x / 128).toNat)with h | h
     ·exfalso
      have:=Lib.bitLen_half (x / 128).toNat (by omega) (by omega);omega
     ·exact h
    omega
theorem len64_any(x:Int)(w:World)(h:Word x) :
  Calls Tryz.prog 147 #[.int .u64 x] w fun e w'=>e=.returned (.int .i64 (Lib.bitLen x.toNat))∧w=w':=by
 obtain⟨h0,h1⟩:=h;have fin:∀(k:Nat) (y:Int),y=x / 2 ^ k→0≤y→y≤255→2 ^ k≤x∨k=0→wrap64 (k+wrap64 (Lib.len8 y))=Lib.bitLen x.toNat:=by
  intro k y ey y0 y1 hk;rw[Lib.len8_of y y0 y1];have l:=Lib.bitLen_le8' y y0 y1;have s:Lib.bitLen x.toNat=k+Lib.bitLen y.toNat:=by
   rcases hk with hk | rfl
   ·have hk':2 ^ k≤x.toNat:=by
     have:((2 ^ k:Nat):Int)≤x:=by push_cast;exact hk
     omega
    rw[Lib.bitLen_shift k x.toNat hk' (by omega)];have e3:y=((x.toNat / 2 ^ k:Nat):Int):=by
     rw[ey,Int.natCast_ediv];rw[Int.toNat_of_nonneg h0];push_cast
     rfl
    rw[e3,Int.toNat_natCast]
   ·simp at ey;rw[ey];omega
  have lx:=Lib.bitLen_le x.toNat 64 (by omega) (by omega);unfold wrap64;omega
 have t9:Tryz.prog.underlying 9=some .string:=by kernel_rfl
 by_cases c32:4294967296≤x
 ·skip
  by_cases c16:65536≤x / 4294967296
  ·skip
   by_cases c8:256≤x / 4294967296 / 65536
   ·skip
    have hy:0≤x / 4294967296 / 65536 / 256∧x / 4294967296 / 65536 / 256≤255:=by omega
    have q:∀W,(Instr.index 9 (.string Lib.len8tab) (.int .u8 (x / 4294967296 / 65536 / 256))).run Tryz.prog W=.ok (.int .u8 (Lib.len8 (x / 4294967296 / 65536 / 256))) W:=fun W=>Lib.run_index_len8tab W 9 .u8 _ t9 hy.1 hy.2;have F:=z7 (fin 56 (x / 4294967296 / 65536 / 256) (by omega) hy.1 hy.2 (.inl (by omega)));clear fin hy t9;go_enter Tryz.func147,Tryz.ntmps147
    go_wp2
    go_ret
    refine⟨congrArg Ending.returned (congrArg (Value.int IntKind.i64) ?_),rfl⟩;exact F.out
   ·skip
    have hy:0≤x / 4294967296 / 65536∧x / 4294967296 / 65536≤255:=by omega
    have q:∀W,(Instr.index 9 (.string Lib.len8tab) (.int .u8 (x / 4294967296 / 65536))).run Tryz.prog W=.ok (.int .u8 (Lib.len8 (x / 4294967296 / 65536))) W:=fun W=>Lib.run_index_len8tab W 9 .u8 _ t9 hy.1 hy.2;have F:=z7 (fin 48 (x / 4294967296 / 65536) (by omega) hy.1 hy.2 (.inl (by omega)));clear fin hy t9;go_enter Tryz.func147,Tryz.ntmps147
    go_wp2
    go_ret
    refine⟨congrArg Ending.returned (congrArg (Value.int IntKind.i64) ?_),rfl⟩;exact F.out
  ·skip
   by_cases c8:256≤x / 4294967296
   ·skip
    have hy:0≤x / 4294967296 / 256∧x / 4294967296 / 256≤255:=by omega
    have q:∀W,(Instr.index 9 (.string Lib.len8tab) (.int .u8 (x / 4294967296 / 256))).run Tryz.prog W=.ok (.int .u8 (Lib.len8 (x / 4294967296 / 256))) W:=fun W=>Lib.run_index_len8tab W 9 .u8 _ t9 hy.1 hy.2;have F:=z7 (fin 40 (x / 4294967296 / 256) (by omega) hy.1 hy.2 (.inl (by omega)));clear fin hy t9;go_enter Tryz.func147,Tryz.ntmps147
    go_wp2
    go_ret
    refine⟨congrArg Ending.returned (congrArg (Value.int IntKind.i64) ?_),rfl⟩;exact F.out
   ·skip
    have hy:0≤x / 4294967296∧x / 4294967296≤255:=by omega
    have q:∀W,(Instr.index 9 (.string Lib.len8tab) (.int .u8 (x / 4294967296))).run Tryz.prog W=.ok (.int .u8 (Lib.len8 (x / 4294967296))) W:=fun W=>Lib.run_index_len8tab W 9 .u8 _ t9 hy.1 hy.2;have F:=z7 (fin 32 (x / 4294967296) (by omega) hy.1 hy.2 (.inl (by omega)));clear fin hy t9;go_enter Tryz.func147,Tryz.ntmps147
    go_wp2
    go_ret
    refine⟨congrArg Ending.returned (congrArg (Value.int IntKind.i64) ?_),rfl⟩;exact F.out
 ·skip
  by_cases c16:65536≤x
  ·skip
   by_cases c8:256≤x / 65536
   ·skip
    have hy:0≤x / 65536 / 256∧x / 65536 / 256≤255:=by omega
    have q:∀W,(Instr.index 9 (.string Lib.len8tab) (.int .u8 (x / 65536 / 256))).run Tryz.prog W=.ok (.int .u8 (Lib.len8 (x / 65536 / 256))) W:=fun W=>Lib.run_index_len8tab W 9 .u8 _ t9 hy.1 hy.2;have F:=z7 (fin 24 (x / 65536 / 256) (by omega) hy.1 hy.2 (.inl (by omega)));clear fin hy t9;go_enter Tryz.func147,Tryz.ntmps147
    go_wp2
    go_ret
    refine⟨congrArg Ending.returned (congrArg (Value.int IntKind.i64) ?_),rfl⟩;exact F.out
   ·skip
    have hy:0≤x / 65536∧x / 65536≤255:=by omega
    have q:∀W,(Instr.index 9 (.string Lib.len8tab) (.int .u8 (x / 65536))).run Tryz.prog W=.ok (.int .u8 (Lib.len8 (x / 65536))) W:=fun W=>Lib.run_index_len8tab W 9 .u8 _ t9 hy.1 hy.2;have F:=z7 (fin 16 (x / 65536) (by omega) hy.1 hy.2 (.inl (by omega)));clear fin hy t9;go_enter Tryz.func147,Tryz.ntmps147
    go_wp2
    go_ret
    refine⟨congrArg Ending.returned (congrArg (Value.int IntKind.i64) ?_),rfl⟩;exact F.out
  ·skip
   by_cases c8:256≤x
   ·skip
    have hy:0≤x / 256∧x / 256≤255:=by omega
    have q:∀W,(Instr.index 9 (.string Lib.len8tab) (.int .u8 (x / 256))).run Tryz.prog W=.ok (.int .u8 (Lib.len8 (x / 256))) W:=fun W=>Lib.run_index_len8tab W 9 .u8 _ t9 hy.1 hy.2;have F:=z7 (fin 8 (x / 256) (by omega) hy.1 hy.2 (.inl (by omega)));clear fin hy t9;go_enter Tryz.func147,Tryz.ntmps147
    go_wp2
    go_ret
    refine⟨congrArg Ending.returned (congrArg (Value.int IntKind.i64) ?_),rfl⟩;exact F.out
   ·skip
    have hy:0≤x∧x≤255:=by omega
    have q:∀W,(Instr.index 9 (.string Lib.len8tab) (.int .u8 (x))).run Tryz.prog W=.ok (.int .u8 (Lib.len8 (x))) W:=fun W=>Lib.run_index_len8tab W 9 .u8 _ t9 hy.1 hy.2;have F:=z7 (fin 0 (x) (by omega) hy.1 hy.2 (.inr rfl));clear fin hy t9;go_enter Tryz.func147,Tryz.ntmps147
    go_wp2
    go_ret
    refine⟨congrArg Ending.returned (congrArg (Value.int IntKind.i64) ?_),rfl⟩;exact(by simpa using F.out)
theorem size_any(x:Int)(w:World)(h:Word x) :
  Calls Tryz.prog 88 #[.int .u64 x] w fun e w'=>e=.returned (.int .i64 (vb 10 x).length)∧w=w':=by
 have K:=z7 (fun W=>len64_any x W h);obtain⟨h0,h1⟩:=h;have lx:=Lib.bitLen_le x.toNat 64 (by omega) (by omega);have e:=z7 (size_vb 10 x h0 (by omega) h1 (by omega));obtain⟨b,eb⟩:∃b,Lib.bitLen x.toNat=b:=⟨_,rfl⟩;rw[eb]at lx K e;clear eb;go_enter Tryz.func88,Tryz.ntmps88
 go_wp2_with fail
 refine(K.out _).mono ?_;rintro e w1 ⟨rfl,rfl⟩;go_wp2
 go_ret
 rw[e.out];exact⟨z40 (by omega),rfl⟩
end Go.Proofs.YtbkkolfpegplgaaGreatDoor
