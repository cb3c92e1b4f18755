import Derived.Test.YtbkkolfpegplgaaGreatDoorTG5
import Derived.Test.YtbkkolfpegplgaaGreatDoorTG6
open Go.Proofs.Tryz
namespace Go.Proofs.YtbkkolfpegplgaaGreatDoor
open Go Go.RowKit
def sN (c:Int):Value:=if c=0 then .nilIface else .iface 42 (.int .i64 c)
theorem w64{n:Int}(h0:0≤n)(h1:n≤9223372036854775807):IntKind.u64.wrap n=n:=by rw[IntKind.wrap_u64];omega
theorem uR(x limit rest:Int)(w:World)(A:aL x)(B:-9223372036854775808≤limit∧limit≤9223372036854775807)(C:-9223372036854775808≤rest∧rest≤9223372036854775807) :
  Calls prog 261 #[.int .u64 x,.int .i64 limit,.int .i64 rest] w fun e w'=>e=.returned (sN (bS x limit rest))∧w=w':=by
 have n:sN 7=.iface 42 (.int .i64 7):=rfl;have l:sN 5=.iface 42 (.int .i64 5):=rfl;have m:sN 0=.nilIface:=rfl;obtain⟨b,j⟩:=A;obtain⟨z,u⟩:=B;obtain⟨r,p⟩:=C;unfold bS;by_cases a1:0≤limit
 ·rw[show max limit 0=limit by omega];have y:=w64 a1 u;have a2:¬limit<0:=aA;by_cases h1:limit<x
  ·rw[if_pos h1,n];clear b j r p n l m;go_enter func261,ntmps261;go_wp2;go_ret;exact⟨rfl,rfl⟩
  rw[if_neg h1];by_cases b1:0≤rest
  ·rw[show max rest 0=rest by omega];have s:=w64 b1 p;have b2:¬rest<0:=aA;by_cases h2:rest<x
   ·rw[if_pos h2,l];clear b j n l m;go_enter func261,ntmps261;go_wp2;go_ret;exact⟨rfl,rfl⟩
   rw[if_neg h2,m];clear b j n l m;go_enter func261,ntmps261;go_wp2;go_ret;exact⟨rfl,rfl⟩
  rw[show max rest 0=0 by omega];have b2:rest<0:=aA;have s:IntKind.u64.wrap 0=0:=aB;by_cases h2:0<x
  ·rw[if_pos h2,l];clear b j n l m;go_enter func261,ntmps261;go_wp2;go_ret;exact⟨rfl,rfl⟩
  rw[if_neg h2,m];clear b j n l m;go_enter func261,ntmps261;go_wp2;go_ret;exact⟨rfl,rfl⟩
 rw[show max limit 0=0 by omega];have a2:limit<0:=aA;have y:IntKind.u64.wrap 0=0:=aB;by_cases h1:0<x
 ·rw[if_pos h1,n];clear b j r p n l m;go_enter func261,ntmps261;go_wp2;go_ret;exact⟨rfl,rfl⟩
 rw[if_neg h1];by_cases b1:0≤rest
 ·rw[show max rest 0=rest by omega];have s:=w64 b1 p;have b2:¬rest<0:=aA;by_cases h2:rest<x
  ·rw[if_pos h2,l];clear b j n l m;go_enter func261,ntmps261;go_wp2;go_ret;exact⟨rfl,rfl⟩
  rw[if_neg h2,m];clear b j n l m;go_enter func261,ntmps261;go_wp2;go_ret;exact⟨rfl,rfl⟩
 rw[show max rest 0=0 by omega];have b2:rest<0:=aA;have s:IntKind.u64.wrap 0=0:=aB;by_cases h2:0<x
 ·rw[if_pos h2,l];clear b j n l m;exact absurd h2 h1
 rw[if_neg h2,m];clear b j n l m;go_enter func261,ntmps261;go_wp2;go_ret;exact⟨rfl,rfl⟩
end Go.Proofs.YtbkkolfpegplgaaGreatDoor
