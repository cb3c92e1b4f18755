/- pack's small functions: limited. -/
import Derived.Test.YtbkkolfpegplgaaGreatDoorS3G5
import Derived.Test.YtbkkolfpegplgaaGreatDoorS3G6
namespace Go.Proofs.YtbkkolfpegplgaaGreatDoor
open Go Go.RowKit
def errE (c:Int):Value:=if c=0 then .nilIface else .iface 42 (.int .i64 c)
theorem w64{n:Int}(h0:0≤n)(h1:n≤9223372036854775807):IntKind.u64.wrap n=n:=by rw[IntKind.wrap_u64];omega
theorem limited_any(x limit rest:Int)(w:World)(hx:Word x)(hl:-9223372036854775808≤limit∧limit≤9223372036854775807)(hr:-9223372036854775808≤rest∧rest≤9223372036854775807) :
  Calls Tryz.prog 261 #[.int .u64 x,.int .i64 limit,.int .i64 rest] w fun e w'=>e=.returned (errE (limitC x limit rest))∧w=w':=by
 have e7:errE 7=.iface 42 (.int .i64 7):=rfl;have e5:errE 5=.iface 42 (.int .i64 5):=rfl;have e0:errE 0=.nilIface:=rfl;obtain⟨hx0,hx1⟩:=hx;obtain⟨hl0,hl1⟩:=hl;obtain⟨hr0,hr1⟩:=hr;unfold limitC;by_cases a1:0≤limit
 ·rw[show max limit 0=limit by omega]
  have m1:=w64 a1 hl1;have a2:¬limit<0:=by omega
  by_cases h1:limit<x
  ·rw[if_pos h1,e7]
   clear hx0 hx1 hr0 hr1 e7 e5 e0;go_enter Tryz.func261,Tryz.ntmps261
   go_wp2
   go_ret
   exact⟨rfl,rfl⟩
  ·rw[if_neg h1]
   by_cases b1:0≤rest
   ·rw[show max rest 0=rest by omega]
    have n1:=w64 b1 hr1;have b2:¬rest<0:=by omega
    by_cases h2:rest<x
    ·rw[if_pos h2,e5]
     clear hx0 hx1 e7 e5 e0;go_enter Tryz.func261,Tryz.ntmps261
     go_wp2
     go_ret
     exact⟨rfl,rfl⟩
    ·rw[if_neg h2,e0]
     clear hx0 hx1 e7 e5 e0;go_enter Tryz.func261,Tryz.ntmps261
     go_wp2
     go_ret
     exact⟨rfl,rfl⟩
   ·rw[show max rest 0=0 by omega]
    have b2:rest<0:=by omega
    have n1:IntKind.u64.wrap 0=0:=by decide
    by_cases h2:0<x
    ·rw[if_pos h2,e5]
     clear hx0 hx1 e7 e5 e0;go_enter Tryz.func261,Tryz.ntmps261
     go_wp2
     go_ret
     exact⟨rfl,rfl⟩
    ·rw[if_neg h2,e0]
     clear hx0 hx1 e7 e5 e0;go_enter Tryz.func261,Tryz.ntmps261
     go_wp2
     go_ret
     exact⟨rfl,rfl⟩
 ·rw[show max limit 0=0 by omega]
  have a2:limit<0:=by omega
  have m1:IntKind.u64.wrap 0=0:=by decide
  by_cases h1:0<x
  ·rw[if_pos h1,e7]
   clear hx0 hx1 hr0 hr1 e7 e5 e0;go_enter Tryz.func261,Tryz.ntmps261
   go_wp2
   go_ret
   exact⟨rfl,rfl⟩
  ·rw[if_neg h1]
   by_cases b1:0≤rest
   ·rw[show max rest 0=rest by omega]
    have n1:=w64 b1 hr1;have b2:¬rest<0:=by omega
    by_cases h2:rest<x
    ·rw[if_pos h2,e5]
     clear hx0 hx1 e7 e5 e0;go_enter Tryz.func261,Tryz.ntmps261
     go_wp2
     go_ret
     exact⟨rfl,rfl⟩
    ·rw[if_neg h2,e0]
     clear hx0 hx1 e7 e5 e0;go_enter Tryz.func261,Tryz.ntmps261
     go_wp2
     go_ret
     exact⟨rfl,rfl⟩
   ·rw[show max rest 0=0 by omega]
    have b2:rest<0:=by omega
    have n1:IntKind.u64.wrap 0=0:=by decide
    by_cases h2:0<x
    ·rw[if_pos h2,e5]
     clear hx0 hx1 e7 e5 e0;exact absurd h2 h1
    ·rw[if_neg h2,e0]
     clear hx0 hx1 e7 e5 e0;go_enter Tryz.func261,Tryz.ntmps261
     go_wp2
     go_ret
     exact⟨rfl,rfl⟩
end Go.Proofs.YtbkkolfpegplgaaGreatDoor
