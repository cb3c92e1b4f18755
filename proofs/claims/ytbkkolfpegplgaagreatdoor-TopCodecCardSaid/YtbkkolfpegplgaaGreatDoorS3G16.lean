/- What pack.Read does with the bytes: the numbers one by one. -/
import Derived.Test.YtbkkolfpegplgaaGreatDoorS3G15
import Derived.Test.YtbkkolfpegplgaaGreatDoorS3G8
import Derived.Laws.BitsAllLaws
namespace Go.Proofs.YtbkkolfpegplgaaGreatDoor
open Go Go.RowKit
theorem wrap_is_word(n:Int):Word (IntKind.u64.wrap n):=by rw[IntKind.wrap_u64];exact⟨by omega,by omega⟩
theorem putX_word{x n c:Int}(hx:Word x):Word (putX x n c):=by
 unfold putX;have hy:=wrap_is_word (IntKind.u64.wrap (bits .andNot .u8 c 128) * 2 ^ (7 * n).toNat);generalize IntKind.u64.wrap (IntKind.u64.wrap (bits .andNot .u8 c 128) * 2 ^ (7 * n).toNat)=y at hy
 have h1:=hx.1;have h2:=hx.2;have h3:=hy.1;have h4:=hy.2;rw[u64_or x y h1 h2 h3 h4];have hb:x.toNat ||| y.toNat<2 ^ 64:=Nat.or_lt_two_pow (by omega) (by omega);exact⟨by omega,by omega⟩
theorem acc_word(zs:List Int)(a:Nat):∀k,Word (acc zs a k)
 | 0=>(show Word (0:Int)from⟨by decide,by decide⟩)
 | k+1=>putX_word (acc_word zs a k)
inductive Rd (zs:List Int) (a:Int):Except Int (Int×Int)→Prop where
 | out:(a<0∨zs.length≤a)→Rd zs a (.error 5)
 | short:0≤a→a<zs.length→Opens zs a.toNat (zs.length-a.toNat)→Rd zs a (.error 5)
 | bad (K:Nat):0≤a→a<zs.length→Stops zs a.toNat K→putS K (byteAt zs (a.toNat+K))=2→Rd zs a (.error 6)
 | ok (K:Nat):0≤a→a<zs.length→Stops zs a.toNat K→putS K (byteAt zs (a.toNat+K))=1→Rd zs a (.ok (acc zs a.toNat (K+1),a+(K+1)))
def rdV (a:Int):Except Int (Int×Int)→Value
 | .error c=>.tuple #[.int .u64 0,.int .i64 0,.iface 107 (.agg #[.int .i64 c,.int .i64 a])]
 | .ok p=>.tuple #[.int .u64 p.1,.int .i64 p.2,.nilIface]
theorem rd_ok{zs:List Int}{a x n:Int}(h:Rd zs a (.ok (x,n))):0≤a∧a<n∧n≤zs.length∧Word x:=by
 cases h with
 | ok K g1 g2 g3 _=>have:=g3.lt;exact⟨g1,by omega,by omega,acc_word _ _ _⟩
theorem rd_any(p:Option Addr)(len cap:Nat)(zs:List Int)(a:Int)(o:Except Int (Int×Int))(w:World)(h:Ints .u8 w p len zs)(hcap:len≤cap)(hlm:len≤4000000000)(hb:-4000000100≤a∧a≤4000000100)(hr:Rd zs a o) :
  Calls Tryz.prog 54 #[.slice p len cap,.int .i64 a] w fun e w'=>e=.returned (rdV a o)∧Below w.heap.size w w':=by
 have hl:=h.length
 cases hr with
 | out g=>exact read_out p len cap a w (by omega) hb
 | short g1 g2 g3=>exact read_short p len cap zs a w h (by omega) hcap hlm g3
 | bad K g1 g2 g3 g4=>
   refine(read_stop p len cap zs a K w h (by omega) hcap hlm g3).mono ?_;rintro e w' ⟨rfl,hb'⟩;unfold readV;rw[if_neg (by omega)];exact⟨rfl,hb'⟩
 | ok K g1 g2 g3 g4=>
   refine(read_stop p len cap zs a K w h (by omega) hcap hlm g3).mono ?_;rintro e w' ⟨rfl,hb'⟩;unfold readV;rw[if_pos g4];exact⟨rfl,hb'⟩
inductive Run (lm:Lim) (zs:List Int):St→Int→Except (Int×Int) (List Ent×Int)→Prop where
 | rd {s:St} {a c:Int}:Rd zs a (.error c)→Run lm zs s a (.error (c,a))
 | stop {s:St} {a x n c:Int}:Rd zs a (.ok (x,n))→stepS lm s x (zs.length-n)=.error c→Run lm zs s a (.error (c,a))
 | fin {s s':St} {a x n:Int}:Rd zs a (.ok (x,n))→stepS lm s x (zs.length-n)=.ok s'→s'.ph.isFin=true→Run lm zs s a (.ok (s'.es,n))
 | next {s s':St} {a x n:Int} {o:Except (Int×Int) (List Ent×Int)}:Rd zs a (.ok (x,n))→stepS lm s x (zs.length-n)=.ok s'→s'.ph.isFin=false→Run lm zs s' n o→Run lm zs s a o
end Go.Proofs.YtbkkolfpegplgaaGreatDoor
