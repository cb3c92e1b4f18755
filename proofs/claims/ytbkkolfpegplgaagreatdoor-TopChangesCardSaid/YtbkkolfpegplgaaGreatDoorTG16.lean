import Derived.Test.YtbkkolfpegplgaaGreatDoorTG15
import Derived.Test.YtbkkolfpegplgaaGreatDoorTG8
namespace Go.Proofs.YtbkkolfpegplgaaGreatDoor
open Go Go.RowKit
theorem Bu(n:Int):aL (IntKind.u64.wrap n):=by rw[IntKind.wrap_u64];exact⟨aA,aA⟩
theorem Ps{x n c:Int}(j:aL x):aL (fN x n c):=by
 unfold fN;have b:=Bu (IntKind.u64.wrap (bits .andNot .u8 c 128) * 2 ^ (7 * n).toNat);generalize IntKind.u64.wrap (IntKind.u64.wrap (bits .andNot .u8 c 128) * 2 ^ (7 * n).toNat)=y at b;have h1:=j.1;have h2:=j.2;have h3:=b.1;have h4:=b.2;rw[u64_or x y h1 h2 h3 h4];have l:x.toNat ||| y.toNat<2 ^ 64:=Nat.or_lt_two_pow aA aA;exact⟨aA,aA⟩
theorem Iw(zs:List Int)(a:Nat):∀k,aL (kR zs a k)
 | 0=>(show aL (0:Int)from⟨by decide,by decide⟩)
 | k+1=>Ps (Iw zs a k)
inductive Rd (zs:List Int) (a:Int):Except Int (Int×Int)→Prop where
 | out:(a<0∨zs.length≤a)→Rd zs a (.error 5)
 | short:0≤a→a<zs.length→Opens zs a.toNat (zs.length-a.toNat)→Rd zs a (.error 5)
 | bad (K:Nat):0≤a→a<zs.length→qG zs a.toNat K→dQ K (aW zs (a.toNat+K))=2→Rd zs a (.error 6)
 | ok (K:Nat):0≤a→a<zs.length→qG zs a.toNat K→dQ K (aW zs (a.toNat+K))=1→Rd zs a (.ok (kR zs a.toNat (K+1),a+(K+1)))
def GU (a:Int):Except Int (Int×Int)→Value
 | .error c=>.tuple #[.int .u64 0,.int .i64 0,.iface 107 (.agg #[.int .i64 c,.int .i64 a])]
 | .ok p=>.tuple #[.int .u64 p.1,.int .i64 p.2,.nilIface]
theorem Yy(zs:List Int)(a:Int):∃o,Rd zs a o:=by
 by_cases h0:a<0∨zs.length≤a
 ·exact⟨_,.out h0⟩
 have h1:0≤a:=aA;have h2:a<zs.length:=aA;rcases Tg zs a.toNat aA with⟨K,hK⟩ | ho
 ·rcases xL K (aW zs (a.toNat+K))with h | h | h
  ·exact absurd h hK.stop
  ·exact⟨_,.ok K h1 h2 hK h⟩
  exact⟨_,.bad K h1 h2 hK h⟩
 exact⟨_,.short h1 h2 ho⟩
theorem xH{zs:List Int}{a x n:Int}(h:Rd zs a (.ok (x,n))):0≤a∧a<n∧n≤zs.length∧aL x:=by
 cases h with
 | ok K g1 g2 g3 _=>have:=g3.lt;exact⟨g1,aA,aA,Iw _ _ _⟩
theorem Cx(p:Option Addr)(len cap:Nat)(zs:List Int)(a:Int)(o:Except Int (Int×Int))(w:World)(h:Ints .u8 w p len zs)(b:len≤cap)(l:len≤4000000000)(m:-4000000100≤a∧a≤4000000100)(n:Rd zs a o) :
  Calls Tryz.prog 54 #[.slice p len cap,.int .i64 a] w fun e w'=>e=.returned (GU a o)∧Below w.heap.size w w':=by
 have r:=h.length
 cases n with
 | out g=>exact Uj p len cap a w aA m
 | short g1 g2 g3=>exact Jr p len cap zs a w h aA b l g3
 | bad K g1 g2 g3 g4=>
   refine(Ac p len cap zs a K w h aA b l g3).mono ?_;rintro e w' ⟨rfl,j⟩;unfold xF;rw[if_neg aA];exact⟨rfl,j⟩
 | ok K g1 g2 g3 g4=>
   refine(Ac p len cap zs a K w h aA b l g3).mono ?_;rintro e w' ⟨rfl,j⟩;unfold xF;rw[if_pos g4];exact⟨rfl,j⟩
inductive JE (lm:cD) (zs:List Int):St→Int→Except (Int×Int) (List Ent×Int)→Prop where
 | rd {s:St} {a c:Int}:Rd zs a (.error c)→JE lm zs s a (.error (c,a))
 | stop {s:St} {a x n c:Int}:Rd zs a (.ok (x,n))→bU lm s x (zs.length-n)=.error c→JE lm zs s a (.error (c,a))
 | fin {s s':St} {a x n:Int}:Rd zs a (.ok (x,n))→bU lm s x (zs.length-n)=.ok s'→s'.ph.isFin=true→JE lm zs s a (.ok (s'.es,n))
 | next {s s':St} {a x n:Int} {o:Except (Int×Int) (List Ent×Int)}:Rd zs a (.ok (x,n))→bU lm s x (zs.length-n)=.ok s'→s'.ph.isFin=false→JE lm zs s' n o→JE lm zs s a o
end Go.Proofs.YtbkkolfpegplgaaGreatDoor
