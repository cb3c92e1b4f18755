/- Lists of words that the call itself made: a row of its own; delta's join; slices.Equal. A map of keys uint64 that the call has made: what it has at each key, as values. The contract of delta.Diffs. -/
import Derived.Test.YtbkkolfpegplgaaGreatDoorS3G4
import Derived.Test.YtbkkolfpegplgaaGreatDoorS3G1
import Derived.Deep.AppendLies
import Derived.ArgAppend
import Derived.Maps.AppendAt
import Derived.BigQuiet
import Derived.Deep.QuietTactic
import Derived.Maps.RangeWalk
import Derived.Maps.OwnOps
set_option maxHeartbeats 1600000
namespace Go.Proofs.YtbkkolfpegplgaaGreatDoor
open Go.RowKit
structure OwnI (w:World) (base:Nat) (v:Value) (zs:List Int):Prop where
 row:w.ownsRow base 57 1 v zs.length (zs.map (Value.int .u64))
 words:∀z∈zs,Word z
theorem wf_of_word{x:Int}(h:Word x):(Lit.int .u64 x).wf=true:=by
 unfold Word at h;simp[Lit.wf,IntKind.min,IntKind.max,IntKind.signed,IntKind.bits];omega
theorem OwnI.nil(w:World)(base:Nat):OwnI w base (.slice none 0 0) []:=⟨World.ownsRow_nil _ _ _ _,by simp⟩
theorem OwnI.ints{w:World}{base:Nat}{v:Value}{zs:List Int}(h:OwnI w base v zs)(hm:zs.length≤9223372036854775807):∃a cap,v=.slice a zs.length cap∧Ints .u64 w a zs.length zs∧zs.length≤cap:=by
 obtain⟨a,cap,hv,h1,_,h3⟩:=z4i h.row hm (fun z hz=>wf_of_word (h.words z hz));exact⟨a,cap,hv,h3,h1⟩
theorem irowI_below{w w':World}{base n:Nat}{t:TypeId}{v:Value}{xs:List Value}(h:w.ownsRow base t 1 v n xs)(hb:Below w.heap.size w w'):w'.ownsRow base t 1 v n xs:=by
 refine⟨h.1,?_⟩;rcases h.2 with hn | ⟨g,cap,cur,hv,hg,hc,rest⟩
 ·exact .inl hn
 ·exact .inr ⟨g,cap,cur,hv,hg,(hb.block g (Array.getElem?_eq_some_iff.1 hc).1).trans hc,rest⟩
theorem OwnI.below{w w':World}{base:Nat}{v:Value}{zs:List Int}(h:OwnI w base v zs)(hb:Below w.heap.size w w'):OwnI w' base v zs:=⟨irowI_below h.row hb,h.words⟩
theorem info_u64:(Tryz.prog.info? 57).map (fun i=>(i.zero,i.size,i.bytes))=some (some (.int .u64 0),1,8):=by kernel_rfl
theorem two_new(w:World){b:Nat}{x y:Value}{t:TypeId}(h:w.heap[b]?=some (.cells #[x,y] t (0,0))):∀j u,[x,y][j]?=some u→w.cell? ((⟨b,0,none⟩:Addr).add j)=some u:=by
 intro j u hj;have ea:∀j,(⟨b,0,none⟩:Addr).add j=⟨b,0+j,none⟩:=by
  intro j;unfold Addr.add;split<;>simp_all
 rw[ea];match j,hj with
 | 0,hj=>simp at hj;subst hj;simp[World.cell?,h]
 | 1,hj=>simp at hj;subst hj;simp[World.cell?,h]
theorem join_any(w0:World)(v:Value)(zs:List Int)(b:Nat)(x y:Int)(w:World)(h:OwnI w w0.heap.size v zs)(h0:Below w0.heap.size w0 w)(hx:w.heap[b]?=some (.cells #[.int .u64 x,.int .u64 y] 57 (0,0)))(wx:Word x)(wy:Word y)(hn:zs.length≤4000000000) :
  Calls Tryz.prog 94 #[v,.slice (some ⟨b,0,none⟩) 2 2] w fun e w'=>∃v',e=.returned v'∧OwnI w' w0.heap.size v' (zs ++ [x,y])∧Below w0.heap.size w0 w'∧w.heap.size≤w'.heap.size∧w.grownBy w' v.ownBlock:=by
 obtain⟨i0,hi,hz0,hz1,hz2⟩:=info_parts info_u64;have H:=z7 h;have HX:=z7 hx;have H0:=z7 h0;have hs:=h0.size;clear h hx h0;go_enter Tryz.func94,Tryz.ntmps94
 go_wp2_with(at_builtin;refine wpList_append_own_at _ rfl _ _ 89 rfl w0.heap.size 57 i0 (.int .u64 0) 1 8 Tryz.underlying89 hi hz0 hz1 hz2 rfl (by decide) _ _ _ rfl H.out.row ⟨b,0,none⟩ 2 2 [.int .u64 x,.int .u64 y] rfl rfl ?c1 ?c2 ?c3 ?c4 ?c5 ?_)
 case c1=>exact two_new _ HX.out
 case c2=>intro u hu;simp at hu;rcases hu with rfl | rfl<;>rfl
 case c3=>unfold maxLen;omega
 case c4=>omega
 case c5=>exact hs
 intro v' w1 hown hgrow _ _;have hb1:=H0.out.grown hgrow hs (fun g hg=>(H.out.row.lt g hg).1);have hO:OwnI w1 w0.heap.size v' (zs ++ [x,y]):=⟨by simpa using hown,fun z hz=>by
  simp at hz
  rcases hz with hz | rfl | rfl
  ·exact H.out.words z hz
  ·exact wx
  ·exact wy⟩
 have HO:=z7 hO;have hg:=hgrow.size;have HG:=z7 hgrow;clear hown hgrow hO;go_wp2
 go_ret
 exact⟨_,rfl,HO.out,hb1,hg,HG.out⟩
end Go.Proofs.YtbkkolfpegplgaaGreatDoor
namespace Go.Proofs.YtbkkolfpegplgaaGreatDoor
open Go Go.RowKit
def Rv (v:Value):Option (DataW Value×List MemPlace):=some (.held v,[])
theorem key_u64:Maps.Keyed Tryz.prog 57:=Maps.int_keyed (q:=.u64) Tryz.underlying57
theorem key_of{r:Int}(h:Word r):keyOf Tryz.prog 57 (.int .u64 r)=some (.int .u64 r):=Maps.keyOf_int_mk Tryz.underlying57 (wf_of_word h)
theorem lit_ne{x y:Int}(h:x≠y):Lit.int .u64 x≠Lit.int .u64 y:=fun e=>h (by cases e;rfl)
theorem lit_key(x:Int)(h:Word x):WideAt.IsKeyLit (.int .u64 x):=key_u64.key (key_of h)
def HasF (D:DataW Value) (f:Int→Option Value):Prop:=∀r,Word r→Maps.has D (.int .u64 r)=(f r).isSome∧∀z,D.atKey (.int .u64 r) (.held z)=.held ((f r).getD z)
def MapR (w:World) (b n:Nat) (f:Int→Option Value):Prop:=∃D,w.ownsMap Tryz.prog 57 Rv b n D∧HasF D f
def RangeR (w:World) (b r n:Nat) (f:Int→Option Value) (left:Int→Bool) (cnt:Nat):Prop:=∃D L,w.ranges Tryz.prog 57 Rv b r n D L cnt∧HasF D f∧∀x,Word x→L (.int .u64 x)=left x
def setM (f:Int→Option Value) (r:Int) (v:Option Value):Int→Option Value:=fun x=>if x=r then v else f x
theorem MapR.made(w:World):MapR (w.alloc (.map #[] 0)) w.heap.size 0 (fun _=>none):=⟨.map [],World.ownsMap_made _ _ _ _,fun _ _=>⟨rfl,fun _=>rfl⟩⟩
theorem MapR.lt{w:World}{b n:Nat}{f:Int→Option Value}(h:MapR w b n f):b<w.heap.size:=by obtain⟨D,h,_⟩:=h;exact h.lt
theorem ownsMap_at{H:Type}{P:Program}{k:TypeId}{R:Value→Option (DataW H×List MemPlace)}{w w':World}{b n:Nat}{D:DataW H}(h:w.ownsMap P k R b n D)(e:w'.heap[b]?=w.heap[b]?):w'.ownsMap P k R b n D:=by
 obtain⟨es,clock,hb,h⟩:=h;exact⟨es,clock,e.trans hb,h⟩
theorem ranges_at{H:Type}{P:Program}{k:TypeId}{R:Value→Option (DataW H×List MemPlace)}{w w':World}{b r n:Nat}{D:DataW H}{L:Lit→Bool}{cnt:Nat}(h:w.ranges P k R b r n D L cnt)(e:w'.heap[b]?=w.heap[b]?)(e':w'.heap[r]?=w.heap[r]?):w'.ranges P k R b r n D L cnt:=by
 obtain⟨es,clock,since,seen,c0,hb,F,hs,hD,hr,rest⟩:=h;exact⟨es,clock,since,seen,c0,e.trans hb,F,hs,hD,e'.trans hr,rest⟩
theorem MapR.at{w w':World}{b n:Nat}{f:Int→Option Value}(h:MapR w b n f)(e:w'.heap[b]?=w.heap[b]?):MapR w' b n f:=by
 obtain⟨D,h,hf⟩:=h;exact⟨D,ownsMap_at h e,hf⟩
theorem RangeR.at{w w':World}{b r n:Nat}{f:Int→Option Value}{left:Int→Bool}{cnt:Nat}(h:RangeR w b r n f left cnt)(e:w'.heap[b]?=w.heap[b]?)(e':w'.heap[r]?=w.heap[r]?):RangeR w' b r n f left cnt:=by
 obtain⟨D,L,h,hf⟩:=h;exact⟨D,L,ranges_at h e e',hf⟩
theorem MapR.below{w w':World}{b n:Nat}{f:Int→Option Value}(h:MapR w b n f)(hb:Below w.heap.size w w'):MapR w' b n f:=h.at (hb.block b h.lt)
theorem MapR.only{w w':World}{b n:Nat}{f:Int→Option Value}{may:Nat→Prop}(h:MapR w b n f)(ho:Only may w w')(hm:¬may b):MapR w' b n f:=h.at (ho.block b h.lt hm)
theorem RangeR.map{w:World}{b r n:Nat}{f:Int→Option Value}{left:Int→Bool}{cnt:Nat}(h:RangeR w b r n f left cnt):MapR w b n f:=by
 obtain⟨D,L,h,hf,_⟩:=h;exact⟨D,h.owns,hf⟩
theorem RangeR.lt{w:World}{b r n:Nat}{f:Int→Option Value}{left:Int→Bool}{cnt:Nat}(h:RangeR w b r n f left cnt):r<w.heap.size:=by
 obtain⟨D,L,h,_⟩:=h;exact h.lt
theorem RangeR.below{w w':World}{b r n:Nat}{f:Int→Option Value}{left:Int→Bool}{cnt:Nat}(h:RangeR w b r n f left cnt)(hb:Below w.heap.size w w'):RangeR w' b r n f left cnt:=h.at (hb.block b h.map.lt) (hb.block r h.lt)
theorem RangeR.only{w w':World}{b r n:Nat}{f:Int→Option Value}{left:Int→Bool}{cnt:Nat}{may:Nat→Prop}(h:RangeR w b r n f left cnt)(ho:Only may w w')(hm:¬may b)(hm':¬may r):RangeR w' b r n f left cnt:=h.at (ho.block b h.map.lt hm) (ho.block r h.lt hm')
theorem RangeR.left_eq{w:World}{b r n:Nat}{f:Int→Option Value}{left:Int→Bool}{cnt:Nat}(h:RangeR w b r n f left cnt):w.rangeLeft b r=cnt:=by
 obtain⟨D,L,h,_⟩:=h;exact h.left_eq
theorem HasF.put{D:DataW Value}{f:Int→Option Value}(h:HasF D f)(hm:Maps.IsMap D){r:Int}(hr:Word r)(v:Value):HasF (D.put (.int .u64 r) (.held v)) (setM f r (some v)):=by
 intro x hx;unfold setM;by_cases e:x=r
 ·subst e
  rw[if_pos rfl];exact⟨Maps.has_put_same hm (lit_key x hx) _,fun z=>Maps.atKey_put_same hm (lit_key x hx) _ _⟩
 ·rw[if_neg e]
  exact⟨(Maps.has_put_other (lit_ne e) _).trans (h x hx).1,fun z=>(Maps.atKey_put_other (lit_ne e) _ _).trans ((h x hx).2 z)⟩
theorem HasF.del{D:DataW Value}{f:Int→Option Value}(h:HasF D f){r:Int}:HasF (D.del (.int .u64 r)) (setM f r none):=by
 intro x hx;unfold setM;by_cases e:x=r
 ·subst e
  rw[if_pos rfl];exact⟨Maps.has_del_same,fun z=>Maps.atKey_del_same _⟩
 ·rw[if_neg e]
  exact⟨(Maps.has_del_other (lit_ne e)).trans (h x hx).1,fun z=>(Maps.atKey_del_other (lit_ne e) _).trans ((h x hx).2 z)⟩
theorem MapR.look{w:World}{b n:Nat}{f:Int→Option Value}{t e:TypeId}(h:MapR w b n f)(ht:Tryz.prog.underlying t=some (.map 57 e)){z:Value}(hz:(zeroValue e).run Tryz.prog w=.ok z w){r:Int}(hr:Word r) :
  (Instr.lookup t (.map (some b)) (.int .u64 r) false).run Tryz.prog w=.ok ((f r).getD z) w:=by
 obtain⟨D,h,hf⟩:=h;obtain⟨v,ps,h1,h2⟩:=h.lookup key_u64 ht hz (zd:=.held z) (zp:=[]) rfl (key_of hr);rw[(hf r hr).2 z]at h2;rw[h1,DataW.held.inj (Prod.mk.inj (Option.some.inj h2)).1]
section
variable (w:World) {ops:Array Oper} {rest:List Oper} {o:Oper} {a:Act} {Q:Exit→Act→World→Prop}
theorem z2g(hg:o.guard=none)(m x v:Operand)(t e:TypeId)(hop:o.op=Op.mapUpdate t m x v)(ht:Tryz.prog.underlying t=some (.map 57 e))(b n:Nat)(f:Int→Option Value)
  (hm:a.eval m=.map (some b)) (hown:MapR w b n f) (hn:n<maxLen) (r:Int) (val:Value) (hx:a.eval x=.int .u64 r) (hr:Word r) (hv:a.eval v=val)
  (hK:∀w',MapR w' b (n+1) (setM f r (some val))→w.grownBy w' (some b)→wpList Tryz.prog ops Q rest (a.put o.dst undef) w') :
  wpList Tryz.prog ops Q (o :: rest) a w:=by
 obtain⟨D,hown,hf⟩:=hown;have hM:=hown.isMap;exact wpList_mapUpdate_own w hg m x v t hop 57 e key_u64 ht Rv b n D hm hown hn _ val _ hx hv (key_of hr) (.held val) [] rfl (fun w' h1 h2=>hK w' ⟨_,h1,hf.put hM hr val⟩ h2)
theorem z3d(hg:o.guard=none)(m:Operand)(t e:TypeId)(hop:o.op=Op.range t m)(ht:Tryz.prog.underlying t=some (.map 57 e))(b n:Nat)(f:Int→Option Value)
  (hm:a.eval m=.map (some b)) (hown:MapR w b n f)
  (hK:∀w' cnt,cnt≤n→RangeR w' b w.heap.size n f (fun x=>(f x).isSome) cnt→w.grownBy w' none→w'.heap.size=w.heap.size+1→wpList Tryz.prog ops Q rest (a.put o.dst (.pointer (some ⟨w.heap.size,0,none⟩))) w') :
  wpList Tryz.prog ops Q (o :: rest) a w:=by
 obtain⟨D,hown,hf⟩:=hown;exact wpList_range_own w hg m t hop 57 e key_u64 ht Rv b n D hm hown (fun w' h1 h2 h3=>hK w' _ hown.size_le ⟨D,_,h1,hf,fun x hx=>(hf x hx).1⟩ h2 h3)
theorem z3j(hg:o.guard=none)(it:Operand)(hop:o.op=Op.next it false)(b r n:Nat)(f:Int→Option Value)(left:Int→Bool)(cnt:Nat)
  (hit:a.eval it=.pointer (some ⟨r,0,none⟩)) (h:RangeR w b r n f left cnt)
  (hDone:cnt=0→(∀x,Word x→left x=false)→wpList Tryz.prog ops Q rest (a.put o.dst (.tuple #[.bool false])) w)
  (hMore:∀(x:Int) (c:Value) (w':World) (cnt':Nat),Word x→left x=true→f x=some c→RangeR w' b r n f (fun y=>left y && decide (y≠x)) cnt'→cnt'<cnt →
    w.grownBy w' (some r)→w'.heap.size=w.heap.size→(Instr.entry (.pointer (some ⟨r,0,none⟩))).run Tryz.prog w'=.ok (.tuple #[.int .u64 x,c]) w'→wpList Tryz.prog ops Q rest (a.put o.dst (.tuple #[.bool true,.int .u64 x,c])) w') :
  wpList Tryz.prog ops Q (o :: rest) a w:=by
 obtain⟨D,L,h,hf,hL⟩:=h;refine wpList_next_ranges w hg it hop 57 key_u64 Rv (Value.int .u64) (fun v:Value=>v)
  (fun key kl hkey=>by obtain⟨x,rfl,_⟩:=Maps.keyOf_int_inv Tryz.underlying57 hkey;exact⟨x,rfl⟩) (fun v y _=>⟨v,rfl⟩) b r n D L cnt hit h
  (fun h0 hl=>hDone h0 fun x hx=>(hL x hx).symm.trans (hl _)) ?_
 intro x c kl y w' cnt' hkey hlk hv hat hrg hlt hgr hsz hen;obtain⟨x',ex,rfl,hwx⟩:=Maps.keyOf_int_inv Tryz.underlying57 hkey
 cases ex
 have hx:=z41 hwx;obtain rfl:=(Option.some.inj hv).symm;have hs:f x=some c:=by
  have h1:=(hf x hx).1;have h2:=(hf x hx).2 c;rw[Maps.has_true_of_atKey hat]at h1;obtain⟨v,ev⟩:=Option.isSome_iff_exists.1 h1.symm;rw[hat,ev]at h2;rw[ev];exact congrArg some (DataW.held.inj h2).symm
 refine hMore x c w' cnt' hx ((hL x hx).symm.trans hlk) hs ⟨D,_,hrg,hf,fun y hy=>?_⟩ hlt hgr hsz hen;rw[hL y hy];by_cases e:y=x
 ·subst e
  simp[WideAt.sameKey_self (lit_key y hy)]
 ·simp[Maps.sameKey_ne (lit_ne e),e]
theorem wpList_delete_r(hg:o.guard=none)(m x:Operand)(t e:TypeId)(hop:o.op=Op.call { callee:=Callee.builtin Builtin.delete,args:=#[m,x],argTypes:=#[t,57] })
  (ht:Tryz.prog.underlying t=some (.map 57 e)) (b r n:Nat) (f:Int→Option Value) (left:Int→Bool) (cnt:Nat)
  (hm:a.eval m=.map (some b)) (h:RangeR w b r n f left cnt) (k:Int) (hx:a.eval x=.int .u64 k) (hk:Word k)
  (hK:∀w' cnt',RangeR w' b r n (setM f k none) (fun y=>left y && decide (y≠k)) cnt'→cnt'≤cnt→w.grownBy w' (some b)→w'.heap.size=w.heap.size→wpList Tryz.prog ops Q rest (a.put o.dst (.tuple #[])) w') :
  wpList Tryz.prog ops Q (o :: rest) a w:=by
 obtain⟨D,L,h,hf,hL⟩:=h;refine wpList_delete_ranges w hg m x t 57 hop e key_u64 ht Rv b r n D L cnt hm h _ _ hx (key_of hk) ?_;intro w' cnt' h1 h2 h3;refine hK w' cnt' ⟨_,_,h1,hf.del,fun y hy=>?_⟩ h2 ?_ ?_
 ·rw[hL y hy]
  by_cases e:y=k
  ·subst e
   simp[WideAt.sameKey_self (lit_key y hy)]
  ·simp[Maps.sameKey_ne (lit_ne e),e]
 ·obtain⟨es,clock,es',clock',hb,rfl⟩:=h3
  exact⟨rfl,rfl,rfl,by simp[Go.ChangeMaps.setBlock],fun i _ hi=>Go.ChangeMaps.heap_setBlock_other hb _ (fun e=>hi (by rw[e]))⟩
 ·obtain⟨es,clock,es',clock',hb,rfl⟩:=h3
  simp[Go.ChangeMaps.setBlock]
end
end Go.Proofs.YtbkkolfpegplgaaGreatDoor
namespace Go.Proofs.YtbkkolfpegplgaaGreatDoor
open Go.RowKit
theorem z11{x:Int}(h:Word x):IntKind.u64.wrap x=x:=by unfold Word at h;rw[IntKind.wrap_u64];omega
theorem ApTo.gap{zs:List Iv}{ap:Int}{k:Nat}{w:World}{a:Option Addr}{len:Nat}(h:Prs w a len zs)(hk:k<len)(ha:Word ap)(hA:0<k→Hi zs (k-1)<Lo zs k∧ap≤Lo zs k-Hi zs (k-1)-1):Word (gapD zs ap k):=by
 have h1:=(h.word hk).1;unfold gapD;by_cases e:k=0
 ·rw[if_pos e];subst e;exact h1
 ·rw[if_neg e]
  have h2:=(h.word (i:=k-1) (by omega)).2;have:=hA (by omega);unfold Word at *;omega
def DiffsPost (w:World) (zs:List Iv) (ap:Int) (len:Nat) (e:Ending) (w':World):Prop:=
 Below w.heap.size w w'∧((ApTo zs ap len∧∃v,e=.returned (.tuple #[v,.bool true])∧OwnI w' w.heap.size v (dif zs ap len))∨(¬ApTo zs ap len∧e=.returned (.tuple #[.slice none 0 0,.bool false])))
theorem diffs_any(a:Option Addr)(len cap:Nat)(zs:List Iv)(ap:Int)(w:World)(h:Prs w a len zs)(ha:Word ap)(hs:len≤1000000) :
  Calls Tryz.prog 47 #[.slice a len cap,.int .u64 ap] w (DiffsPost w zs ap len):=by
 have H:=z7 h;have HA:=z7 ha;clear h ha;go_enter Tryz.func47,Tryz.ntmps47
 go_wp2
 go_loopw [6,14] (fun o c wr=>∃k:Nat,k≤len∧c=.int .i64 k∧OwnI wr w.heap.size o (dif zs ap k)∧ApTo zs ap k∧Below w.heap.size w wr)
  (fun _ c _=>len-(intOf c).toNat)
 case atStart=>exact⟨0,Nat.zero_le _,rfl,OwnI.nil _ _,ApTo.zero _ _,Below.refl _ _⟩
 case round=>
  obtain⟨k,hk,rfl,hO,hT,hb⟩:=hrel;have HO:=z7 hO;have HT:=z7 hT;clear hO hT;by_cases hlt:k<len
  ·obtain⟨b,off,rfl,hbl,hc1,hc2⟩:=(H.out.below hb).cells k hlt
   have hw:=H.out.word hlt;have i0:(0:Int)≤(k:Int):=by omega
   have i1:(k:Int)<(len:Int):=by omega
   have hsz:=hb.size;have hdl:=z7 (z2k zs ap k);have hgw:=z7 (fun hh=>ApTo.gap H.out hlt HA.out hh);have eD:Hid (dif zs ap (k+1)=dif zs ap k ++ [gapD zs ap k,Hi zs k-Lo zs k]):=rfl;have eS:=z7 (fun(h1:Lo zs k≤Hi zs k) hh=>HT.out.succ h1 hh);have BAD:=z7 (fun(hA:ApTo zs ap len)=>hA k hlt);have eG:=z7 (show gapD zs ap k=if k=0 then Lo zs 0 else Lo zs k-Hi zs (k-1)-1-ap from rfl);by_cases h1:Lo zs k≤Hi zs k
   ·have hw1:=hw
    by_cases hk0:k=0
    ·have hS:=eS.out h1 (fun h=>absurd h (by omega))
     have HS:=z7 hS;have hg:=eG.out;rw[if_pos hk0]at hg;have WD:Hid (Word (Hi zs k-Lo zs k)):=z7 (by unfold Word at *;omega);obtain⟨lo,elo⟩:∃lo,lo=Lo zs k:=⟨_,rfl⟩;obtain⟨hi,ehi⟩:∃hi,hi=Hi zs k:=⟨_,rfl⟩;have hg':gapD zs ap k=lo:=by rw[hg,elo,hk0]
     rw[hg']at eD;rw[← elo]at hc1 hw h1 WD eD;rw[← ehi]at hc2 hw h1 WD eD;have WL:=z7 hw.1;have d1:IntKind.u64.wrap (hi-lo)=hi-lo:=z11 WD.out;have n0:¬(0:Int)<(k:Int):=by omega
     have HW:=z7 hw;have HB:=z7 hb;clear hg hg' elo ehi hk0 hS hw hw1 eG eS BAD hgw;go_wp2_with fail
     refine(join_any w _ (dif zs ap k) _ lo (hi-lo) _ (HO.out.below (zc (zc (Below.refl wr.heap.size wr) _) _)) (zc (zc HB.out _) _) (ze _ _ (by simp)) WL.out WD.out (by rw[hdl.out];omega)).mono ?_;rintro e w2 ⟨v',rfl,hO2,hb2,_,_⟩;rw[← eD.out]at hO2;have HO2:=z7 hO2;clear hO2;go_wp2
     go_roundw
     case rel=>exact⟨k+1,by omega,by go_num,HO2.out,HS.out,hb2⟩
     case measure=>simp[intOf];omega
    ·obtain⟨b2,off2,eb,_,_,hp0⟩:=(H.out.below hb).cells (k-1) (by omega)
     obtain⟨rfl,rfl⟩:b=b2∧off=off2:=by simpa using eb
     have hwp:=(H.out.word (i:=k-1) (by omega)).2;obtain⟨lo,elo⟩:∃lo,lo=Lo zs k:=⟨_,rfl⟩;obtain⟨hi,ehi⟩:∃hi,hi=Hi zs k:=⟨_,rfl⟩;obtain⟨pr,epr⟩:∃pr,pr=Hi zs (k-1):=⟨_,rfl⟩;have eg1:=eG.out;rw[if_neg hk0]at eg1;rw[eg1]at eD hgw;rw[← elo]at hc1 hw h1 eD eS BAD hgw;rw[← ehi]at hc2 hw h1 eD eS BAD;rw[← epr]at hp0 hwp eD eS BAD hgw;have HW:=z7 hw;have HP:=z7 hwp;have HB:=z7 hb;have WD:Hid (Word (hi-lo)):=z7 (by unfold Word at *;omega);have d1:IntKind.u64.wrap (hi-lo)=hi-lo:=z11 WD.out;have n0:(0:Int)<(k:Int):=by omega
     have n1:(0:Int)≤(k:Int)-1:=by omega
     have n2:(k:Int)-1<(len:Int):=by omega
     have n3:IntKind.i64.wrap ((k:Int)-1)=(k:Int)-1:=IntWalk.i64_in _ (by omega);have n4:((k:Int)-1).toNat=k-1:=by omega
     have hk1:0<k:=by omega
     have NB:=z7 (fun(hA:ApTo zs ap len)=>(BAD.out hA).2 hk1);have hsz1:b≠wr.heap.size:=by omega
     clear eb elo ehi epr hk0 hw hw1 hwp eG eg1 BAD hb;by_cases h2:pr<lo
     ·by_cases h3:ap≤lo-pr-1
      ·have HS:=z7 (eS.out h1 (fun _=>⟨h2,h3⟩))
       have WG:=z7 (hgw.out (fun _=>⟨h2,h3⟩));have d2:IntKind.u64.wrap (lo-pr-1-ap)=lo-pr-1-ap:=z11 WG.out;have HN:=z7 (fun W=>z2j pr lo HP.out HW.out.1 h2 W);clear eS NB hgw;go_wp2_with fail
       go_quiet ((go_at_call 89;exact z44 (HN.out _)))
       go_wp2_with fail
       refine(join_any w _ (dif zs ap k) _ (lo-pr-1-ap) (hi-lo) _ (HO.out.below (zc (zm (zc (Below.refl wr.heap.size wr) _) _) _)) (zc (zm (zc HB.out _) _) _) (ze _ _ (by simp)) WG.out WD.out (by rw[hdl.out];omega)).mono ?_;rintro e w2 ⟨v',rfl,hO2,hb2,_,_⟩;rw[← eD.out]at hO2;have HO2:=z7 hO2;clear hO2;go_wp2
       go_roundw
       case rel=>exact⟨k+1,by omega,by go_num,HO2.out,HS.out,hb2⟩
       case measure=>simp[intOf];omega
      ·have NO:=z7 (show ¬ApTo zs ap len from fun hA=>h3 (NB.out hA).2)
       have h3':lo-pr-1<ap:=by omega
       have HN:=z7 (fun W=>z2j pr lo HP.out HW.out.1 h2 W);clear eS NB hgw eD h3;go_wp2_with fail
       go_quiet ((go_at_call 89;exact z44 (HN.out _)))
       go_wp2
       go_ret2
       exact⟨zm (zc HB.out _) _,.inr ⟨NO.out,rfl⟩⟩
     ·have NO:=z7 (show ¬ApTo zs ap len from fun hA=>h2 (NB.out hA).1)
      have HN:=z7 (fun W=>z38 pr lo HP.out HW.out.1 (by omega) W);clear eS NB hgw eD;go_wp2_with fail
      go_quiet ((go_at_call 89;exact z44 (HN.out _)))
      go_wp2
      go_ret2
      exact⟨zm (zc HB.out _) _,.inr ⟨NO.out,rfl⟩⟩
   ·have h1':Hi zs k<Lo zs k:=by omega
    have NO:=z7 (show ¬ApTo zs ap len from fun hA=>h1 (BAD.out hA).1);obtain⟨lo,elo⟩:∃lo,lo=Lo zs k:=⟨_,rfl⟩;obtain⟨hi,ehi⟩:∃hi,hi=Hi zs k:=⟨_,rfl⟩;rw[← elo]at hc1 h1';rw[← ehi]at hc2 h1';clear elo ehi h1 hw eG eS BAD hgw eD;go_wp2
    go_ret2
    exact⟨zc hb _,.inr ⟨NO.out,rfl⟩⟩
  ·obtain rfl:k=len:=by omega
   go_wp2
   go_ret2
   exact⟨hb,.inl ⟨HT.out,_,rfl,HO.out⟩⟩
end Go.Proofs.YtbkkolfpegplgaaGreatDoor
