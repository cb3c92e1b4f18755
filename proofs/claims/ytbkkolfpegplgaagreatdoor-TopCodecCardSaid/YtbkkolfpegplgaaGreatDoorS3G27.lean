/- append of one list of bytes behind another of the call's own, as a law for the walk: the second may be nil. -/
import Derived.Test.YtbkkolfpegplgaaGreatDoorS3G10
import Derived.Laws.AppendOwnNone
namespace Go.Proofs.YtbkkolfpegplgaaGreatDoor
open Go Go.RowKit
theorem own_ints{k:IntKind}{w:World}{ad:Addr}{len:Nat}{zs:List Int}(h:Ints k w (some ad) len zs):∀j u,(zs.map (Value.int k))[j]?=some u→w.cell? (ad.add j)=some u:=by
 intro j u hj;have hl:=h.length;rw[List.getElem?_map]at hj;obtain⟨z,hz,rfl⟩:=Option.map_eq_some_iff.1 hj;have hlt:j<zs.length:=(List.getElem?_eq_some_iff.1 hz).1;obtain⟨b,off,e,_,hc⟩:=h.cells j (by omega);obtain rfl:ad=⟨b,off,none⟩:=by simpa using e
 have e1:zs.getD j 0=z:=by simp[List.getD,hz]
 rw[e1]at hc;have ea:(⟨b,off,none⟩:Addr).add j=⟨b,off+j,none⟩:=by
  unfold Addr.add;split<;>simp_all
 rw[ea];exact hc
theorem z18{ops:Array Oper}{rest:List Oper}{o:Oper}{a:Act}{Q:Exit→Act→World→Prop}{w:World}(hgd:o.guard=none)(s x:Operand)
  (ho:o.op=.call { callee:=.builtin .append,args:=#[s,x],argTypes:=#[33,33] })
  (base:Nat) (v:Value) (xs:List Int) (hs:a.eval s=v) (hown:OwnB w base v xs) (a2:Option Addr) (m c:Nat) (ys:List Int) (hx:a.eval x=.slice a2 m c) (hI:Ints .u8 w a2 m ys) (hn:a2=none→c=0)
  (h63:xs.length+m≤4000000000) (hbase:base≤w.heap.size)
  (h:∀v' w',OwnB w' base v' (xs ++ ys)→w.grownBy w' v.ownBlock→wpList Tryz.prog ops Q rest (a.put o.dst v') w'):wpList Tryz.prog ops Q (o :: rest) a w:=by
 obtain⟨i0,hi,hz0,hz1,hz2⟩:=info_parts info_u8;have hl:=hI.length;have hb:∀z∈xs ++ ys,0≤z∧z≤255:=fun z hz=>by
  rcases List.mem_append.1 hz with hz | hz
  ·exact hown.bytes z hz
  ·exact byte_of_wf (hI.wf z hz)
 cases a2 with
 | none=>
   obtain rfl:m=0:=by
    by_cases e:m=0
    ·exact e
    ·obtain⟨b,off,e,_⟩:=hI.cells 0 (by omega);cases e
   obtain rfl:c=0:=hn rfl;obtain rfl:ys=[]:=List.length_eq_zero_iff.1 hl;refine wpList_append_own_none hgd s x 33 ho base 5 i0 1 Tryz.underlying33 hi v xs.length _ hs hown.row hx (h v w ?_ ⟨rfl,rfl,rfl,Nat.le_refl _,fun _ _ _=>rfl⟩);simpa using hown
 | some ad=>
   refine wpList_append_own_at w hgd s x 33 ho base 5 i0 (.int .u8 0) 1 1 Tryz.underlying33 hi hz0 hz1 hz2 rfl (by decide) v xs.length _ hs hown.row ad m c (ys.map (Value.int .u8)) hx (by simp[hl]) (own_ints hI) ?_ (by unfold maxLen;omega) (by omega) hbase ?_
   ·intro u hu
    obtain⟨z,_,rfl⟩:=List.mem_map.1 hu;rfl
   ·intro v' w' h1 h2 _ _
    exact h v' w' ⟨by rw[List.length_append,hl,List.map_append];exact h1,hb⟩ h2
end Go.Proofs.YtbkkolfpegplgaaGreatDoor
