import Derived.Test.YtbkkolfpegplgaaGreatDoorTG10
import Derived.Laws.AppendOwnNone
namespace Go.Proofs.YtbkkolfpegplgaaGreatDoor
open Go Go.RowKit
theorem Gg{k:IntKind}{w:World}{ad:Addr}{len:Nat}{zs:List Int}(h:Ints k w (some ad) len zs):∀j u,(zs.map (Value.int k))[j]?=some u→w.cell? (ad.add j)=some u:=by
 intro j u n;have y:=h.length;rw[List.getElem?_map]at n;obtain⟨z,l,rfl⟩:=Option.map_eq_some_iff.1 n;have p:j<zs.length:=(List.getElem?_eq_some_iff.1 l).1;obtain⟨b,off,e,_,m⟩:=h.cells j aA;obtain rfl:ad=⟨b,off,none⟩:=by simpa using e
 have r:zs.getD j 0=z:=by simp[List.getD,l]
 rw[r]at m;have s:(⟨b,off,none⟩:Addr).add j=⟨b,off+j,none⟩:=by
  unfold Addr.add;split<;>simp_all
 rw[s];exact m
theorem eF{p:Array Oper}{rest:List Oper}{o:Oper}{a:Act}{Q:Exit→Act→World→Prop}{w:World}(r:o.guard=none)(s x:Operand)
  (ho:o.op=.call { callee:=.builtin .append,args:=#[s,x],argTypes:=#[33,33] })
  (base:Nat) (v:Value) (xs:List Int) (hs:a.eval s=v) (j:OwnB w base v xs) (a2:Option Addr) (m c:Nat) (ys:List Int) (G:a.eval x=.slice a2 m c) (A:Ints .u8 w a2 m ys) (J:a2=none→c=0)
  (K:xs.length+m≤4000000000) (l:base≤w.heap.size)
  (h:∀y w',OwnB w' base y (xs ++ ys)→w.grownBy w' v.ownBlock→wpList Tryz.prog p Q rest (a.put o.dst y) w'):wpList Tryz.prog p Q (o :: rest) a w:=by
 obtain⟨F,hi,C,D,E⟩:=info_parts wA;have B:=A.length;have H:∀z∈xs ++ ys,0≤z∧z≤255:=fun z n=>by
  rcases List.mem_append.1 n with n | n
  ·exact j.bytes z n
  exact Lh (A.wf z n)
 cases a2 with
 | none=>
   obtain rfl:m=0:=by
    by_cases e:m=0
    ·exact e
    obtain⟨b,off,e,_⟩:=A.cells 0 aA;cases e
   obtain rfl:c=0:=J rfl;obtain rfl:ys=[]:=List.length_eq_zero_iff.1 B;refine wpList_append_own_none r s x 33 ho base 5 F 1 Tryz.underlying33 hi v xs.length _ hs j.row G (h v w ?_ ⟨rfl,rfl,rfl,Nat.le_refl _,fun _ _ _=>rfl⟩);simpa using j
 | some ad=>
   refine wpList_append_own_at w r s x 33 ho base 5 F (.int .u8 0) 1 1 Tryz.underlying33 hi C D E rfl aB v xs.length _ hs j.row ad m c (ys.map (Value.int .u8)) G (by simp[B]) (Gg A) ?_ (by unfold maxLen;omega) aA l ?_
   ·intro u I;obtain⟨z,_,rfl⟩:=List.mem_map.1 I;rfl
   intro y w' h1 h2 _ _;exact h y w' ⟨by rw[List.length_append,B,List.map_append];exact h1,H⟩ h2
end Go.Proofs.YtbkkolfpegplgaaGreatDoor
