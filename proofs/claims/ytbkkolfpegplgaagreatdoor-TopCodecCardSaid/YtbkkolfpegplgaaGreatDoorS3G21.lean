/- Rows of intervals of the call's own: what a change leaves. (Out of the text on span.Cut, for seats that have no span.Cut.) The contract of slices.Clone over a list of intervals: the same list, in a row of its own. -/
import Derived.Test.YtbkkolfpegplgaaGreatDoorS3G2
import Derived.Test.YtbkkolfpegplgaaGreatDoorS3G1
import Derived.Maps.AppendAt
import Derived.Laws.AppendOwnNone
set_option maxHeartbeats 1600000
set_option maxRecDepth 100000
namespace Go.Proofs.YtbkkolfpegplgaaGreatDoor
open Go Go.RowKit
theorem info_iv:(Tryz.prog.info? 123).map (fun i=>(i.zero,i.size,i.bytes))=some (some (.agg #[.int .u64 0,.int .u64 0]),2,16):=by kernel_rfl
theorem z1g{w w':World}{base n s:Nat}{t:TypeId}{v:Value}{xs:List Value}{may:Nat→Prop}(h:w.ownsRow base t s v n xs)(hb:Only may w w')(hm:∀k,may k→k<base):w'.ownsRow base t s v n xs:=by
 refine⟨h.1,?_⟩;rcases h.2 with hn | ⟨g,cap,cur,hv,hg,hc,rest⟩
 ·exact .inl hn
 ·exact .inr ⟨g,cap,cur,hv,hg,hb.obj (fun k=>by have:=hm _ k;omega) hc,rest⟩
theorem OwnL.only{w w':World}{base:Nat}{t:TypeId}{v:Value}{zs:List Iv}{may:Nat→Prop}(h:OwnL w base t v zs)(hb:Only may w w')(hm:∀k,may k→k<base):OwnL w' base t v zs:=⟨z1g h.row hb hm,h.words⟩
theorem OwnL.prs2{w:World}{base:Nat}{t:TypeId}{v:Value}{zs:List Iv}(h:OwnL w base t v zs):∃a cap,v=.slice a zs.length cap∧Prs w a zs.length zs∧zs.length≤cap∧cap≤9223372036854775807∧(a=none→cap=0):=by
 obtain⟨a,cap,hv,hP,hle,hn⟩:=h.prs;refine⟨a,cap,hv,hP,hle,?_,hn⟩;rcases h.row.2 with⟨hv',_⟩ | ⟨g,cap',cur,hv',_,_,_,hm,_⟩
 ·rw[hv]at hv'
  simp at hv'
  omega
 ·rw[hv]at hv'
  simp at hv'
  unfold maxLen at hm;omega
theorem z1o(zs:List Iv)(k:Nat)(h:k<zs.length):zs[k]=(Lo zs k,Hi zs k):=by
 unfold Lo Hi;simp[List.getD_eq_getElem?_getD,List.getElem?_eq_getElem h]
theorem take_snoc(zs:List Iv)(k:Nat)(h:k<zs.length):zs.take k ++ [(Lo zs k,Hi zs k)]=zs.take (k+1):=by
 rw[List.take_succ_eq_append_getElem h];congr 2
 unfold Lo Hi;simp[List.getD_eq_getElem?_getD,List.getElem?_eq_getElem h]
theorem Prs.only{w w1:World}{a:Option Addr}{len:Nat}{zs:List Iv}{may:Nat→Prop}(h:Prs w a len zs)(ho:Only may w w1)(hm:∀b off,a=some ⟨b,off,none⟩→¬may b):Prs w1 a len zs:=
 ⟨h.length,h.most,h.words,fun i hi=>by
  obtain⟨b,off,e,hb,h1,h2⟩:=h.cells i hi;exact⟨b,off,e,Nat.lt_of_lt_of_le hb ho.size,ho.cell (hm b off e) h1,ho.cell (hm b off e) h2⟩⟩
theorem z3b{A A':World}{row:Option Nat}{b:Nat}{o:Obj}(hg:A.grownBy A' row)(hlt:b<A.heap.size)(hne:some b≠row)(h:A.heap[b]?=some o):A'.heap[b]?=some o:=(hg.block b hlt hne).trans h
theorem Only.grown{may:Nat→Prop}{A B C:World}{row:Option Nat}(h:Only may A B)(hg:B.grownBy C row)(hr:∀k,row=some k→may k):Only may A C:=
 h.trans ⟨hg.os,hg.tape,hg.output,hg.size,fun k hk hl=>hg.block k hk (fun e=>hl (hr k e.symm))⟩
theorem cellsL_last(l:List Iv)(x y u:Int):(cellsL (l ++ [(x,y)])).set (l.length * 2+1) (.int .u64 u)=cellsL (l ++ [(x,u)]):=by
 rw[z26,z26,List.set_append_right _ _ (by rw[z1e];omega),z1e,show l.length * 2+1-l.length * 2=1 by omega];rfl
theorem z1s{ops:Array Oper}{rest:List Oper}{o:Oper}{a:Act}{Q:Exit→Act→World→Prop}{w:World}(hgd:o.guard=none)(s x:Operand)
  (ho:o.op=.call { callee:=.builtin .append,args:=#[s,x],argTypes:=#[56,56] })
  (base:Nat) (v:Value) (xs:List Iv) (hs:a.eval s=v) (hown:OwnL w base 123 v xs) (a2:Option Addr) (m c:Nat) (ys:List Iv) (hx:a.eval x=.slice a2 m c) (hI:Prs w a2 m ys) (hn:a2=none→c=0)
  (h63:xs.length+m≤1000000000) (hbase:base≤w.heap.size)
  (h:∀v' w',OwnL w' base 123 v' (xs ++ ys)→w.grownBy w' v.ownBlock→wpList Tryz.prog ops Q rest (a.put o.dst v') w'):wpList Tryz.prog ops Q (o :: rest) a w:=by
 obtain⟨i0,hi,hz0,hz1,hz2⟩:=info_parts info_iv;have hl:=hI.length;have hb:∀z∈xs ++ ys,Word z.1∧Word z.2:=fun z hz=>by
  rcases List.mem_append.1 hz with hz | hz
  ·exact hown.words z hz
  ·exact hI.words z hz
 cases a2 with
 | none=>
   obtain rfl:m=0:=by
    by_cases e:m=0
    ·exact e
    ·obtain⟨b,off,e,_⟩:=hI.cells 0 (by omega);cases e
   obtain rfl:c=0:=hn rfl;obtain rfl:ys=[]:=List.length_eq_zero_iff.1 hl;refine wpList_append_own_none hgd s x 56 ho base 123 i0 2 Tryz.underlying56 hi v xs.length _ hs hown.row hx (h v w ?_ ⟨rfl,rfl,rfl,Nat.le_refl _,fun _ _ _=>rfl⟩);simpa using hown
 | some ad=>
   have hnews:∀j u,(cellsL ys)[j]?=some u→w.cell? (ad.add j)=some u:=by
    by_cases e:m=0
    ·obtain rfl:ys=[]:=List.length_eq_zero_iff.1 (by omega)
     intro j u hj;simp[cellsL]at hj
    ·obtain⟨b,off,e,_⟩:=hI.cells 0 (by omega)
     obtain rfl:ad=⟨b,off,none⟩:=by simpa using e
     exact hI.news
   refine wpList_append_own_at w hgd s x 56 ho base 123 i0 (.agg #[.int .u64 0,.int .u64 0]) 2 16 Tryz.underlying56 hi hz0 hz1 hz2 rfl (by decide) v xs.length _ hs hown.row ad m c (cellsL ys) hx (by rw[z1e,hl]) hnews (cellsL_one ys) (by unfold maxLen;omega) (by omega) hbase ?_;intro v' w' hown' hgrow _ _;refine h v' w' ⟨?_,hb⟩ hgrow;rw[z26,List.length_append,hl];exact hown'
theorem z1b{w:World}{base base' s n:Nat}{t:TypeId}{v:Value}{xs:List Value}(h:w.ownsRow base t s v n xs)(hb:base'≤base):w.ownsRow base' t s v n xs:=by
 refine⟨h.1,?_⟩;rcases h.2 with hn | ⟨g,cap,cur,hv,hg,rest⟩
 ·exact .inl hn
 ·exact .inr ⟨g,cap,cur,hv,Nat.le_trans hb hg,rest⟩
end Go.Proofs.YtbkkolfpegplgaaGreatDoor
namespace Go.Proofs.YtbkkolfpegplgaaGreatDoor
open Go.RowKit
theorem clone_any(a:Option Addr)(len cap:Nat)(zs:List Iv)(w:World)(h:Prs w a len zs)(hn:a=none→cap=0)(hs:len≤1000) :
  Calls Tryz.prog 141 #[.slice a len cap] w fun e w'=>∃v,e=.returned v∧OwnL w' w.heap.size 123 v zs∧Below w.heap.size w w':=by
 obtain⟨i0,hi,hz0,hz1,hz2⟩:=info_parts info_iv;have hl:=h.length;have hw:=h.words
 cases a with
 | none=>
   obtain rfl:len=0:=by
    by_cases e:len=0
    ·exact e
    ·obtain⟨b,off,e,_⟩:=h.cells 0 (by omega);cases e
   obtain rfl:cap=0:=hn rfl;obtain rfl:zs=[]:=List.length_eq_zero_iff.1 hl;clear h hn;have hb:∀w,(binOp .eql 56 (.slice none 0 0) (.slice none 0 0)).run Tryz.prog w=.ok (.bool true) w:=fun w=>by rfl
   go_enter Tryz.func141,Tryz.ntmps141
   go_wp2
   go_ret
   exact⟨_,rfl,⟨World.ownsRow_nil _ _ _ _,by simp⟩,Below.refl _ _⟩
 | some ad=>
   have hnews:∀j u,(cellsL zs)[j]?=some u→w.cell? (ad.add j)=some u:=by
    by_cases e:len=0
    ·obtain rfl:zs=[]:=List.length_eq_zero_iff.1 (by omega)
     intro j u hj;simp[cellsL]at hj
    ·obtain⟨b,off,e,_⟩:=h.cells 0 (by omega)
     obtain rfl:ad=⟨b,off,none⟩:=by simpa using e
     exact h.news
   have hmade:=World.ownsRow_made w (base:=w.heap.size) (e:=123) (size:=2) #[] 0 (Nat.le_refl _) (by decide) rfl;have hcl:=z1e zs;have hb:∀w,(binOp .eql 56 (.slice (some ad) len cap) (.slice none 0 0)).run Tryz.prog w=.ok (.bool false) w:=fun w=>by rfl
   go_enter Tryz.func141,Tryz.ntmps141
   go_wp2_with(at_builtin;refine wpList_append_own_at _ rfl _ _ 56 rfl w.heap.size 123 i0 (.agg #[.int .u64 0,.int .u64 0]) 2 16 Tryz.underlying56 hi hz0 hz1 hz2 rfl (by decide) _ _ _ rfl hmade ad len cap (cellsL zs) rfl ?c1 ?c2 ?c3 ?c4 ?c5 ?c6 ?_)
   case c1=>rw[hcl,hl]
   case c2=>intro j u hj;exact(World.cell?_alloc_lt _ _ _ (World.block_lt_of_cell? _ _ (hnews j u hj))).trans (hnews j u hj)
   case c3=>exact cellsL_one zs
   case c4=>unfold maxLen;omega
   case c5=>omega
   case c6=>simp
   intro v' w1 hown' hgrow _ _;have hb1:=(zc (Below.refl w.heap.size w) (.cells #[] 123)).grown hgrow (by simp) (fun g hg=>by simp[Value.ownBlock]at hg;omega);go_wp2
   go_ret
   exact⟨v',rfl,⟨by rw[hl];simpa using hown',hw⟩,hb1⟩
end Go.Proofs.YtbkkolfpegplgaaGreatDoor
