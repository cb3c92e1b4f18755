import Derived.Test.YtbkkolfpegplgaaGreatDoorTG2
import Derived.Laws.AppendOwnNone
open List renaming getD_eq_getElem?_getD→PC,getElem?_eq_getElem→PD
open Go.Proofs.Tryz
set_option maxHeartbeats 1600000
set_option maxRecDepth 100000
namespace Go.Proofs.YtbkkolfpegplgaaGreatDoor
open Go Go.RowKit
theorem sG:(prog.info? 123).map (fun i=>(i.zero,i.size,i.bytes))=some (some (.agg #[.int .u64 0,.int .u64 0]),2,16):=aC
theorem eU{w w':World}{base n s:Nat}{t:TypeId}{v:Value}{xs:List Value}{may:Nat→Prop}(h:w.ownsRow base t s v n xs)(b:Only may w w')(j:∀k,may k→k<base):w'.ownsRow base t s v n xs:=by
 refine⟨h.1,?_⟩;rcases h.2 with hn | ⟨g,cap,cur,hv,hg,hc,rest⟩
 ·exact .inl hn
 exact .inr ⟨g,cap,cur,hv,hg,b.obj (fun k=>by have:=j _ k;omega) hc,rest⟩
theorem OwnL.only{w w':World}{base:Nat}{t:TypeId}{v:Value}{zs:List Iv}{may:Nat→Prop}(h:OwnL w base t v zs)(b:Only may w w')(j:∀k,may k→k<base):OwnL w' base t v zs:=⟨eU h.row b j,h.words⟩
theorem OwnL.prs2{w:World}{base:Nat}{t:TypeId}{v:Value}{zs:List Iv}(h:OwnL w base t v zs):∃a cap,v=.slice a zs.length cap∧Prs w a zs.length zs∧zs.length≤cap∧cap≤9223372036854775807∧(a=none→cap=0):=by
 obtain⟨a,cap,hv,j,b,l⟩:=h.prs;refine⟨a,cap,hv,j,b,?_,l⟩;rcases h.row.2 with⟨hv',_⟩ | ⟨g,cap',cur,hv',_,_,_,hm,_⟩
 ·rw[hv]at hv';simp at hv';omega
 rw[hv]at hv';simp at hv';unfold maxLen at hm;omega
theorem cJ(zs:List Iv)(k:Nat)(h:k<zs.length):zs[k]=(Lo zs k,Hi zs k):=by
 unfold Lo Hi;simp[PC,PD h]
theorem Oo(zs:List Iv)(k:Nat)(h:k<zs.length):zs.take k ++ [(Lo zs k,Hi zs k)]=zs.take (k+1):=by
 rw[List.take_succ_eq_append_getElem h];congr 2
 unfold Lo Hi;simp[PC,PD h]
theorem Prs.only{w j:World}{a:Option Addr}{len:Nat}{zs:List Iv}{may:Nat→Prop}(h:Prs w a len zs)(ho:Only may w j)(l:∀b off,a=some ⟨b,off,none⟩→¬may b):Prs j a len zs:=
 ⟨h.length,h.most,h.words,fun i hi=>by
  obtain⟨b,off,e,m,h1,h2⟩:=h.cells i hi;exact⟨b,off,e,Nat.lt_of_lt_of_le m ho.size,ho.cell (l b off e) h1,ho.cell (l b off e) h2⟩⟩
theorem kG{A m:World}{row:Option Nat}{b:Nat}{o:Obj}(n:A.grownBy m row)(j:b<A.heap.size)(l:some b≠row)(h:A.heap[b]?=some o):m.heap[b]?=some o:=(n.block b j l).trans h
theorem Only.grown{may:Nat→Prop}{A B C:World}{row:Option Nat}(h:Only may A B)(b:B.grownBy C row)(m:∀k,row=some k→may k):Only may A C:=
 h.trans ⟨b.os,b.tape,b.output,b.size,fun k j l=>b.block k j (fun e=>l (m k e.symm))⟩
theorem Ii(l:List Iv)(x y u:Int):(bB (l ++ [(x,y)])).set (l.length * 2+1) (.int .u64 u)=bB (l ++ [(x,u)]):=by
 rw[dF,dF,List.set_append_right _ _ (by rw[dD];omega),dD,show l.length * 2+1-l.length * 2=1 by omega];rfl
theorem fP{B:Array Oper}{rest:List Oper}{o:Oper}{a:Act}{Q:Exit→Act→World→Prop}{w:World}(C:o.guard=none)(s x:Operand)
  (ho:o.op=.call { callee:=.builtin .append,args:=#[s,x],argTypes:=#[56,56] })
  (base:Nat) (v:Value) (xs:List Iv) (hs:a.eval s=v) (l:OwnL w base 123 v xs) (a2:Option Addr) (m c:Nat) (ys:List Iv) (K:a.eval x=.slice a2 m c) (D:Prs w a2 m ys) (N:a2=none→c=0)
  (O:xs.length+m≤20000000000) (y:base≤w.heap.size)
  (h:∀E w',OwnL w' base 123 E (xs ++ ys)→w.grownBy w' v.ownBlock→wpList prog B Q rest (a.put o.dst E) w'):wpList prog B Q (o :: rest) a w:=by
 obtain⟨J,hi,G,H,I⟩:=info_parts sG;have F:=D.length;have L:∀z∈xs ++ ys,aL z.1∧aL z.2:=fun z A=>by
  rcases List.mem_append.1 A with A | A
  ·exact l.words z A
  exact D.words z A
 cases a2 with
 | none=>
   obtain rfl:m=0:=by
    by_cases e:m=0
    ·exact e
    obtain⟨b,off,e,_⟩:=D.cells 0 aA;cases e
   obtain rfl:c=0:=N rfl;obtain rfl:ys=[]:=List.length_eq_zero_iff.1 F;refine wpList_append_own_none C s x 56 ho base 123 J 2 underlying56 hi v xs.length _ hs l.row K (h v w ?_ ⟨rfl,rfl,rfl,Nat.le_refl _,fun _ _ _=>rfl⟩);simpa using l
 | some ad=>
   have n:∀j u,(bB ys)[j]?=some u→w.cell? (ad.add j)=some u:=by
    by_cases e:m=0
    ·obtain rfl:ys=[]:=List.length_eq_zero_iff.1 aA;intro j u M;simp[bB]at M
    obtain⟨b,off,e,_⟩:=D.cells 0 aA;obtain rfl:ad=⟨b,off,none⟩:=by simpa using e
    exact D.news
   refine wpList_append_own_at w C s x 56 ho base 123 J (.agg #[.int .u64 0,.int .u64 0]) 2 16 underlying56 hi G H I rfl aB v xs.length _ hs l.row ad m c (bB ys) K (by rw[dD,F]) n (kK ys) (by unfold maxLen;omega) aA y ?_;intro E w' p r _ _;refine h E w' ⟨?_,L⟩ r;rw[dF,List.length_append,F];exact p
theorem bC{w:World}{base base' s n:Nat}{t:TypeId}{v:Value}{xs:List Value}(h:w.ownsRow base t s v n xs)(b:base'≤base):w.ownsRow base' t s v n xs:=by
 refine⟨h.1,?_⟩;rcases h.2 with hn | ⟨g,cap,cur,hv,hg,rest⟩
 ·exact .inl hn
 exact .inr ⟨g,cap,cur,hv,Nat.le_trans b hg,rest⟩
end Go.Proofs.YtbkkolfpegplgaaGreatDoor
namespace Go.Proofs.YtbkkolfpegplgaaGreatDoor
open Go.RowKit
theorem Rp(a:Option Addr)(len cap:Nat)(zs:List Iv)(w:World)(h:Prs w a len zs)(D:a=none→cap=0)(hs:len≤1000) :
  Calls prog 141 #[.slice a len cap] w fun e w'=>∃v,e=.returned v∧OwnL w' w.heap.size 123 v zs∧Below w.heap.size w w':=by
 obtain⟨G,hi,A,B,C⟩:=info_parts sG;have s:=h.length;have E:=h.words
 cases a with
 | none=>
   obtain rfl:len=0:=by
    by_cases e:len=0
    ·exact e
    obtain⟨b,off,e,_⟩:=h.cells 0 aA;cases e
   obtain rfl:cap=0:=D rfl;obtain rfl:zs=[]:=List.length_eq_zero_iff.1 s;clear h D;have F:∀w,(binOp .eql 56 (.slice none 0 0) (.slice none 0 0)).run prog w=.ok (.bool true) w:=fun w=>by rfl
   go_enter func141,ntmps141;go_wp2;go_ret;exact⟨_,rfl,⟨World.ownsRow_nil _ _ _ _,aD⟩,Below.refl _ _⟩
 | some ad=>
   have l:∀j u,(bB zs)[j]?=some u→w.cell? (ad.add j)=some u:=by
    by_cases e:len=0
    ·obtain rfl:zs=[]:=List.length_eq_zero_iff.1 aA;intro j u r;simp[bB]at r
    obtain⟨b,off,e,_⟩:=h.cells 0 aA;obtain rfl:ad=⟨b,off,none⟩:=by simpa using e
    exact h.news
   have m:=World.ownsRow_made w (base:=w.heap.size) (e:=123) (size:=2) #[] 0 (Nat.le_refl _) aB rfl;have y:=dD zs;have F:∀w,(binOp .eql 56 (.slice (some ad) len cap) (.slice none 0 0)).run prog w=.ok (.bool false) w:=fun w=>by rfl
   go_enter func141,ntmps141;go_wp2_with(at_builtin;refine wpList_append_own_at _ rfl _ _ 56 rfl w.heap.size 123 G (.agg #[.int .u64 0,.int .u64 0]) 2 16 underlying56 hi A B C rfl aB _ _ _ rfl m ad len cap (bB zs) rfl ?c1 ?c2 ?c3 ?c4 ?c5 ?c6 ?_)
   case c1=>rw[y,s]
   case c2=>intro j u r;exact(World.cell?_alloc_lt _ _ _ (World.block_lt_of_cell? _ _ (l j u r))).trans (l j u r)
   case c3=>exact kK zs
   case c4=>unfold maxLen;omega
   case c5=>omega
   case c6=>simp
   intro H J n p _ _;have z:=(aJ (Below.refl w.heap.size w) (.cells #[] 123)).grown p aD (fun g I=>by simp[Value.ownBlock]at I;omega);go_wp2;go_ret;exact⟨H,rfl,⟨by rw[s];simpa using n,E⟩,z⟩
end Go.Proofs.YtbkkolfpegplgaaGreatDoor
