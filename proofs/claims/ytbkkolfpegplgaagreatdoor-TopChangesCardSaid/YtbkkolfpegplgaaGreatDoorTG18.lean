import Derived.Test.YtbkkolfpegplgaaGreatDoorTG4
import Derived.Deep.AppendLies
import Derived.BigQuiet
open Go.Proofs.Tryz
set_option maxHeartbeats 1600000
namespace Go.Proofs.YtbkkolfpegplgaaGreatDoor
open Go.RowKit
structure OwnI (w:World) (base:Nat) (v:Value) (zs:List Int):Prop where
 row:w.ownsRow base 57 1 v zs.length (zs.map (Value.int .u64))
 words:∀z∈zs,aL z
theorem wG{x:Int}(h:aL x):(Lit.int .u64 x).wf=true:=by
 unfold aL at h;simp[Lit.wf,IntKind.min,IntKind.max,IntKind.signed,IntKind.bits];omega
theorem OwnI.nil(w:World)(base:Nat):OwnI w base (.slice none 0 0) []:=⟨World.ownsRow_nil _ _ _ _,aD⟩
theorem OwnI.ints{w:World}{base:Nat}{v:Value}{zs:List Int}(h:OwnI w base v zs)(j:zs.length≤9223372036854775807):∃a cap,v=.slice a zs.length cap∧Ints .u64 w a zs.length zs∧zs.length≤cap:=by
 obtain⟨a,cap,hv,h1,_,h3⟩:=oL h.row j (fun z b=>wG (h.words z b));exact⟨a,cap,hv,h3,h1⟩
theorem uU{w w':World}{base n:Nat}{t:TypeId}{v:Value}{xs:List Value}(h:w.ownsRow base t 1 v n xs)(b:Below w.heap.size w w'):w'.ownsRow base t 1 v n xs:=by
 refine⟨h.1,?_⟩;rcases h.2 with hn | ⟨g,cap,cur,hv,hg,hc,rest⟩
 ·exact .inl hn
 exact .inr ⟨g,cap,cur,hv,hg,(b.block g (Array.getElem?_eq_some_iff.1 hc).1).trans hc,rest⟩
theorem OwnI.below{w w':World}{base:Nat}{v:Value}{zs:List Int}(h:OwnI w base v zs)(b:Below w.heap.size w w'):OwnI w' base v zs:=⟨uU h.row b,h.words⟩
theorem iD:(prog.info? 57).map (fun i=>(i.zero,i.size,i.bytes))=some (some (.int .u64 0),1,8):=aC
theorem Yi(w:World){b:Nat}{x y:Value}{t:TypeId}(h:w.heap[b]?=some (.cells #[x,y] t (0,0))):∀j u,[x,y][j]?=some u→w.cell? ((⟨b,0,none⟩:Addr).add j)=some u:=by
 intro j u l;have m:∀j,(⟨b,0,none⟩:Addr).add j=⟨b,0+j,none⟩:=by
  intro j;unfold Addr.add;split<;>simp_all
 rw[m];match j,l with
 | 0,l=>simp at l;subst l;simp[World.cell?,h]
 | 1,l=>simp at l;subst l;simp[World.cell?,h]
theorem Hj(m:World)(v:Value)(zs:List Int)(b:Nat)(x y:Int)(w:World)(h:OwnI w m.heap.size v zs)(h0:Below m.heap.size m w)(F:w.heap[b]?=some (.cells #[.int .u64 x,.int .u64 y] 57 (0,0)))(N:aL x)(O:aL y)(P:zs.length≤4000000000) :
  Calls prog 94 #[v,.slice (some ⟨b,0,none⟩) 2 2] w fun e w'=>∃n,e=.returned n∧OwnI w' m.heap.size n (zs ++ [x,y])∧Below m.heap.size m w'∧w.heap.size≤w'.heap.size∧w.grownBy w' v.ownBlock:=by
 obtain⟨L,hi,A,B,C⟩:=info_parts iD;have H:=aI h;have G:=aI F;have I:=aI h0;have hs:=h0.size;clear h F h0;go_enter func94,ntmps94;go_wp2_with(at_builtin;refine wpList_append_own_at _ rfl _ _ 89 rfl m.heap.size 57 L (.int .u64 0) 1 8 underlying89 hi A B C rfl aB _ _ _ rfl H.row ⟨b,0,none⟩ 2 2 [.int .u64 x,.int .u64 y] rfl rfl ?c1 ?c2 ?c3 ?c4 ?c5 ?_)
 case c1=>exact Yi _ G
 case c2=>intro u E;simp at E;rcases E with rfl | rfl<;>rfl
 case c3=>unfold maxLen;omega
 case c4=>omega
 case c5=>exact hs
 intro n M l j _ _;have r:=I.grown j hs (fun g s=>(H.row.lt g s).1);have D:OwnI M m.heap.size n (zs ++ [x,y]):=⟨by simpa using l,fun z p=>by
  simp at p;rcases p with p | rfl | rfl
  ·exact H.words z p
  ·exact N
  exact O⟩
 have J:=aI D;have s:=j.size;have K:=aI j;clear l j D;go_wp2;go_ret;exact⟨_,rfl,J,r,s,K⟩
end Go.Proofs.YtbkkolfpegplgaaGreatDoor
namespace Go.Proofs.YtbkkolfpegplgaaGreatDoor
open Go Go.RowKit
def Rv (v:Value):Option (DataW Value×List MemPlace):=some (.held v,[])
theorem key_u64:Maps.Keyed prog 57:=Maps.int_keyed (q:=.u64) underlying57
theorem xZ{r:Int}(h:aL r):keyOf prog 57 (.int .u64 r)=some (.int .u64 r):=Maps.keyOf_int_mk underlying57 (wG h)
theorem tI{x y:Int}(h:x≠y):Lit.int .u64 x≠Lit.int .u64 y:=fun e=>h (by cases e;rfl)
theorem vU(x:Int)(h:aL x):WideAt.IsKeyLit (.int .u64 x):=key_u64.key (xZ h)
def HasF (D:DataW Value) (f:Int→Option Value):Prop:=∀r,aL r→Maps.has D (.int .u64 r)=(f r).isSome∧∀z,D.atKey (.int .u64 r) (.held z)=.held ((f r).getD z)
def MapR (w:World) (b n:Nat) (f:Int→Option Value):Prop:=∃D,w.ownsMap prog 57 Rv b n D∧HasF D f
def RangeR (w:World) (b r n:Nat) (f:Int→Option Value) (left:Int→Bool) (cnt:Nat):Prop:=∃D L,w.ranges prog 57 Rv b r n D L cnt∧HasF D f∧∀x,aL x→L (.int .u64 x)=left x
def kS (f:Int→Option Value) (r:Int) (v:Option Value):Int→Option Value:=fun x=>if x=r then v else f x
theorem MapR.made(w:World):MapR (w.alloc (.map #[] 0)) w.heap.size 0 (fun _=>none):=⟨.map [],World.ownsMap_made _ _ _ _,fun _ _=>⟨rfl,fun _=>rfl⟩⟩
theorem MapR.lt{w:World}{b n:Nat}{f:Int→Option Value}(h:MapR w b n f):b<w.heap.size:=by obtain⟨D,h,_⟩:=h;exact h.lt
theorem xP{H:Type}{P:Program}{k:TypeId}{R:Value→Option (DataW H×List MemPlace)}{w w':World}{b n:Nat}{D:DataW H}(h:w.ownsMap P k R b n D)(e:w'.heap[b]?=w.heap[b]?):w'.ownsMap P k R b n D:=by
 obtain⟨es,j,l,h⟩:=h;exact⟨es,j,e.trans l,h⟩
theorem Pp{H:Type}{P:Program}{k:TypeId}{R:Value→Option (DataW H×List MemPlace)}{w w':World}{b r n:Nat}{D:DataW H}{L:Lit→Bool}{cnt:Nat}(h:w.ranges P k R b r n D L cnt)(e:w'.heap[b]?=w.heap[b]?)(z:w'.heap[r]?=w.heap[r]?):w'.ranges P k R b r n D L cnt:=by
 obtain⟨es,j,l,m,p,s,F,hs,u,y,rest⟩:=h;exact⟨es,j,l,m,p,e.trans s,F,hs,u,z.trans y,rest⟩
theorem MapR.at{w w':World}{b n:Nat}{f:Int→Option Value}(h:MapR w b n f)(e:w'.heap[b]?=w.heap[b]?):MapR w' b n f:=by
 obtain⟨D,h,j⟩:=h;exact⟨D,xP h e,j⟩
theorem RangeR.at{w w':World}{b r n:Nat}{f:Int→Option Value}{left:Int→Bool}{cnt:Nat}(h:RangeR w b r n f left cnt)(e:w'.heap[b]?=w.heap[b]?)(l:w'.heap[r]?=w.heap[r]?):RangeR w' b r n f left cnt:=by
 obtain⟨D,L,h,j⟩:=h;exact⟨D,L,Pp h e l,j⟩
theorem MapR.below{w w':World}{b n:Nat}{f:Int→Option Value}(h:MapR w b n f)(j:Below w.heap.size w w'):MapR w' b n f:=h.at (j.block b h.lt)
theorem MapR.only{w w':World}{b n:Nat}{f:Int→Option Value}{may:Nat→Prop}(h:MapR w b n f)(ho:Only may w w')(j:¬may b):MapR w' b n f:=h.at (ho.block b h.lt j)
theorem RangeR.map{w:World}{b r n:Nat}{f:Int→Option Value}{left:Int→Bool}{j:Nat}(h:RangeR w b r n f left j):MapR w b n f:=by
 obtain⟨D,L,h,l,_⟩:=h;exact⟨D,h.owns,l⟩
theorem RangeR.lt{w:World}{b r n:Nat}{f:Int→Option Value}{left:Int→Bool}{j:Nat}(h:RangeR w b r n f left j):r<w.heap.size:=by
 obtain⟨D,L,h,_⟩:=h;exact h.lt
theorem RangeR.below{w w':World}{b r n:Nat}{f:Int→Option Value}{left:Int→Bool}{cnt:Nat}(h:RangeR w b r n f left cnt)(j:Below w.heap.size w w'):RangeR w' b r n f left cnt:=h.at (j.block b h.map.lt) (j.block r h.lt)
theorem RangeR.only{w w':World}{b r n:Nat}{f:Int→Option Value}{left:Int→Bool}{cnt:Nat}{may:Nat→Prop}(h:RangeR w b r n f left cnt)(ho:Only may w w')(l:¬may b)(j:¬may r):RangeR w' b r n f left cnt:=h.at (ho.block b h.map.lt l) (ho.block r h.lt j)
theorem RangeR.left_eq{w:World}{b r n:Nat}{f:Int→Option Value}{left:Int→Bool}{cnt:Nat}(h:RangeR w b r n f left cnt):w.rangeLeft b r=cnt:=by
 obtain⟨D,L,h,_⟩:=h;exact h.left_eq
theorem HasF.put{D:DataW Value}{f:Int→Option Value}(h:HasF D f)(j:Maps.IsMap D){r:Int}(l:aL r)(v:Value):HasF (D.put (.int .u64 r) (.held v)) (kS f r (some v)):=by
 intro x b;unfold kS;by_cases e:x=r
 ·subst e;rw[if_pos rfl];exact⟨Maps.has_put_same j (vU x b) _,fun z=>Maps.atKey_put_same j (vU x b) _ _⟩
 rw[if_neg e];exact⟨(Maps.has_put_other (tI e) _).trans (h x b).1,fun z=>(Maps.atKey_put_other (tI e) _ _).trans ((h x b).2 z)⟩
theorem HasF.del{D:DataW Value}{f:Int→Option Value}(h:HasF D f){r:Int}:HasF (D.del (.int .u64 r)) (kS f r none):=by
 intro x b;unfold kS;by_cases e:x=r
 ·subst e;rw[if_pos rfl];exact⟨Maps.has_del_same,fun z=>Maps.atKey_del_same _⟩
 rw[if_neg e];exact⟨(Maps.has_del_other (tI e)).trans (h x b).1,fun z=>(Maps.atKey_del_other (tI e) _).trans ((h x b).2 z)⟩
theorem MapR.look{w:World}{b n:Nat}{f:Int→Option Value}{t e:TypeId}(h:MapR w b n f)(m:prog.underlying t=some (.map 57 e)){z:Value}(p:(zeroValue e).run prog w=.ok z w){r:Int}(j:aL r) :
  (Instr.lookup t (.map (some b)) (.int .u64 r) false).run prog w=.ok ((f r).getD z) w:=by
 obtain⟨D,h,l⟩:=h;obtain⟨v,ps,h1,h2⟩:=h.lookup key_u64 m p (zd:=.held z) (zp:=[]) rfl (xZ j);rw[(l r j).2 z]at h2;rw[h1,DataW.held.inj (Prod.mk.inj (Option.some.inj h2)).1]
section
variable (w:World) {ops:Array Oper} {rest:List Oper} {o:Oper} {a:Act} {Q:Exit→Act→World→Prop}
theorem gW(y:o.guard=none)(m x v:Operand)(t e:TypeId)(l:o.op=Op.mapUpdate t m x v)(z:prog.underlying t=some (.map 57 e))(b n:Nat)(f:Int→Option Value)
  (A:a.eval m=.map (some b)) (j:MapR w b n f) (B:n<maxLen) (r:Int) (val:Value) (C:a.eval x=.int .u64 r) (p:aL r) (hv:a.eval v=val)
  (E:∀w',MapR w' b (n+1) (kS f r (some val))→w.grownBy w' (some b)→wpList prog ops Q rest (a.put o.dst undef) w') :
  wpList prog ops Q (o :: rest) a w:=by
 obtain⟨D,j,u⟩:=j;have s:=j.isMap;exact wpList_mapUpdate_own w y m x v t l 57 e key_u64 z Rv b n D A j B _ val _ C hv (xZ p) (.held val) [] rfl (fun w' h1 h2=>E w' ⟨_,h1,u.put s p val⟩ h2)
theorem jU(u:o.guard=none)(m:Operand)(t e:TypeId)(p:o.op=Op.range t m)(y:prog.underlying t=some (.map 57 e))(b n:Nat)(f:Int→Option Value)
  (z:a.eval m=.map (some b)) (j:MapR w b n f)
  (A:∀w' l,l≤n→RangeR w' b w.heap.size n f (fun x=>(f x).isSome) l→w.grownBy w' none→w'.heap.size=w.heap.size+1→wpList prog ops Q rest (a.put o.dst (.pointer (some ⟨w.heap.size,0,none⟩))) w') :
  wpList prog ops Q (o :: rest) a w:=by
 obtain⟨D,j,r⟩:=j;exact wpList_range_own w u m t p 57 e key_u64 y Rv b n D z j (fun w' h1 h2 h3=>A w' _ j.size_le ⟨D,_,h1,r,fun x s=>(r x s).1⟩ h2 h3)
theorem lP(U:o.guard=none)(it:Operand)(K:o.op=Op.next it false)(b r n:Nat)(f:Int→Option Value)(left:Int→Bool)(m:Nat)
  (M:a.eval it=.pointer (some ⟨r,0,none⟩)) (h:RangeR w b r n f left m)
  (p:m=0→(∀x,aL x→left x=false)→wpList prog ops Q rest (a.put o.dst (.tuple #[.bool false])) w)
  (s:∀(x:Int) (c:Value) (w':World) (j:Nat),aL x→left x=true→f x=some c→RangeR w' b r n f (fun y=>left y && decide (y≠x)) j→j<m →
    w.grownBy w' (some r)→w'.heap.size=w.heap.size→(Instr.entry (.pointer (some ⟨r,0,none⟩))).run prog w'=.ok (.tuple #[.int .u64 x,c]) w'→wpList prog ops Q rest (a.put o.dst (.tuple #[.bool true,.int .u64 x,c])) w') :
  wpList prog ops Q (o :: rest) a w:=by
 obtain⟨D,L,h,A,B⟩:=h;refine wpList_next_ranges w U it K 57 key_u64 Rv (Value.int .u64) (fun v:Value=>v)
  (fun R S l=>by obtain⟨x,rfl,_⟩:=Maps.keyOf_int_inv underlying57 l;exact⟨x,rfl⟩) (fun v y _=>⟨v,rfl⟩) b r n D L m M h
  (fun h0 T=>p h0 fun x u=>(B x u).symm.trans (T _)) ?_
 intro x c S y w' j l E hv z F G H I J;obtain⟨x',P,rfl,C⟩:=Maps.keyOf_int_inv underlying57 l
 cases P
 have u:=jV C;obtain rfl:=(Option.some.inj hv).symm;have hs:f x=some c:=by
  have h1:=(A x u).1;have h2:=(A x u).2 c;rw[Maps.has_true_of_atKey z]at h1;obtain⟨v,N⟩:=Option.isSome_iff_exists.1 h1.symm;rw[z,N]at h2;rw[N];exact congrArg some (DataW.held.inj h2).symm
 refine s x c w' j u ((B x u).symm.trans E) hs ⟨D,_,F,A,fun y O=>?_⟩ G H I J;rw[B y O];by_cases e:y=x
 ·subst e;simp[WideAt.sameKey_self (vU y O)]
 simp[Maps.sameKey_ne (tI e),e]
theorem vH(F:o.guard=none)(m x:Operand)(t e:TypeId)(z:o.op=Op.call { callee:=Callee.builtin Builtin.delete,args:=#[m,x],argTypes:=#[t,57] })
  (G:prog.underlying t=some (.map 57 e)) (b r n:Nat) (f:Int→Option Value) (left:Int→Bool) (s:Nat)
  (H:a.eval m=.map (some b)) (h:RangeR w b r n f left s) (k:Int) (I:a.eval x=.int .u64 k) (J:aL k)
  (K:∀w' j,RangeR w' b r n (kS f k none) (fun y=>left y && decide (y≠k)) j→j≤s→w.grownBy w' (some b)→w'.heap.size=w.heap.size→wpList prog ops Q rest (a.put o.dst (.tuple #[])) w') :
  wpList prog ops Q (o :: rest) a w:=by
 obtain⟨D,L,h,C,E⟩:=h;refine wpList_delete_ranges w F m x t 57 z e key_u64 G Rv b r n D L s H h _ _ I (xZ J) ?_;intro w' j h1 h2 h3;refine K w' j ⟨_,_,h1,C.del,fun y B=>?_⟩ h2 ?_ ?_
 ·rw[E y B];by_cases e:y=k
  ·subst e;simp[WideAt.sameKey_self (vU y B)]
  simp[Maps.sameKey_ne (tI e),e]
 ·obtain⟨es,p,u,l,A,rfl⟩:=h3;exact⟨rfl,rfl,rfl,by simp[Go.ChangeMaps.setBlock],fun i _ hi=>Go.ChangeMaps.heap_setBlock_other A _ (fun e=>hi (by rw[e]))⟩
 obtain⟨es,p,u,l,A,rfl⟩:=h3;simp[Go.ChangeMaps.setBlock]
end
end Go.Proofs.YtbkkolfpegplgaaGreatDoor
namespace Go.Proofs.YtbkkolfpegplgaaGreatDoor
open Go.RowKit
theorem bA{x:Int}(h:aL x):IntKind.u64.wrap x=x:=by unfold aL at h;rw[IntKind.wrap_u64];omega
theorem ApTo.gap{zs:List Iv}{b:Int}{k:Nat}{w:World}{a:Option Addr}{len:Nat}(h:Prs w a len zs)(j:k<len)(m:aL b)(l:0<k→Hi zs (k-1)<Lo zs k∧b≤Lo zs k-Hi zs (k-1)-1):aL (iL zs b k):=by
 have h1:=(h.word j).1;unfold iL;by_cases e:k=0
 ·rw[if_pos e];subst e;exact h1
 rw[if_neg e];have h2:=(h.word (i:=k-1) aA).2;have:=l aA;unfold aL at *;omega
def Sc (w:World) (zs:List Iv) (ap:Int) (len:Nat) (e:Ending) (w':World):Prop:=
 Below w.heap.size w w'∧((ApTo zs ap len∧∃v,e=.returned (.tuple #[v,.bool true])∧OwnI w' w.heap.size v (gV zs ap len))∨(¬ApTo zs ap len∧e=.returned (.tuple #[.slice none 0 0,.bool false])))
theorem Bi(a:Option Addr)(len cap:Nat)(zs:List Iv)(ap:Int)(w:World)(h:Prs w a len zs)(ha:aL ap)(hs:len≤1000000) :
  Calls prog 47 #[.slice a len cap,.int .u64 ap] w (Sc w zs ap len):=by
 have H:=aI h;have HA:=aI ha;clear h ha;go_enter func47,ntmps47;go_wp2;go_loopw [6,14] (fun o c wr=>∃k:Nat,k≤len∧c=.int .i64 k∧OwnI wr w.heap.size o (gV zs ap k)∧ApTo zs ap k∧Below w.heap.size w wr)
  (fun _ c _=>len-(intOf c).toNat)
 case atStart=>exact⟨0,Nat.zero_le _,rfl,OwnI.nil _ _,ApTo.zero _ _,Below.refl _ _⟩
 obtain⟨k,hk,rfl,hO,hT,A⟩:=hrel;have U:=aI hO;have HT:=aI hT;clear hO hT;by_cases hlt:k<len
 ·obtain⟨b,off,rfl,A4,F,G⟩:=(H.below A).cells k hlt;have s:=H.word hlt;have i0:(0:Int)≤(k:Int):=aA;have i1:(k:Int)<(len:Int):=aA;have A2:=A.size;have J:=aI (gN zs ap k);have j:=aI (fun hh=>ApTo.gap H hlt HA hh);have r:Hid (gV zs ap (k+1)=gV zs ap k ++ [iL zs ap k,Hi zs k-Lo zs k]):=rfl;have y:=aI (fun(h1:Lo zs k≤Hi zs k) hh=>HT.succ h1 hh);have m:=aI (fun(z:ApTo zs ap len)=>z k hlt);have K:=aI (show iL zs ap k=if k=0 then Lo zs 0 else Lo zs k-Hi zs (k-1)-1-ap from rfl);by_cases h1:Lo zs k≤Hi zs k
  ·have L:=s;by_cases hk0:k=0
   ·have hS:=y.out h1 (fun h=>absurd h aA);have V:=aI hS;have X:=K.out;rw[if_pos hk0]at X;have B:Hid (aL (Hi zs k-Lo zs k)):=aI (by unfold aL at *;omega);obtain⟨lo,l⟩:=aH (Lo zs k);obtain⟨hi,n⟩:=aH (Hi zs k);have M:iL zs ap k=lo:=by rw[X,l,hk0]
    rw[M]at r;rw[← l]at F s h1 B r;rw[← n]at G s h1 B r;have WL:=aI s.1;have d1:IntKind.u64.wrap (hi-lo)=hi-lo:=bA B;have n0:¬(0:Int)<(k:Int):=aA;have T:=aI s;have N:=aI A;clear X M l n hk0 hS s L K y m j;go_wp2_with fail;refine(Hj w _ (gV zs ap k) _ lo (hi-lo) _ (U.below (aJ (aJ (Below.refl wr.heap.size wr) _) _)) (aJ (aJ N _) _) (aK _ _ aD) WL B (by rw[J.out];omega)).mono ?_;rintro e w2 ⟨v',rfl,p,I,_,_⟩;rw[← r.out]at p;have C:=aI p;clear p;go_wp2;go_roundw
    case rel=>exact⟨k+1,aA,by go_num,C,V,I⟩
    simp[intOf];omega
   obtain⟨b2,off2,eb,_,_,A0⟩:=(H.below A).cells (k-1) aA;obtain⟨rfl,rfl⟩:b=b2∧off=off2:=by simpa using eb
   have D:=(H.word (i:=k-1) aA).2;obtain⟨lo,l⟩:=aH (Lo zs k);obtain⟨hi,n⟩:=aH (Hi zs k);obtain⟨u,S⟩:=aH (Hi zs (k-1));have E:=K.out;rw[if_neg hk0]at E;rw[E]at r j;rw[← l]at F s h1 r y m j;rw[← n]at G s h1 r y m;rw[← S]at A0 D r y m j;have T:=aI s;have Y:=aI D;have N:=aI A;have B:Hid (aL (hi-lo)):=aI (by unfold aL at *;omega);have d1:IntKind.u64.wrap (hi-lo)=hi-lo:=bA B;have n0:(0:Int)<(k:Int):=aA;have n1:(0:Int)≤(k:Int)-1:=aA;have n2:(k:Int)-1<(len:Int):=aA;have n3:IntKind.i64.wrap ((k:Int)-1)=(k:Int)-1:=IntWalk.i64_in _ aA;have n4:((k:Int)-1).toNat=k-1:=aA;have Z:0<k:=aA;have O:=aI (fun(z:ApTo zs ap len)=>(m z).2 Z);have A1:b≠wr.heap.size:=aA;clear eb l n S hk0 s L D K E m A;by_cases h2:u<lo
   ·by_cases h3:ap≤lo-u-1
    ·have V:=aI (y h1 (fun _=>⟨h2,h3⟩));have WG:=aI (j (fun _=>⟨h2,h3⟩));have d2:IntKind.u64.wrap (lo-u-1-ap)=lo-u-1-ap:=bA WG;have P:=aI (fun W=>iN u lo Y T.1 h2 W);clear y O j;go_wp2_with fail;go_quiet ((go_at_call 89;exact iJ (P _)));go_wp2_with fail;refine(Hj w _ (gV zs ap k) _ (lo-u-1-ap) (hi-lo) _ (U.below (aJ (aU (aJ (Below.refl wr.heap.size wr) _) _) _)) (aJ (aU (aJ N _) _) _) (aK _ _ aD) WG B (by rw[J.out];omega)).mono ?_;rintro e w2 ⟨v',rfl,p,I,_,_⟩;rw[← r.out]at p;have C:=aI p;clear p;go_wp2;go_roundw
     case rel=>exact⟨k+1,aA,by go_num,C,V,I⟩
     simp[intOf];omega
    have Q:=aI (show ¬ApTo zs ap len from fun z=>h3 (O z).2);have A3:lo-u-1<ap:=aA;have P:=aI (fun W=>iN u lo Y T.1 h2 W);clear y O j r h3;go_wp2_with fail;go_quiet ((go_at_call 89;exact iJ (P _)));go_wp2;go_ret2;exact⟨aU (aJ N _) _,.inr ⟨Q,rfl⟩⟩
   have Q:=aI (show ¬ApTo zs ap len from fun z=>h2 (O z).1);have P:=aI (fun W=>kM u lo Y T.1 aA W);clear y O j r;go_wp2_with fail;go_quiet ((go_at_call 89;exact iJ (P _)));go_wp2;go_ret2;exact⟨aU (aJ N _) _,.inr ⟨Q,rfl⟩⟩
  have R:Hi zs k<Lo zs k:=aA;have Q:=aI (show ¬ApTo zs ap len from fun z=>h1 (m z).1);obtain⟨lo,l⟩:=aH (Lo zs k);obtain⟨hi,n⟩:=aH (Hi zs k);rw[← l]at F R;rw[← n]at G R;clear l n h1 s K y m j r;go_wp2;go_ret2;exact⟨aJ A _,.inr ⟨Q,rfl⟩⟩
 obtain rfl:k=len:=aA;go_wp2;go_ret2;exact⟨A,.inl ⟨HT,_,rfl,U⟩⟩
end Go.Proofs.YtbkkolfpegplgaaGreatDoor
