import Derived.Test.YtbkkolfpegplgaaGreatDoorTG2
import Derived.Test.YtbkkolfpegplgaaGreatDoorTG4
open Go.World renaming cell?→PC
namespace Go.Proofs.YtbkkolfpegplgaaGreatDoor
open Go Go.RowKit
structure Ent where
 rep:Int
 mx:Int
 hs:List Iv
structure EntW (e:Ent):Prop where
 rep:aL e.rep
 mx:aL e.mx
 hs:∀z∈e.hs,aL z.1∧aL z.2
abbrev EV:=Ent×Value
def EV.z:EV:=(⟨0,0,[]⟩,.slice none 0 0)
def cI (l:List EV):List Value:=l.flatMap fun p=>[.int .u64 p.1.rep,.int .u64 p.1.mx,p.2]
theorem uX(p:EV)(l:List EV):cI (p :: l)=.int .u64 p.1.rep :: .int .u64 p.1.mx :: p.2 :: cI l:=rfl
theorem fM(l m:List EV):cI (l ++ m)=cI l ++ cI m:=by unfold cI;rw[List.flatMap_append]
theorem gI(l:List EV):(cI l).length=l.length * 3:=by
 induction l with
 | nil=>rfl
 | cons z zs ih=>rw[uX];simp only[List.length_cons,ih];omega
theorem tT(l:List EV):∀i,i<l.length→(cI l)[i * 3]?=some (.int .u64 (l.getD i EV.z).1.rep)∧(cI l)[i * 3+1]?=some (.int .u64 (l.getD i EV.z).1.mx)∧(cI l)[i * 3+2]?=some (l.getD i EV.z).2:=by
 induction l with
 | nil=>intro i h;simp at h
 | cons z zs ih=>
   intro i h;rw[uX]
   cases i with
   | zero=>exact⟨rfl,rfl,rfl⟩
   | succ i=>
     have:=ih i (by simpa using h);rw[show(i+1) * 3=i * 3+1+1+1 by omega];simpa[Nat.add_assoc]using this
theorem Io(l:List EV)(e:Ent)(v:Value):(cI (l ++ [(e,v)]))[l.length * 3]?=some (.int .u64 e.rep)∧(cI (l ++ [(e,v)]))[l.length * 3+1]?=some (.int .u64 e.mx)∧(cI (l ++ [(e,v)]))[l.length * 3+2]?=some v:=by
 have h:=tT (l ++ [(e,v)]) l.length aD;simpa[List.getD]using h
theorem Rq(l:List EV)(e:Ent)(v:Value)(x:Int):(cI (l ++ [(e,v)])).set (l.length * 3+1) (.int .u64 x)=cI (l ++ [({ e with mx:=x },v)]):=by
 rw[fM,fM,List.set_append_right _ _ (by rw[gI];omega),gI,show l.length * 3+1-l.length * 3=1 by omega];rfl
theorem Rr(l:List EV)(e:Ent)(v u:Value)(hs:List Iv):(cI (l ++ [(e,v)])).set (l.length * 3+2) u=cI (l ++ [({ e with hs:=hs },u)]):=by
 rw[fM,fM,List.set_append_right _ _ (by rw[gI];omega),gI,show l.length * 3+2-l.length * 3=2 by omega];rfl
theorem In(l:List EV)(x y:Int)(v:Value):cI l ++ [.int .u64 x,.int .u64 y,v]=cI (l ++ [(⟨x,y,[]⟩,v)]):=by rw[fM];rfl
theorem mJ{w w':World}{may:Nat→Prop}{a:Option Addr}{len:Nat}{zs:List Iv}(h:Prs w a len zs)(ho:Only may w w')(m:∀ad,a=some ad→¬may ad.block):Prs w' a len zs:=
 ⟨h.length,h.most,h.words,fun i hi=>by
  obtain⟨b,off,e,j,h1,h2⟩:=h.cells i hi;have l:=m _ e;exact⟨b,off,e,Nat.lt_of_lt_of_le j ho.size,ho.cell l h1,ho.cell l h2⟩⟩
theorem bF{w w':World}{may:Nat→Prop}{base:Nat}{e:TypeId}{size:Nat}{v:Value}{n:Nat}{xs:List Value}(h:w.ownsRow base e size v n xs)(ho:Only may w w')(b:∀k,v.ownBlock=some k→¬may k):w'.ownsRow base e size v n xs:=by
 refine⟨h.1,?_⟩;rcases h.2 with hn | ⟨g,cap,cur,hv,hg,hc,rest⟩
 ·exact .inl hn
 exact .inr ⟨g,cap,cur,hv,hg,ho.obj (b g (by rw[hv];rfl)) hc,rest⟩
theorem aR{w:World}{base:Nat}{e:TypeId}{size:Nat}{v:Value}{n:Nat}{xs:List Value}(h:w.ownsRow base e size v n xs){k:Nat}(b:v.ownBlock=some k):∃j,w.heap[k]?=some (.cells j e (0,0)):=by
 rcases h.2 with⟨hn,_⟩ | ⟨g,cap,cur,hv,hg,hc,rest⟩
 ·rw[hn]at b;cases b
 rw[hv]at b;obtain rfl:g=k:=by simpa[Value.ownBlock]using b
 exact⟨cur,hc⟩
theorem iR{w w':World}{row:Option Nat}(h:w.grownBy w' row):Only (fun b=>row=some b) w w':=
 ⟨h.os,h.tape,h.output,h.size,fun k j l=>h.block k j (fun e=>l e.symm)⟩
def Typed (w:World) (t:TypeId) (k:Nat):Prop:=∃cs,w.heap[k]?=some (.cells cs t (0,0))
theorem Typed.ne{w:World}{t j:TypeId}{k k':Nat}(h:Typed w t k)(m:Typed w j k')(n:t≠j):k≠k':=by
 rintro rfl;obtain⟨p,e⟩:=h;obtain⟨l,b⟩:=m;rw[e]at b
 cases b
 exact n rfl
def HoleF (w:World) (B:Nat) (p:EV):Prop:=
 ∃a cap,p.2=.slice a p.1.hs.length cap∧Prs w a p.1.hs.length p.1.hs∧p.1.hs.length≤cap∧(a=none→cap=0)∧∀ad,a=some ad→ad.block<B∧Typed w 123 ad.block
theorem HoleF.of_own{w:World}{base:Nat}{e:Ent}{v:Value}(h:OwnL w base 123 v e.hs):HoleF w w.heap.size (e,v):=by
 obtain⟨a,cap,hv,j,l,m⟩:=h.prs;refine⟨a,cap,hv,j,l,m,fun ad n=>?_⟩;have b:v.ownBlock=some ad.block:=by rw[hv,n];rfl
 exact⟨(h.row.lt _ b).2,aR h.row b⟩
theorem HoleF.only{w w':World}{B:Nat}{p:EV}{may:Nat→Prop}(h:HoleF w B p)(ho:Only may w w')(u:∀k,may k→B≤k∨¬Typed w 123 k):HoleF w' B p:=by
 obtain⟨a,cap,hv,l,m,n,j⟩:=h;have b:∀ad,a=some ad→¬may ad.block:=by
  intro ad e s;obtain⟨h1,h2⟩:=j ad e;rcases u _ s with h3 | h3
  ·omega
  exact h3 h2
 refine⟨a,cap,hv,mJ l ho b,m,n,fun ad e=>?_⟩;obtain⟨h1,r,h2⟩:=j ad e;exact⟨h1,r,ho.obj (b ad e) h2⟩
theorem HoleF.wide{w:World}{B j:Nat}{p:EV}(h:HoleF w B p)(r:B≤j):HoleF w j p:=by
 obtain⟨a,cap,hv,l,m,n,b⟩:=h;exact⟨a,cap,hv,l,m,n,fun ad e=>⟨Nat.lt_of_lt_of_le (b ad e).1 r,(b ad e).2⟩⟩
structure cD where
 f:Int
 ve:Int
 en:Int
 ho:Int
 se:Int
def RdR (w:World) (r:Nat) (lm:cD) (fn er v:Value) (ents hls:Int) (cp:Value):Prop:=
 w.heap[r]?=some (.cells #[.int .i64 lm.f,.int .i64 lm.ve,.int .i64 lm.en,.int .i64 lm.ho,.int .i64 lm.se,fn,er,v,.int .u64 ents,.int .u64 hls,cp] 343 (0,0))
section
variable {w w':World} {r:Nat} {lm:cD} {fn er v cp:Value} {ents hls:Int}
theorem RdR.lt(h:RdR w r lm fn er v ents hls cp):r<w.heap.size:=aO h
theorem RdR.typed(h:RdR w r lm fn er v ents hls cp):Typed w 343 r:=⟨_,h⟩
theorem RdR.only{may:Nat→Prop}(h:RdR w r lm fn er v ents hls cp)(ho:Only may w w')(b:¬may r):RdR w' r lm fn er v ents hls cp:=ho.obj b h
theorem RdR.below(h:RdR w r lm fn er v ents hls cp)(b:Below w.heap.size w w'):RdR w' r lm fn er v ents hls cp:=(b.block r h.lt).trans h
theorem RdR.c2(h:RdR w r lm fn er v ents hls cp):w.cell? ⟨r,2,none⟩=some (.int .i64 lm.en):=by simp[PC,show w.heap[r]?=_ from h]
theorem RdR.c3(h:RdR w r lm fn er v ents hls cp):w.cell? ⟨r,3,none⟩=some (.int .i64 lm.ho):=by simp[PC,show w.heap[r]?=_ from h]
theorem RdR.c5(h:RdR w r lm fn er v ents hls cp):w.cell? ⟨r,5,none⟩=some fn:=by simp[PC,show w.heap[r]?=_ from h]
theorem RdR.c6(h:RdR w r lm fn er v ents hls cp):w.cell? ⟨r,6,none⟩=some er:=by simp[PC,show w.heap[r]?=_ from h]
theorem RdR.c7(h:RdR w r lm fn er v ents hls cp):w.cell? ⟨r,7,none⟩=some v:=by simp[PC,show w.heap[r]?=_ from h]
theorem RdR.c8(h:RdR w r lm fn er v ents hls cp):w.cell? ⟨r,8,none⟩=some (.int .u64 ents):=by simp[PC,show w.heap[r]?=_ from h]
theorem RdR.c9(h:RdR w r lm fn er v ents hls cp):w.cell? ⟨r,9,none⟩=some (.int .u64 hls):=by simp[PC,show w.heap[r]?=_ from h]
theorem RdR.c10(h:RdR w r lm fn er v ents hls cp):w.cell? ⟨r,10,none⟩=some cp:=by simp[PC,show w.heap[r]?=_ from h]
theorem RdR.free(h:RdR w r lm fn er v ents hls cp):∀j,w.frozen? ⟨r,j,none⟩=false:=by intro j;simp[World.frozen?,show w.heap[r]?=_ from h]
theorem RdR.s5(h:RdR w r lm fn er v ents hls cp)(x:Value):RdR (w.setCell ⟨r,5,none⟩ x) r lm x er v ents hls cp:=heap_setCell_same _ _ 5 _ _ _ h
theorem RdR.s6(h:RdR w r lm fn er v ents hls cp)(x:Value):RdR (w.setCell ⟨r,6,none⟩ x) r lm fn x v ents hls cp:=heap_setCell_same _ _ 6 _ _ _ h
theorem RdR.s7(h:RdR w r lm fn er v ents hls cp)(x:Value):RdR (w.setCell ⟨r,7,none⟩ x) r lm fn er x ents hls cp:=heap_setCell_same _ _ 7 _ _ _ h
theorem RdR.s8(h:RdR w r lm fn er v ents hls cp)(x:Int):RdR (w.setCell ⟨r,8,none⟩ (.int .u64 x)) r lm fn er v x hls cp:=heap_setCell_same _ _ 8 _ _ _ h
theorem RdR.s9(h:RdR w r lm fn er v ents hls cp)(x:Int):RdR (w.setCell ⟨r,9,none⟩ (.int .u64 x)) r lm fn er v ents x cp:=heap_setCell_same _ _ 9 _ _ _ h
theorem RdR.s10(h:RdR w r lm fn er v ents hls cp)(x:Value):RdR (w.setCell ⟨r,10,none⟩ x) r lm fn er v ents hls x:=heap_setCell_same _ _ 10 _ _ _ h
end
inductive Ph where
 | count
 | rep
 | top
 | op
 | lo
 | hi (l:Int)
 | fin
def tN (r:Nat) (f:FuncId):Value:=.func (.func f) #[.pointer (some ⟨r,0,none⟩)] #[]
def Ph.fn (r:Nat):Ph→Value
 | .count=>tN r 243
 | .rep=>tN r 262
 | .top=>tN r 268
 | .op=>tN r 271
 | .lo=>tN r 273
 | .hi _=>tN r 274
 | .fin=>.nilFunc
structure St where
 ph:Ph
 es:List Ent
 cur:Ent
 ents:Int
 hls:Int
def dW (zs:List Iv):Int:=Hi zs (zs.length-1)
structure RowF (w:World) (base:Nat) (v:Value) (l:List EV):Prop where
 row:w.ownsRow base 96 3 v l.length (cI l)
 fins:∀p∈l,HoleF w w.heap.size p
 words:∀p∈l,EntW p.1
structure RowC (w:World) (base:Nat) (v:Value) (l:List EV) (e:Ent) (B:Nat) (hv:Value):Prop where
 row:w.ownsRow base 96 3 v (l.length+1) (cI (l ++ [(e,hv)]))
 le:base≤B
 lt:B≤w.heap.size
 fins:∀p∈l,HoleF w B p
 words:∀p∈l,EntW p.1
 own:OwnL w B 123 hv e.hs
 word:EntW e
structure CurOk (w:World) (base:Nat) (cp:Value) (e:Ent) (o:Option Int) (p:Nat) (lo llo lhi:Int) (sm:Bool) (f:FuncId):Prop where
 ptr:cp=.pointer (some ⟨p,0,none⟩)
 le:base≤p
 cur:CurAt w p 1 lo llo lhi sm o.isSome f
 opn:∀l,o=some l→lo=l∧aL l
 nxt:(e.hs=[]∧f=153∧sm=false)∨(e.hs≠[]∧f=245∧lhi=dW e.hs∧aL lhi)
def Parts (w:World) (base:Nat) (s:St) (v cp:Value):Prop:=
 match s.ph with
 | .count=>v=.slice none 0 0∧s.es=[]
 | .rep=>∃l,l.map (·.1)=s.es∧RowF w base v l
 | .fin=>∃l,l.map (·.1)=s.es∧RowF w base v l
 | .top=>∃l B hv,l.map (·.1)=s.es∧RowC w base v l s.cur B hv∧s.cur.hs=[]
 | .op=>∃l B hv,l.map (·.1)=s.es∧RowC w base v l s.cur B hv∧s.cur.hs=[]
 | .lo=>∃l B hv p lo llo lhi sm f,l.map (·.1)=s.es∧RowC w base v l s.cur B hv∧CurOk w base cp s.cur none p lo llo lhi sm f
 | .hi x=>∃l B hv p lo llo lhi sm f,l.map (·.1)=s.es∧RowC w base v l s.cur B hv∧CurOk w base cp s.cur (some x) p lo llo lhi sm f
def MemF (w:World) (base r:Nat) (lm:cD) (fn er:Value) (s:St):Prop:=base≤r∧∃v cp,RdR w r lm fn er v s.ents s.hls cp∧Parts w base s v cp
theorem RowF.only{w w':World}{base:Nat}{v:Value}{l:List EV}{may:Nat→Prop}(h:RowF w base v l)(ho:Only may w w')(j:∀k,may k→¬Typed w 96 k∧¬Typed w 123 k):RowF w' base v l:=
 ⟨bF h.row ho (fun k b m=>(j k m).1 (aR h.row b)),fun p n=>((h.fins p n).only ho fun k b=>.inr (j k b).2).wide ho.size,h.words⟩
theorem RowC.only{w w':World}{base B:Nat}{v hv:Value}{l:List EV}{e:Ent}{may:Nat→Prop}(h:RowC w base v l e B hv)(ho:Only may w w')(m:∀k,may k→¬Typed w 96 k∧¬Typed w 123 k):RowC w' base v l e B hv:=
 ⟨bF h.row ho (fun k b j=>(m k j).1 (aR h.row b)),h.le,Nat.le_trans h.lt ho.size,fun p n=>(h.fins p n).only ho fun k b=>.inr (m k b).2,h.words,
  ⟨bF h.own.row ho (fun k b j=>(m k j).2 (aR h.own.row b)),h.own.words⟩,h.word⟩
theorem CurOk.only{w w':World}{base p:Nat}{cp:Value}{e:Ent}{o:Option Int}{lo b j:Int}{l:Bool}{f:FuncId}{may:Nat→Prop}(h:CurOk w base cp e o p lo b j l f)(ho:Only may w w')(m:¬may p):CurOk w' base cp e o p lo b j l f:=
 ⟨h.ptr,h.le,ho.obj m h.cur,h.opn,h.nxt⟩
theorem CurOk.typed{w:World}{base p:Nat}{cp:Value}{e:Ent}{o:Option Int}{lo b j:Int}{l:Bool}{f:FuncId}(h:CurOk w base cp e o p lo b j l f):Typed w 234 p:=⟨_,h.cur⟩
theorem Parts.only{w w':World}{base:Nat}{s:St}{v cp:Value}{may:Nat→Prop}(h:Parts w base s v cp)(ho:Only may w w')(m:∀k,may k→¬Typed w 96 k∧¬Typed w 123 k∧¬Typed w 234 k):Parts w' base s v cp:=by
 have b:∀k,may k→¬Typed w 96 k∧¬Typed w 123 k:=fun k j=>⟨(m k j).1,(m k j).2.1⟩;obtain⟨ph,es,cur,ents,hls⟩:=s
 cases ph with
 | count=>exact h
 | rep=>obtain⟨l,e,h⟩:=h;exact⟨l,e,h.only ho b⟩
 | fin=>obtain⟨l,e,h⟩:=h;exact⟨l,e,h.only ho b⟩
 | top=>obtain⟨l,B,hv,e,h,h2⟩:=h;exact⟨l,B,hv,e,h.only ho b,h2⟩
 | op=>obtain⟨l,B,hv,e,h,h2⟩:=h;exact⟨l,B,hv,e,h.only ho b,h2⟩
 | lo=>obtain⟨l,B,hv,p,a1,a2,n,r,u,e,h,h2⟩:=h;exact⟨l,B,hv,p,a1,a2,n,r,u,e,h.only ho b,h2.only ho (fun j=>(m p j).2.2 h2.typed)⟩
 | hi x=>obtain⟨l,B,hv,p,a1,a2,n,r,u,e,h,h2⟩:=h;exact⟨l,B,hv,p,a1,a2,n,r,u,e,h.only ho b,h2.only ho (fun j=>(m p j).2.2 h2.typed)⟩
theorem Typed.not{w:World}{t b:TypeId}{k:Nat}(h:Typed w t k)(l:t≠b):¬Typed w b k:=fun j=>h.ne j l rfl
theorem Parts.reader{w w':World}{base r:Nat}{s:St}{v cp:Value}(h:Parts w base s v cp)(j:Typed w 343 r)(ho:Only (fun b=>b=r) w w'):Parts w' base s v cp:=
 h.only ho fun k l=>by subst l;exact⟨j.not aB,j.not aB,j.not aB⟩
theorem Parts.below{w w':World}{base:Nat}{s:St}{v cp:Value}(h:Parts w base s v cp)(j:Below w.heap.size w w'):Parts w' base s v cp:=
 h.only (may:=fun _=>False) (Only.of_below j) fun _ b=>b.elim
theorem MemF.below{w w':World}{base r:Nat}{lm:cD}{fn b:Value}{s:St}(h:MemF w base r lm fn b s)(j:Below w.heap.size w w'):MemF w' base r lm fn b s:=by
 obtain⟨h0,v,cp,h1,h2⟩:=h;exact⟨h0,v,cp,h1.below j,h2.below j⟩
theorem MemF.store{w:World}{base r:Nat}{lm:cD}{fn m:Value}{s:St}(h:MemF w base r lm fn m s)(j l:Value):MemF ((w.setCell ⟨r,5,none⟩ j).setCell ⟨r,6,none⟩ l) base r lm j l s:=by
 obtain⟨h0,v,cp,h1,h2⟩:=h;have ho:Only (fun b=>b=r) w ((w.setCell ⟨r,5,none⟩ j).setCell ⟨r,6,none⟩ l):=((Only.refl (fun b=>b=r) w).setCell (p:=⟨r,5,none⟩) (.inl rfl) _).setCell (p:=⟨r,6,none⟩) (.inl rfl) _;exact⟨h0,v,cp,(h1.s5 j).s6 l,h2.reader h1.typed ho⟩
theorem RowC.finish{w:World}{base B:Nat}{v hv:Value}{l:List EV}{e:Ent}(h:RowC w base v l e B hv):RowF w base v (l ++ [(e,hv)]):=by
 refine⟨by simpa using h.row,fun p b=>?_,fun p b=>?_⟩
 ·rcases List.mem_append.1 b with b | b
  ·exact(h.fins p b).wide h.lt
  obtain rfl:p=(e,hv):=by simpa using b
  exact HoleF.of_own h.own
 rcases List.mem_append.1 b with b | b
 ·exact h.words p b
 obtain rfl:p=(e,hv):=by simpa using b
 exact h.word
def bS (x limit rest:Int):Int:=if max limit 0<x then 7 else if max rest 0<x then 5 else 0
def dJ (s:St):St:=
 if 0<s.hls then { s with ph:=.lo,hls:=s.hls-1 }
 else if 0<s.ents-1 then { s with ph:=.rep,es:=s.es ++ [s.cur],ents:=s.ents-1 }
 else { s with ph:=.fin,es:=s.es ++ [s.cur],ents:=s.ents-1 }
def dR (l:List Ent):Int:=(l.getD (l.length-1) ⟨0,0,[]⟩).rep
def bU (lm:cD) (s:St) (x rest:Int):Except Int St:=
 match s.ph with
 | .count=>if bS x lm.en rest≠0 then .error (bS x lm.en rest)else if x=0 then .error 9 else .ok { s with ph:=.rep,ents:=x }
 | .rep=>
   if s.es=[] then .ok { s with ph:=.top,cur:=⟨x,0,[]⟩ }
   else if dR s.es+1+x<18446744073709551616 then .ok { s with ph:=.top,cur:=⟨dR s.es+1+x,0,[]⟩ } else .error 8
 | .top=>.ok { s with ph:=.op,cur:={ s.cur with mx:=x } }
 | .op=>if bS x lm.ho rest≠0 then .error (bS x lm.ho rest)else .ok (dJ { s with hls:=x })
 | .lo=>
   if s.cur.hs=[] then .ok { s with ph:=.hi x }
   else if dW s.cur.hs+1+1+x<18446744073709551616 then .ok { s with ph:=.hi (dW s.cur.hs+1+1+x) } else .error 8
 | .hi l=>if l+x<18446744073709551616∧l+x<s.cur.mx then .ok (dJ { s with cur:={ s.cur with hs:=s.cur.hs ++ [(l,l+x)] } })else .error 8
 | .fin=>.ok s
end Go.Proofs.YtbkkolfpegplgaaGreatDoor
