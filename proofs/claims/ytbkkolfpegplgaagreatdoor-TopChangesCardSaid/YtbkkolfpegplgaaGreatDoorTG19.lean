import Derived.Test.YtbkkolfpegplgaaGreatDoorTG1
import Derived.RangeFuncNested
open Go.World renaming putObj_heap_other→PC,putObj_heap_same→PD,alloc_heap_new→PE
namespace Go.Proofs.YtbkkolfpegplgaaGreatDoor
open Go Go.RowKit
variable {may:Nat→Prop} {A B C:World}
theorem Only.putObj(W:World)(r:Nat)(o:Obj)(h:may r):Only may W (W.putObj r o):=
 ⟨rfl,rfl,rfl,aD,fun _ _ b=>PC (by rintro rfl;exact b h)⟩
section
variable {F:Fence} {n:Nat} {P:Program}
def JR (F:Fence) (n:Nat) (P:Program) (g:Nat) (lb:Array Value) (encs:Nat→Array Value) (M:Nat→Prop) (N:Nat) (w:World):Prop:=
 ∀(l:Nat) (J Jx:Nat→World→Prop) (W:World),Below w.heap.size w W→w.heap.size≤l→l<W.heap.size →
  (∀s A B,J s A→Only (fun _=>False) A B→J s B)→(∀s A B,Jx s A→Only (fun _=>False) A B→Jx s B) →
  (∀k W1,J k W1→k<N→W.heap.size≤W1.heap.size→YieldAt F (n-1) P l (encs k) W1 fun e W'=>
    (e=.returned (.bool true)∧J (k+1) W'∧Only (fun b=>M b∨b=l) W1 W')∨(e=.returned (.bool false)∧Jx (k+1) W')) →
  J 0 W →
  CallsIn F n P g (#[.func (.yield l) #[] #[]] ++ lb) W fun e W'=>(∃v,e=.returned v)∧(J N W'∨∃k,k<N∧Jx (k+1) W')
def Wm (M:Nat→Prop) (I:Nat→World→Prop) (Ix:Code→Nat→World→Prop) (xs:Nat) (W:World):Exit→Act→World→Prop
 | .normal,_,W'=>Only M W W'∧I xs W'
 | .ret,_,W'=>Only M W W'∧Ix .ret xs W'
 | .exit id,_,W'=>Only M W W'∧Ix (.exit id) xs W'
 | .goto t,_,W'=>Only M W W'∧Ix (.goto t) xs W'
 | .panic _,_,_=>False
 | .outgrown,_,_=>False
end
section
variable {F:Fence} {n:Nat} {P:Program}
def Xu (F:Fence) (n:Nat) (P:Program) (g:Nat) (lb:Array Value) (encs:Nat→Array Value) (M T:Nat→Prop) (N:Nat) (w:World):Prop:=
 ∀(l:Nat) (J Jx:Nat→World→Prop) (W:World),Below w.heap.size w W→w.heap.size≤l→l<W.heap.size →
  (∀s A B,J s A→Only T A B→J s B)→(∀s A B,Jx s A→Only T A B→Jx s B) →
  (∀k W1,J k W1→k<N→W.heap.size≤W1.heap.size→YieldAt F (n-1) P l (encs k) W1 fun e W'=>
    (e=.returned (.bool true)∧J (k+1) W'∧Only (fun b=>M b∨b=l) W1 W')∨(e=.returned (.bool false)∧Jx (k+1) W')) →
  J 0 W →
  CallsIn F n P g (#[.func (.yield l) #[] #[]] ++ lb) W fun e W'=>(∃v,e=.returned v)∧(J N W'∨∃k,k<N∧Jx (k+1) W')
theorem pO{g:Operand}{ps:Array Tmp}{assign body:Code}{Q:Exit→Act→World→Prop}{a:Act}{w:World}
  (C2:F.round=none) (h1:1≤n) {gf:Nat} {lb:Array Value} (hg:a.eval g=.func (.func gf) #[] lb) (C3:F.fn gf) (eg:∀args w,(callFunc gf args).run P w=.ok (.enter gf args) w)
  {J:Nat→Array Value} {M T:Nat→Prop} {N:Nat} {w0:World} (B1:Xu F (n-1) P gf lb J M T N w0) (A2:Below w0.heap.size w0 w) (C4:∀x,(J x).size=ps.size) (hM:∀k,M k→k<w.heap.size∨w.heap.size+2≤k) (hT:∀k,T k→k<w.heap.size)
  (I:Nat→World→Prop) (Ix:Code→Nat→World→Prop) (hI:∀s A B,I s A→Only (fun k=>T k∨w.heap.size≤k∧k<w.heap.size+2) A B→I s B) (L:∀c s A B,Ix c s A→Only (fun k=>T k∨w.heap.size≤k∧k<w.heap.size+2) A B→Ix c s B) (h0:I 0 w)
  (Ax:Nat→Act→World→Prop) (B2:∀k a₁ A B,Ax k a₁ A→Only (fun k=>T k∨w.heap.size≤k∧k<w.heap.size+2) A B→Ax k a₁ B)
  (y:∀(l:Nat) (k:Nat) (W:World),w.heap.size+2≤W.heap.size→I k W→k<N →
    assign.wpIn (F.inRound l) (n-1-1) P (Exit.then (fun a₁ W₁=>Only M W W₁∧Ax k a₁ W₁) (fun _ _ _=>False)) { tmps:=(ps.zip (J k)).foldl (fun t (p,v)=>t.setIfInBounds p v) a.tmps,defers:=[] } W)
  (U:∀(l:Nat) (k:Nat) (a₁:Act) (W:World),w.heap.size+2≤W.heap.size→Ax k a₁ W→k<N→body.wpIn (F.inRound l) (n-1-1) P (Wm M I Ix (k+1) W) a₁ W)
  (V:∀(D:Nat) (W:World),w.heap.size≤D→I N W→W.heap[D]?=some (.deferred (some []))→Q .normal { a with defers:={ target:=.collected D,args:=#[] } :: a.defers } W)
  (X:∀(D:Nat) (c:Code) (k:Nat) (W:World),w.heap.size≤D→k<N→Ix c (k+1) W→W.heap[D]?=some (.deferred (some []))→c.wpIn F n P Q { a with defers:={ target:=.collected D,args:=#[] } :: a.defers } W) :
  (Code.rangeFunc g ps assign body).wpIn F n P Q a w:=by
 refine wpIn_rangeFunc ?_;intro fn C1;rw[C2];let rec':LoopState→Option Code→Loop:=fun st pe=>{ state:=st,pending:=pe,fn,tmps:=a.tmps,params:=ps,assign,body,defers:=w.heap.size }
 have j:∀st pe,rec' st pe={ state:=st,pending:=pe,fn,tmps:=a.tmps,params:=ps,assign,body,defers:=w.heap.size }:=fun _ _=>rfl;generalize rec'=rc at j;obtain⟨B,hB⟩:=aH w.heap.size;obtain⟨W1,K⟩:=aG ((w.alloc (.deferred (some []))).alloc (.loop (rc .ready none)));have A3:W1.heap.size=B+2:=by rw[← K,hB];simp
 have B3:W1.heap[B+1]?=some (.loop (rc .ready none)):=by
  rw[← K,hB];have:=PE (w.alloc (.deferred (some []))) (.loop (rc .ready none));rwa [World.size_alloc]at this
 have B4:W1.heap[B]?=some (.deferred (some [])):=by
  rw[← K,hB];exact(Below.heap_alloc _ _ _ aD).trans (PE w _)
 have A4:Only (fun k=>T k∨w.heap.size≤k∧k<w.heap.size+2) w W1:=by rw[← K];exact((Only.refl _ _).alloc _).alloc _
 have A5:Only (fun k=>B≤k∧k<B+2) w W1:=by rw[← K];exact((Only.refl _ _).alloc _).alloc _
 refine⟨B+1,[{ target:=.collected B,args:=#[] }],W1,{ target:=.fn (.func gf) lb,args:=#[.func (.yield (B+1)) #[] #[]] },W1,gf,#[.func (.yield (B+1)) #[] #[]] ++ lb,W1,?_,?_,?_,?_,fun _=>h1,?_⟩
 ·rw[← K,j,hB];exact run_enterLoop_outer _ _ _ _ _
 ·simp only[resolve,hg];simp[go_sem]
 ·intro f' B0;simp[Target.leads]at B0;subst B0;exact C3
 ·simp[invoke,go_sem,eg]
 have hz:w.heap.size=B:=hB.symm;rw[hz]at hI L B2 y U V X A4 hM hT;have Y:∀{A A':World} {b:Nat} {o:Obj},Only T A A'→B≤b→A.heap[b]?=some o→A'.heap[b]?=some o:=fun h hb hc=>h.obj (fun e=>by have:=hT _ e;omega) hc;refine(B1 (B+1)
  (fun k W=>I k W∧W.heap[B+1]?=some (.loop (rc .ready none))∧W.heap[B]?=some (.deferred (some [])))
  (fun k W=>∃c,Ix c k W∧W.heap[B+1]?=some (.loop (rc .done (some c)))∧W.heap[B]?=some (.deferred (some [])))
  W1 (A2.trans ((A5.below (n:=B) aA (fun k S=>S.1)).mono (by have:=A2.size;omega))) (by have:=A2.size;omega) aA ?_ ?_ ?_ ⟨hI _ _ _ h0 A4,B3,B4⟩).mono ?_
 ·rintro s A A' ⟨hi,O,hd⟩ ho;exact⟨hI _ _ _ hi (ho.wide (fun k S=>.inl S)),Y ho aA O,Y ho aA hd⟩
 ·rintro s A A' ⟨c,hi,O,hd⟩ ho;exact⟨c,L _ _ _ _ hi (ho.wide (fun k S=>.inl S)),Y ho aA O,Y ho aA hd⟩
 ·
  rintro k W ⟨hi,O,hd⟩ A1 B9;rw[A3]at B9;have C5:B+1<W.heap.size:=(Array.getElem?_eq_some_iff.1 O).1;have hy:=run_yield (P:=P) (args:=J k) O (by rw[j];exact C4 k);rw[j]at hy;refine⟨fn,_,assign,body,hy,roundIn_of_wpIn C1 (wpIn_mono (y (B+1) k W aA hi A1) ?_)⟩;intro e a₁ W₁ hp
  cases e with
  | normal=>
    obtain⟨A0,C0⟩:=hp;have A6:W₁.heap[B+1]?=some (.loop (rc .ready none)):=A0.obj (fun hm=>by have:=hM _ hm;omega) O;have B5:W₁.heap[B]?=some (.deferred (some [])):=A0.obj (fun hm=>by have:=hM _ hm;omega) hd;have A7:B+1<W₁.heap.size:=(Array.getElem?_eq_some_iff.1 A6).1;refine⟨_,run_beginRound A6 (by rw[j]),?_⟩;obtain⟨W₂,R⟩:=aG (W₁.putObj (B+1) (.loop { rc .ready none with state:=.busy }));have A8:∀{m:Nat→Prop},m (B+1)→Only m W₁ W₂:=fun a=>by rw[← R];exact Only.putObj _ _ _ a
    have B6:W₂.heap[B+1]?=some (.loop { rc .ready none with state:=.busy }):=by rw[← R];exact PD A7
    have B7:W₂.heap[B]?=some (.deferred (some [])):=by rw[← R];exact(PC aA).trans B5
    have C6:B+2≤W₂.heap.size:=by rw[← R];have:=A0.size;simp;omega
    rw[R];refine wpIn_mono (U (B+1) k a₁ W₂ aA (B2 _ _ _ _ C0 (A8 (.inr ⟨aA,aA⟩))) A1) ?_;have Z:∀(u:Option Code) (W3:World),Only M W₂ W3→∃W4,(Instr.endRound (B+1) u).run P W3=.ok (.bool u.isNone) W4∧Only (fun k=>T k∨B≤k∧k<B+2) W3 W4 ∧
      W4.heap[B+1]?=some (.loop (rc (if u.isNone then .ready else .done) u))∧W4.heap[B]?=some (.deferred (some []))∧Only (fun b=>M b∨b=B+1) W W4:=fun u W3 r=>by
     have A9:=r.obj (fun hm=>by have:=hM _ hm;omega) B6;have B8:=r.obj (fun hm=>by have:=hM _ hm;omega) B7;have z:=run_endRound (P:=P) u A9;rw[j]at z;refine⟨_,z,Only.putObj _ _ _ (.inr ⟨aA,aA⟩),by rw[j];exact PD (Array.getElem?_eq_some_iff.1 A9).1,(PC aA).trans B8,?_⟩;exact(((A0.wide (fun k S=>.inl S)).trans (A8 (.inr rfl))).trans (r.wide (fun k S=>.inl S))).trans (Only.putObj _ _ _ (.inr rfl))
    rintro e a3 W3 hp
    cases e with
    | normal=>
      obtain⟨r,C⟩:=hp;obtain⟨W4,z,E,G,H,hO⟩:=Z none W3 r;exact⟨_,W4,z,.inl ⟨rfl,⟨hI _ _ _ C E,G,H⟩,hO⟩⟩
    | ret=>
      obtain⟨r,C⟩:=hp;obtain⟨W4,z,E,G,H,_⟩:=Z (some .ret) W3 r;exact⟨_,W4,z,.inr ⟨rfl,.ret,L _ _ _ _ C E,G,H⟩⟩
    | exit id=>
      obtain⟨r,C⟩:=hp;obtain⟨W4,z,E,G,H,_⟩:=Z (some (.exit id)) W3 r;exact⟨_,W4,z,.inr ⟨rfl,.exit id,L _ _ _ _ C E,G,H⟩⟩
    | goto t=>
      obtain⟨r,C⟩:=hp;obtain⟨W4,z,E,G,H,_⟩:=Z (some (.goto t)) W3 r;exact⟨_,W4,z,.inr ⟨rfl,.goto t,L _ _ _ _ C E,G,H⟩⟩
    | panic ch=>exact hp.elim
    | outgrown=>exact hp.elim
  | _=>exact hp.elim

 rintro e W2 ⟨⟨v,rfl⟩,(⟨hi,O,hd⟩ | ⟨k,S,c,hi,O,hd⟩)⟩
 ·have z:=run_endLoop (P:=P) O (by rw[j];simp);rw[j]at z;exact⟨none,_,z,V B _ (Nat.le_refl _) (hI _ _ _ hi (Only.putObj _ _ _ (.inr ⟨aA,aA⟩))) ((PC aA).trans hd)⟩
 have z:=run_endLoop (P:=P) O (by rw[j];simp);rw[j]at z;exact⟨some c,_,z,X B c k _ (Nat.le_refl _) S (L _ _ _ _ hi (Only.putObj _ _ _ (.inr ⟨aA,aA⟩))) ((PC aA).trans hd)⟩
end
end Go.Proofs.YtbkkolfpegplgaaGreatDoor
