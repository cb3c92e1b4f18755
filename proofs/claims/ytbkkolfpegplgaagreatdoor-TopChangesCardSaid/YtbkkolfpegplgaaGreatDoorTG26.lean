import Derived.Test.YtbkkolfpegplgaaGreatDoorTG19
import Derived.Test.YtbkkolfpegplgaaGreatDoorTG5
open Go.World renaming putObj_heap_other→PC,putObj_heap_same→PD,alloc_heap_new→PE
namespace Go.Proofs.YtbkkolfpegplgaaGreatDoor
open Go Go.RowKit
theorem Sx{W b:World}{t:TypeId}{k:Nat}(h:Typed b t k)(e:b.heap[k]?=W.heap[k]?):Typed W t k:=by
 obtain⟨j,l⟩:=h;exact⟨j,e ▸ l⟩
theorem Ve{M:Nat→Prop}{t:TypeId}{l j:Nat}{A B C D E:World}(h1:Only M A B)(h2:Only (fun k=>k=l) B C)(h3:Only (fun k=>M k∨j≤k∧Typed C t k) C D)(h4:Only (fun k=>k=l) D E):Only (fun k=>M k∨k=l∨j≤k∧Typed A t k) A E:=by
 have m:=h1.size;have n:=h2.size;have p:=h3.size;refine⟨h4.os.trans (h3.os.trans (h2.os.trans h1.os)),h4.tape.trans (h3.tape.trans (h2.tape.trans h1.tape)),h4.output.trans (h3.output.trans (h2.output.trans h1.output)),Nat.le_trans m (Nat.le_trans n (Nat.le_trans p h4.size)),fun k u b=>?_⟩;have a1:=h1.block k u (fun q=>b (.inl q));have a2:=h2.block k aA (fun q=>b (.inr (.inl q)));have r:=h3.block k aA (fun q=>q.elim (fun q=>b (.inl q)) (fun q=>b (.inr (.inr ⟨q.1,Sx q.2 (a2.trans a1)⟩))));have s:=h4.block k aA (fun q=>b (.inr (.inl q)));exact s.trans (r.trans (a2.trans a1))
section
variable {F:Fence} {n:Nat} {P:Program}
def Lp (F:Fence) (n:Nat) (P:Program) (g:Nat) (lb:Array Value) (encs:Nat→Array Value) (M:Nat→Prop) (t:TypeId) (nb:Nat) (N:Nat) (w:World):Prop:=
 ∀(l:Nat) (J Jx:Nat→World→Prop) (W:World),Below w.heap.size w W→w.heap.size≤l→l<W.heap.size →
  (∀s A B,J s A→Only (fun _=>False) A B→J s B)→(∀s A B,Jx s A→Only (fun _=>False) A B→Jx s B) →
  (∀k W1,J k W1→k<N→W.heap.size≤W1.heap.size→YieldAt F (n-1) P l (encs k) W1 fun e W'=>
    (e=.returned (.bool true)∧J (k+1) W'∧Only (fun b=>M b∨b=l∨nb≤b∧Typed W1 t b) W1 W')∨(e=.returned (.bool false)∧Jx (k+1) W')) →
  J 0 W →
  CallsIn F n P g (#[.func (.yield l) #[] #[]] ++ lb) W fun e W'=>(∃v,e=.returned v)∧(J N W'∨∃k,k<N∧Jx (k+1) W')
def Yh (M:Nat→Prop) (t:TypeId) (nb:Nat) (I:Nat→World→Prop) (Ix:Code→Nat→World→Prop) (xs:Nat) (W:World):Exit→Act→World→Prop
 | .normal,_,W'=>Only (fun b=>M b∨nb≤b∧Typed W t b) W W'∧I xs W'
 | .ret,_,W'=>Only (fun b=>M b∨nb≤b∧Typed W t b) W W'∧Ix .ret xs W'
 | .exit id,_,W'=>Only (fun b=>M b∨nb≤b∧Typed W t b) W W'∧Ix (.exit id) xs W'
 | .goto q,_,W'=>Only (fun b=>M b∨nb≤b∧Typed W t b) W W'∧Ix (.goto q) xs W'
 | .panic _,_,_=>False
 | .outgrown,_,_=>False
theorem gL{g:Operand}{ps:Array Tmp}{assign body:Code}{Q:Exit→Act→World→Prop}{a:Act}{w:World}
  (C1:F.round=none) (h1:1≤n) {gf:Nat} {lb:Array Value} (hg:a.eval g=.func (.func gf) #[] lb) (C2:F.fn gf) (eg:∀args w,(callFunc gf args).run P w=.ok (.enter gf args) w)
  {J:Nat→Array Value} {M:Nat→Prop} {t:TypeId} {nb:Nat} {N:Nat} {w0:World} (B2:Lp F (n-1) P gf lb J M t nb N w0) (A3:Below w0.heap.size w0 w) (C3:∀x,(J x).size=ps.size) (hM:∀k,M k→k<w.heap.size∨w.heap.size+2≤k)
  (I:Nat→World→Prop) (Ix:Code→Nat→World→Prop) (hI:∀s A B,I s A→Only (fun k=>w.heap.size≤k∧k<w.heap.size+2) A B→I s B) (K:∀c s A B,Ix c s A→Only (fun k=>w.heap.size≤k∧k<w.heap.size+2) A B→Ix c s B) (h0:I 0 w)
  (Ax:Nat→Act→World→Prop) (B3:∀k a₁ A B,Ax k a₁ A→Only (fun k=>w.heap.size≤k∧k<w.heap.size+2) A B→Ax k a₁ B)
  (y:∀(l:Nat) (k:Nat) (W:World),w.heap.size+2≤W.heap.size→I k W→k<N →
    assign.wpIn (F.inRound l) (n-1-1) P (Exit.then (fun a₁ W₁=>Only M W W₁∧Ax k a₁ W₁) (fun _ _ _=>False)) { tmps:=(ps.zip (J k)).foldl (fun t (p,v)=>t.setIfInBounds p v) a.tmps,defers:=[] } W)
  (T:∀(l:Nat) (k:Nat) (a₁:Act) (W:World),w.heap.size+2≤W.heap.size→Ax k a₁ W→k<N→body.wpIn (F.inRound l) (n-1-1) P (Yh M t nb I Ix (k+1) W) a₁ W)
  (U:∀(D:Nat) (W:World),w.heap.size≤D→I N W→W.heap[D]?=some (.deferred (some []))→Q .normal { a with defers:={ target:=.collected D,args:=#[] } :: a.defers } W)
  (V:∀(D:Nat) (c:Code) (k:Nat) (W:World),w.heap.size≤D→k<N→Ix c (k+1) W→W.heap[D]?=some (.deferred (some []))→c.wpIn F n P Q { a with defers:={ target:=.collected D,args:=#[] } :: a.defers } W) :
  (Code.rangeFunc g ps assign body).wpIn F n P Q a w:=by
 refine wpIn_rangeFunc ?_;intro fn C0;rw[C1];let rec':LoopState→Option Code→Loop:=fun st pe=>{ state:=st,pending:=pe,fn,tmps:=a.tmps,params:=ps,assign,body,defers:=w.heap.size }
 have j:∀st pe,rec' st pe={ state:=st,pending:=pe,fn,tmps:=a.tmps,params:=ps,assign,body,defers:=w.heap.size }:=fun _ _=>rfl;generalize rec'=rc at j;obtain⟨B,hB⟩:=aH w.heap.size;obtain⟨W1,L⟩:=aG ((w.alloc (.deferred (some []))).alloc (.loop (rc .ready none)));have A4:W1.heap.size=B+2:=by rw[← L,hB];simp
 have B4:W1.heap[B+1]?=some (.loop (rc .ready none)):=by
  rw[← L,hB];have:=PE (w.alloc (.deferred (some []))) (.loop (rc .ready none));rwa [World.size_alloc]at this
 have B5:W1.heap[B]?=some (.deferred (some [])):=by
  rw[← L,hB];exact(Below.heap_alloc _ _ _ aD).trans (PE w _)
 have A2:Only (fun k=>w.heap.size≤k∧k<w.heap.size+2) w W1:=by rw[← L];exact((Only.refl _ _).alloc _).alloc _
 refine⟨B+1,[{ target:=.collected B,args:=#[] }],W1,{ target:=.fn (.func gf) lb,args:=#[.func (.yield (B+1)) #[] #[]] },W1,gf,#[.func (.yield (B+1)) #[] #[]] ++ lb,W1,?_,?_,?_,?_,fun _=>h1,?_⟩
 ·rw[← L,j,hB];exact run_enterLoop_outer _ _ _ _ _
 ·simp only[resolve,hg];simp[go_sem]
 ·intro f' B1;simp[Target.leads]at B1;subst B1;exact C2
 ·simp[invoke,go_sem,eg]
 have hz:w.heap.size=B:=hB.symm;rw[hz]at hI K B3 y T U V A2 hM;have X:∀{A A':World} {b:Nat} {o:Obj},Only (fun _=>False) A A'→b<B+2→A.heap[b]?=some o→A'.heap[b]?=some o:=fun h _ hc=>h.obj (fun e=>e) hc;refine(B2 (B+1)
  (fun k W=>I k W∧W.heap[B+1]?=some (.loop (rc .ready none))∧W.heap[B]?=some (.deferred (some [])))
  (fun k W=>∃c,Ix c k W∧W.heap[B+1]?=some (.loop (rc .done (some c)))∧W.heap[B]?=some (.deferred (some [])))
  W1 (A3.trans ((A2.below (n:=B) aA (fun k hk=>hk.1)).mono (by have:=A3.size;omega))) (by have:=A3.size;omega) aA ?_ ?_ ?_ ⟨hI _ _ _ h0 A2,B4,B5⟩).mono ?_
 ·rintro s A A' ⟨hi,O,Z⟩ ho;exact⟨hI _ _ _ hi (ho.wide (fun k hk=>hk.elim)),X ho aA O,X ho aA Z⟩
 ·rintro s A A' ⟨c,hi,O,Z⟩ ho;exact⟨c,K _ _ _ _ hi (ho.wide (fun k hk=>hk.elim)),X ho aA O,X ho aA Z⟩
 ·
  rintro k W ⟨hi,O,Z⟩ A1 B8;rw[A4]at B8;have C4:B+1<W.heap.size:=(Array.getElem?_eq_some_iff.1 O).1;have hy:=run_yield (P:=P) (args:=J k) O (by rw[j];exact C3 k);rw[j]at hy;refine⟨fn,_,assign,body,hy,roundIn_of_wpIn C0 (wpIn_mono (y (B+1) k W aA hi A1) ?_)⟩;intro e a₁ W₁ hp
  cases e with
  | normal=>
    obtain⟨A0,B9⟩:=hp;have A5:W₁.heap[B+1]?=some (.loop (rc .ready none)):=A0.obj (fun S=>by have:=hM _ S;omega) O;have B6:W₁.heap[B]?=some (.deferred (some [])):=A0.obj (fun S=>by have:=hM _ S;omega) Z;have A6:B+1<W₁.heap.size:=(Array.getElem?_eq_some_iff.1 A5).1;refine⟨_,run_beginRound A5 (by rw[j]),?_⟩;obtain⟨W₂,R⟩:=aG (W₁.putObj (B+1) (.loop { rc .ready none with state:=.busy }));have A7:∀{m:Nat→Prop},m (B+1)→Only m W₁ W₂:=fun a=>by rw[← R];exact Only.putObj _ _ _ a
    have A8:W₂.heap[B+1]?=some (.loop { rc .ready none with state:=.busy }):=by rw[← R];exact PD A6
    have A9:W₂.heap[B]?=some (.deferred (some [])):=by rw[← R];exact(PC aA).trans B6
    have C5:B+2≤W₂.heap.size:=by rw[← R];have:=A0.size;simp;omega
    rw[R];refine wpIn_mono (T (B+1) k a₁ W₂ aA (B3 _ _ _ _ B9 (A7 ⟨aA,aA⟩)) A1) ?_;have Y:∀(u:Option Code) (W3:World),Only (fun b=>M b∨nb≤b∧Typed W₂ t b) W₂ W3→∃W4,(Instr.endRound (B+1) u).run P W3=.ok (.bool u.isNone) W4∧Only (fun k=>B≤k∧k<B+2) W3 W4 ∧
      W4.heap[B+1]?=some (.loop (rc (if u.isNone then .ready else .done) u))∧W4.heap[B]?=some (.deferred (some []))∧Only (fun b=>M b∨b=B+1∨nb≤b∧Typed W t b) W W4:=fun u W3 r=>by
     have B0:=r.obj (fun S=>S.elim (fun S=>by have:=hM _ S;omega) (fun⟨_,_,hc⟩=>by rw[A8]at hc;cases hc)) A8;have B7:=r.obj (fun S=>S.elim (fun S=>by have:=hM _ S;omega) (fun⟨_,_,hc⟩=>by rw[A9]at hc;cases hc)) A9;have z:=run_endRound (P:=P) u B0;rw[j]at z;refine⟨_,z,Only.putObj _ _ _ ⟨aA,aA⟩,by rw[j];exact PD (Array.getElem?_eq_some_iff.1 B0).1,(PC aA).trans B7,?_⟩;exact Ve A0 (A7 rfl) r (Only.putObj _ _ _ rfl)
    rintro e a3 W3 hp
    cases e with
    | normal=>
      obtain⟨r,C⟩:=hp;obtain⟨W4,z,E,G,H,hO⟩:=Y none W3 r;exact⟨_,W4,z,.inl ⟨rfl,⟨hI _ _ _ C E,G,H⟩,hO⟩⟩
    | ret=>
      obtain⟨r,C⟩:=hp;obtain⟨W4,z,E,G,H,_⟩:=Y (some .ret) W3 r;exact⟨_,W4,z,.inr ⟨rfl,.ret,K _ _ _ _ C E,G,H⟩⟩
    | exit id=>
      obtain⟨r,C⟩:=hp;obtain⟨W4,z,E,G,H,_⟩:=Y (some (.exit id)) W3 r;exact⟨_,W4,z,.inr ⟨rfl,.exit id,K _ _ _ _ C E,G,H⟩⟩
    | goto q=>
      obtain⟨r,C⟩:=hp;obtain⟨W4,z,E,G,H,_⟩:=Y (some (.goto q)) W3 r;exact⟨_,W4,z,.inr ⟨rfl,.goto q,K _ _ _ _ C E,G,H⟩⟩
    | panic ch=>exact hp.elim
    | outgrown=>exact hp.elim
  | _=>exact hp.elim

 rintro e W2 ⟨⟨v,rfl⟩,(⟨hi,O,Z⟩ | ⟨k,hk,c,hi,O,Z⟩)⟩
 ·have z:=run_endLoop (P:=P) O (by rw[j];simp);rw[j]at z;exact⟨none,_,z,U B _ (Nat.le_refl _) (hI _ _ _ hi (Only.putObj _ _ _ ⟨aA,aA⟩)) ((PC aA).trans Z)⟩
 have z:=run_endLoop (P:=P) O (by rw[j];simp);rw[j]at z;exact⟨some c,_,z,V B c k _ (Nat.le_refl _) hk (K _ _ _ _ hi (Only.putObj _ _ _ ⟨aA,aA⟩)) ((PC aA).trans Z)⟩
end
end Go.Proofs.YtbkkolfpegplgaaGreatDoor
