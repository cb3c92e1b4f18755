/- A law for 'for .. := range seq' over an iterator that makes and writes no block of its own: the body may write the caller's blocks M, and any that are made within the loop. No program in sight. A law for 'for .. := range seq' over an iterator that writes blocks T that were there when it was made (its captured variables): the body may write the caller's blocks M, and any that are made within the loop. No program in sight. -/
import Derived.Test.YtbkkolfpegplgaaGreatDoorSG1
import Derived.RangeFuncNested
import Derived.RangeFuncLeaves
import Derived.RangeFuncCalls
import Derived.Deep.Draws
namespace Go.Proofs.YtbkkolfpegplgaaGreatDoor
open Go Go.RowKit
variable {may:Nat→Prop} {A B C:World}
theorem Only.putObj (W:World) (r:Nat) (o:Obj) (h:may r):Only may W (W.putObj r o):=
 ⟨rfl,rfl,rfl,by simp,fun _ _ hl=>World.putObj_heap_other (by rintro rfl;exact hl h)⟩
section
variable {F:Fence} {n:Nat} {P:Program}
/-- The contract of an iterator that makes and writes no block; a round that goes on may have written the blocks M. -/
def SeqFree (F:Fence) (n:Nat) (P:Program) (g:Nat) (lb:Array Value) (encs:Nat→Array Value) (M:Nat→Prop) (N:Nat) (w:World):Prop:=
 ∀(l:Nat) (J Jx:Nat→World→Prop) (W:World),Below w.heap.size w W→w.heap.size≤l→l<W.heap.size →
  (∀s A B,J s A→Only (fun _=>False) A B→J s B)→(∀s A B,Jx s A→Only (fun _=>False) A B→Jx s B) →
  (∀k W1,J k W1→k<N→W.heap.size≤W1.heap.size→YieldAt F (n-1) P l (encs k) W1 fun e W'=>
    (e=.returned (.bool true)∧J (k+1) W'∧Only (fun b=>M b∨b=l) W1 W')∨(e=.returned (.bool false)∧Jx (k+1) W')) →
  J 0 W →
  CallsIn F n P g (#[.func (.yield l) #[] #[]] ++ lb) W fun e W'=>(∃v,e=.returned v)∧(J N W'∨∃k,k<N∧Jx (k+1) W')
/-- How the body of a round may be left. -/
def freePost (M:Nat→Prop) (I:Nat→World→Prop) (Ix:Code→Nat→World→Prop) (xs:Nat) (W:World):Exit→Act→World→Prop
 | .normal,_,W'=>Only M W W'∧I xs W'
 | .ret,_,W'=>Only M W W'∧Ix .ret xs W'
 | .exit id,_,W'=>Only M W W'∧Ix (.exit id) xs W'
 | .goto t,_,W'=>Only M W W'∧Ix (.goto t) xs W'
 | .panic _,_,_=>False
 | .outgrown,_,_=>False
end
section
variable {F:Fence} {n:Nat} {P:Program}
/-- The contract of an iterator that writes the blocks T alone; a round that goes on may have written the blocks M. -/
def SeqOwn (F:Fence) (n:Nat) (P:Program) (g:Nat) (lb:Array Value) (encs:Nat→Array Value) (M T:Nat→Prop) (N:Nat) (w:World):Prop:=
 ∀(l:Nat) (J Jx:Nat→World→Prop) (W:World),Below w.heap.size w W→w.heap.size≤l→l<W.heap.size →
  (∀s A B,J s A→Only T A B→J s B)→(∀s A B,Jx s A→Only T A B→Jx s B) →
  (∀k W1,J k W1→k<N→W.heap.size≤W1.heap.size→YieldAt F (n-1) P l (encs k) W1 fun e W'=>
    (e=.returned (.bool true)∧J (k+1) W'∧Only (fun b=>M b∨b=l) W1 W')∨(e=.returned (.bool false)∧Jx (k+1) W')) →
  J 0 W →
  CallsIn F n P g (#[.func (.yield l) #[] #[]] ++ lb) W fun e W'=>(∃v,e=.returned v)∧(J N W'∨∃k,k<N∧Jx (k+1) W')
theorem wpIn_rangeFunc_ownT {g:Operand} {ps:Array Tmp} {assign body:Code} {Q:Exit→Act→World→Prop} {a:Act} {w:World}
  (hro:F.round=none) (h1:1≤n) {gf:Nat} {lb:Array Value} (hg:a.eval g=.func (.func gf) #[] lb) (hFg:F.fn gf) (eg:∀args w,(callFunc gf args).run P w=.ok (.enter gf args) w)
  {encs:Nat→Array Value} {M T:Nat→Prop} {N:Nat} {w0:World} (hseq:SeqOwn F (n-1) P gf lb encs M T N w0) (hb0:Below w0.heap.size w0 w) (hps:∀x,(encs x).size=ps.size) (hM:∀k,M k→k<w.heap.size∨w.heap.size+2≤k) (hT:∀k,T k→k<w.heap.size)
  (I:Nat→World→Prop) (Ix:Code→Nat→World→Prop) (hI:∀s A B,I s A→Only (fun k=>T k∨w.heap.size≤k∧k<w.heap.size+2) A B→I s B) (hIx:∀c s A B,Ix c s A→Only (fun k=>T k∨w.heap.size≤k∧k<w.heap.size+2) A B→Ix c s B) (h0:I 0 w)
  (Ax:Nat→Act→World→Prop) (hAx:∀k a₁ A B,Ax k a₁ A→Only (fun k=>T k∨w.heap.size≤k∧k<w.heap.size+2) A B→Ax k a₁ B)
  (hassign:∀(l:Nat) (k:Nat) (W:World),w.heap.size+2≤W.heap.size→I k W→k<N →
    assign.wpIn (F.inRound l) (n-1-1) P (Exit.then (fun a₁ W₁=>Only M W W₁∧Ax k a₁ W₁) (fun _ _ _=>False)) { tmps:=(ps.zip (encs k)).foldl (fun t (p,v)=>t.setIfInBounds p v) a.tmps,defers:=[] } W)
  (hbody:∀(l:Nat) (k:Nat) (a₁:Act) (W:World),w.heap.size+2≤W.heap.size→Ax k a₁ W→k<N→body.wpIn (F.inRound l) (n-1-1) P (freePost M I Ix (k+1) W) a₁ W)
  (hdone:∀(D:Nat) (W:World),w.heap.size≤D→I N W→W.heap[D]?=some (.deferred (some []))→Q .normal { a with defers:={ target:=.collected D,args:=#[] } :: a.defers } W)
  (hstop:∀(D:Nat) (c:Code) (k:Nat) (W:World),w.heap.size≤D→k<N→Ix c (k+1) W→W.heap[D]?=some (.deferred (some []))→c.wpIn F n P Q { a with defers:={ target:=.collected D,args:=#[] } :: a.defers } W) :
  (Code.rangeFunc g ps assign body).wpIn F n P Q a w:=by
 refine wpIn_rangeFunc ?_
 intro fn hfn
 rw [hro]

 let rec':LoopState→Option Code→Loop:=fun st pe=>{ state:=st,pending:=pe,fn,tmps:=a.tmps,params:=ps,assign,body,defers:=w.heap.size }
 have hrec:∀st pe,rec' st pe={ state:=st,pending:=pe,fn,tmps:=a.tmps,params:=ps,assign,body,defers:=w.heap.size }:=fun _ _=>rfl
 generalize rec'=rc at hrec
 obtain ⟨B,hB⟩:∃B,B=w.heap.size:=⟨_,rfl⟩
 obtain ⟨W1,hW1⟩:∃W1,(w.alloc (.deferred (some []))).alloc (.loop (rc .ready none))=W1:=⟨_,rfl⟩
 have hsz1:W1.heap.size=B+2:=by rw [← hW1,hB];simp
 have hL1:W1.heap[B+1]?=some (.loop (rc .ready none)):=by
  rw [← hW1,hB];have:=World.alloc_heap_new (w.alloc (.deferred (some []))) (.loop (rc .ready none));rwa [World.size_alloc] at this
 have hD1:W1.heap[B]?=some (.deferred (some [])):=by
  rw [← hW1,hB];exact (Below.heap_alloc _ _ _ (by simp)).trans (World.alloc_heap_new w _)
 have hO1:Only (fun k=>T k∨w.heap.size≤k∧k<w.heap.size+2) w W1:=by rw [← hW1];exact ((Only.refl _ _).alloc _).alloc _
 have hO1b:Only (fun k=>B≤k∧k<B+2) w W1:=by rw [← hW1];exact ((Only.refl _ _).alloc _).alloc _
 refine ⟨B+1,[{ target:=.collected B,args:=#[] }],W1,{ target:=.fn (.func gf) lb,args:=#[.func (.yield (B+1)) #[] #[]] },W1,gf,#[.func (.yield (B+1)) #[] #[]] ++ lb,W1,?_,?_,?_,?_,fun _=>h1,?_⟩
 ·rw [← hW1,hrec,hB];exact run_enterLoop_outer _ _ _ _ _
 ·simp only [resolve,hg]
  simp [go_sem]
 ·intro f' hf';simp [Target.leads] at hf';subst hf';exact hFg
 ·simp [invoke,go_sem,eg]
 ·have hz:w.heap.size=B:=hB.symm
  rw [hz] at hI hIx hAx hassign hbody hdone hstop hO1 hM hT

  have obj:∀{A A':World} {b:Nat} {o:Obj},Only T A A'→B≤b→A.heap[b]?=some o→A'.heap[b]?=some o:=fun h hb hc=>h.obj (fun e=>by have:=hT _ e;omega) hc
  refine (hseq (B+1)
   (fun k W=>I k W∧W.heap[B+1]?=some (.loop (rc .ready none))∧W.heap[B]?=some (.deferred (some [])))
   (fun k W=>∃c,Ix c k W∧W.heap[B+1]?=some (.loop (rc .done (some c)))∧W.heap[B]?=some (.deferred (some [])))
   W1 (hb0.trans ((hO1b.below (n:=B) (by omega) (fun k hk=>hk.1)).mono (by have:=hb0.size;omega))) (by have:=hb0.size;omega) (by omega) ?_ ?_ ?_ ⟨hI _ _ _ h0 hO1,hL1,hD1⟩).mono ?_
  ·rintro s A A' ⟨hi,hl,hd⟩ ho
   exact ⟨hI _ _ _ hi (ho.wide (fun k hk=>.inl hk)),obj ho (by omega) hl,obj ho (by omega) hd⟩
  ·rintro s A A' ⟨c,hi,hl,hd⟩ ho
   exact ⟨c,hIx _ _ _ _ hi (ho.wide (fun k hk=>.inl hk)),obj ho (by omega) hl,obj ho (by omega) hd⟩
  ·
   rintro k W ⟨hi,hl,hd⟩ hlen hN0
   rw [hsz1] at hN0
   have hltW:B+1<W.heap.size:=(Array.getElem?_eq_some_iff.1 hl).1
   have hy:=run_yield (P:=P) (args:=encs k) hl (by rw [hrec];exact hps k)
   rw [hrec] at hy
   refine ⟨fn,_,assign,body,hy,roundIn_of_wpIn hfn (wpIn_mono (hassign (B+1) k W (by omega) hi hlen) ?_)⟩
   intro e a₁ W₁ hp
   cases e with
   | normal=>
     obtain ⟨ho1,hA1⟩:=hp
     have hl1:W₁.heap[B+1]?=some (.loop (rc .ready none)):=ho1.obj (fun hm=>by have:=hM _ hm;omega) hl
     have hd1:W₁.heap[B]?=some (.deferred (some [])):=ho1.obj (fun hm=>by have:=hM _ hm;omega) hd
     have hlt1:B+1<W₁.heap.size:=(Array.getElem?_eq_some_iff.1 hl1).1
     refine ⟨_,run_beginRound hl1 (by rw [hrec]),?_⟩
     obtain ⟨W₂,hW₂⟩:∃W₂,W₁.putObj (B+1) (.loop { rc .ready none with state:=.busy })=W₂:=⟨_,rfl⟩
     have hO2:∀{m:Nat→Prop},m (B+1)→Only m W₁ W₂:=fun a=>by rw [← hW₂];exact Only.putObj _ _ _ a
     have hl2:W₂.heap[B+1]?=some (.loop { rc .ready none with state:=.busy }):=by rw [← hW₂];exact World.putObj_heap_same hlt1
     have hd2:W₂.heap[B]?=some (.deferred (some [])):=by rw [← hW₂];exact (World.putObj_heap_other (by omega)).trans hd1
     have hs2:B+2≤W₂.heap.size:=by rw [← hW₂];have:=ho1.size;simp;omega
     rw [hW₂]
     refine wpIn_mono (hbody (B+1) k a₁ W₂ (by omega) (hAx _ _ _ _ hA1 (hO2 (.inr ⟨by omega,by omega⟩))) hlen) ?_
     have fin:∀(jump:Option Code) (W3:World),Only M W₂ W3→∃W4,(Instr.endRound (B+1) jump).run P W3=.ok (.bool jump.isNone) W4∧Only (fun k=>T k∨B≤k∧k<B+2) W3 W4 ∧
       W4.heap[B+1]?=some (.loop (rc (if jump.isNone then .ready else .done) jump))∧W4.heap[B]?=some (.deferred (some []))∧Only (fun b=>M b∨b=B+1) W W4:=fun jump W3 ho3=>by
      have hl3:=ho3.obj (fun hm=>by have:=hM _ hm;omega) hl2
      have hd3:=ho3.obj (fun hm=>by have:=hM _ hm;omega) hd2
      have hr:=run_endRound (P:=P) jump hl3
      rw [hrec] at hr
      refine ⟨_,hr,Only.putObj _ _ _ (.inr ⟨by omega,by omega⟩),by rw [hrec];exact World.putObj_heap_same (Array.getElem?_eq_some_iff.1 hl3).1,(World.putObj_heap_other (by omega)).trans hd3,?_⟩
      exact (((ho1.wide (fun k hk=>.inl hk)).trans (hO2 (.inr rfl))).trans (ho3.wide (fun k hk=>.inl hk))).trans (Only.putObj _ _ _ (.inr rfl))
     rintro e a3 W3 hp
     cases e with
     | normal=>
       obtain ⟨ho3,hi3⟩:=hp
       obtain ⟨W4,hr,hO4,hl4,hd4,hO⟩:=fin none W3 ho3
       exact ⟨_,W4,hr,.inl ⟨rfl,⟨hI _ _ _ hi3 hO4,hl4,hd4⟩,hO⟩⟩
     | ret=>
       obtain ⟨ho3,hi3⟩:=hp
       obtain ⟨W4,hr,hO4,hl4,hd4,_⟩:=fin (some .ret) W3 ho3
       exact ⟨_,W4,hr,.inr ⟨rfl,.ret,hIx _ _ _ _ hi3 hO4,hl4,hd4⟩⟩
     | exit id=>
       obtain ⟨ho3,hi3⟩:=hp
       obtain ⟨W4,hr,hO4,hl4,hd4,_⟩:=fin (some (.exit id)) W3 ho3
       exact ⟨_,W4,hr,.inr ⟨rfl,.exit id,hIx _ _ _ _ hi3 hO4,hl4,hd4⟩⟩
     | goto t=>
       obtain ⟨ho3,hi3⟩:=hp
       obtain ⟨W4,hr,hO4,hl4,hd4,_⟩:=fin (some (.goto t)) W3 ho3
       exact ⟨_,W4,hr,.inr ⟨rfl,.goto t,hIx _ _ _ _ hi3 hO4,hl4,hd4⟩⟩
     | panic ch=>exact hp.elim
     | outgrown=>exact hp.elim
   | _=>exact hp.elim
  ·
   rintro e W2 ⟨⟨v,rfl⟩,(⟨hi,hl,hd⟩ | ⟨k,hk,c,hi,hl,hd⟩)⟩
   ·have hr:=run_endLoop (P:=P) hl (by rw [hrec];simp)
    rw [hrec] at hr
    exact ⟨none,_,hr,hdone B _ (Nat.le_refl _) (hI _ _ _ hi (Only.putObj _ _ _ (.inr ⟨by omega,by omega⟩))) ((World.putObj_heap_other (by omega)).trans hd)⟩
   ·have hr:=run_endLoop (P:=P) hl (by rw [hrec];simp)
    rw [hrec] at hr
    exact ⟨some c,_,hr,hstop B c k _ (Nat.le_refl _) hk (hIx _ _ _ _ hi (Only.putObj _ _ _ (.inr ⟨by omega,by omega⟩))) ((World.putObj_heap_other (by omega)).trans hd)⟩
end
end Go.Proofs.YtbkkolfpegplgaaGreatDoor
