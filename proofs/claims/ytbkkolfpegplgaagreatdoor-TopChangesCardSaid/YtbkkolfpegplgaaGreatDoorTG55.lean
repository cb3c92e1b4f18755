import Derived.Test.YtbkkolfpegplgaaGreatDoorTG53
open And renaming intro→PC
open Bool renaming and_eq_true→PD,false_eq_true→PE
open Exists renaming intro→PF
open Go.AllReadyH renaming cons→PG,nil→PH
open Go.Oper renaming wp→PI
open Go.Region renaming ready→PJ,Mode→PM,wanted→PN,noSelect→PO,free→PQ
open Go.RowKit.Below renaming refl→PS
open Go.World renaming cell?→PT,ownsRow_nil→PU,frozen?→PV
open List renaming getElem?_eq_getElem→PX,map_cons→PY,setIfInBounds_toArray→PZ,set_cons_succ→QA,set_cons_zero→QB,drop_of_length_le→QC,getElem_mem→QE,mem_singleton→QF,append_assoc→QG,map_toArray→QH,getD→QI,take_of_length_le→QJ,mem_cons→QK,take_succ_eq_append_getElem→QM,map_nil→QN,length_set→QP,length_map→QR,mem_or_eq_of_mem_set→QT,mem_append_left→QU,mem_map_of_mem→QV,length_append→QW,filter_append→QY,map_append→QZ,append_nil→RA,take_set→RB
open Nat renaming zero_le→RF,le_refl→RH,le_trans→RI,lt_of_lt_of_le→RJ,lt_or_ge→RK
open Go.Proofs.Tryz
set_option maxHeartbeats 25600000
set_option maxRecDepth 100000
set_option linter.unusedVariables false
set_option linter.unusedSimpArgs false
namespace Go.Proofs.YtbkkolfpegplgaaGreatDoor
open Go Go.RowKit
theorem Tu{P:Program}{b:Array Oper}{Q:Exit→Act→World→Prop}{m:PM}{S:World→Prop}{fuel:Nat}{l:Array Bool}{a:Act}{w:World}{i:Nat}{o:Oper}(s:PJ m b l=[i])(ho:b[i]?=some o)(u:o.guard=none)(h:∀K,(∀j w',S w'→wpAnyH P m b Q S fuel (l.setIfInBounds i true) j w'→K j w')→PI P o a w K Q):wpAnyH P m b Q S (fuel+1) l a w:=
 wpAnyH_ready s aD (PG ho (fun K n=>by
  rw[if_pos (by unfold PN;rw[u])];exact h K (fun j w' p r=>n j w' p (fun _=>r))) PH)
theorem Yp{P:Program}{b:Array Oper}{Q:Exit→Act→World→Prop}{n:PM}{S:World→Prop}{fuel:Nat}{l:Array Bool}{a:Act}{w:World}{i j:Nat}{o q:Oper}(u:PJ n b l=[i,j])(ho:b[i]?=some o)(y:o.guard=none)(h:∀K,(∀m w',S w'→wpAnyH P n b Q S fuel (l.setIfInBounds i true) m w'→K m w')→PI P o a w K Q)(z:b[j]?=some q)(A:q.guard=none)(h2:∀K,(∀m w',S w'→wpAnyH P n b Q S fuel (l.setIfInBounds j true) m w'→K m w')→PI P q a w K Q):wpAnyH P n b Q S (fuel+1) l a w:=
 wpAnyH_ready u aD (PG ho (fun K p=>by
  rw[if_pos (by unfold PN;rw[y])];exact h K (fun m w' r s=>p m w' r (fun _=>s))) (PG z (fun K p=>by
  rw[if_pos (by unfold PN;rw[A])];exact h2 K (fun m w' r s=>p m w' r (fun _=>s))) PH))
theorem Nu{P:Program}{o:Oper}{a:Act}{w w':World}{K:Act→World→Prop}{Q:Exit→Act→World→Prop}{d:Nat}{v:Value}(b:o.dst=some d)(j:(execOp a.eval o).run P w=.ok (.value v) w')(h:K (a.put (some d) v) w'):PI P o a w K Q:=by
 unfold PI;rw[j,Oper.upon_value,b];exact h
theorem wB{P:Program}{o:Oper}{a:Act}{w:World}{K:Act→World→Prop}{Q:Exit→Act→World→Prop}{f:FuncId}{d:Nat}{xs:Array Operand}{l:Array TypeId}{vs:Array Value}{R:Value→World→Prop}(ho:o.op=.call { callee:=.value (.func f),args:=xs,argTypes:=l })(m:o.dst=some d)(n:∀args W,(callFunc f args).run P W=.ok (.enter f args) W)(hv:xs.map a.eval=vs)
  (p:Calls P f vs w fun e w'=>(∃v,e=.returned v∧R v w')∧Below w.heap.size w w') (h:∀v w',R v w'→Below w.heap.size w w'→K (a.put (some d) v) w'):PI P o a w K Q:=by
 subst hv;unfold PI execOp;simp only[ho,resolve,invoke,Act.eval,Deferred.ofValue,n,Array.append_empty,Array.empty_append,Sem.run_bind,Sem.run_pure,Result.andThen_ok];rw[Oper.upon_enter];refine p.mono ?_;rintro e w' ⟨⟨v,rfl,b⟩,j⟩;simp only[m];exact h v w' b j
def xK (a:Act):List (Nat×Nat×Bool)→List Value→Act
 | p :: ps,v :: vs=>xK (a.put (some p.2.1) v) ps vs
 | _,_=>a
def xW (l:Array Bool):List (Nat×Nat×Bool)→Array Bool
 | []=>l
 | p :: r=>xW (l.setIfInBounds p.1 true) r
theorem mH{p:Nat×Nat×Bool}{v:Value}:∀{ps:List (Nat×Nat×Bool)} {vs:List Value} {a:Act},vs.length=ps.length→xK a (ps ++ [p]) (vs ++ [v])=(xK a ps vs).put (some p.2.1) v
 | [],[],_,_=>rfl
 | q :: ps,u :: vs,a,h=>mH (ps:=ps) (vs:=vs) (a:=a.put (some q.2.1) u) (by simpa using h)
theorem Am{z:Nat}:∀{r:List (Nat×Nat×Bool)} {l:Array Bool},z ∉ r.map (·.1)→xW (l.setIfInBounds z true) r=(xW l r).setIfInBounds z true
 | [],_,_=>rfl
 | p :: r,l,h=>by
   simp only[PY,QK,not_or]at h;show xW ((l.setIfInBounds z true).setIfInBounds p.1 true) r=_;rw[Array.setIfInBounds_comm _ _ h.1];exact Am h.2
def GY (md:PM) (ops:Array Oper):Array Bool→List (Nat×Nat×Bool)→Bool
 | _,[]=>true
 | l,p :: r=>(if p.2.2 then PO ops && PQ md ops l p.1 && (PJ md ops l).contains p.1 else PJ md ops l == [p.1]) && GY md ops (l.setIfInBounds p.1 true) r
def GM (md:PM) (ops:Array Oper) (z:Nat):Array Bool→List (Nat×Nat×Bool)→Bool
 | l,[]=>PJ md ops l == [z]
 | l,p :: r=>(if p.2.2 then PO ops && PQ md ops l p.1 && (PJ md ops l).contains p.1 else(PJ md ops l == [p.1,z]) && GY md ops (l.setIfInBounds z true) (p :: r)) && GM md ops z (l.setIfInBounds p.1 true) r
inductive vD (ops:Array Oper) (Q:Exit→Act→World→Prop) (B:World) (a:Act) (dZ:Nat):List (Nat×Nat×Bool)→(List Value→World→Prop)→List (Nat×Nat×Bool)→(List Value→World→Prop)→Prop
 | nil {done:List (Nat×Nat×Bool)} {F:List Value→World→Prop} (hm:∀vs W W',F vs W→Below W.heap.size W W'→F vs W'):vD ops Q B a dZ done F [] F
 | cons {done rest:List (Nat×Nat×Bool)} {F F' G:List Value→World→Prop} {i d:Nat} {o:Oper} (hm:∀vs W W',F vs W→Below W.heap.size W W'→F vs W') (hs:∀vs W a' K,F vs W→Below B.heap.size B W→(∀x,x≠dZ→a'.eval (.tmp x)=(xK a done vs).eval (.tmp x))→(∀v W',F' (vs ++ [v]) W'→Below W.heap.size W W'→K (a'.put (some d) v) W')→PI prog o a' W K Q)
   (h:vD ops Q B a dZ (done ++ [(i,d,false)]) F' rest G) (ho:ops[i]?=some o:=by rfl) (hg:o.guard=none:=by rfl) (hd:d≠dZ:=by decide):vD ops Q B a dZ done F ((i,d,false) :: rest) G
 | take {done rest:List (Nat×Nat×Bool)} {F F' G:List Value→World→Prop} {i d:Nat} {o:Oper} (hm:∀vs W W',F vs W→Below W.heap.size W W'→F vs W') (hs:∀vs W (a':Act),F vs W→(∀x,x≠dZ→a'.eval (.tmp x)=(xK a done vs).eval (.tmp x))→∃v,F' (vs ++ [v]) W∧∀X,(execOp a'.eval o).run prog X=.ok (.value v) X)
   (h:vD ops Q B a dZ (done ++ [(i,d,true)]) F' rest G) (ho:ops[i]?=some o:=by rfl) (hg:o.guard=none:=by rfl) (hd:d≠dZ:=by decide) (he:o.dst=some d:=by rfl) (hQ:∀c a v w,Q (.panic c) (a.put (some d) v) w→Q (.panic c) a w:=by exact fun _ _ _ _ h=>h):vD ops Q B a dZ done F ((i,d,true) :: rest) G
theorem CS{m:Array Oper}{Q:Exit→Act→World→Prop}{H:PM}{fuel:Nat}{B:World}{a:Act}{I Z:Nat}{z:Obj}{L:Array Bool}{all b rest:List (Nat×Nat×Bool)}{F G:List Value→World→Prop}(s:vD m Q B a I b F rest G)
  (h:∀vs W,G vs W→vs.length=all.length→Below B.heap.size B W→W.heap[Z]?=some z→wpAnyH prog H m Q (Below B.heap.size B) fuel L ((xK a all vs).put (some I) (.pointer (some ⟨Z,0,none⟩))) W) :
  ∀{l:Array Bool} {vs:List Value} {W:World},F vs W→vs.length=b.length→b ++ rest=all→Below B.heap.size B W→W.heap[Z]?=some z→GY H m l rest=true→xW l rest=L→wpAnyH prog H m Q (Below B.heap.size B) (fuel+rest.length) l ((xK a b vs).put (some I) (.pointer (some ⟨Z,0,none⟩))) W:=by
 induction s with
 | nil _=>
   intro l vs W C r u n y _ D;subst D;rw[RA]at u;subst u;exact h vs W C r n y
 | @cons b rest F F' G i d o hm hs s ho hg hd ih=>
   intro l vs W C r u n y j D;simp only[GY,PD,beq_iff_eq,PE,if_false]at j;refine Tu j.1 ho hg (fun K M=>hs vs W _ K C n (fun x E=>kJ (Ne.symm E)) (fun v N p J=>?_));have A:=n.trans (J.mono n.size);refine M _ _ A ?_;rw[Fw (Ne.symm hd)];have:=ih h (l:=l.setIfInBounds i true) (vs:=vs ++ [v]) (W:=N) p (by simp[r]) (by rw[QG];exact u) A ((J.block _ (aO y)).trans y) j.2 D;rw[mH r]at this;exact this
 | @take b rest F F' G i d o hm hs s ho hg hd he hQ ih=>
   intro l vs W C r u n y j D;simp only[GY,PD,if_true]at j;obtain⟨v,p,hv⟩:=hs vs W _ C (fun x E=>kJ (Ne.symm E));refine cB ho he j.1.1.1 j.1.1.2 j.1.2 (fun c a w=>hQ c a v w) (Or.inl ⟨by unfold PN;rw[hg],fun X _=>hv X⟩) n ?_;rw[Fw (Ne.symm hd)];have:=ih h (l:=l.setIfInBounds i true) (vs:=vs ++ [v]) (W:=W) p (by simp[r]) (by rw[QG];exact u) n y j.2 D;rw[mH r]at this;exact this
theorem CT{p:Array Oper}{Q:Exit→Act→World→Prop}{Y:PM}{fuel:Nat}{B:World}{a:Act}{dZ O:Nat}{z:Obj}{P:Oper}{L:Array Bool}{all j rest:List (Nat×Nat×Bool)}{F G:List Value→World→Prop}(r:vD p Q B a dZ j F rest G)
  (h:∀vs W Z,G vs W→vs.length=all.length→Below B.heap.size B W→W.heap[Z]?=some z→B.heap.size≤Z→wpAnyH prog Y p Q (Below B.heap.size B) fuel L ((xK a all vs).put (some dZ) (.pointer (some ⟨Z,0,none⟩))) W)
  (I:p[O]?=some P) (J:P.guard=none) (M:P.dst=some dZ) (N:∀ev W,(execOp ev P).run prog W=.ok (.value (.pointer (some ⟨W.heap.size,0,none⟩))) (W.alloc z)) :
  ∀{l:Array Bool} {vs:List Value} {W:World},F vs W→vs.length=j.length→j ++ rest=all→Below B.heap.size B W→GM Y p O l rest=true→O ∉ rest.map (·.1)→(xW l rest).setIfInBounds O true=L→wpAnyH prog Y p Q (Below B.heap.size B) (fuel+rest.length+1) l (xK a j vs) W:=by
 induction r with
 | @nil j F hm=>
   intro l vs W A s y m b _ C;subst C;rw[RA]at y;subst y;simp only[GM,beq_iff_eq]at b;have D:Below W.heap.size W (W.alloc z):=aJ (PS _ _) _;have n:=m.trans (D.mono m.size);exact Tu b I J (fun K H=>Nu M (N _ _) (H _ _ n (h vs _ _ (hm _ _ _ A D) s n (aK _ _ rfl) m.size)))
 | @cons j rest F F' G i d o hm hs r ho hg hd ih=>
   intro l vs W A s y m b hi C;simp only[GM,PD,beq_iff_eq,PE,if_false]at b;simp only[PY,QK,not_or]at hi;obtain⟨⟨h1,h2⟩,h3⟩:=b;have D:Below W.heap.size W (W.alloc z):=aJ (PS _ _) _;have n:=m.trans (D.mono m.size);refine Yp h1 ho hg (fun K H=>hs vs W _ K A m (fun x _=>rfl) (fun v R u S=>?_)) I J (fun K H=>Nu M (N _ _) (H _ _ n ?_))
   ·have E:=m.trans (S.mono m.size);refine H _ _ E ?_;have:=ih h (l:=l.setIfInBounds i true) (vs:=vs ++ [v]) (W:=R) u (by simp[s]) (by rw[QG];exact y) E h3 hi.2 C;rw[mH s]at this;exact this
   exact CS (.cons hm hs r ho hg hd) (fun T R hG U V hZ=>h T R _ hG U V hZ m.size) (hm _ _ _ A D) s y n (aK _ _ rfl) h2 (by
    rw[Am (by simp only[PY,QK,not_or];exact hi)];exact C)
 | @take j rest F F' G i d o hm hs r ho hg hd he hQ ih=>
   intro l vs W A s y m b hi C;simp only[GM,PD,if_true]at b;simp only[PY,QK,not_or]at hi;obtain⟨v,u,hv⟩:=hs vs W _ A (fun x _=>rfl);refine cB ho he b.1.1.1 b.1.1.2 b.1.2 (fun c a w=>hQ c a v w) (Or.inl ⟨by unfold PN;rw[hg],fun X _=>hv X⟩) m ?_;have:=ih h (l:=l.setIfInBounds i true) (vs:=vs ++ [v]) (W:=W) u (by simp[s]) (by rw[QG];exact y) m b.2 hi.2 C;rw[mH s]at this;exact this
theorem CU{b:Array Oper}{Q:Exit→Act→World→Prop}{m:PM}{B:World}{a:Act}{W:World}{oZ:Oper}{l:Array Bool}(fuel j dZ:Nat)(z:Obj)(all:List (Nat×Nat×Bool))(G:List Value→World→Prop)(n:vD b Q B a dZ [] (fun vs _=>vs=[]) all G)
  (h:∀vs W Z,G vs W→Below B.heap.size B W→W.heap[Z]?=some z→B.heap.size≤Z→wpAnyH prog m b Q (Below B.heap.size B) fuel ((xW l all).setIfInBounds j true) ((xK a all vs).put (some dZ) (.pointer (some ⟨Z,0,none⟩))) W)
  (C:Below B.heap.size B W) (p:b[j]?=some oZ:=by rfl) (r:oZ.guard=none:=by rfl) (s:oZ.dst=some dZ:=by rfl) (u:∀A W,(execOp A oZ).run prog W=.ok (.value (.pointer (some ⟨W.heap.size,0,none⟩))) (W.alloc z):=by intro A W;go_simp)
  (y:GM m b j l all=true:=by kernel_rfl) (hi:j ∉ all.map (·.1):=by decide):wpAnyH prog m b Q (Below B.heap.size B) (fuel+all.length+1) l a W:=
 CT (vs:=[]) n (fun vs W Z h1 _ h2 h3 h4=>h vs W Z h1 h2 h3 h4) p r s u rfl rfl rfl C y hi rfl
theorem wY(base:Nat)(v:Value)(xs:List Int)(x:Int)(w:World)(h:OwnI w base v xs)(B:base≤w.heap.size)(hs:xs.Pairwise (·<·))(hx:aL x)(hn:xs.length≤1000000) :
  Calls prog 222 #[v,.int .u64 x] w fun e w'=>∃G b,e=.returned G∧OwnI w' base G b∧b.Pairwise (·<·)∧(∀y,y∈b↔y=x∨y∈xs)∧b.length≤xs.length+1∧Below w.heap.size w w':=by
 have N:prog.follows .mixedOrders=true:=aC;obtain⟨n,en⟩:=aG xs.length;obtain⟨a,cp,e0,hI,K⟩:=h.ints aA;rw[en]at e0 hI K hn ⊢;subst e0;have H:=aI h;have O:=aI (show w.ownsRow base 57 1 (.slice a n cp) n (xs.map (Value.int .u64))from by have:=h.row;rw[en]at this;exact this);have P:=aI hs;have HX:=aI hx;have HW:=aI h.words;have C:=aI en;have HI:=aI hI;have Q:=aI K;clear h hs hx en hI K;go_enter func222,ntmps222;go_wp2;go_loopw [5] (fun c wr=>∃k:Nat,k≤n∧c=.int .i64 k∧(∀i,i<k→xs.getD i 0<x)∧Below w.heap.size w wr) (fun c _=>n-(intOf c).toNat)
 case atStart=>exact⟨0,RF _,rfl,fun i hi=>absurd hi aA,PS _ _⟩
 obtain⟨k,hk,rfl,T,D⟩:=hrel;have R:=aI T;have F:=aI D;clear T;have i0:(0:Int)≤(k:Int):=aA;by_cases hlt:k<n;have i1:(k:Int)<(n:Int):=aA;obtain⟨g,off,rfl,A2,c0⟩:=(HI.below D).cells k hlt;have YE:=aI (show xs.getD k 0=xs.getD k 0 from rfl);obtain⟨y,ey⟩:=aG (xs.getD k 0);have Y:=aI ey;rw[ey]at c0;clear ey YE;by_cases hyx:y<x
 ·have d1:decide (y<x)=true:=decide_eq_true hyx;have L2:=aI (show ∀i,i<k+1→xs.getD i 0<x from fun i hi=>by
   rcases RK i k with q | q
   ·exact R i q
   obtain rfl:i=k:=aA;rw[Y.out];exact hyx)
  clear D;go_wp2;go_roundw
  case rel=>exact⟨k+1,aA,by go_num,L2,F⟩
  simp[intOf];omega
 have d1:decide (y<x)=false:=decide_eq_false hyx;by_cases hye:y=x
 ·have d2:decide (y=x)=true:=decide_eq_true hye;have d3:(y == x)=true:=by simp[hye]
  have A0:=aI (show x∈xs from by
   have e1:=C.out;rw[← hye,← Y.out,bP aA];exact QE _)
  have OE:=aI (show OwnI wr base (.slice (some ⟨g,off,none⟩) n cp) xs from H.below D);clear D hye hyx;go_wp2;go_ret;have s:∃G b,(.returned (.slice (some ⟨g,off,none⟩) n cp):Ending)=.returned G∧OwnI wr base G b∧b.Pairwise (·<·)∧(∀y,y∈b↔y=x∨y∈xs)∧b.length≤n+1∧Below w.heap.size w wr:=⟨_,xs,rfl,OE,P,(fun y=>⟨.inr,fun h=>h.elim (fun e=>by subst e;exact A0) id⟩),by have:=C.out;omega,F⟩;first | exact s | (obtain⟨U,x1,h1,h2⟩:=s;exact⟨U,h1,x1,h2⟩)
 have d2:decide (y=x)=false:=decide_eq_false hye;have d3:(y == x)=false:=by simp[hye]
 have l:=aI (yC (x:=x) (k:=k) P (by have:=C.out;omega) R (fun i hi V=>by
  have e1:=Y.out;rcases RK k i with q | q
  ·have:=kN P q V;omega
  ·obtain rfl:i=k:=aA;omega) (fun hm=>by
  have e1:=Y.out;obtain⟨i,hi,e⟩:=List.mem_iff_getElem.1 hm;have e2:xs.getD i 0=x:=by rw[bP hi];exact e
  rcases RK i k with q | q
  ·have:=R.out i q;omega
  rcases RK k i with q' | q'
  ·have:=kN P q' hi;omega
  obtain rfl:i=k:=aA;omega))
 obtain⟨pa,m⟩:=aG (if cp=k then(some (⟨g,off,none⟩:Addr))else(some (⟨g,off,none⟩:Addr)).map (·.add (k * 1)));have TR:=aI (jG oG (cp:=cp) m (bJ (O) D) (show k≤n by omega) (oV (ys:=xs)) (cx:=[.int .u64 x]) (by intro u X;rw[QF]at X;subst X;rfl) rfl aA);have A1:=fun W=>lU mD (some (⟨g,off,none⟩:Addr)) n cp k (show k≤cp by have:=Q.out;omega) W;have z:=fun W=>jK mD (some (⟨g,off,none⟩:Addr)) n cp k (show k≤n by omega) W;rw[m]at z;obtain⟨m1,p⟩:=aG (n-k);obtain⟨m2,r⟩:=aG (cp-k);rw[p,r]at z;have I:=aI p;have J:=aI r;clear m p r;clear D;go_wp2_with fail;refine wp_region_held_drew (S:=Below wr.heap.size wr) N (aS (PS _ _)) (fun M=>?_);obtain⟨wd,A⟩:=aG wr.drew;rw[A]at M ⊢;clear A;refine aP 1 34 (.slice (some (⟨g,off,none⟩:Addr)) n cp) ?_;refine aP 2 35 (.int .i64 (k:Int)) ?_;refine aP 3 36 (.slice (some (⟨g,off,none⟩:Addr)) k cp) ?_;refine aP 5 38 (.int .u64 x) ?_;refine aP 8 41 (.slice (some (⟨g,off,none⟩:Addr)) n cp) ?_;refine aP 9 42 (.int .i64 (k:Int)) ?_;refine aP 10 43 (.slice pa m1 m2) ?_;refine uC TR I J 0 4 6 7 11 33 37 39 40 44 36 38 43 (fun U v2 v3 v4 L w9 j E=>?_) M rfl rfl rfl;simp only[Act.put,PZ,QB,QA];refine aP 12 4 (L) ?_;refine iM ?_;have Z:=aI (Gj j (RI B F.size) C (show k≤n by omega) HW HX);have B9:=aI (F.trans (E.mono F.size));have L9:=aI (show(xs.take k ++ [x] ++ xs.drop k).length≤n+1 from by have:=C.out;simp;omega);rotate_left;obtain rfl:n=k:=aA;have l:=aI (yC (x:=x) (k:=n) P (by have:=C.out;omega) R (fun i hi V=>by have:=C.out;omega) (fun hm=>by
  obtain⟨i,hi,e⟩:=List.mem_iff_getElem.1 hm;have:=R.out i (by have:=C.out;omega);rw[bP hi]at this;omega))
 obtain⟨pa,m⟩:=aG (if cp=n then a else a.map (·.add (n * 1)));have TR:=aI (jG oG (cp:=cp) m (bJ (O) D) (show n≤n by omega) (oV (ys:=xs)) (cx:=[.int .u64 x]) (by intro u X;rw[QF]at X;subst X;rfl) rfl aA);have A1:=fun W=>lU mD a n cp n (show n≤cp by have:=Q.out;omega) W;have z:=fun W=>jK mD a n cp n (show n≤n by omega) W;rw[m]at z;obtain⟨m1,p⟩:=aG (n-n);obtain⟨m2,r⟩:=aG (cp-n);rw[p,r]at z;have I:=aI p;have J:=aI r;clear m p r;clear D;go_wp2_with fail;refine wp_region_held_drew (S:=Below wr.heap.size wr) N (aS (PS _ _)) (fun M=>?_);obtain⟨wd,A⟩:=aG wr.drew;rw[A]at M ⊢;clear A;refine aP 1 34 (.slice a n cp) ?_;refine aP 2 35 (.int .i64 (n:Int)) ?_;refine aP 3 36 (.slice a n cp) ?_;refine aP 5 38 (.int .u64 x) ?_;refine aP 8 41 (.slice a n cp) ?_;refine aP 9 42 (.int .i64 (n:Int)) ?_;refine aP 10 43 (.slice pa m1 m2) ?_;refine uC TR I J 0 4 6 7 11 33 37 39 40 44 36 38 43 (fun U v2 v3 v4 L w9 j E=>?_) M rfl rfl rfl;simp only[Act.put,PZ,QB,QA];refine aP 12 4 (L) ?_;refine iM ?_;have Z:=aI (Gj j (RI B F.size) C (show n≤n by omega) HW HX);have B9:=aI (F.trans (E.mono F.size));have L9:=aI (show(xs.take n ++ [x] ++ xs.drop n).length≤n+1 from by have:=C.out;simp;omega);rotate_left
 all_goals
  clear j E M;go_wp2;go_ret;have s:∃G b,(.returned L:Ending)=.returned G∧OwnI w9 base G b∧b.Pairwise (·<·)∧(∀y,y∈b↔y=x∨y∈xs)∧b.length≤n+1∧Below w.heap.size w w9:=⟨L,_,rfl,Z,l.1,l.2,L9,B9⟩;first | exact s | (obtain⟨U,x1,h1,h2⟩:=s;exact⟨U,h1,x1,h2⟩) | exact⟨L,_,rfl,Z,l.1,l.2,L9,B9⟩ | exact⟨L,by simp[Act.put],_,Z,l.1,l.2,L9,B9⟩
theorem rS(v:Value)(l:List EV)(r:Int)(A:Nat)(w:World)(h:VecAt w v l)(V:bY (l.map (·.1)))(hs:∀p∈l,p.1.hs.length≤A)(hA:A≤800000) :
  Calls prog 223 #[v,.int .u64 r] w fun e w'=>∃J out,e=.returned J∧RgAt w' J out∧cL out∧(∀c,aV out c↔dN (l.map (·.1)) r c)∧out.length≤A+1∧Below w.heap.size w w':=by
 obtain⟨a,cap,rfl,I,_⟩:=h;obtain⟨len,L⟩:=aG l.length;rw[L]at I ⊢;have W:=aI L;have X:=aI (Jt a len cap l r w I.at');have H:=aI I.at';have Y:=aI V;have Z:=aI hs;clear I L V hs;go_enter func223,ntmps223;go_wp2_with fail;refine X.mono ?_;rintro e w1 ⟨(⟨k,M,O,rfl⟩ | ⟨P,rfl⟩),y⟩
 ·have C:=H.below y;obtain⟨b,off,rfl,N,D,E,B⟩:=C.cells k M;have KV:=aI (fun c=>DT (c:=c) Y (by rw[W.out];exact M) O);have j:=yJ C M;have m:=C.holes _ j;have n:=C.words _ j;have s:=Z.out _ j;obtain⟨p,Q⟩:=aG (l.getD k EV.z);rw[Q]at D E B KV m n s;have G:=aI (uK p w1 m n aA);have u:=aI s;obtain⟨ah,ch,R,_⟩:=m;obtain⟨⟨rp,mx,hs⟩,hv⟩:=p;simp only at D E B R u;subst R;unfold kO at G;simp only at G;obtain⟨nh,F⟩:=aG hs.length;rw[F]at B G u;have i0:(0:Int)≤(k:Int):=aA;have i1:(k:Int)<(len:Int):=aA;have i2:¬(k:Int)<0:=aA;have B1:=aI y;clear y Q F C N O j n s;go_wp2_with fail;refine G.mono ?_;rintro e w2 ⟨J,out,rfl,S,T,hi,U,y⟩;have B2:=aI (aN B1 y);have RG:=aI S.rg;have K:=aI (PC T (PC hi U));clear y S T hi U;go_wp2;go_ret;exact⟨J,out,rfl,RG,K.1,fun c=>(K.2.1 c).trans (KV c).symm,by have:=K.2.2;have:=u.out;omega,B2⟩
 have HN:=aI P;clear P;go_wp2;go_ret;exact⟨_,[],rfl,RgAt.nil _,fun i hi=>absurd hi aD,fun c=>⟨fun h=>absurd h (cY c),fun h=>absurd h (DS HN)⟩,aD,y⟩
def KnS1 (es:List Ent) (x:Int) (A:Nat) (v:Value) (W:World):Prop:=∃za,RgAt W v za∧(∀c,aV za c↔dN es x c)∧za.length≤A+1
def KnS3 (tk:Bool→Bool→Bool) (es fs:List Ent) (x:Int) (m:Nat) (v:Value) (W:World):Prop:=∃out,RgAt W v out∧cL out∧(∀c,aV out c↔zL tk es fs x c)∧out.length≤m
def EnS4 (tk:Bool→Bool→Bool) (es fs:List Ent) (x:Int) (m b:Nat) (p q:Value) (W:World):Prop:=(p=.agg #[.int .u64 0,.int .u64 0,.slice none 0 0]∧q=.bool false∧∀c,¬zL tk es fs x c) ∨
 ∃(en:Ent) (ah:Option Addr) (ch:Nat),p=.agg #[.int .u64 x,.int .u64 en.mx,.slice ah en.hs.length ch]∧q=.bool true∧en.rep=x∧OwnL W b 123 (.slice ah en.hs.length ch) en.hs∧EntW en∧EntC en∧(∀c,rH en c↔zL tk es fs x c)∧en.hs.length≤m
theorem KnS1.below{es:List Ent}{x:Int}{A:Nat}{v:Value}{W W':World}(h:KnS1 es x A v W)(j:Below W.heap.size W W'):KnS1 es x A v W':=by
 obtain⟨b,h1,h2⟩:=h;exact⟨b,h1.below j,h2⟩
theorem KnS3.below{tk:Bool→Bool→Bool}{es b:List Ent}{x:Int}{m:Nat}{v:Value}{W W':World}(h:KnS3 tk es b x m v W)(j:Below W.heap.size W W'):KnS3 tk es b x m v W':=by
 obtain⟨out,h1,h2⟩:=h;exact⟨out,h1.below j,h2⟩
theorem EnS4.below{tk:Bool→Bool→Bool}{es j:List Ent}{x:Int}{m b:Nat}{p q:Value}{W W':World}(h:EnS4 tk es j x m b p q W)(l:Below W.heap.size W W'):EnS4 tk es j x m b p q W':=by
 rcases h with h | ⟨en,ah,ch,h1,h2,h3,h4,h5⟩
 ·exact .inl h
 exact .inr ⟨en,ah,ch,h1,h2,h3,⟨bJ h4.row l,h4.words⟩,h5⟩
def Xy (tk:Bool→Bool→Bool) (es fs:List Ent) (x:Int) (A B b:Nat):Nat→List Value→World→Prop
 | 0,vs,_=>vs=[]
 | 1,vs,W=>∃v,vs=[v]∧KnS1 es x A v W
 | 2,vs,W=>∃v u,vs=[v,u]∧KnS1 es x A v W∧KnS1 fs x B u W
 | 3,vs,W=>∃v u y,vs=[v,u,y]∧KnS3 tk es fs x (A+B+2) y W
 | 4,vs,W=>∃v u y p q,vs=[v,u,y,.tuple #[p,q]]∧EnS4 tk es fs x (A+B+3) b p q W
 | 5,vs,W=>∃v u y p q,vs=[v,u,y,.tuple #[p,q],.tuple #[p,q]]∧EnS4 tk es fs x (A+B+3) b p q W
 | 6,vs,W=>∃v u y p q,vs=[v,u,y,.tuple #[p,q],.tuple #[p,q],p]∧EnS4 tk es fs x (A+B+3) b p q W
 | _,vs,W=>∃v u y p q,vs=[v,u,y,.tuple #[p,q],.tuple #[p,q],p,q]∧EnS4 tk es fs x (A+B+3) b p q W
theorem nH{tk:Bool→Bool→Bool}{es j:List Ent}{x:Int}{A B b:Nat}:∀(n:Nat) (vs:List Value) (W l:World),Xy tk es j x A B b n vs W→Below W.heap.size W l→Xy tk es j x A B b n vs l
 | 0,_,_,_,h,_=>h
 | 1,_,_,_,⟨v,e,h⟩,hb=>⟨v,e,h.below hb⟩
 | 2,_,_,_,⟨v,u,e,h,k⟩,hb=>⟨v,u,e,h.below hb,k.below hb⟩
 | 3,_,_,_,⟨v,u,y,e,h⟩,hb=>⟨v,u,y,e,h.below hb⟩
 | 4,_,_,_,⟨v,u,y,p,q,e,h⟩,hb=>⟨v,u,y,p,q,e,h.below hb⟩
 | 5,_,_,_,⟨v,u,y,p,q,e,h⟩,hb=>⟨v,u,y,p,q,e,h.below hb⟩
 | 6,_,_,_,⟨v,u,y,p,q,e,h⟩,hb=>⟨v,u,y,p,q,e,h.below hb⟩
 | _+7,_,_,_,⟨v,u,y,p,q,e,h⟩,hb=>⟨v,u,y,p,q,e,h.below hb⟩
theorem Nf{w W:World}{es:List Ent}{x:Int}{A:Nat}{v:Value}(K:∀W,Below w.heap.size w W→∀r,Calls prog 223 #[v,.int .u64 r] W fun e w'=>∃b out,e=.returned b∧RgAt w' b out∧cL out∧(∀c,aV out c↔dN es r c)∧out.length≤A+1∧Below W.heap.size W w')(l:Below w.heap.size w W) :
  Calls prog 223 #[v,.int .u64 x] W fun e w'=>(∃v,e=.returned v∧KnS1 es x A v w')∧Below W.heap.size W w':=by
 refine(K W l x).mono ?_;rintro e w' ⟨b,out,rfl,h1,_,h2,h3,j⟩;exact⟨⟨b,rfl,out,h1,h2,h3⟩,j⟩
theorem LZ{op:Int}{tk:Bool→Bool→Bool}{es z:List Ent}{x:Int}{A B:Nat}{v u:Value}{W:World}(h:OpTk op tk)(H:∀e∈es,EntW e)(I:∀e∈z,EntW e)(h1:KnS1 es x A v W)(h2:KnS1 z x B u W)(J:A+B≤100000) :
  Calls prog 164 #[v,u,.int .i64 op] W fun e w'=>(∃y,e=.returned y∧KnS3 tk es z x (A+B+2) y w')∧Below W.heap.size W w':=by
 obtain⟨K,b,j,C⟩:=h1;obtain⟨L,l,m,D⟩:=h2;refine(Cr h b l aA).mono ?_;rintro e w' ⟨⟨E,out,rfl,n,p,s,F⟩,G⟩;exact⟨⟨E,rfl,out,n.rg,p,Hg (tk:=tk) h.off H I (r:=x) j m s,aA⟩,G⟩
theorem LK{tk:Bool→Bool→Bool}{es s:List Ent}{x:Int}{A B b:Nat}{y:Value}{W:World}(H:aL x)(h:KnS3 tk es s x (A+B+2) y W)(I:A+B≤100000)(J:b≤W.heap.size) :
  Calls prog 215 #[.int .u64 x,y] W fun e w'=>(∃v,e=.returned v∧∃p q,v=.tuple #[p,q]∧EnS4 tk es s x (A+B+3) b p q w')∧Below W.heap.size W w':=by
 obtain⟨out,n,u,r,K⟩:=h;by_cases h0:out=[]
 ·subst h0;obtain⟨a,cap,rfl,_,_⟩:=n;refine(Pr x a cap W).mono ?_;rintro e w' ⟨rfl,j⟩;exact⟨⟨_,rfl,_,_,rfl,.inl ⟨rfl,rfl,fun c m=>cY c ((r c).2 m)⟩⟩,j⟩
 refine(Ad x y out W n u H h0 aA).mono ?_;rintro e w' ⟨en,hv,rfl,z,l,C,m,D,L,j⟩;obtain⟨E,F,G,_⟩:=l.prs;subst G;exact⟨⟨_,rfl,_,_,rfl,.inr ⟨en,E,F,rfl,rfl,z,⟨bC l.row J,l.words⟩,C,m,fun c=>(D c).trans (r c),aA⟩⟩,j⟩
theorem Pn{op:Int}{tk:Bool→Bool→Bool}(F1:OpTk op tk)(va vb:Value)(l D:List EV)(A B:Nat)(w:World)(hE:VecAt w va l)(F2:VecAt w vb D)(hR:bY (l.map (·.1)))(F3:bY (D.map (·.1)))
  (hs:∀p∈l,p.1.hs.length≤A) (F6:∀p∈D,p.1.hs.length≤B) (F7:A+B≤100000) (F8:l.length≤100000) (D0:D.length≤100000) :
  Calls prog 168 #[va,vb,.int .i64 op] w fun e w'=>Sb w tk (l.map (·.1)) (D.map (·.1)) (l.length+D.length) (A+B+3) e w':=by
 have F9:prog.follows .mixedOrders=true:=aC;obtain⟨i0,hi,G5,G6,G7⟩:=info_parts iK;have KA:=aI (fun W (hW:Below w.heap.size w W) r=>rS va l r A W (hE.below hW) hR hs aA);have KB:=aI (fun W (hW:Below w.heap.size w W) r=>rS vb D r B W (F2.below hW) F3 F6 aA);obtain⟨a1,c1,rfl,B8,_⟩:=hE;obtain⟨a2,c2,rfl,B9,_⟩:=F2;have WE:=aI (show ∀e∈l.map (·.1),EntW e from fun e s=>by
  obtain⟨p,hp,rfl⟩:=List.mem_map.1 s;exact B8.at'.words p hp)
 have WF:=aI (show ∀e∈D.map (·.1),EntW e from fun e s=>by
  obtain⟨p,hp,rfl⟩:=List.mem_map.1 s;exact B9.at'.words p hp)
 have E1:=aI B8.at';have E2:=aI B9.at';have D1:=aI F1;have L:=aI (show ∀r,((∃e∈l.map (·.1),e.rep=r)→∃i,i<l.length∧uJ l i=r)∧((∃e∈D.map (·.1),e.rep=r)→∃i,i<D.length∧uJ D i=r)from fun r=>⟨by
  rintro⟨e,s,hr⟩;obtain⟨p,hp,rfl⟩:=List.mem_map.1 s;obtain⟨i,hi,e2⟩:=List.mem_iff_getElem.1 hp;exact⟨i,hi,by unfold uJ;simp[QI,PX hi,e2,hr]⟩,by
  rintro⟨e,s,hr⟩;obtain⟨p,hp,rfl⟩:=List.mem_map.1 s;obtain⟨i,hi,e2⟩:=List.mem_iff_getElem.1 hp;exact⟨i,hi,by unfold uJ;simp[QI,PX hi,e2,hr]⟩⟩)
 obtain⟨es,C0⟩:=aG (l.map (·.1));obtain⟨fs,C1⟩:=aG (D.map (·.1));obtain⟨n1,C2⟩:=aG l.length;obtain⟨n2,C3⟩:=aG D.length;rw[C0]at KA WE L;rw[C1]at KB WF L;rw[C2]at KA E1 L F8;rw[C3]at KB E2 L D0;rw[C0,C1,C2,C3];clear B8 B9 hR F3 hs F6 F1 C0 C1 C2 C3;go_enter func168,ntmps168;go_wp2;go_loopw [7,8] (fun o c wr=>∃(k:Nat) (xs:List Int),k≤n1∧c=.int .i64 k∧OwnI wr w.heap.size o xs∧xs.Pairwise (·<·)∧(∀y,y∈xs↔∃i,i<k∧uJ l i=y)∧xs.length≤k∧Below w.heap.size w wr) (fun _ c _=>n1-(intOf c).toNat)
 case atStart=>exact⟨0,[],RF _,rfl,OwnI.nil _ _,List.Pairwise.nil,(fun y=>⟨fun h=>(by cases h),fun⟨i,h,_⟩=>absurd h aA⟩),RH _,PS _ _⟩
 obtain⟨k,xs,hk,rfl,hO,A1,hm,hl,n⟩:=hrel;have HO:=aI hO;have F:=aI A1;have HM:=aI hm;have J:=aI n;have M:=aI hl;clear hO A1 hm;have D2:(0:Int)≤(k:Int):=aA;by_cases hlt:k<n1
 ·have i1:(k:Int)<(n1:Int):=aA;have Er:=E1.below n;obtain⟨b,off,rfl,C4,d0,_,_⟩:=Er.cells k hlt;have hw:=(Er.words _ (yJ Er hlt)).rep;obtain⟨x,ex⟩:=aG ((l.getD k EV.z).1.rep);have EX:=aI (show uJ l k=x from ex);rw[ex]at d0 hw;have KP:=aI (wY w.heap.size u7 xs x wr HO n.size F hw aA);clear ex hw C4 Er n hl;go_wp2_with fail;refine KP.mono ?_;rintro e w3 ⟨v',H,rfl,A2,A3,A4,C5,A5⟩;have O3:=aI A2;have S3:=aI A3;have M3:=aI (show ∀y,y∈H↔∃i,i<k+1∧uJ l i=y from fun y=>by
   rw[A4,HM.out];constructor
   ·rintro(e | ⟨i,h1,h2⟩)
    ·exact⟨k,aA,by rw[EX.out,e]⟩
    exact⟨i,aA,h2⟩
   rintro⟨i,h1,h2⟩;by_cases e:i=k
   ·subst e;exact .inl (by rw[← h2,EX.out])
   exact .inr ⟨i,aA,h2⟩)
  have L3:=aI (show H.length≤k+1 from by have:=M.out;omega);have B3:=aI (J.trans (A5.mono J.size));clear A2 A3 A4 C5 A5;go_wp2;go_roundw
  case rel=>exact⟨k+1,H,aA,by go_num,O3,S3,M3,L3,B3⟩
  simp[intOf];omega
 obtain rfl:n1=k:=aA;clear n hl;obtain⟨wa,G8⟩:=aH wr;obtain⟨ua,C6⟩:=aH u7;subst G8;subst C6;have D3:=aI HO;have D4:=aI F;have D5:=aI HM;have D6:=aI J;have B0:=aI M;clear HO F HM J M;go_wp2;go_loopw [7,9] (fun o c wr=>∃(k:Nat) (xs:List Int),k≤n2∧c=.int .i64 k∧OwnI wr w.heap.size o xs∧xs.Pairwise (·<·)∧(∀y,y∈xs↔(∃i,i<n1∧uJ l i=y)∨∃i,i<k∧uJ D i=y)∧xs.length≤n1+k∧Below w.heap.size w wr) (fun _ c _=>n2-(intOf c).toNat)
 case atStart=>exact⟨0,xs,RF _,rfl,D3,D4,(fun y=>by rw[D5.out];exact⟨.inl,fun h=>h.elim id (fun⟨i,h,_⟩=>absurd h aA)⟩),B0,D6⟩
 obtain⟨k,xs,hk,rfl,hO,A1,hm,hl,n⟩:=hrel;have HO:=aI hO;have F:=aI A1;have HM:=aI hm;have J:=aI n;have M:=aI hl;clear hO A1 hm D3 D4 D5 D6 B0;have D2:(0:Int)≤(k:Int):=aA;by_cases hlt:k<n2
 ·have i1:(k:Int)<(n2:Int):=aA;have Er:=E2.below n;obtain⟨b,off,rfl,C4,d0,_,_⟩:=Er.cells k hlt;have hw:=(Er.words _ (yJ Er hlt)).rep;obtain⟨x,ex⟩:=aG ((D.getD k EV.z).1.rep);have EX:=aI (show uJ D k=x from ex);rw[ex]at d0 hw;have KP:=aI (wY w.heap.size u7 xs x wr HO n.size F hw aA);clear ex hw C4 Er n hl;go_wp2_with fail;refine KP.mono ?_;rintro e w3 ⟨v',H,rfl,A2,A3,A4,C5,A5⟩;have O3:=aI A2;have S3:=aI A3;have M3:=aI (show ∀y,y∈H↔(∃i,i<n1∧uJ l i=y)∨∃i,i<k+1∧uJ D i=y from fun y=>by
   rw[A4,HM.out];constructor
   ·rintro(e | h | ⟨i,h1,h2⟩)
    ·exact .inr ⟨k,aA,by rw[EX.out,e]⟩
    ·exact .inl h
    exact .inr ⟨i,aA,h2⟩
   rintro(h | ⟨i,h1,h2⟩)
   ·exact .inr (.inl h)
   by_cases e:i=k
   ·subst e;exact .inl (by rw[← h2,EX.out])
   exact .inr (.inr ⟨i,aA,h2⟩))
  have L3:=aI (show H.length≤n1+(k+1)from by have:=M.out;omega);have B3:=aI (J.trans (A5.mono J.size));clear A2 A3 A4 C5 A5;go_wp2;go_roundw
  case rel=>exact⟨k+1,H,aA,by go_num,O3,S3,M3,L3,B3⟩
  simp[intOf];omega
 obtain rfl:n2=k:=aA;obtain⟨N,eN⟩:=aG xs.length;have EN:=aI eN;obtain⟨ax,cx,eu,hI,_⟩:=HO.ints aA;rw[eN]at eu hI hl;obtain⟨WR,G9⟩:=aH wr;obtain⟨ua,C6⟩:=aH u7;subst G9;subst C6;subst eu;have HI:=aI hI;have G0:=aI HO.words;have G1:=aI F;have G2:=aI HM;have A7:=aI J;have HN:=aI hl;have hN:N≤200000:=aA;obtain⟨S0,C7⟩:=aG WR.heap.size;have G:=aI C7;have D7:=aI (show w.heap.size≤S0 from by rw[← C7];exact n.size);clear n hl eN hI HO F HM J M C7;go_wp2;go_loopw [10,11] (fun o c wq=>∃(k:Nat) (lo:List EV),k≤N∧c=.int .i64 k∧LatO tk es fs (A+B+3) xs k lo∧RowF wq S0 o lo∧HolB S0 lo∧Below S0 WR wq) (fun _ c _=>N-(intOf c).toNat)
 case atStart=>exact⟨0,[],RF _,rfl,LatO.zero _ _ _ _ _,RowF.nil _ _,(fun p hp=>by cases hp),PS _ _⟩
 obtain⟨k,lo,hk,rfl,hL,E,E8,C8⟩:=hrel;have B7:=aI E8;have n:Below WR.heap.size WR wr:=by rw[G.out];exact C8
 have HL:=aI hL;have HF:=aI E;have D8:=aI C8;have A8:=aI n;have J:=aI (A7.trans (n.mono A7.size));have D2:(0:Int)≤(k:Int):=aA;clear hL E C8 E8;by_cases hlt:k<N
 ·have i1:(k:Int)<(N:Int):=aA;obtain⟨gx,ox,rfl,C9,c0⟩:=(HI.below n).cells k hlt;have T:k<xs.length:=by rw[EN.out];exact hlt
  have U:xs.getD k 0∈xs:=by rw[bP T];exact QE T
  have WX:=aI (G0 _ U);have D9:=aI (fun hn=>HL.none T hn);have E3:=aI (fun(en:Ent) (hv:Value) hr hw hc hn hl=>HL.snoc T G1 (en:=en) (hv:=hv) hr hw hc hn hl);obtain⟨x,ex⟩:=aG (xs.getD k 0);rw[ex]at c0 WX D9 E3;have E4:=aI HL.len;have G3:=aI (show S0≤wr.heap.size from by have:=D8.size;have:=G.out;omega);clear ex U T n;go_wp2_with fail;refine wp_region_held_drew (S:=Below wr.heap.size wr) F9 (aS (PS _ _)) (fun hS=>?_);obtain⟨wd,E9⟩:=aG wr.drew;rw[E9]at hS ⊢;clear E9;refine aP 0 47 (.slice (some ⟨gx,ox,none⟩) N cx) ?_;refine aP 1 48 (.int .i64 (k:Int)) ?_;refine aP 2 49 (.pointer (some ⟨gx,ox+k,none⟩)) ?_;refine dL 3 50 (.int .u64 x) ?_ ?_
  ·intro X hX;have b0:=aM hX C9 c0;go_simp
  refine aP 4 51 (.slice a1 n1 c1) ?_;refine aP 5 52 (.slice (some ⟨gx,ox,none⟩) N cx) ?_;refine aP 6 53 (.int .i64 (k:Int)) ?_;refine aP 7 54 (.pointer (some ⟨gx,ox+k,none⟩)) ?_;refine dL 8 55 (.int .u64 x) ?_ ?_
  ·intro X hX;have b0:=aM hX C9 c0;go_simp
  refine aP 10 57 (.slice a2 n2 c2) ?_;refine aP 11 58 (.slice (some ⟨gx,ox,none⟩) N cx) ?_;refine aP 12 59 (.int .i64 (k:Int)) ?_;refine aP 13 60 (.pointer (some ⟨gx,ox+k,none⟩)) ?_;refine dL 14 61 (.int .u64 x) ?_ ?_
  ·intro X hX;have b0:=aM hX C9 c0;go_simp
  refine aP 16 63 (.int .i64 op) ?_;refine CU 2 22 12 (.cells #[.int .u64 0,.int .u64 0,.slice none 0 0] 96) [(9,56,false),(15,62,false),(17,64,false),(18,65,false),(19,46,true),(20,66,true),(21,67,true)] (Xy tk es fs x A B wr.heap.size 7) ?_ (fun vs W Z hG F0 O zZ=>?_) hS
  ·refine .cons (F':=Xy tk es fs x A B wr.heap.size 1) (fun _ _ _ h _=>h) (fun vs W R K E hS s P=>?_) (.cons (F':=Xy tk es fs x A B wr.heap.size 2) (nH 1) (fun vs W R K E hS s P=>?_) (.cons (F':=Xy tk es fs x A B wr.heap.size 3) (nH 2) (fun vs W R K E hS s P=>?_) (.cons (F':=Xy tk es fs x A B wr.heap.size 4) (nH 3) (fun vs W R K E hS s P=>?_) (.take (F':=Xy tk es fs x A B wr.heap.size 5) (nH 4) (fun vs W R E s=>?_) (.take (F':=Xy tk es fs x A B wr.heap.size 6) (nH 5) (fun vs W R E s=>?_) (.take (F':=Xy tk es fs x A B wr.heap.size 7) (nH 6) (fun vs W R E s=>?_) (.nil (nH 7))))))))
   ·obtain rfl:=E;exact wB rfl rfl (fun _ _=>aC) (by simp only[QH,PY,QN,s 51 aB,s 55 aB];rfl) (Nf KA (J.trans (hS.mono J.size))) (fun v W1 hR n=>P v W1 (⟨v,rfl,hR⟩) n)
   ·obtain⟨Q,rfl,h3⟩:=E;exact wB rfl rfl (fun _ _=>aC) (by simp only[QH,PY,QN,s 57 aB,s 61 aB];rfl) (Nf KB (J.trans (hS.mono J.size))) (fun v W1 hR n=>P v W1 (⟨Q,v,rfl,h3.below n,hR⟩) n)
   ·obtain⟨Q,v4,rfl,h3,h4⟩:=E;exact wB rfl rfl (fun _ _=>aC) (by simp only[QH,PY,QN,s 56 aB,s 62 aB,s 63 aB];rfl) (LZ D1 WE WF h3 h4 F7) (fun v W1 hR n=>P v W1 (⟨Q,v4,v,rfl,hR⟩) n)
   ·obtain⟨Q,v4,v5,rfl,h5⟩:=E;exact wB rfl rfl (fun _ _=>aC) (by simp only[QH,PY,QN,s 50 aB,s 64 aB];rfl) (LK WX h5 F7 hS.size) (fun v W1 hR n=>P v W1 (by obtain⟨p,q,rfl,h⟩:=hR;exact⟨Q,v4,v5,p,q,rfl,h⟩) n)
   ·obtain⟨Q,v4,v5,p,q,rfl,h⟩:=E;have e:R.eval (.tmp 65)=.tuple #[p,q]:=(s 65 aB).trans rfl;obtain⟨g,eg⟩:=aG R.eval;rw[eg]at e ⊢;exact⟨(.tuple #[p,q]),(⟨Q,v4,v5,p,q,rfl,h⟩),fun X=>by go_simp⟩
   ·obtain⟨Q,v4,v5,p,q,rfl,h⟩:=E;have e:R.eval (.tmp 46)=.tuple #[p,q]:=(s 46 aB).trans rfl;obtain⟨g,eg⟩:=aG R.eval;rw[eg]at e ⊢;exact⟨p,(⟨Q,v4,v5,p,q,rfl,h⟩),fun X=>by go_simp⟩
   obtain⟨Q,v4,v5,p,q,rfl,h⟩:=E;have e:R.eval (.tmp 46)=.tuple #[p,q]:=(s 46 aB).trans rfl;obtain⟨g,eg⟩:=aG R.eval;rw[eg]at e ⊢;exact⟨q,(⟨Q,v4,v5,p,q,rfl,h⟩),fun X=>by go_simp⟩
  obtain⟨Q,v4,v5,p,q,rfl,hE⟩:=hG;simp only[xK,Act.put,PZ,QB,QA];clear hS;rcases hE with⟨rfl,rfl,hn⟩ | ⟨en,ah,ch,rfl,rfl,hE⟩
  ·have NX:=aI (D9 hn);clear hn;refine cW 23 fun K P=>?_;have k0:W.cell? ⟨Z,0,none⟩=some (.int .u64 0):=by simp[PT,O]
   have k1:W.cell? ⟨Z,1,none⟩=some (.int .u64 0):=by simp[PT,O]
   have k2:W.cell? ⟨Z,2,none⟩=some (.slice none 0 0):=by simp[PT,O]
   have f0:∀j,W.frozen? ⟨Z,j,none⟩=false:=by intro j;simp[PV,O]
   have E0:=aI (heap_setCell_same _ _ 2 _ _ (.slice none 0 0) (heap_setCell_same _ _ 1 _ _ (.int .u64 0) (heap_setCell_same _ _ 0 _ _ (.int .u64 0) O)));have OZ:=aI ((((Only.refl (fun q=>q=Z) W).setCell (p:=⟨Z,0,none⟩) (.inl rfl) (.int .u64 0)).setCell (p:=⟨Z,1,none⟩) (.inl rfl) (.int .u64 0)).setCell (p:=⟨Z,2,none⟩) (.inl rfl) (.slice none 0 0));have V:=aI (fO (fO (fO F0 (p:=⟨Z,0,none⟩) zZ (.int .u64 0)) (p:=⟨Z,1,none⟩) zZ (.int .u64 0)) (p:=⟨Z,2,none⟩) zZ (.slice none 0 0));go_simp;refine P _ _ V (fun _=>?_);clear P K k0 k1 k2 f0;obtain⟨wz,A6⟩:=aG (((W.setCell ⟨Z,0,none⟩ (.int .u64 0)).setCell ⟨Z,1,none⟩ (.int .u64 0)).setCell ⟨Z,2,none⟩ (.slice none 0 0));have Y:=V.out;rw[A6]at E0 OZ V Y ⊢;clear A6 O;refine aP 24 13 (.bool false) ?_;refine iM ?_;clear Y;have F4:=aI (HF.only (may:=fun _=>False) (Only.of_below V) (fun _ h=>h.elim));have B4:=aI (A8.trans (V.mono A8.size));go_wp2;go_roundw
   case rel=>exact⟨k+1,lo,aA,by go_num,NX,F4,B7,by rw[← G.out];exact B4⟩
   simp[intOf];omega
  have OH:=aI hE.2.1;have C:=aI (PC hE.1 hE.2.2);have NZ:=aI (show ∀q,(Value.slice ah en.hs.length ch).ownBlock=some q→q≠Z from fun q hq e=>Typed.not (aR OH.row hq) (show 123≠96 by decide) (by rw[e];exact⟨_,O⟩));clear hE;refine cW 23 fun K P=>?_;have k0:W.cell? ⟨Z,0,none⟩=some (.int .u64 0):=by simp[PT,O]
  have k1:W.cell? ⟨Z,1,none⟩=some (.int .u64 0):=by simp[PT,O]
  have k2:W.cell? ⟨Z,2,none⟩=some (.slice none 0 0):=by simp[PT,O]
  have f0:∀j,W.frozen? ⟨Z,j,none⟩=false:=by intro j;simp[PV,O]
  have E0:=aI (heap_setCell_same _ _ 2 _ _ (.slice ah en.hs.length ch) (heap_setCell_same _ _ 1 _ _ (.int .u64 en.mx) (heap_setCell_same _ _ 0 _ _ (.int .u64 x) O)));have OZ:=aI ((((Only.refl (fun q=>q=Z) W).setCell (p:=⟨Z,0,none⟩) (.inl rfl) (.int .u64 x)).setCell (p:=⟨Z,1,none⟩) (.inl rfl) (.int .u64 en.mx)).setCell (p:=⟨Z,2,none⟩) (.inl rfl) (.slice ah en.hs.length ch));have V:=aI (fO (fO (fO F0 (p:=⟨Z,0,none⟩) zZ (.int .u64 x)) (p:=⟨Z,1,none⟩) zZ (.int .u64 en.mx)) (p:=⟨Z,2,none⟩) zZ (.slice ah en.hs.length ch));go_simp;refine P _ _ V (fun _=>?_);clear P K k0 k1 k2 f0;obtain⟨wz,A6⟩:=aG (((W.setCell ⟨Z,0,none⟩ (.int .u64 x)).setCell ⟨Z,1,none⟩ (.int .u64 en.mx)).setCell ⟨Z,2,none⟩ (.slice ah en.hs.length ch));have Y:=V.out;rw[A6]at E0 OZ V Y ⊢;clear A6 O;refine aP 24 13 (.bool true) ?_;refine iM ?_;clear Y;have F4:=aI (HF.only (may:=fun _=>False) (Only.of_below V) (fun _ h=>h.elim));have B4:=aI (A8.trans (V.mono A8.size));have NX:=aI (E3 en (.slice ah en.hs.length ch) C.1 C.2.1 C.2.2.1 C.2.2.2.1 (by have:=C.2.2.2.2;omega));have A9:=aI (BU OH OZ (fun q hq e=>NZ q hq e) (fun q hq=>RI G3 (OH.row.lt q hq).1));have EW:=aI C.2.1;have E5:=aI C.1;clear OH C NZ;obtain⟨rp,mx,hs⟩:=en;simp only at E5 A9 NX E0 F4 B4 EW;have G4:=E5.out;subst G4;have hz:=E0.out;have y0:wz.cell? ⟨Z,0,none⟩=some (.int .u64 rp):=by simp[PT,hz]
  have y1:wz.cell? ⟨Z,1,none⟩=some (.int .u64 mx):=by simp[PT,hz]
  obtain⟨m,em⟩:=aG hs.length;have y2:wz.cell? ⟨Z,2,none⟩=some (.slice ah hs.length ch):=by simp[PT,hz]
  rw[em]at A9 NX y2 ⊢;clear em hz;obtain⟨ao,co,rfl,_⟩:=aY F4.row;go_wp2_with(at_builtin;go_loud(refine wpList_append_own_at _ rfl _ _ 76 rfl S0 96 i0 (.agg #[.int .u64 0,.int .u64 0,.slice none 0 0]) 3 40 underlying76 hi G5 G6 G7 rfl aB _ _ _ rfl (F4.row.alloc _) ⟨wz.heap.size,0,none⟩ 1 1 [.int .u64 rp,.int .u64 mx,.slice ah m ch] rfl rfl ?ga1 ?ga2 ?ga3 ?ga4 ?ga5 ?_))
  first | (case ga1=>exact iI (aK _ _ rfl)) | skip
  case ga2=>first | exact⟨rfl,rfl,rfl⟩ | (intro u hu;simp at hu;rcases hu with rfl | rfl | rfl<;>rfl)
  case ga3=>have:=E4.out;unfold maxLen;omega
  case ga4=>have:=E4.out;omega
  case ga5=>have:=B4.size;have:=G.out;simp;omega
  intro v' w5 B6 I _ _;have F5:=aI (RowF.push (e:=⟨rp,mx,hs⟩) (o:=.cells #[.int .u64 rp,.int .u64 mx,.slice ah m ch] 96) F4 A9 EW B6 I);have B5:=aI ((aJ B4 (.cells #[.int .u64 rp,.int .u64 mx,.slice ah m ch] 96)).grown I (by have:=B4.size;simp<;>omega) (fun q hq=>by have:=(F4.row.lt q hq).1;have:=G.out;omega));clear B6 I;go_wp2;go_roundw
  case rel=>
   have A0:∃(k':Nat) (lo:List EV),k'≤N∧(.int .i64 ((k:Int)+1):Value)=.int .i64 k'∧LatO tk es fs (A+B+3) xs k' lo∧RowF w5 S0 v' lo∧HolB S0 lo∧Below S0 WR w5:=⟨k+1,_,aA,aD,NX,F5,B7.snoc (fun q hq=>(A9.row.lt q hq).1),by rw[← G.out];exact B5⟩;first | exact A0 | ((repeat apply PF);exact⟨A0,rfl⟩)
  simp[intOf];omega
 obtain rfl:N=k:=aA;have E6:=aI (show ∀r c,dN (lo.map (·.1)) r c↔zL tk es fs r c from fun r c=>by
  rw[HL.kn,QJ (by rw[EN.out];exact RH _)];constructor
  ·exact fun h=>h.2
  intro h;refine⟨(G2 r).2 ?_,h⟩;rcases Kq D1.off h with⟨e,h1,h2,_⟩ | ⟨e,h1,h2,_⟩
  ·exact .inl ((L r).1 ⟨e,h1,h2⟩)
  exact .inr ((L r).2 ⟨e,h1,h2⟩))
 have B1:=aI HL.can;have B2:=aI (RI HL.len HN);have E7:=aI HL.hs;have BE:=aI (A7.trans (D8.mono (by rw[← G.out];exact A7.size)));have FE:=aI (HF.base D7);have HE:=aI (B7.mono D7);clear HL n;go_wp2;go_ret
 first | exact⟨_,rfl,lo,FE,HE,B1,E6,B2,E7,BE⟩ | exact⟨_,lo,rfl,FE,HE,B1,E6,B2,E7,BE⟩
theorem xC:uA 86 3 1:=rR underlying86 yF aB rfl aB
theorem FW{w:World}{base b n:Nat}{v:Value}{s:List Nat}{i:Nat}(h:OwnJ w base v s)(z:s.length=n)(y:NewsAt w ⟨b,0,none⟩ [.int .i64 (i:Int)])(A:n≤4000000000)(j:base≤w.heap.size)(r:TypeId) :
  ∃l w',(Builtin.append_ #[86,86] r #[v,.slice (some ⟨b,0,none⟩) 1 1]).run prog w=.ok l w'∧OwnJ w' base l (s ++ [i])∧Only (fun k=>v.ownBlock=some k) w w':=by
 obtain⟨l,w',u,p⟩:=iG xC (c:=1) (m:=1) h (news:=[.int .i64 (i:Int)]) rfl y (Gn _) aA j r;refine⟨l,w',u,?_,p.only⟩;have:=p.row;unfold OwnJ iW;rw[QW,QZ];exact this
theorem zE(v:Value)(l:List FV)(x:Int)(w:World)(hE:KnwAt w v l)(hx:aL x)(G:l.length≤1000000) :
  Calls prog 166 #[v,.int .u64 x] w fun e w'=>∃v',e=.returned v'∧OwnJ w' w.heap.size v' (aX l x l.length)∧Below w.heap.size w w':=by
 obtain⟨a,cap,rfl,W,_⟩:=hE;have H:=aI W;have HX:=aI hx;obtain⟨len,m⟩:=aG l.length;have EL:=aI m;rw[m]at H G ⊢;clear W m hx;go_enter func166,ntmps166;go_wp2;go_loopw [5,6] (fun o c wr=>∃k:Nat,k≤len∧c=.int .i64 k∧OwnJ wr w.heap.size o (aX l x k)∧Below w.heap.size w wr)
  (fun _ c _=>len-(intOf c).toNat)
 case atStart=>exact⟨0,RF _,rfl,OwnJ.nil _ _,PS _ _⟩
 obtain⟨k,hk,rfl,X,J⟩:=hrel;have K:=aI X;have L:=aI J;clear X;have i0:(0:Int)≤(k:Int):=aA;by_cases hlt:k<len
 ·have i1:(k:Int)<(len:Int):=aA;have I:=H.below J;obtain⟨b,off,rfl,R,s,_⟩:=I.cells k hlt;have r:=I.mem hlt;have A:=I.frags _ r;have M:=aI (fun h=>mG (l:=l) (x:=x) (k:=k) h);have N:=aI (fun h=>pB (l:=l) (x:=x) (k:=k) h);obtain⟨p,Y⟩:=aG (l.getD k FV.z);rw[Y]at s A M N;obtain⟨⟨ai,ci,Z,S,_⟩,_⟩:=A;have B:=aI (mO ai p.items.length ci p.items x wr S HX);rw[sI]at B;obtain⟨b1,u⟩:=aG (decide (aV p.items x));have C:=aI u;rw[u]at B;obtain⟨items,iv,vec,vv⟩:=p;simp only at s Z S B M N;subst Z;obtain⟨ni,D⟩:=aG items.length;rw[D]at s B;have SL:=aI (oC l x k);clear Y J R I r S D u;go_wp2_with fail;refine B.mono ?_;rintro e T ⟨rfl,y⟩;have V:=aI (aN L y);have O:=aI (show OwnJ T w.heap.size u5 (aX l x k)from bJ K y);clear y
  cases b1 with
  | false=>
    have P:=aI (N (of_decide_eq_false C));go_wp2;go_roundw
    case rel=>exact⟨k+1,aA,by go_num,by rw[P.out];exact O,V⟩
    simp[intOf];omega
  | true=>
    have P:=aI (M (of_decide_eq_true C));have Q:=aI (aJ V (.cells #[.int .i64 (k:Int)] 3));obtain⟨v4,w4,hr,E,F⟩:=FW (bJ (show OwnJ T w.heap.size u5 (aX l x k)from O) (aJ (PS _ _) _)) rfl (i:=k) (cN (vs:=[.int .i64 (k:Int)]) (aK T (.cells #[.int .i64 (k:Int)] 3) rfl)) (by have:=SL.out;omega) Q.size 86;have O4:=aI E;have B4:=aI (Q.trans (F.below (n:=w.heap.size) Q.size (fun q hq=>(World.ownsRow.lt O q hq).1)));clear E F;go_wp2_with(first | (at_builtin;go_loud(refine bV rfl _ _ rfl rfl rfl hr ?_)) | fail)
    clear hr;go_wp2;go_roundw
    case rel=>
     have j:∃U:Nat,U≤len∧(.int .i64 ((k:Int)+1):Value)=.int .i64 U∧OwnJ w4 w.heap.size v4 (aX l x U)∧Below w.heap.size w w4:=⟨k+1,aA,aD,by rw[P.out];exact O4,B4⟩;first | exact j | ((repeat apply PF);exact⟨j,rfl⟩)
    simp[intOf];omega
 obtain rfl:len=k:=aA;clear J;go_wp2;go_ret
 first | exact⟨_,rfl,K,L⟩ | exact⟨u5,rfl,K,L⟩
theorem Vu{l:List FV}{s:List Nat}{k:Nat}{r c:Int}:Xw l (s ++ [k]) r c↔Xw l s r c∨dN ((l.getD k FV.z).vec.map (·.1)) r c:=by
 unfold Xw;constructor
 ·rintro⟨i,hi,h⟩;rcases List.mem_append.1 hi with hi | hi
  ·exact .inl ⟨i,hi,h⟩
  obtain rfl:i=k:=by simpa using hi
  exact .inr h
 rintro(⟨i,hi,h⟩ | h)
 ·exact⟨i,QU _ hi,h⟩
 exact⟨k,aD,h⟩
theorem Xl(v:Value)(l:List FV)(x:Int)(w:World)(hE:KnwAt w v l)(hG:GoodK l)(hx:aL x) :
  Calls prog 111 #[v,.int .u64 x] w fun e w'=>∃v lo,e=.returned v∧RowF w' w.heap.size v lo∧HolB w.heap.size lo∧CanW (lo.map (·.1))∧(∀r c,dN (lo.map (·.1)) r c↔fH (l.map FV.frag) x r c)∧lo.length≤240∧(∀p∈lo,p.1.hs.length≤396)∧Below w.heap.size w w':=by
 obtain⟨a,cap,rfl,hK,_⟩:=hE;have H:=aI hK;have HG:=aI hG;have HX:=aI hx;have A0:=hG.1.len;obtain⟨len,u⟩:=aG l.length;have EL:=aI u;rw[u]at H A0 ⊢;clear hK u hG hx;go_enter func111,ntmps111;go_wp2;go_loopw [5,6] (fun o c wr=>∃(k:Nat) (lo:List EV),k≤len∧c=.int .i64 k∧RowF wr w.heap.size o lo∧HolB w.heap.size lo∧CanW (lo.map (·.1))∧(∀r c,dN (lo.map (·.1)) r c↔Xw l (aX l x k) r c)∧lo.length≤k * 20∧(∀p∈lo,p.1.hs.length≤k * 33)∧Below w.heap.size w wr)
  (fun _ c _=>len-(intOf c).toNat)
 case atStart=>exact⟨0,[],RF _,rfl,RowF.nil _ _,(fun p J=>by cases J),CanW.nil,(fun r c=>⟨fun h=>absurd h (jN r c),fun⟨i,hi,_⟩=>by cases hi⟩),RH _,aD,PS _ _⟩
 obtain⟨k,lo,hk,rfl,hF,P,hC,Q,hl,hh,hb⟩:=hrel;have HF:=aI hF;have K:=aI P;have HC:=aI hC;have C:=aI Q;have Z:=aI hl;have HH:=aI hh;have HB:=aI hb;clear hF P hC Q hl hh;have i0:(0:Int)≤(k:Int):=aA;by_cases hlt:k<len
 ·have i1:(k:Int)<(len:Int):=aA;have Hr:=H.below hb;obtain⟨b,off,rfl,A2,F,A⟩:=Hr.cells k hlt;have j:=Hr.mem hlt;have D:=Hr.frags _ j;have y:=HG.2.vec _ j;have m:=HG.1.vec _ j;have n:=HG.1.hs _ j;have SY:=aI (fun h=>mG (l:=l) (x:=x) (k:=k) h);have SN:=aI (fun h=>pB (l:=l) (x:=x) (k:=k) h);obtain⟨p,ep⟩:=aG (l.getD k FV.z);have EP:=aI ep;rw[ep]at F A D SY SN y m n;have E:=aI (fun W (hW:Below wr.heap.size wr W)=>D.vec.below hW);obtain⟨⟨ai,ci,ei,hP,_⟩,⟨av,cv,ev,_⟩⟩:=D;have L:=aI (mO ai p.items.length ci p.items x wr hP HX);rw[sI]at L;obtain⟨b1,G⟩:=aG (decide (aV p.items x));have M:=aI G;rw[G]at L;obtain⟨items,iv,vec,vv⟩:=p;simp only at F A ei ev hP L SY SN y m n E;subst ei;subst ev;have RV:=aI y;have A1:=aI n;obtain⟨ni,R⟩:=aG items.length;rw[R]at F L;have N:=aI m;obtain⟨nv,I⟩:=aG vec.length;have A4:=aI I;rw[I]at A E;clear ep hb Hr j hP R G I y n m;go_wp2_with fail;refine L.mono ?_;rintro e w3 ⟨rfl,s⟩;have B3:=aI (aN HB s);have F3:=aI (HF.only (may:=fun _=>False) (Only.of_below s) (fun _ h=>h.elim))
  cases b1 with
  | false=>
    have SE:=aI (SN (of_decide_eq_false M));clear s;go_wp2;go_roundw
    case rel=>exact⟨k+1,lo,aA,by go_num,F3,K,HC,(fun r c=>by rw[SE.out];exact C r c),by have:=Z.out;omega,(fun p J=>by have:=HH.out p J;omega),B3⟩
    simp[intOf];omega
  | true=>
    have SE:=aI (SY (of_decide_eq_true M));have d2:w3.cell? ⟨b,off+k * 2+1,none⟩=some (.slice av nv cv):=aM s A2 A;have KD:=aI (Pn (op:=0) (tk:=vO) (.inl ⟨rfl,rfl⟩) u5 (.slice av nv cv) lo vec (k * 33) 30 w3 F3.vecAt (E w3 s) (CanV.right (CanW.v HC)) RV HH A1 aA (by have:=Z.out;omega) (by have:=N.out;omega));clear s;go_wp2_with fail;refine KD.mono ?_;rintro e w4 ⟨v4,B,rfl,S,T,U,V,A3,X,Y⟩;have F4:=aI (S.base B3.size);have H4:=aI (T.mono B3.size);have C4:=aI U;have K4:=aI (show ∀r c,dN (B.map (·.1)) r c↔Xw l (aX l x (k+1)) r c from fun r c=>by
     rw[V,SE.out,Vu,← C.out r c,EP.out];unfold zL vO;simp)
    have L4:=aI (show B.length≤(k+1) * 20 from by have:=Z.out;have:=N.out;omega);have Q4:=aI (show ∀p∈B,p.1.hs.length≤(k+1) * 33 from fun p J=>by have:=X p J;omega);have B4:=aI (aN B3 Y);clear S T U V A3 X Y;go_wp2;go_roundw
    case rel=>exact⟨k+1,B,aA,by go_num,F4,H4,C4,K4,L4,Q4,B4⟩
    simp[intOf];omega
 obtain rfl:len=k:=aA;have KE:=aI (show ∀r c,dN (lo.map (·.1)) r c↔fH (l.map FV.frag) x r c from fun r c=>by
  have:=C.out r c;rw[← EL.out]at this;exact this.trans rZ)
 clear hb;go_wp2;go_ret;have O:∃v lo,(.returned u5:Ending)=.returned v∧RowF wr w.heap.size v lo∧HolB w.heap.size lo∧CanW (lo.map (·.1))∧(∀r c,dN (lo.map (·.1)) r c↔fH (l.map FV.frag) x r c)∧lo.length≤240∧(∀p∈lo,p.1.hs.length≤396)∧Below w.heap.size w wr:=⟨u5,lo,rfl,HF,K,HC,KE,by have:=Z.out;omega,(fun p J=>by have:=HH.out p J;omega),HB⟩;first | exact O | (obtain⟨v1,l1,h1,h2⟩:=O;exact⟨v1,h1,l1,h2⟩)
theorem Jn(v:Value)(l:List FV)(x y:Int)(w:World)(hE:KnwAt w v l)(hx:aL x)(hy:aL y)(V:l.length≤1000000) :
  Calls prog 220 #[v,.int .u64 x,.int .u64 y] w fun e w'=>e=.returned (.bool (decide (aX l x l.length=aX l y l.length)))∧Below w.heap.size w w':=by
 have A0:prog.follows .mixedOrders=true:=aC;obtain⟨a,cap,rfl,C,_⟩:=hE;have H:=aI C;have HX:=aI (PC hx hy);obtain⟨len,r⟩:=aG l.length;have EL:=aI r;rw[r]at H V ⊢;clear C r hx hy;go_enter func220,ntmps220;go_wp2;go_loopw [7] (fun c wr=>∃k:Nat,k≤len∧c=.int .i64 k∧aX l x k=aX l y k∧Below w.heap.size w wr)
  (fun c _=>len-(intOf c).toNat)
 case atStart=>exact⟨0,RF _,rfl,rfl,PS _ _⟩
 obtain⟨k,hk,rfl,s,hb⟩:=hrel;have HS:=aI s;have HB:=aI hb;clear s;have i0:(0:Int)≤(k:Int):=aA;by_cases hlt:k<len
 ·have i1:(k:Int)<(len:Int):=aA;have Z:=H.below hb;obtain⟨b,off,rfl,P,u,_⟩:=Z.cells k hlt;have B:=Z.mem hlt;have D:=Z.frags _ B;have SY:=aI (fun z h=>mG (l:=l) (x:=z) (k:=k) h);have SN:=aI (fun z h=>pB (l:=l) (x:=z) (k:=k) h);have SM:=aI (fun z=>dG (l:=l) (x:=z) (m:=len) (i:=k));obtain⟨p,ep⟩:=aG (l.getD k FV.z);rw[ep]at u D SY SN SM;have RG:=aI (fun W (Y:Below wr.heap.size wr W)=>D.items.below Y);obtain⟨⟨ai,ci,ei,hP,A3⟩,_⟩:=D;have L:=aI (fun W (Y:Below wr.heap.size wr W)=>mO ai p.items.length ci p.items x W (hP.below Y) HX.1);have M:=aI (fun W (Y:Below wr.heap.size wr W)=>mO ai p.items.length ci p.items y W (hP.below Y) HX.2);rw[sI]at L M;obtain⟨b1,I⟩:=aG (decide (aV p.items x));obtain⟨b2,J⟩:=aG (decide (aV p.items y));have E:=aI I;have F:=aI J;rw[I]at L;rw[J]at M;obtain⟨items,iv,vec,vv⟩:=p;simp only at u ei hP L M SY SN SM E F;subst ei;obtain⟨ni,Q⟩:=aG items.length;rw[Q]at u L M;obtain⟨ne,A⟩:=aG (b1 != b2);have N:=aI A;clear ep Z B hP Q I J RG A3;go_wp2_with fail;refine wp_region_held_drew (S:=Below wr.heap.size wr) A0 (aS (PS _ _)) (fun hS=>?_);obtain⟨wd,R⟩:=aG wr.drew;rw[R]at hS ⊢;clear R;refine aP 0 14 (.slice (some ⟨b,off,none⟩) len cap) ?_;refine aP 1 15 (.int .i64 (k:Int)) ?_;refine aP 2 16 (.pointer (some ⟨b,off+k * 2,none⟩)) ?_;refine aP 3 17 (.pointer (some ⟨b,off+k * 2,none⟩)) ?_;refine dL 4 18 (.slice ai ni ci) ?_ ?_
  ·intro X hX;have b0:=aM hX P u;go_simp
  refine aP 5 19 (.int .u64 x) ?_;refine aP 7 21 (.slice (some ⟨b,off,none⟩) len cap) ?_;refine aP 8 22 (.int .i64 (k:Int)) ?_;refine aP 9 23 (.pointer (some ⟨b,off+k * 2,none⟩)) ?_;refine aP 10 24 (.pointer (some ⟨b,off+k * 2,none⟩)) ?_;refine dL 11 25 (.slice ai ni ci) ?_ ?_
  ·intro X hX;have b0:=aM hX P u;go_simp
  refine aP 12 26 (.int .u64 y) ?_;have j:=hS;refine cW 6 fun K C=>?_;go_simp;refine(L wd j).mono ?_;rintro e w5 ⟨rfl,T⟩;have n:=j.trans (T.mono j.size);clear T;go_simp;refine C _ _ n (fun _=>?_);clear C K;refine cW 13 fun K C=>?_;go_simp;refine(M w5 n).mono ?_;rintro e w6 ⟨rfl,U⟩;have G:=n.trans (U.mono n.size);clear U;go_simp;refine C _ _ G (fun _=>?_);clear C K;have B6:=aI (HB.trans (G.mono HB.size));have A1:(b1 != b2)=ne:=A;have O:(b1 == b2)=!ne:=by rw[← A];cases b1<;>cases b2<;>rfl
  refine aP 14 28 (.bool ne) ?_;refine iM ?_;clear hS j n G A1 O A hb
  cases ne with
  | true=>
    have NO:=aI (show decide (aX l x len=aX l y len)=false from decide_eq_false (fun e=>by
     have h1:=SM.out x;have h2:=SM.out y;rw[e]at h1;have h3:aV items x↔aV items y:=⟨fun h=>(h2.1 (h1.2 ⟨hlt,h⟩)).2,fun h=>(h1.1 (h2.2 ⟨hlt,h⟩)).2⟩;have h4:=N.out;have h5:b1=b2:=by rw[← E.out,← F.out];exact decide_eq_decide.2 h3
     rw[h5]at h4;simp at h4))
    go_wp2;go_ret;exact⟨by rw[NO.out];rfl,B6⟩
  | false=>
    have SK:=aI (show aX l x (k+1)=aX l y (k+1)from by
     have h4:=N.out;have h5:b1=b2:=by simpa using h4
     have h6:aV items x↔aV items y:=by
      have e1:=E.out;have e2:=F.out;rw[h5]at e1;exact decide_eq_decide.1 (e1.trans e2.symm)
     by_cases q:aV items x
     ·rw[SY.out x q,SY.out y (h6.1 q),HS.out]
     rw[SN.out x q,SN.out y (fun h=>q (h6.2 h)),HS.out])
    go_wp2;go_roundw
    case rel=>exact⟨k+1,aA,by go_num,SK,B6⟩
    simp[intOf];omega
 obtain rfl:len=k:=aA;have A2:=aI (show decide (aX l x len=aX l y len)=true from decide_eq_true HS);clear hb;go_wp2;go_ret;exact⟨by rw[A2.out];rfl,HB⟩
def fS (l:List FV) (S:List Int) (k:Nat):List Int:=(S.take k).filter fun x=>decide (x=0) || !decide (aX l (x-1) l.length=aX l x l.length)
theorem Ws(l:List FV)(S:List Int)(k:Nat):(fS l S k).length≤k:=by
 unfold fS;exact RI (List.length_filter_le _ _) (by rw[List.length_take];omega)
theorem FG{l:List FV}{S:List Int}{k:Nat}(h:k<S.length){x:Int}(e:S.getD k 0=x)(b:x=0∨aX l (x-1) l.length≠aX l x l.length):fS l S (k+1)=fS l S k ++ [x]:=by
 rw[bP h]at e;unfold fS;rw[QM h,QY,e];congr 1
 rw[List.filter_cons_of_pos (by rcases b with h | h<;>simp[h])];rfl
theorem IP{l:List FV}{S:List Int}{k:Nat}(h:k<S.length){x:Int}(e:S.getD k 0=x)(b:x≠0)(j:aX l (x-1) l.length=aX l x l.length):fS l S (k+1)=fS l S k:=by
 rw[bP h]at e;unfold fS;rw[QM h,QY,e,List.filter_cons_of_neg (by simp[b,j])];simp
theorem IM{l:List FV}{S:List Int}(n:eZ S)(r:∀f∈l,∀x∈gD f.items,x∈S):StOk l (fS l S S.length):=by
 unfold fS;rw[List.take_length];refine⟨fun x m=>n.word x (List.mem_filter.1 m).1,n.asc.filter _,List.mem_filter.2 ⟨n.zero,aD⟩,fun x m h0 p=>?_⟩;by_cases hm:x∈S
 ·by_cases q:aX l x l.length=aX l (x-1) l.length
  ·exact q
  exact absurd (List.mem_filter.2 ⟨hm,by have:¬aX l (x-1) l.length=aX l x l.length:=fun e=>q e.symm
                                         simp[this]⟩) p
 unfold aX;refine List.filter_congr fun i hi=>?_;have b:i<l.length:=by simpa using hi
 have j:l.getD i FV.z∈l:=by rw[QI,PX b,Option.getD_some];exact QE b
 exact decide_eq_decide.2 (sY (r _ j) x h0 m hm)
theorem qL:∀(l:List FV),nQ (l.map fun f=>(f.iv,f.items))=bD l
 | []=>rfl
 | f :: l=>by
   have:=qL l;simp only[nQ,bD,PY,List.sum_cons]at *;omega
theorem Zv:(prog.info? 56).map (fun i=>(i.zero,i.size,i.bytes))=some (some (.slice none 0 0),1,24):=aC
theorem Yw:uA 315 56 1:=rR underlying315 Zv aB rfl aB
theorem Ck(v:Value)(l:List FV)(w:World)(hE:KnwAt w v l)(C5:l.length≤1000)(A0:bD l≤100000) :
  Calls prog 165 #[v] w fun e w'=>∃v' ss,e=.returned v'∧OwnI w' w.heap.size v' ss∧StOk l ss∧ss.length≤1+2 * bD l∧Below w.heap.size w w':=by
 have A4:prog.follows .mixedOrders=true:=aC;have A5:=aI (fun W (hW:Below w.heap.size w W) x y hx hy=>Jn v l x y W (hE.below hW) hx hy aA);have A6:=aI A0;obtain⟨a,cap,rfl,hK,_⟩:=hE;have H:=aI hK;obtain⟨len,Q⟩:=aG l.length;have EL:=aI Q;rw[Q]at H C5 A5 ⊢;clear hK Q A0;go_enter func165,ntmps165;go_wp2;go_loopw [3,4] (fun o c wr=>∃k:Nat,k≤len∧c=.int .i64 k∧wr.ownsRow w.heap.size 56 1 o k ((l.take k).map FV.iv)∧Below w.heap.size w wr) (fun _ c _=>len-(intOf c).toNat)
 case atStart=>exact⟨0,RF _,rfl,PU _ _ _ _,PS _ _⟩
 obtain⟨k,hk,rfl,hO,R⟩:=hrel;have L:=aI hO;have U:=aI R;clear hO;have i0:(0:Int)≤(k:Int):=aA;by_cases hlt:k<len
 ·have i1:(k:Int)<(len:Int):=aA;have Hr:=H.below R;obtain⟨b,off,rfl,F,m,_⟩:=Hr.cells k hlt;have s:=Hr.mem hlt;obtain⟨ai,ci,ei,_⟩:=(Hr.frags _ s).items;have TK:=aI (show(l.take (k+1)).map FV.iv=(l.take k).map FV.iv ++ [(l.getD k FV.z).iv] from by rw[fC (by rw[EL.out];exact hlt),QZ];rfl);rw[ei]at m TK;obtain⟨ni,B9⟩:=aG ((l.getD k FV.z).items.length);rw[B9]at m TK;have M:=aI (aJ U (.cells #[.slice ai ni ci] 56));obtain⟨v4,w4,Y,D,E,_⟩:=rU Yw (W:=wr.alloc (.cells #[.slice ai ni ci] 56)) (B:=wr.heap.size) (cx:=[.slice ai ni ci]) (bJ L (aJ (PS _ _) _)) (cN (vs:=[.slice ai ni ci]) (aK _ _ rfl)) rfl (by intro u hu;rw[QF]at hu;subst hu;rfl) aA M.size 315;have O4:=aI D;have B4:=aI (M.trans (E.below (n:=w.heap.size) M.size (fun q hq=>(L.lt q hq).1)));clear D E ei B9 Hr s R;go_wp2_with(first | (at_builtin;go_loud(refine bV rfl _ _ rfl rfl rfl Y ?_)) | fail)
  clear Y;go_wp2;go_roundw
  case rel=>
   have j:∃J:Nat,J≤len∧(.int .i64 ((k:Int)+1):Value)=.int .i64 J∧w4.ownsRow w.heap.size 56 1 v4 J ((l.take J).map FV.iv)∧Below w.heap.size w w4:=⟨k+1,aA,aD,by rw[TK.out];exact O4,B4⟩;first | exact j | ((repeat apply PF);exact⟨j,rfl⟩)
  simp[intOf];omega
 obtain rfl:len=k:=aA;have O:=L.out;rw[QJ (by rw[EL.out];exact RH _)]at O;have A7:=aI (show ∃ad cp,u3=.slice ad len cp∧RgsAt wr ad len (l.map fun f=>(f.iv,f.items))from by
  have A8:∀p∈(l.map fun f=>(f.iv,f.items)),RgAt wr p.1 p.2:=fun p hp=>by
   obtain⟨f,hf,rfl⟩:=List.mem_map.1 hp;exact((H.below R).frags f hf).items
  have A9:(l.map fun f=>(f.iv,f.items)).length=len:=by rw[QR,EL.out]
  rcases fF O with⟨e1,e2,_⟩ | ⟨g,cp,e1,_,h3,_,_,h7⟩
  ·exact⟨none,0,by rw[e1,e2],A9,aA,A8,fun i hi=>absurd hi aA⟩
  refine⟨_,cp,e1,A9,aA,A8,fun i hi=>⟨g,0,rfl,h3,?_⟩⟩;have B0:i<l.length:=by rw[EL.out];exact hi
  have:=h7 i (l.getD i FV.z).iv (by simp[QI,PX B0]);have ea:(⟨g,0,none⟩:Addr).add i=⟨g,0+i,none⟩:=by unfold Addr.add;split<;>simp_all
  rw[ea]at this;rw[this];simp[QI,PX B0])
 obtain⟨ad,cp,eu,Z⟩:=A7.out;have KS:=aI (uG ad len cp _ wr Z (by rw[qL];have:=A6.out;omega));rw[qL]at KS;have A1:=aI R;obtain⟨wa,C8⟩:=aH wr;obtain⟨ua,C9⟩:=aH u3;subst C8;subst C9;subst eu;clear O Z A7 L U R;go_wp2_with fail;refine KS.mono ?_;rintro e r ⟨vs,S,rfl,A2,C0,C1,C2,C3⟩;have SO:=aI C0;have SP:=aI (show ∀f∈l,∀x∈gD f.items,x∈S from fun f hf x hx=>(C1 x).2 (by
  unfold eC;refine List.mem_cons_of_mem _ (List.mem_flatMap.2 ⟨f.items,?_,hx⟩);rw[QJ (by rw[QR,EL.out];exact RH _)];exact List.mem_map.2 ⟨(f.iv,f.items),List.mem_map.2 ⟨f,hf,rfl⟩,rfl⟩))
 have B1:=aI (A1.trans (C3.mono A1.size));obtain⟨N,eN⟩:=aG S.length;have EN:=aI eN;have NL:=aI (show N≤1+2 * bD l from by rw[← eN];exact C2);have hN:N≤1000000:=by have:=NL.out;have:=A6.out;omega
 obtain⟨a0,c0,rfl,hI,_⟩:=A2.ints aA;rw[eN]at hI;have HI:=aI hI;have C6:=aI A2.words;rw[eN];clear A2 C0 C1 C2 C3 hI eN KS A1;go_wp2;go_loopw [6,7] (fun o c wr=>∃k:Nat,k≤N∧c=.int .i64 k∧OwnI wr r.heap.size o (fS l S k)∧Below r.heap.size r wr) (fun _ c _=>N-(intOf c).toNat)
 case atStart=>exact⟨0,RF _,rfl,OwnI.nil _ _,PS _ _⟩
 obtain⟨k,hk,rfl,hO,R⟩:=hrel;have L:=aI hO;have U:=aI R;clear hO;have i0:(0:Int)≤(k:Int):=aA;by_cases hlt:k<N
 ·have i1:(k:Int)<(N:Int):=aA;have P:k<S.length:=by rw[EN.out];exact hlt
  obtain⟨b,off,rfl,F,m⟩:=(HI.below R).cells k hlt;have s:S.getD k 0∈S:=by rw[bP P];exact QE P
  have WX:=aI (C6 _ s);have FY:=aI (fun x e hp=>FG (l:=l) P (x:=x) e hp);have FN:=aI (fun x e hp hq=>IP (l:=l) P (x:=x) e hp hq);obtain⟨x,ex⟩:=aG (S.getD k 0);have EX:=aI ex;rw[ex]at m WX;have FL:=aI (Ws l S k);have A:=aI (show ∀W,Below wr.heap.size wr W→OwnI W r.heap.size u6 (fS l S k)from fun W hW=>⟨bJ L.row hW,L.words⟩);clear ex s P R;by_cases hx0:x=0
  ·have d1:decide (x=0)=true:=decide_eq_true hx0;have d2:(x == 0)=true:=by simp[hx0]
   have FE:=aI (FY x EX (.inl hx0));clear hx0;go_wp2_with fail;refine wp_region_held_drew (S:=Below wr.heap.size wr) A4 (aS (PS _ _)) (fun V=>?_);obtain⟨wd,T⟩:=aG wr.drew;rw[T]at V ⊢;clear T;refine aP 0 30 (.slice (some ⟨b,off,none⟩) N c0) ?_;refine aP 1 31 (.int .i64 (k:Int)) ?_;refine aP 2 32 (.pointer (some ⟨b,off+k,none⟩)) ?_;refine dL 3 33 (.int .u64 x) ?_ ?_
   ·intro X hX;have b0:=aM hX F m;go_simp
   refine aP 4 34 (.bool true) ?_;refine aP 5 35 (.bool true) ?_;refine jB 6 36 ?_;refine jB 7 37 ?_;refine jB 8 38 ?_;refine jB 9 39 ?_;refine jB 10 40 ?_;refine jB 11 41 ?_;refine jB 12 42 ?_;refine jB 13 43 ?_;refine jB 14 44 ?_;refine jB 15 45 ?_;refine jB 16 46 ?_;refine jB 17 47 ?_;refine aP 18 48 (.bool true) ?_;have BD:=aI (show Below r.heap.size r wd from U.trans (V.mono U.size));have B2:=aI V.size;have B3:=aM V F m;have C:=aI V;refine iM ?_;clear V;have OD:=aI (show OwnI wd r.heap.size u6 (fS l S k)from A wd C);have M:=aI (aJ BD (.cells #[.int .u64 x] 57));obtain⟨v4,w4,Y,D,E⟩:=tV (A _ (C.trans ((aJ (PS wd.heap.size wd) (.cells #[.int .u64 x] 57)).mono C.size))) rfl (cN (vs:=[.int .u64 x]) (aK wd (.cells #[.int .u64 x] 57) rfl)) WX (by have:=FL.out;omega) M.size 89;have O4:=aI D;have B4:=aI (M.trans (E.below (n:=r.heap.size) M.size (fun q hq=>(L.row.lt q hq).1)));clear D E;go_wp2_with(first | (at_builtin;go_loud(refine bV rfl _ _ rfl rfl rfl Y ?_)) | fail)
   clear Y;go_wp2;go_roundw
   case rel=>
    have j:∃J:Nat,J≤N∧(.int .i64 ((k:Int)+1):Value)=.int .i64 J∧OwnI w4 r.heap.size v4 (fS l S J)∧Below r.heap.size r w4:=⟨k+1,aA,aD,by rw[FE.out];exact O4,B4⟩;first | exact j | ((repeat apply PF);exact⟨j,rfl⟩)
   simp[intOf];omega
  have d1:decide (x=0)=false:=decide_eq_false hx0;have d2:(x == 0)=false:=by simp[hx0]
  have D0:0<x:=by have:=WX.1;omega
  have q8:IntKind.u64.wrap (x-1)=x-1:=by rw[IntKind.wrap_u64];have:=WX.2;omega
  have C7:=aI (show aL (x-1)from⟨aA,by have:=WX.2;omega⟩);have KM:=aI (fun W (hW:Below r.heap.size r W)=>A5 W (B1.trans (hW.mono B1.size)) (x-1) x C7 WX);have B5:=aI (FY x EX);have B6:=aI (FN x EX hx0);rw[EL.out]at B5 B6;obtain⟨sm,A3⟩:=aG (decide (aX l (x-1) len=aX l x len));have B7:=aI A3;rw[A3]at KM;clear hx0 A3;go_wp2_with fail;refine wp_region_held_drew (S:=Below wr.heap.size wr) A4 (aS (PS _ _)) (fun V=>?_);obtain⟨wd,T⟩:=aG wr.drew;rw[T]at V ⊢;clear T;refine aP 0 30 (.slice (some ⟨b,off,none⟩) N c0) ?_;refine aP 1 31 (.int .i64 (k:Int)) ?_;refine aP 2 32 (.pointer (some ⟨b,off+k,none⟩)) ?_;refine dL 3 33 (.int .u64 x) ?_ ?_
  ·intro X hX;have b0:=aM hX F m;go_simp
  refine aP 4 34 (.bool false) ?_;refine aP 5 35 (.bool false) ?_;refine aP 6 36 (.slice a len cap) ?_;refine aP 7 37 (.slice (some ⟨b,off,none⟩) N c0) ?_;refine aP 8 38 (.int .i64 (k:Int)) ?_;refine aP 9 39 (.pointer (some ⟨b,off+k,none⟩)) ?_;refine dL 10 40 (.int .u64 x) ?_ ?_
  ·intro X hX;have b0:=aM hX F m;go_simp
  refine aP 11 41 (.int .u64 (x-1)) ?_;refine aP 12 42 (.slice (some ⟨b,off,none⟩) N c0) ?_;refine aP 13 43 (.int .i64 (k:Int)) ?_;refine aP 14 44 (.pointer (some ⟨b,off+k,none⟩)) ?_;refine dL 15 45 (.int .u64 x) ?_ ?_
  ·intro X hX;have b0:=aM hX F m;go_simp
  have G:=V;refine cW 16 fun K hK=>?_;go_simp;refine(KM wd (U.trans (G.mono U.size))).mono ?_;rintro e w5 ⟨rfl,C4⟩;have I:=G.trans (C4.mono G.size);clear C4;go_simp;refine hK _ _ I (fun _=>?_);clear hK K;refine aP 17 47 (.bool (!sm)) ?_;refine aP 18 48 (.bool (!sm)) ?_;have BD:=aI (show Below r.heap.size r w5 from U.trans (I.mono U.size));have B3:=aM I F m;have B2:=aI I.size;have C:=aI I;refine iM ?_;clear V G I
  cases sm with
  | true=>
    have FE:=aI (B6 (of_decide_eq_true B7));have OD:=aI (A _ C);clear B3;go_wp2;go_roundw
    case rel=>exact⟨k+1,aA,by go_num,by rw[FE.out];exact OD,BD⟩
    simp[intOf];omega
  | false=>
    have FE:=aI (B5 (.inr (of_decide_eq_false B7)));have OD:=aI (show OwnI w5 r.heap.size u6 (fS l S k)from A w5 C);have M:=aI (aJ BD (.cells #[.int .u64 x] 57));obtain⟨v4,w4,Y,D,E⟩:=tV (A _ (C.trans ((aJ (PS w5.heap.size w5) (.cells #[.int .u64 x] 57)).mono C.size))) rfl (cN (vs:=[.int .u64 x]) (aK w5 (.cells #[.int .u64 x] 57) rfl)) WX (by have:=FL.out;omega) M.size 89;have O4:=aI D;have B4:=aI (M.trans (E.below (n:=r.heap.size) M.size (fun q hq=>(L.row.lt q hq).1)));clear D E;go_wp2_with(first | (at_builtin;go_loud(refine bV rfl _ _ rfl rfl rfl Y ?_)) | fail)
    clear Y;go_wp2;go_roundw
    case rel=>
     have j:∃J:Nat,J≤N∧(.int .i64 ((k:Int)+1):Value)=.int .i64 J∧OwnI w4 r.heap.size v4 (fS l S J)∧Below r.heap.size r w4:=⟨k+1,aA,aD,by rw[FE.out];exact O4,B4⟩;first | exact j | ((repeat apply PF);exact⟨j,rfl⟩)
    simp[intOf];omega
 obtain rfl:N=k:=aA;have ST:=aI (show StOk l (fS l S N)from by have:=IM SO SP;rwa [EN.out]at this);have LE:=aI (RI (Ws l S N) NL);have OE:=aI (show OwnI wr w.heap.size u6 (fS l S N)from⟨bC L.row B1.size,L.words⟩);have BE:=aI (B1.trans (U.mono B1.size));clear R;go_wp2;go_ret;have B8:∃v' ss,(.returned u6:Ending)=.returned v'∧OwnI wr w.heap.size v' ss∧StOk l ss∧ss.length≤1+2 * bD l∧Below w.heap.size w wr:=⟨u6,_,rfl,OE,ST,LE,BE⟩;first | exact B8 | (obtain⟨v1,s1,h1,h2⟩:=B8;exact⟨v1,h1,s1,h2⟩)
theorem Qc(v:Value)(l:List FV)(w:World)(hE:KnwAt w v l)(T:l.length≤1000)(s:bD l≤100000) :
  Calls prog 110 #[v] w fun e w'=>∃v ps,e=.returned v∧OwnL w' w.heap.size 123 v ps∧lM l ps∧ps.length≤1+2 * bD l∧Below w.heap.size w w':=by
 have KM:=aI (fun W (C:Below w.heap.size w W) x hx=>zE v l x W (hE.below C) hx aA);have KS:=aI (Ck v l w hE T s);obtain⟨a,cap,rfl,_⟩:=hE;have H:=aI s;clear s;go_enter func110,ntmps110;go_wp2_with fail;refine KS.mono ?_;rintro e y ⟨vs,ss,rfl,O,p,E,P⟩;have ST:=aI p;have SO:=aI (show eZ ss from⟨p.asc,p.zero,p.words⟩);have I:=aI P;obtain⟨a0,c0,rfl,hI,_⟩:=O.ints (by have:=H.out;omega);obtain⟨N,eN⟩:=aG ss.length;have EN:=aI eN;rw[eN]at hI E ⊢;have HI:=aI hI;have hN:N≤1000000:=by have:=H.out;omega
 have NL:=aI E;clear O p P eN hI E;go_wp2;go_loopw [4,5] (fun o c wr=>∃(k:Nat) (ps:List Iv),k≤N∧c=.int .i64 k∧OwnL wr y.heap.size 123 o ps∧PsK l ss k ps∧Below y.heap.size y wr) (fun _ c _=>N-(intOf c).toNat)
 case atStart=>exact⟨0,[],RF _,rfl,⟨PU _ _ _ _,aD⟩,PsK.zero _ _,PS _ _⟩
 obtain⟨k,ps,hk,rfl,O,hP,C⟩:=hrel;have U:=aI O;have J:=aI hP;have HB:=aI C;have A3:(0:Int)≤(k:Int):=aA;clear hP O;by_cases hlt:k<N
 ·have i1:(k:Int)<(N:Int):=aA;have u:k<ss.length:=by rw[EN.out];exact hlt
  obtain⟨b,off,rfl,A1,A2⟩:=(HI.below C).cells k hlt;obtain⟨x,Y⟩:=aG (ss.getD k 0);have EX:=aI Y;rw[Y]at A2;have WX:=aI (show aL x from by rw[← Y];exact ST.words _ (jS u));have A0:=aI (KM wr (I.trans (C.mono I.size)) x WX);have PL:=aI J.len;have K:=aI C;clear Y A1 C;go_wp2_with fail;refine A0.mono ?_;rintro e w3 ⟨vm,rfl,hJ,r⟩;obtain⟨am,cm,rfl,_⟩:=aY hJ;have B3:=aI (HB.trans (r.mono HB.size));have V:=aI (show OwnL w3 y.heap.size 123 u4 ps from⟨bJ U.row r,U.words⟩);obtain⟨m,Z⟩:=aG ((aX l x l.length).length);rw[Z];by_cases hm:m=0
  ·have A:aX l x l.length=[]:=List.length_eq_zero_iff.1 aA;have X:=aI (J.skip (by rw[EX.out];exact A));subst hm;clear hJ r Z A;go_wp2;go_roundw
   case rel=>exact⟨k+1,ps,aA,by go_num,V,X,B3⟩
   simp[intOf];omega
  have L:aX l x l.length≠[]:=fun e=>hm (by rw[← Z,e];rfl);have q1:(0:Int)<(m:Int):=aA;have q2:decide ((0:Int)<(m:Int))=true:=decide_eq_true q1;have KP:=aI (wZ (some ⟨b,off,none⟩) N c0 k ss w3 (HI.below (K.trans (r.mono K.size))) SO hlt aA);have PW:=aI (kC SO (i:=k) u);have X:=aI (show PsK l ss (k+1) (ps ++ [((bQ ss k).1,(bQ ss k).2)])from J.push ST u (by rw[EX.out];exact L));obtain⟨pl,Q⟩:=aG ((bQ ss k).1);obtain⟨ph,R⟩:=aG ((bQ ss k).2);rw[Q,R]at KP PW X;clear hJ r Z hm L Q R u;go_wp2_with fail;refine KP.mono ?_;rintro e w4 ⟨rfl,F⟩;have B4:=aI (B3.trans (F.mono B3.size));have BA:=aI (aJ B4 (.cells #[.int .u64 pl,.int .u64 ph] 123));obtain⟨v5,w5,hr,D,S,_⟩:=rU pE (W:=w4.alloc (.cells #[.int .u64 pl,.int .u64 ph] 123)) (B:=w4.heap.size) (cx:=[.int .u64 pl,.int .u64 ph]) (bJ (bJ V.row F) (aJ (PS _ _) _)) (cN (vs:=[.int .u64 pl,.int .u64 ph]) (aK _ _ rfl)) rfl (kZ pl ph) (by have:=PL.out;omega) BA.size 56;have O5:=aI (show OwnL w5 y.heap.size 123 v5 (ps ++ [(pl,ph)])from⟨by rw[QW,← gS];exact D,fun z G=>by
   rcases List.mem_append.1 G with G | G
   ·exact V.words z G
   rw[QF]at G;subst G;exact⟨PW.1,PW.2.1⟩⟩)
  have B5:=aI (BA.trans (S.below (n:=y.heap.size) BA.size (fun q hq=>(V.row.lt q hq).1)));clear D S F;go_wp2_with(first | (at_builtin;go_loud(refine bV rfl _ _ rfl rfl rfl hr ?_)) | fail)
  clear hr;go_wp2;go_roundw
  case rel=>
   have j:∃(k':Nat) (ps:List Iv),k'≤N∧(.int .i64 ((k:Int)+1):Value)=.int .i64 k'∧OwnL w5 y.heap.size 123 v5 ps∧PsK l ss k' ps∧Below y.heap.size y w5:=⟨k+1,_,aA,aD,O5,X,B5⟩;first | exact j | ((repeat apply PF);exact⟨j,rfl⟩)
  simp[intOf];omega
 obtain rfl:N=k:=aA;have OK:=aI (show lM l ps from PsK.ok (by rw[EN.out];exact J) ST);have PL:=aI J.len;have OE:=aI (show OwnL wr w.heap.size 123 u4 ps from⟨bC U.row I.size,U.words⟩);have BE:=aI (I.trans (HB.mono I.size));clear C;go_wp2;go_ret;have M:∃v ps,(.returned u4:Ending)=.returned v∧OwnL wr w.heap.size 123 v ps∧lM l ps∧ps.length≤1+2 * bD l∧Below w.heap.size w wr:=⟨u4,ps,rfl,OE,OK,by have:=PL.out;have:=NL.out;omega,BE⟩;first | exact M | (obtain⟨v,ps,h1,h2⟩:=M;exact⟨v,h1,ps,h2⟩)
theorem Ep:∀{l b:List FV},l.map FV.frag=b.map FV.frag→bD l=bD b
 | [],[],_=>rfl
 | [],_ :: _,h=>by cases h
 | _ :: _,[],h=>by cases h
 | f :: l,g :: b,h=>by
   simp only[PY,List.cons.injEq]at h;have h1:=congrArg (fun q:Frag=>q.items.length) h.1;have h2:=Ep h.2;simp only[bD,FV.frag]at h1 ⊢;omega
theorem Nx{l:List FV}{x:Int}:(∃f∈l,aV f.items x)↔∃q∈l.map FV.frag,aV q.items x:=by
 constructor
 ·rintro⟨f,b,h⟩;exact⟨_,QV b,h⟩
 rintro⟨q,j,h⟩;obtain⟨f,b,rfl⟩:=List.mem_map.1 j;exact⟨f,b,h⟩
structure GI (l:List FV) (g:FV) (l':List FV):Prop where
 can:CanL l'
 kn:∀x r c,fH (l'.map FV.frag) x r c↔fH (l.map FV.frag) x r c∨(aV g.items x∧dN g.es r c)
 cov:∀x,(∃f∈l',aV f.items x)↔(∃f∈l,aV f.items x)∨aV g.items x
 len:l'.length≤l.length+1
 tot:bD l'≤bD l+g.items.length
 bnd:VecB l' 240 396
structure GC (g:FV):Prop where
 cor:cL g.items
 ne:g.items≠[]
 can:CanW g.es
 vne:g.es≠[]
 vec:g.vec.length≤240
 hs:∀p∈g.vec,p.1.hs.length≤396
theorem Xp{l:List FV}{j:Nat}{g:FV}{us:List Iv}{u:Value}(A:CanL l)(p:VecB l 240 396)(s:GC g)(n:j<l.length)(y:(l.getD j FV.z).es=g.es)(B:cL us)(hi:∀x,aV us x↔aV (l.getD j FV.z).items x∨aV g.items x)(D:us.length≤(l.getD j FV.z).items.length+g.items.length)(C:Bo l g.items):GI l g (l.set j ⟨us,u,g.vec,g.vv⟩):=by
 have m:(l.set j ⟨us,u,g.vec,g.vv⟩).map FV.frag=(gM l j us u).map FV.frag:=by
  unfold gM;rw[List.map_set,List.map_set];congr 1
  simp only[FV.frag];rw[show(l.getD j FV.z).vec.map (·.1)=g.vec.map (·.1)from y]
 refine⟨?_,fun x r c=>?_,fun x=>?_,aD,?_,⟨fun f b=>?_,fun f b=>?_,fun f b=>?_⟩⟩
 ·unfold CanL;rw[m];exact A.set (v:=u) n B hi C
 ·rw[m,Ng n hi,y]
 ·rw[Nx,m,← Nx,Nw n hi]
 ·rw[Ep m];have:=Eo n us u;omega
 all_goals rcases QT b with b | rfl
 ·exact p.can f b
 ·exact s.can
 ·exact p.vec f b
 ·exact s.vec
 ·exact p.hs f b
 exact s.hs
theorem Iu{l:List FV}{j:Nat}{g:FV}(p:CanL l)(n:VecB l 240 396)(m:GC g)(s:j≤l.length)(h1:∀i,i<j→i<l.length→lL (l.getD i FV.z).es g.es)(h2:∀i,j≤i→i<l.length→lL g.es (l.getD i FV.z).es)(u:Bo l g.items):GI l g (rB l j g):=by
 refine⟨p.ins h1 h2 ⟨m.cor,m.ne,m.can,m.vne⟩ u,fun x r c=>vW,fun x=>?_,by rw[lJ s];exact RH _,?_,⟨fun f b=>?_,fun f b=>?_,fun f b=>?_⟩⟩
 ·constructor
  ·rintro⟨f,b,h⟩;rcases cA.1 b with rfl | b
   ·exact .inr h
   exact .inl ⟨f,b,h⟩
  rintro(⟨f,b,h⟩ | h)
  ·exact⟨f,cA.2 (.inr b),h⟩
  exact⟨g,cA.2 (.inl rfl),h⟩
 ·unfold rB;rw[bN,bN];have:=bN (l.take j) (l.drop j);rw[List.take_append_drop]at this;simp only[bD];omega
 all_goals rcases cA.1 b with rfl | b
 ·exact m.can
 ·exact n.can f b
 ·exact m.vec
 ·exact n.vec f b
 ·exact m.hs
 exact n.hs f b
theorem Il{l:List FV}{k:Nat}(h:k<l.length)(g:FV):bH (l.set k g)=((bH l).set (k * 2) g.iv).set (k * 2+1) g.vv:=by
 induction l generalizing k with
 | nil=>simp at h
 | cons f l ih=>
   cases k with
   | zero=>rfl
   | succ k=>
     have:=ih (k:=k) (by simpa using h);rw[show(k+1) * 2=k * 2+1+1 by omega];simp only[bH,QA,List.flatMap_cons,List.cons_append,List.nil_append]at this ⊢;rw[this]
theorem KRow.set2{w:World}{base j n cap:Nat}{l:List FV}{k:Nat}(h:KRow w base (.slice (some ⟨j,0,none⟩) n cap) l)(y:k<l.length){g:FV}(z:FragT w g) :
  KRow ((w.setCell ⟨j,k * 2,none⟩ g.iv).setCell ⟨j,k * 2+1,none⟩ g.vv) base (.slice (some ⟨j,0,none⟩) n cap) (l.set k g):=by
 have m:=aR h.row (k:=j) rfl;have ho:Only (fun b=>b=j) w ((w.setCell ⟨j,k * 2,none⟩ g.iv).setCell ⟨j,k * 2+1,none⟩ g.vv):=((Only.refl (fun b=>b=j) w).setCell (p:=⟨j,k * 2,none⟩) (.inl rfl) _).setCell (p:=⟨j,k * 2+1,none⟩) (.inl rfl) _;have u:∀b,b=j→¬Typed w 96 b∧¬Typed w 123 b:=fun b r=>by
  rw[r];exact⟨Typed.not m aB,Typed.not m aB⟩
 refine⟨?_,fun f s=>?_⟩
 ·rw[QP,Il y];rcases h.row.2 with⟨hv,hl⟩ | ⟨g',cap',cur,hv,r,hc,h1,h2,h3,h4⟩
  ·cases hv
  injection hv with e1 e2 e3;injection e1 with e1;injection e1 with e1 _ _;subst e1;subst e3;refine⟨by rw[QP,QP];exact h.row.1,.inr ⟨j,cap,_,by rw[e2],r,heap_setCell_same _ _ (k * 2+1) _ _ _ (heap_setCell_same _ _ (k * 2) _ _ _ hc),h1,h2,by simpa using h3,?_⟩⟩;rw[Array.toList_setIfInBounds,RB,Array.toList_setIfInBounds,RB,h4]
 rcases QT s with s | rfl
 ·exact(h.frags f s).only ho u
 exact z.only ho u
theorem KRow.cellsAt{w:World}{base m n cap:Nat}{l:List FV}{k:Nat}(h:KRow w base (.slice (some ⟨m,0,none⟩) n cap) l)(B:k<l.length):m<w.heap.size∧w.cell? ⟨m,k * 2,none⟩=some (l.getD k FV.z).iv∧w.cell? ⟨m,k * 2+1,none⟩=some (l.getD k FV.z).vv∧(∀j,w.frozen? ⟨m,j,none⟩=false):=by
 obtain⟨a,c,e,u,_⟩:=h.know;obtain⟨b,off,p,y,r,s⟩:=u.cells k B;injection e with e3 e4 e5;rw[← e3]at p;injection p with p;injection p with e6 e7 _;subst e6;subst e7;rw[Nat.zero_add]at r s;refine⟨y,r,s,fun j=>?_⟩;obtain⟨C,A⟩:=aR h.row (k:=m) rfl;exact frozen_of_row _ _ j _ _ A
theorem Me:uA 23 80 2:=rR (z:=.agg #[.slice none 0 0,.slice none 0 0]) underlying23 (b:=48) aC aB rfl aB
theorem vQ:Rz 23 2:=⟨aC,fun W=>aC⟩
theorem KRow.inside{w w':World}{base b n k:Nat}{v m:Value}{l:List FV}{g:FV}(h:KRow w base v l)(p:FragT w g)(r:l.length=n)(y:k≤n)(s:Below w.heap.size w w')(j:base≤b)(u:w'.ownsRow b 80 2 m (n+1) ((bH l).take (k * 2) ++ [g.iv,g.vv] ++ (bH l).drop (k * 2))):KRow w' base m (rB l k g):=
 KRow.ins h p aA (Only.of_below s) (by rw[r];exact bC u j)
theorem pM{xs:List Int}{k:Nat}(h:k<xs.length):xs.drop k=xs.getD k 0 :: xs.drop (k+1):=by
 rw[List.drop_eq_getElem_cons h];simp[QI,PX h]
theorem Pq(va vb:Value)(l z:List EV)(w:World)(hE:VecAt w va l)(A3:VecAt w vb z)(h1:l.length≤1000000)(h2:z.length≤1000000)(h3:∀p∈l,p.1.hs.length≤1000000)(h4:∀p∈z,p.1.hs.length≤1000000)(V:(bG (l.map (·.1))).length≤100000000)(X:(bG (z.map (·.1))).length≤100000000) :
  Calls prog 108 #[va,vb] w fun e w'=>e=.returned (.int .i64 (cQ (bG (l.map (·.1))) (bG (z.map (·.1)))))∧Below w.heap.size w w':=by
 obtain⟨a,c,rfl,hA,_⟩:=hE;obtain⟨a',c',rfl,H,_⟩:=A3;have Z:=aI (xJ a l.length c l w hA.at' h3 h1 V);have KM:=aI (fun W (Y:Below w.heap.size w W)=>xJ a' z.length c' z W (H.at'.below Y) h4 h2 X);obtain⟨P,eP⟩:=aG (bG (l.map (·.1)));obtain⟨Q,eQ⟩:=aG (bG (z.map (·.1)));rw[eP]at Z V ⊢;rw[eQ]at KM X ⊢;have M:=aI (PC V X);clear hA H h1 h2 h3 h4 V X eP eQ;go_enter func108,ntmps108;go_wp2_with fail;refine Z.mono ?_;rintro e w1 ⟨v1,rfl,I,J⟩;have O1:=aI I;have B1:=aI J;clear I J;go_wp2_with fail;refine(KM _ B1).mono ?_;rintro e w2 ⟨v2,rfl,K,A⟩;have B2:=aI (aN B1 A);have E:=aI (show OwnI w2 w.heap.size v1 P from⟨bJ O1.row A,O1.words⟩);obtain⟨n,en⟩:=aG P.length;obtain⟨m,U⟩:=aG Q.length;obtain⟨a1,c1,rfl,B,_⟩:=E.ints (by have:=M.1;omega);obtain⟨a2,c2,rfl,C,_⟩:=K.ints (by have:=M.2;omega);rw[en]at B;rw[U]at C;have I1:=aI B;have I2:=aI C;rw[en,U];have N:=aI en;have O:=aI U;have hn:n≤100000000:=by have:=M.1;omega
 have hm:m≤100000000:=by have:=M.2;omega
 clear K A B C E O1 en U Z KM;go_wp2;go_loopw [7] (fun c wr=>∃k:Nat,k≤n∧k≤m∧c=.int .i64 k∧cQ P Q=cQ (P.drop k) (Q.drop k)∧Below w2.heap.size w2 wr)
  (fun c _=>n-(intOf c).toNat)
 case atStart=>exact⟨0,RF _,RF _,rfl,rfl,PS _ _⟩
 obtain⟨k,hk,A4,rfl,L,D⟩:=hrel;have R:=aI L;have HB:=aI D;have j:=aI (B2.trans (D.mono B2.size));clear L;have i0:(0:Int)≤(k:Int):=aA;by_cases hlt:k<n
 ·have i1:(k:Int)<(n:Int):=aA;have d1:decide ((k:Int)<(n:Int))=true:=decide_eq_true i1;by_cases hlt':k<m
  ·have i2:(k:Int)<(m:Int):=aA;have d2:decide ((k:Int)<(m:Int))=true:=decide_eq_true i2;obtain⟨g1,o1,rfl,A1,z1⟩:=(I1.below D).cells k hlt;obtain⟨g2,o2,rfl,A2,z2⟩:=(I2.below D).cells k hlt';have F:=aI (show cQ P Q=if P.getD k 0<Q.getD k 0 then -1 else if Q.getD k 0<P.getD k 0 then 1 else cQ (P.drop (k+1)) (Q.drop (k+1))from by
    rw[R.out,pM (xs:=P) (by rw[N.out];exact hlt),pM (xs:=Q) (by rw[O.out];exact hlt')];rfl)
   obtain⟨x,ex⟩:=aG (P.getD k 0);obtain⟨y,ey⟩:=aG (Q.getD k 0);rw[ex]at z1 F;rw[ey]at z2 F;clear ex ey D;have Q1:=fun(W:World) (Y:Below wr.heap.size wr W)=>PC (aM Y A1 z1) (aM Y A2 z2);have S:=aI Q1;clear Q1;by_cases h1:x<y
   ·have d3:decide (x<y)=true:=decide_eq_true h1;have r:=aI (show cQ P Q = -1 from by rw[F.out,if_pos h1]);go_wp2_with fail;go_quiet (fail);obtain⟨w4,b⟩:=aG (wr.drewN nq:World);have u:=aI (show Below wr.heap.size wr w4 from by rw[← b];exact aU (PS _ _) nq);rw[b];clear b;have j:=aI (j.trans (u.mono j.size));go_wp2;go_ret;exact⟨by first | (rw[r.out];done) | (rw[r.out];rfl),j⟩
   have d3:decide (x<y)=false:=decide_eq_false h1;by_cases h2:y<x
   ·have d4:decide (y<x)=true:=decide_eq_true h2;have r:=aI (show cQ P Q=1 from by rw[F.out,if_neg h1,if_pos h2]);go_wp2_with fail;go_quiet (fail);obtain⟨w4,b⟩:=aG (wr.drewN nq:World);have u:=aI (show Below wr.heap.size wr w4 from by rw[← b];exact aU (PS _ _) nq);rw[b];clear b;have j:=aI (j.trans (u.mono j.size));have z3:=(S w4 u).1;have z4:=(S w4 u).2;go_wp2_with fail;go_quiet (fail);obtain⟨w5,s⟩:=aG (w4.drewN nq:World);have T:=aI (show Below w4.heap.size w4 w5 from by rw[← s];exact aU (PS _ _) nq);rw[s];clear s;have j:=aI (j.trans (T.mono j.size));go_wp2;go_ret;exact⟨by first | (rw[r.out];done) | (rw[r.out];rfl),j⟩
   have d4:decide (y<x)=false:=decide_eq_false h2;have r:=aI (show cQ P Q=cQ (P.drop (k+1)) (Q.drop (k+1))from by rw[F.out,if_neg h1,if_neg h2]);go_wp2_with fail;go_quiet (fail);obtain⟨w4,b⟩:=aG (wr.drewN nq:World);have u:=aI (show Below wr.heap.size wr w4 from by rw[← b];exact aU (PS _ _) nq);rw[b];clear b;have j:=aI (j.trans (u.mono j.size));have z3:=(S w4 u).1;have z4:=(S w4 u).2;go_wp2_with fail;go_quiet (fail);obtain⟨w5,s⟩:=aG (w4.drewN nq:World);have T:=aI (show Below w4.heap.size w4 w5 from by rw[← s];exact aU (PS _ _) nq);rw[s];clear s;have j:=aI (j.trans (T.mono j.size));have A0:=aI ((HB.trans (u.mono HB.size)).trans (T.mono (RI HB.size u.size)));go_wp2;go_roundw
   case rel=>exact⟨k+1,aA,aA,by go_num,r,A0⟩
   simp[intOf];omega
  obtain rfl:m=k:=aA;have d2:decide ((m:Int)<(m:Int))=false:=aD;have r:=aI (show cQ P Q=1 from by
   rw[R.out,pM (xs:=P) (by rw[N.out];exact hlt),QC (l:=Q) (by rw[O.out];exact RH _)];rfl)
  have G:¬(n:Int)<(m:Int):=aA;have i4:(m:Int)<(n:Int):=aA;have d5:decide ((n:Int)<(m:Int))=false:=decide_eq_false G;have d6:decide ((m:Int)<(n:Int))=true:=decide_eq_true i4;clear D;go_wp2;go_ret;exact⟨by first | (rw[r.out];done) | (rw[r.out];rfl),j⟩
 obtain rfl:n=k:=aA;have d1:decide ((n:Int)<(n:Int))=false:=aD;have i4:¬(m:Int)<(n:Int):=aA;have d6:decide ((m:Int)<(n:Int))=false:=decide_eq_false i4;clear D;by_cases hnm:n<m
 ·have G:(n:Int)<(m:Int):=aA;have d5:decide ((n:Int)<(m:Int))=true:=decide_eq_true G;have r:=aI (show cQ P Q = -1 from by
   rw[R.out,QC (l:=P) (by rw[N.out];exact RH _),pM (xs:=Q) (by rw[O.out];exact hnm)];rfl)
  go_wp2;go_ret;exact⟨by first | (rw[r.out];done) | (rw[r.out];rfl),j⟩
 have G:¬(n:Int)<(m:Int):=aA;have d5:decide ((n:Int)<(m:Int))=false:=decide_eq_false G;have r:=aI (show cQ P Q=0 from by
  rw[R.out,QC (l:=P) (by rw[N.out];exact RH _),QC (l:=Q) (by rw[O.out];omega)];rfl)
 go_wp2;go_ret;exact⟨by first | (rw[r.out];done) | (rw[r.out];rfl),j⟩
theorem IV{W:World}{f:FV}{b:List EV}{l:Value}(r:VecAt W f.vv f.vec)(h2:VecAt W l b)(b1:f.vec.length≤240)(b2:∀p∈f.vec,p.1.hs.length≤396)(s:b.length≤240)(m:∀p∈b,p.1.hs.length≤396) :
  Calls prog 108 #[f.vv,l] W fun e w'=>e=.returned (.int .i64 (cQ (bG f.es) (bG (b.map (·.1)))))∧Below W.heap.size W w':=by
 have most:∀(vec:List EV),vec.length≤240→(∀p∈vec,p.1.hs.length≤396)→(bG (vec.map (·.1))).length≤1000000:=fun vec h1 h2=>by
  have:=wC (es:=vec.map (·.1)) (A:=396) (fun e n=>by
   obtain⟨p,j,rfl⟩:=List.mem_map.1 n;exact h2 p j)
  rw[QR]at this;have h3:vec.length * (3+2 * 396)≤240 * (3+2 * 396):=Nat.mul_le_mul_right _ h1;omega
 have u:=most f.vec b1 b2;have y:=most b s m;exact Pq f.vv l f.vec b W r h2 aA aA (fun p j=>by have:=b2 p j;omega) (fun p j=>by have:=m p j;omega) aA aA
theorem Hv(v:Value)(l:List FV)(w:World)(hE:KnwAt w v l)(hG:Jd w l)(hB:VecB l 240 396)(G8:l.length≤10000)(C2:bD l≤10000) :
  Calls prog 61 #[v] w fun e w'=>∃v' l',e=.returned v'∧KRow w' w.heap.size v' l'∧GrpK l l.length l'∧VecB l' 240 396∧Below w.heap.size w w':=by
 have C4:prog.follows .mixedOrders=true:=aC;obtain⟨a,cap,rfl,hK,_⟩:=hE;have H:=aI hK;have HG:=aI hG;have A9:=aI hB;have HT:=aI C2;obtain⟨len,A5⟩:=aG l.length;have EL:=aI A5;rw[A5]at H G8 ⊢;clear hK hG hB A5 C2;go_enter func61,ntmps61;go_wp2;go_loopw [3,4] (fun o c wr=>∃(k:Nat) (l':List FV),k≤len∧c=.int .i64 k∧KRow wr w.heap.size o l'∧GrpK l k l'∧VecB l' 240 396∧Below w.heap.size w wr) (fun _ c _=>len-(intOf c).toNat)
 case atStart=>exact⟨0,[],RF _,rfl,KRow.nil _ _,GrpK.zero _,VecB.nil _ _,PS _ _⟩
 obtain⟨k,l',hk,rfl,hR,hP,F4,hb⟩:=hrel;have HR:=aI hR;have HP:=aI hP;have O:=aI F4;have HB:=aI hb;have I7:(0:Int)≤(k:Int):=aA;clear hR hP F4;by_cases hlt:k<len;have i1:(k:Int)<(len:Int):=aA;have A0:k<l.length:=by rw[EL.out];exact hlt
 have Hr:=H.below hb;obtain⟨b,off,rfl,A6,F5,F6⟩:=H.cells k hlt;have A2:=aM hb A6 F5;have B0:=aM hb A6 F6;have G9:=RJ A6 hb.size;have H0:=aI A6;clear F5 F6 A6;have y:=Hr.mem hlt;have C5:=Hr.frags _ y;have KV:=aI (fun W (hW:Below w.heap.size w W) a' cap' (hV:EntsN W a' (l.getD k FV.z).vec.length (l.getD k FV.z).vec)=>Ft a' _ cap' (l.getD k FV.z).vec W hV (HG.can _ y) (fun e he=>by
  obtain⟨p,hp,rfl⟩:=List.mem_map.1 he;have:=A9.hs _ y p hp;omega) (by have:=A9.vec _ y;omega))
 have B1:=aI (HG.it _ y);have C6:=aI (HG.cor _ y);have C7:=aI (HG.can _ y);have B2:=aI (PC (A9.vec _ y) (A9.hs _ y));have C8:=aI (rJ y);have Y:=aI (fun hn=>HP.skip A0 hn);have A3:=aI (HP.apart HG A0);have IW:=aI (show ∀x,aV (l.getD k FV.z).items x→aL x from fun x hx=>by have:=cC C5.items.words hx;exact⟨this.1,this.2⟩);have C:=aI (show ∀(g:FV) (l4:List FV),g.items=(l.getD k FV.z).items→g.es=(l.getD k FV.z).es→GI l' g l4→GrpK l (k+1) l4∧VecB l4 240 396 from fun g l4 e1 e2 hA=>⟨⟨hA.can,fun x r c=>by
  rw[hA.kn,HP.kn,xY A0,e1,e2],fun x hx=>by
  rw[fC A0];rcases(hA.cov x).1 hx with h | h
  ·obtain⟨f,hf,h'⟩:=HP.cov x h;exact⟨f,QU _ hf,h'⟩
  ·exact⟨_,List.mem_append_right _ (List.mem_singleton_self _),by rw[← e1];exact h⟩,by have:=hA.len;have:=HP.len;omega,hA.bnd.cmp aB aB,by
  have h1:=hA.tot;have h2:=HP.tot;rw[jP A0,← e1];omega⟩,hA.bnd⟩)
 obtain⟨p,ep⟩:=aG (l.getD k FV.z);rw[ep]at A2 B0 C5 KV B1 C6 C7 B2 C8 Y A3 IW C;obtain⟨⟨J,L,ei,_⟩,⟨av,cv,ev,D5,_⟩⟩:=C5;obtain⟨items,iv,vec,vv⟩:=p;simp only at A2 B0 ei ev D5 KV B1 C6 C7 B2 C8 Y A3 IW C;subst ei;subst ev;have K1:=aI (KV _ HB av cv (D5.below (PS _ _)));obtain⟨ni,D6⟩:=aG items.length;obtain⟨nv,D7⟩:=aG vec.length;have E3:=aI D6;have E4:=aI D7;rw[D6]at A2 B1;rw[D7]at B0 K1;have LN:=aI HP.len;have TT:=aI (RI HP.tot (oW l k));have C1:=aI (PC G9 A2);clear ep y D5 D6 D7 KV hb Hr A0;go_wp2_with fail;refine K1.mono ?_;rintro e w3 ⟨v2,A,rfl,Z,D8,A7⟩;have B3:=aI (HB.trans (A7.mono HB.size));have R3:=aI (HR.below A7);have C3:=aI (PC (RJ C1.1 A7.size) (aM A7 C1.1 C1.2));have I3:=aI (show ItT w3 (.slice J ni L) items from B1.only (may:=fun _=>False) (Only.of_below B3) (fun _ h=>h.elim));obtain⟨a2,E,rfl,_⟩:=D8.vecAt;have F2:=aI (D8.base (RF _));have C9:=aI Z;have H1:A.length=nv:=by rw[← E4.out];simpa using congrArg List.length Z
 have E5:=aI (show ∀q∈A,q.1.hs.length≤396 from fun q hq=>by
  have:q.1∈vec.map (·.1):=by rw[← Z];exact QV hq
  obtain⟨q',H8,e⟩:=List.mem_map.1 this;rw[← e];exact B2.2 q' H8)
 have E6:=aI (show A.length≤240 from by have:=B2.1;have:=E4.out;omega);obtain⟨m,em⟩:=aG A.length;rw[em]at F2 ⊢;have EM:=aI em;have c3:=C3.2;clear Z D8 A7 H1 em A2 B0;by_cases hm:m=0;have P4:=aI (Y (.inl (by
  show vec.map (·.1)=[];rw[← C9.out,List.length_eq_zero_iff.1 (show A.length=0 by rw[EM.out];exact hm)];rfl)))
 subst hm;rotate_left;have m1:¬(m:Int)=0:=aA;have m2:((m:Int) == 0)=false:=by simp;omega
 have m3:decide ((m:Int)=0)=false:=decide_eq_false m1;have m4:decide (m=0)=false:=decide_eq_false hm;by_cases hni:ni=0;have P4:=aI (Y (.inr (List.length_eq_zero_iff.1 (show items.length=0 by rw[E3.out];exact hni))));subst hni;rotate_left
 ·have n1:¬(ni:Int)=0:=aA;have n2:((ni:Int) == 0)=false:=by simp;omega
  have n3:decide ((ni:Int)=0)=false:=decide_eq_false n1;have n4:decide (ni=0)=false:=decide_eq_false hni;have D0:=aI (show GC ⟨items,.slice J ni L,A,.slice a2 m E⟩from⟨C6,fun e=>hni (by rw[← E3.out];exact List.length_eq_zero_iff.2 e),by show CanW (A.map (·.1));rw[C9.out];exact C7,fun e=>hm (by rw[← EM.out];have e':A.map (·.1)=[]:=e;exact List.length_eq_zero_iff.2 (List.map_eq_nil_iff.1 e')),E6,E5⟩);have C:=aI (fun l4 hA=>C ⟨items,.slice J ni L,A,.slice a2 m E⟩ l4 rfl (show A.map (·.1)=vec.map (·.1)from C9) hA);obtain⟨ao,cp,e0,H9⟩:=aY R3.row;obtain⟨n,D9⟩:=aG l'.length;rw[D9]at e0;have M:=aI D9;obtain⟨ua,I0⟩:=aH u3;obtain⟨wk,I1⟩:=aH w3;have E7:=aI (show n≤cp from by
   obtain⟨q1,q2,q3,_,q5⟩:=R3.know;rw[e0]at q3;injection q3 with q6 q7 q8;omega)
  subst I0;subst I1;subst e0;have I6:n≤10000:=by have:=LN.out;have:=M.out;omega
  clear hm hni D9 H9 LN;go_wp2;go_loopw [6] (fun c wr=>∃j:Nat,j≤n∧c=.int .i64 j∧(∀i,i<j→lL (l'.getD i FV.z).es (A.map (·.1)))∧Below wk.heap.size wk wr) (fun c _=>n-(intOf c).toNat)
  case atStart=>exact⟨0,RF _,rfl,(fun i hi=>absurd hi aA),PS _ _⟩
  obtain⟨j,hj,rfl,F7,A8⟩:=hrel;have LO:=aI F7;have BJ:=aI A8;clear F7;have j0:(0:Int)≤(j:Int):=aA;by_cases hjn:j<n
  ·have j1:(j:Int)<(n:Int):=aA;have jd:decide ((j:Int)<(n:Int))=true:=decide_eq_true j1;have P:j<l'.length:=by rw[M.out];exact hjn
   have G:l'.getD j FV.z∈l':=by rw[QI,PX P,Option.getD_some];exact QE P
   rcases fF R3.row with⟨_,h0,_⟩ | ⟨gb,cp',e1,hgb1,hgb2,_,_,_⟩
   ·omega
   have E8:=e1;simp only[Value.slice.injEq]at E8;obtain⟨rfl,-,rfl⟩:=E8;have E9:=aI (PC hgb1 hgb2);have N:=aI (R3.cellsAt (k:=j) P);have KC:=aI (fun W (hW:Below wk.heap.size wk W)=>IV (f:=l'.getD j FV.z) (((R3.frags _ G).below hW).at.vec) ((F2.vecAt).below hW) (O.vec _ G) (O.hs _ G) E6 E5);have OW:=aI (show ∀x,aV (l'.getD j FV.z).items x→aL x from fun x hx=>by have:=cC (R3.frags _ G).at.items.words hx;exact⟨this.1,this.2⟩);have F0:=aI (show ∀W,Below wk.heap.size wk W→RgAt W (l'.getD j FV.z).iv (l'.getD j FV.z).items from fun W hW=>((R3.frags _ G).below hW).at.items);have H2:=aI (rJ G);have H3:=aI (fun i (hi:j<i) (C0:i<l'.length)=>vN HP.can.ess hi C0);obtain⟨I9,J0,F8,_⟩:=(R3.frags _ G).vec.vecAt;obtain⟨I2,I4,F9,_⟩:=(R3.frags _ G).at.items;obtain⟨J1,G0⟩:=aG ((l'.getD j FV.z).vec.length);obtain⟨I5,E0⟩:=aG ((l'.getD j FV.z).items.length);have I8:=aI E0;rw[F8,G0]at N KC;rw[F9,E0]at N F0;obtain⟨d,ed⟩:=aG (cQ (bG (l'.getD j FV.z).es) (bG (A.map (·.1))));have ED:=aI ed;rw[ed]at KC;have d3:=Oa (bG (l'.getD j FV.z).es) (bG (A.map (·.1)));rw[ed]at d3;have yv:=aM A8 N.1 N.2.2.1;have D1:=aI (PC N.1 N.2.1);clear F8 F9 G0 E0 ed e1 hgb1 hgb2 G;go_wp2_with fail;refine(KC wr BJ).mono ?_;rintro e w4 ⟨rfl,G1⟩;have B4:=aI (BJ.trans (G1.mono BJ.size));clear G1;by_cases hd:d<0
   ·have dd:decide (d<0)=true:=decide_eq_true hd;have L2:=aI (show ∀i,i<j+1→lL (l'.getD i FV.z).es (A.map (·.1))from fun i hi=>by
     by_cases e:i<j
     ·exact LO i e
     obtain rfl:i=j:=aA;unfold lL;rw[ED.out];exact hd)
    clear hd d3 yv A8;go_wp2;go_roundw
    case rel=>exact⟨j+1,aA,by go_num,L2,B4⟩
    simp[intOf];omega
   have dd:decide (d<0)=false:=decide_eq_false hd;have yv:=aM B4 N.1 N.2.2.1;go_wp2_with fail;refine(KC w4 B4).mono ?_;rintro e wy ⟨rfl,G2⟩;have F:=aI (B4.trans (G2.mono B4.size));have B5:=aI (B3.trans (F.mono B3.size));have R5:=aI (R3.below F);have V5:=aI (show RowF wy 0 (.slice a2 m E) A from F2.only (may:=fun _=>False) (Only.of_below F) (fun _ h=>h.elim));have CK:=aI (PC (RJ C3.1 F.size) (aM F C3.1 C3.2));have B6:=aI (show FragT wy ⟨items,.slice J ni L,A,.slice a2 m E⟩from⟨I3.only (may:=fun _=>False) (Only.of_below F) (fun _ h=>h.elim),V5⟩);clear G2 A8 yv;by_cases hd0:d=0
   ·have de:(d == 0)=true:=by simp[hd0]
    have H4:decide (d=0)=true:=decide_eq_true hd0;have H5:=aI (show(l'.getD j FV.z).es=A.map (·.1)from Ja (Dv (by rw[ED.out];exact hd0)));have CA:=aI (PC (RJ D1.1 F.size) (PC (aM F D1.1 D1.2) (R5.cellsAt (k:=j) P).2.2.2));have y0:=CK.2;have NB:=aI (show ¬b=gb from fun e=>by have h1:=H0.out;have h2:=E9.out;omega);have KU:=aI (fun W (hW:Below wy.heap.size wy W)=>Fh (.slice I2 I5 I4) (.slice J ni L) (l'.getD j FV.z).items items W (F0 W (F.trans (hW.mono F.size))) ((B6.items.rg).below hW) (by have:=H2.out;have:=TT.out;have:=C8.out;have:=HT.out;omega));clear hd0 hd d3;go_wp2_with fail;refine wp_region_held_drew (S:=Only (fun q=>q=gb) wy) C4 (Only.refl _ _).drew (fun hS=>?_);obtain⟨wd,I⟩:=aG wy.drew;have bd:=aI (show Below wy.heap.size wy wd from by rw[← I];exact aS (PS _ _));rw[I]at hS ⊢;clear I;refine aP 0 61 (.slice (some ⟨gb,0,none⟩) n cp) ?_;refine aP 1 62 (.int .i64 (j:Int)) ?_;refine aP 2 63 (.slice (some ⟨gb,0,none⟩) n cp) ?_;refine aP 3 64 (.int .i64 (j:Int)) ?_;refine aP 4 65 (.pointer (some ⟨gb,j * 2,none⟩)) ?_;refine aP 5 66 (.pointer (some ⟨gb,j * 2,none⟩)) ?_;have y1:=aM bd CA.1 CA.2.1;refine aP 7 68 (.slice (some ⟨b,off,none⟩) len cap) ?_;refine aP 8 69 (.int .i64 (k:Int)) ?_;refine aP 9 70 (.pointer (some ⟨b,off+k * 2,none⟩)) ?_;refine aP 10 71 (.pointer (some ⟨b,off+k * 2,none⟩)) ?_;refine dL 11 72 (.slice J ni L) ?_ ?_
    ·intro X hX;have b0:=hX.cell (fun h=>NB h) y0;go_simp
    refine aP 13 74 (.slice a2 m E) ?_;refine cW 6 fun K hK=>?_;go_simp;refine hK _ _ hS (fun _=>?_);clear hK K;refine cW 12 fun K hK=>?_;go_simp;refine(KU wd bd).mono ?_;rintro e w6 ⟨⟨u,us,rfl,hU,G3,G4,G5⟩,E1⟩;have D2:=hS.call E1;have F1:=aI (bd.trans (E1.mono bd.size));have UO:=aI hU;have UF:=aI (PC G3 (PC G4 G5));obtain⟨au,cu,rfl,_⟩:=hU.prs;clear hU G3 G4 G5 E1;obtain⟨nu,E2⟩:=aG us.length;have H6:=aI E2;rw[E2]at UO ⊢;clear E2;go_simp;refine hK _ _ D2 (fun _=>?_);clear hK K y1;refine aP 14 75 (.agg #[.slice au nu cu,.slice a2 m E]) ?_;refine aP 15 76 (.pointer (some ⟨gb,j * 2,none⟩)) ?_;refine cW 16 fun K hK=>?_;have R6:=aI (show KRow w6 w.heap.size (.slice (some ⟨gb,0,none⟩) n cp) l' from R5.below F1);have c6:=R6.cellsAt (k:=j) P;have k0:=c6.2.1;have k1:=c6.2.2.1;have f0:=c6.2.2.2;have G6:=aI (show FragT w6 ⟨us,.slice au nu cu,A,.slice a2 m E⟩from⟨by have:=UO.out;rw[← H6.out]at this ⊢;exact this.itT,(V5.only (may:=fun _=>False) (Only.of_below F1) (fun _ h=>h.elim))⟩);have R7:=aI (R6.set2 (k:=j) P G6);have OZ:=aI (((Only.refl (fun q=>q=gb) w6).setCell (p:=⟨gb,j * 2,none⟩) (.inl rfl) (.slice au nu cu)).setCell (p:=⟨gb,j * 2+1,none⟩) (.inl rfl) (.slice a2 m E));have B8:=D2.trans OZ;clear c6;go_simp;refine hK _ _ B8 (fun _=>?_);clear hK K k0 k1 f0;refine iM ?_;have A1:=aI (Xp (g:=⟨items,.slice J ni L,A,.slice a2 m E⟩) (u:=.slice au nu cu) HP.can O D0 P H5 UF.1 (fun x=>by
     have h1:=UF.2.1 x;rw[h1];simp only[vO,Bool.or_eq_true,decide_eq_true_eq];constructor
     ·rintro⟨_,_,h⟩;exact h
     intro h;have hw:aL x:=(by rcases h with h | h;exact OW x h;exact IW x h);exact⟨hw.1,hw.2,h⟩) UF.2.2 A3)
    have P7:=aI (C _ A1);have B7:=aI (B5.trans (B8.below (n:=w.heap.size) B5.size (fun q hq=>by have:=E9.out;omega)));obtain⟨wz,G7⟩:=aG ((w6.setCell ⟨gb,j * 2,none⟩ (.slice au nu cu)).setCell ⟨gb,j * 2+1,none⟩ (.slice a2 m E));rw[G7]at R7 B7 B8 ⊢;clear G7 OZ hS D2 B8 A1;go_wp2;go_roundw
    case rel=>
     have s:∃(V:Nat) (l':List FV),V≤len∧(.int .i64 ((k:Int)+1):Value)=.int .i64 V∧KRow wz w.heap.size (.slice (some ⟨gb,0,none⟩) n cp) l'∧GrpK l V l'∧VecB l' 240 396∧Below w.heap.size w wz:=⟨k+1,_,aA,aD,R7,P7.1,P7.2,B7⟩;first | exact s | ((repeat apply PF);exact⟨s,rfl⟩)
    simp[intOf];omega
   have de:(d == 0)=false:=by simp[hd0]
   have H4:decide (d=0)=false:=decide_eq_false hd0;have GT:=aI (show lL (A.map (·.1)) (l'.getD j FV.z).es from So (fun h=>by unfold lL at h;rw[ED.out]at h;omega) (by rw[ED.out];exact hd0));have A1:=aI (Iu (g:=⟨items,.slice J ni L,A,.slice a2 m E⟩) (j:=j) HP.can O D0 aA (fun i hi _=>LO i hi) (fun i hi C0=>by
    rcases RK j i with q | q
    ·exact jO GT (H3 i q C0)
    obtain rfl:i=j:=aA;exact GT) A3)
   clear hd0 hd d3;obtain⟨pa,Q⟩:=aG (if cp=j then(some (⟨gb,0,none⟩:Addr))else(some (⟨gb,0,none⟩:Addr)).map (·.add (j * 2)));have TR:=aI (jG Me (cp:=cp) Q (B:=wy) (base:=w.heap.size) (n:=n) (xs:=bH l') (by have:=R5.row;rw[M.out]at this;exact this) (show j≤n by omega) (kL R5.frags) (cx:=[.slice J ni L,.slice a2 m E]) (by intro u hu;simp at hu;rcases hu with rfl | rfl<;>rfl) rfl aA);have H7:=fun W=>lU vQ (some (⟨gb,0,none⟩:Addr)) n cp j (show j≤cp by have:=E7.out;omega) W;have A4:=fun W=>jK vQ (some (⟨gb,0,none⟩:Addr)) n cp j (show j≤n by omega) W;rw[Q]at A4;obtain⟨m1,R⟩:=aG (n-j);obtain⟨m2,T⟩:=aG (cp-j);rw[R,T]at A4;have D3:=aI R;have D4:=aI T;clear Q R T;go_wp2_with fail;refine wp_region_held_drew (S:=Below wy.heap.size wy) C4 (aS (PS _ _)) (fun hS=>?_);obtain⟨wd,I⟩:=aG wy.drew;rw[I]at hS ⊢;clear I;refine aP 1 78 (.slice (some (⟨gb,0,none⟩:Addr)) n cp) ?_;refine aP 2 79 (.int .i64 (j:Int)) ?_;refine aP 3 80 (.slice (some (⟨gb,0,none⟩:Addr)) j cp) ?_;refine aP 5 82 (.slice (some ⟨b,off,none⟩) len cap) ?_;refine aP 6 83 (.int .i64 (k:Int)) ?_;refine aP 7 84 (.pointer (some ⟨b,off+k * 2,none⟩)) ?_;refine aP 8 85 (.pointer (some ⟨b,off+k * 2,none⟩)) ?_;refine dL 9 86 (.slice J ni L) ?_ ?_
   ·intro X hX;have b0:=aM hX CK.1 CK.2;go_simp
   refine aP 10 87 (.slice a2 m E) ?_;refine aP 11 88 (.agg #[.slice J ni L,.slice a2 m E]) ?_;refine aP 14 91 (.slice (some (⟨gb,0,none⟩:Addr)) n cp) ?_;refine aP 15 92 (.int .i64 (j:Int)) ?_;refine aP 16 93 (.slice pa m1 m2) ?_;refine uC TR D3 D4 0 4 12 13 17 77 81 89 90 94 80 88 93 (fun v1 v2 v3 v4 v9 w9 D U=>?_) hS rfl rfl rfl;simp only[Act.put,PZ,QB,QA];refine aP 18 3 (v9) ?_;refine iM ?_;have R9:=aI (KRow.inside (g:=⟨items,.slice J ni L,A,.slice a2 m E⟩) R5 B6 M (show j≤n by omega) U B5.size D);have P9:=aI (C _ A1);have B9:=aI (B5.trans (U.mono B5.size));clear D U hS;go_wp2;go_roundw
   case rel=>
    have s:∃(V:Nat) (l':List FV),V≤len∧(.int .i64 ((k:Int)+1):Value)=.int .i64 V∧KRow w9 w.heap.size v9 l'∧GrpK l V l'∧VecB l' 240 396∧Below w.heap.size w w9:=⟨k+1,_,aA,aD,R9,P9.1,P9.2,B9⟩;first | exact s | ((repeat apply PF);exact⟨s,rfl⟩)
   simp[intOf];omega
  obtain rfl:n=j:=aA;have jd:decide ((n:Int)<(n:Int))=false:=aD;have B5:=aI (B3.trans (BJ.mono B3.size));have R5:=aI (R3.below BJ);have V5:=aI (show RowF wr 0 (.slice a2 m E) A from F2.only (may:=fun _=>False) (Only.of_below BJ) (fun _ h=>h.elim));have CK:=aI (PC (RJ C3.1 BJ.size) (aM BJ C3.1 C3.2));have B6:=aI (show FragT wr ⟨items,.slice J ni L,A,.slice a2 m E⟩from⟨I3.only (may:=fun _=>False) (Only.of_below BJ) (fun _ h=>h.elim),V5⟩);have A1:=aI (Iu (g:=⟨items,.slice J ni L,A,.slice a2 m E⟩) (j:=n) HP.can O D0 (by rw[M.out];exact RH _) (fun i hi _=>LO i hi) (fun i hi C0=>by have:=M.out;omega) A3);clear A8;obtain⟨pa,Q⟩:=aG (if cp=n then ao else ao.map (·.add (n * 2)));have TR:=aI (jG Me (cp:=cp) Q (B:=wr) (base:=w.heap.size) (n:=n) (xs:=bH l') (by have:=R5.row;rw[M.out]at this;exact this) (show n≤n by omega) (kL R5.frags) (cx:=[.slice J ni L,.slice a2 m E]) (by intro u hu;simp at hu;rcases hu with rfl | rfl<;>rfl) rfl aA);have H7:=fun W=>lU vQ ao n cp n (show n≤cp by have:=E7.out;omega) W;have A4:=fun W=>jK vQ ao n cp n (show n≤n by omega) W;rw[Q]at A4;obtain⟨m1,R⟩:=aG (n-n);obtain⟨m2,T⟩:=aG (cp-n);rw[R,T]at A4;have D3:=aI R;have D4:=aI T;clear Q R T;go_wp2_with fail;refine wp_region_held_drew (S:=Below wr.heap.size wr) C4 (aS (PS _ _)) (fun hS=>?_);obtain⟨wd,I⟩:=aG wr.drew;rw[I]at hS ⊢;clear I;refine aP 1 78 (.slice ao n cp) ?_;refine aP 2 79 (.int .i64 (n:Int)) ?_;refine aP 3 80 (.slice ao n cp) ?_;refine aP 5 82 (.slice (some ⟨b,off,none⟩) len cap) ?_;refine aP 6 83 (.int .i64 (k:Int)) ?_;refine aP 7 84 (.pointer (some ⟨b,off+k * 2,none⟩)) ?_;refine aP 8 85 (.pointer (some ⟨b,off+k * 2,none⟩)) ?_;refine dL 9 86 (.slice J ni L) ?_ ?_
  ·intro X hX;have b0:=aM hX CK.1 CK.2;go_simp
  refine aP 10 87 (.slice a2 m E) ?_;refine aP 11 88 (.agg #[.slice J ni L,.slice a2 m E]) ?_;refine aP 14 91 (.slice ao n cp) ?_;refine aP 15 92 (.int .i64 (n:Int)) ?_;refine aP 16 93 (.slice pa m1 m2) ?_;refine uC TR D3 D4 0 4 12 13 17 77 81 89 90 94 80 88 93 (fun v1 v2 v3 v4 v9 w9 D U=>?_) hS rfl rfl rfl;simp only[Act.put,PZ,QB,QA];refine aP 18 3 (v9) ?_;refine iM ?_;have R9:=aI (KRow.inside (g:=⟨items,.slice J ni L,A,.slice a2 m E⟩) R5 B6 M (show n≤n by omega) U B5.size D);have P9:=aI (C _ A1);have B9:=aI (B5.trans (U.mono B5.size));clear D U hS;go_wp2;go_roundw
  case rel=>
   have s:∃(V:Nat) (l':List FV),V≤len∧(.int .i64 ((k:Int)+1):Value)=.int .i64 V∧KRow w9 w.heap.size v9 l'∧GrpK l V l'∧VecB l' 240 396∧Below w.heap.size w w9:=⟨k+1,_,aA,aD,R9,P9.1,P9.2,B9⟩;first | exact s | ((repeat apply PF);exact⟨s,rfl⟩)
  simp[intOf];omega
 ·obtain rfl:len=k:=aA;clear hb;go_wp2;go_ret;have F3:∃v' l',(.returned u3:Ending)=.returned v'∧KRow wr w.heap.size v' l'∧GrpK l len l'∧VecB l' 240 396∧Below w.heap.size w wr:=⟨u3,l',rfl,HR,HP,O,HB⟩;first | exact F3 | (obtain⟨v1,l1,h1,h2⟩:=F3;exact⟨v1,h1,l1,h2⟩)
 all_goals
  go_wp2;go_roundw
  case rel=>
   have s:∃(V:Nat) (l':List FV),V≤len∧(.int .i64 ((k:Int)+1):Value)=.int .i64 V∧KRow w3 w.heap.size u3 l'∧GrpK l V l'∧VecB l' 240 396∧Below w.heap.size w w3:=⟨k+1,l',aA,aD,R3,P4,O,B3⟩;first | exact s | ((repeat apply PF);exact⟨s,rfl⟩)
  simp[intOf];omega
end Go.Proofs.YtbkkolfpegplgaaGreatDoor
