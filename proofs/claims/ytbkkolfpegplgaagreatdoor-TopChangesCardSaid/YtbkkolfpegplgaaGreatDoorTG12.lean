import Derived.Test.YtbkkolfpegplgaaGreatDoorTK
import Derived.Deep.RegionHeld3
open Go.AllReadyH renaming cons→PC,nil→PD
open Go.Region renaming ready→PE,Mode→PF,noSelect→PG,free→PH,wanted→PI
namespace Go.Proofs.YtbkkolfpegplgaaGreatDoor
open Go
theorem cB{P:Program}{j:Array Oper}{Q:Exit→Act→World→Prop}{l:PF}{S:World→Prop}{i:Nat}{m:Oper}{d:Option Tmp}{v:Value}{fuel:Nat}{b:Array Bool}{a:Act}{w:World}(hi:j[i]?=some m)(n:m.dst=d)
  (hs:PG j=true) (p:PH l j b i=true) (r:(PE l j b).contains i=true)
  (s:∀c a w,Q (.panic c) (a.put d v) w→Q (.panic c) a w) (u:YieldsIf P j S m v a) (y:S w)
  (h:wpAnyH P l j Q S fuel (b.setIfInBounds i true) (a.put d v) w):wpAnyH P l j Q S (fuel+1) b a w:=by
 subst n;exact wpAnyH_take hi hs p r s u y h
theorem JM{α:Type}(l:List α)(i:Nat)(a:α):l.toArray.setIfInBounds i a=(l.set i a).toArray:=List.setIfInBounds_toArray ..
theorem JL{α:Type}(x a:α)(l:List α):(x :: l).set 0 a=a :: l:=rfl
theorem JH{α:Type}(x a:α)(l:List α)(i:Nat):(x :: l).set (i+1) a=x :: l.set i a:=rfl
theorem JU{P:Program}{j:Array Oper}{Q:Exit→Act→World→Prop}{l:PF}{S:World→Prop}{i:Nat}{oi:Oper}{d:Option Tmp}{v:Value}{fuel:Nat}{b:Array Bool}{a a':Act}{w:World}(hi:j[i]?=some oi:=by rfl)(m:oi.dst=d:=by rfl)
  (hs:PG j=true:=by kernel_rfl) (n:PH l j b i=true:=by kernel_rfl) (p:(PE l j b).contains i=true:=by kernel_rfl)
  (r:∀c a w,Q (.panic c) (a.put d v) w→Q (.panic c) a w:=by exact fun _ _ _ h=>h) (s:a.put d v=a':=by(simp only[Act.put,JM,JL,JH];rfl)) (u:YieldsIf P j S oi v a) (y:S w:=by assumption)
  (h:wpAnyH P l j Q S fuel (b.setIfInBounds i true) a' w):wpAnyH P l j Q S (fuel+1) b a w:=cB hi m hs n p r u y (s ▸ h)
theorem aP{P:Program}{j:Array Oper}{Q:Exit→Act→World→Prop}{l:PF}{S:World→Prop}{oi:Oper}{fuel:Nat}{b:Array Bool}{a a':Act}{w:World}(i:Nat)(d:Tmp)(v:Value)(h:wpAnyH P l j Q S fuel (b.setIfInBounds i true) a' w)(hi:j[i]?=some oi:=by rfl)(m:oi.dst=some d:=by rfl)
  (hs:PG j=true:=by kernel_rfl) (n:PH l j b i=true:=by kernel_rfl) (p:(PE l j b).contains i=true:=by kernel_rfl)
  (r:∀c a w,Q (.panic c) (a.put (some d) v) w→Q (.panic c) a w:=by exact fun _ _ _ h=>h) (s:a.put (some d) v=a':=by(simp only[Act.put,JM,JL,JH];rfl)) (u:YieldsIf P j S oi v a:=by(refine Or.inl ⟨by rfl,?_⟩;intro X z;go_simp)) (y:S w:=by assumption):wpAnyH P l j Q S (fuel+1) b a w:=JU hi m hs n p r s u y h
theorem dL{P:Program}{j:Array Oper}{Q:Exit→Act→World→Prop}{l:PF}{S:World→Prop}{oi:Oper}{fuel:Nat}{b:Array Bool}{a a':Act}{w:World}(i:Nat)(d:Tmp)(v:Value)(hv:∀w,S w→(execOp a.eval oi).run P w=.ok (.value v) w)(h:wpAnyH P l j Q S fuel (b.setIfInBounds i true) a' w)(hi:j[i]?=some oi:=by rfl)(m:oi.dst=some d:=by rfl)
  (hs:PG j=true:=by kernel_rfl) (n:PH l j b i=true:=by kernel_rfl) (p:(PE l j b).contains i=true:=by kernel_rfl)
  (r:∀c a w,Q (.panic c) (a.put (some d) v) w→Q (.panic c) a w:=by exact fun _ _ _ h=>h) (s:a.put (some d) v=a':=by(simp only[Act.put,JM,JL,JH];rfl)) (u:PI oi (yielded j a.tmps)=true:=by rfl) (y:S w:=by assumption):wpAnyH P l j Q S (fuel+1) b a w:=JU hi m hs n p r s (Or.inl ⟨u,hv⟩) y h
theorem jB{P:Program}{j:Array Oper}{Q:Exit→Act→World→Prop}{l:PF}{S:World→Prop}{oi:Oper}{fuel:Nat}{b:Array Bool}{a a':Act}{w:World}(i:Nat)(d:Tmp)(h:wpAnyH P l j Q S fuel (b.setIfInBounds i true) a' w)(hi:j[i]?=some oi:=by rfl)(m:oi.dst=some d:=by rfl)
  (hs:PG j=true:=by kernel_rfl) (n:PH l j b i=true:=by kernel_rfl) (p:(PE l j b).contains i=true:=by kernel_rfl)
  (r:∀c a w,Q (.panic c) (a.put (some d) undef) w→Q (.panic c) a w:=by exact fun _ _ _ h=>h) (s:a.put (some d) undef=a':=by(simp only[Act.put,JM,JL,JH];rfl)) (u:YieldsIf P j S oi undef a:=by exact Or.inr ⟨by rfl,rfl⟩) (y:S w:=by assumption):wpAnyH P l j Q S (fuel+1) b a w:=JU hi m hs n p r s u y h
theorem iM{P:Program}{j:Array Oper}{Q:Exit→Act→World→Prop}{l:PF}{S:World→Prop}{fuel:Nat}{b:Array Bool}{a:Act}{w:World}(h:Q .normal a w)(m:PE l j b=[]:=by kernel_rfl):wpAnyH P l j Q S fuel b a w:=wpAnyH_done m h fuel
theorem cW{P:Program}{j:Array Oper}{Q:Exit→Act→World→Prop}{m:PF}{S:World→Prop}{o:Oper}{fuel:Nat}{b:Array Bool}{a:Act}{w:World}(i:Nat)
  (h:∀l:Act→World→Prop,Shut (∀a w,S w→(S w→wpAnyH P m j Q S fuel (b.setIfInBounds i true) a w)→l a w)→if PI o (yielded j a.tmps)=true then Oper.wp P o a w l Q else l (a.put o.dst undef) w)
  (n:PE m j b=[i]:=by kernel_rfl) (ho:j[i]?=some o:=by rfl):wpAnyH P m j Q S (fuel+1) b a w:=wpAnyH_ready n aD (PC ho h PD)
theorem Se{P:Program}{l:Array Oper}{Q:Exit→Act→World→Prop}{n:PF}{S:World→Prop}{o q:Oper}{fuel:Nat}{b:Array Bool}{a:Act}{w:World}(i j:Nat)
  (h:∀m:Act→World→Prop,Shut (∀a w,S w→(S w→wpAnyH P n l Q S fuel (b.setIfInBounds i true) a w)→m a w)→if PI o (yielded l a.tmps)=true then Oper.wp P o a w m Q else m (a.put o.dst undef) w)
  (g:∀m:Act→World→Prop,Shut (∀a w,S w→(S w→wpAnyH P n l Q S fuel (b.setIfInBounds j true) a w)→m a w)→if PI q (yielded l a.tmps)=true then Oper.wp P q a w m Q else m (a.put q.dst undef) w)
  (p:PE n l b=[i,j]:=by kernel_rfl) (ho:l[i]?=some o:=by rfl) (r:l[j]?=some q:=by rfl):wpAnyH P n l Q S (fuel+1) b a w:=wpAnyH_ready p aD (PC ho h (PC r g PD))
end Go.Proofs.YtbkkolfpegplgaaGreatDoor
