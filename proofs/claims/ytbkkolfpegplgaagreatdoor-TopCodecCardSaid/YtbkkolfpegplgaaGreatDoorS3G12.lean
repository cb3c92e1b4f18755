/- A region that draws its order: an operation that is taken first, the number of its temporary given. No program in sight. -/
import Derived.Deep.RegionHeld3
import Derived.KernelRfl
namespace Go.Proofs.YtbkkolfpegplgaaGreatDoor
open Go
theorem z8{P:Program}{ops:Array Oper}{Q:Exit→Act→World→Prop}{md:Region.Mode}{S:World→Prop}{i:Nat}{oi:Oper}{d:Option Tmp}{v:Value}{fuel:Nat}{listed:Array Bool}{a:Act}{w:World}(hi:ops[i]?=some oi)(hd:oi.dst=d)
  (hs:Region.noSelect ops=true) (hf:Region.free md ops listed i=true) (hr:(Region.ready md ops listed).contains i=true)
  (hQ:∀c a w,Q (.panic c) (a.put d v) w→Q (.panic c) a w) (hy:YieldsIf P ops S oi v a) (hS:S w)
  (h:wpAnyH P md ops Q S fuel (listed.setIfInBounds i true) (a.put d v) w):wpAnyH P md ops Q S (fuel+1) listed a w:=by
 subst hd;exact wpAnyH_take hi hs hf hr hQ hy hS h
theorem sbA{α:Type}(l:List α)(i:Nat)(a:α):l.toArray.setIfInBounds i a=(l.set i a).toArray:=List.setIfInBounds_toArray ..
theorem sc0{α:Type}(x a:α)(l:List α):(x :: l).set 0 a=a :: l:=rfl
theorem sc1{α:Type}(x a:α)(l:List α)(i:Nat):(x :: l).set (i+1) a=x :: l.set i a:=rfl
theorem tkd{P:Program}{ops:Array Oper}{Q:Exit→Act→World→Prop}{md:Region.Mode}{S:World→Prop}{i:Nat}{oi:Oper}{d:Option Tmp}{v:Value}{fuel:Nat}{listed:Array Bool}{a a':Act}{w:World}(hi:ops[i]?=some oi:=by rfl)(hd:oi.dst=d:=by rfl)
  (hs:Region.noSelect ops=true:=by kernel_rfl) (hf:Region.free md ops listed i=true:=by kernel_rfl) (hr:(Region.ready md ops listed).contains i=true:=by kernel_rfl)
  (hQ:∀c a w,Q (.panic c) (a.put d v) w→Q (.panic c) a w:=by exact fun _ _ _ h=>h) (ha:a.put d v=a':=by(simp only[Act.put,sbA,sc0,sc1];rfl)) (hy:YieldsIf P ops S oi v a) (hS:S w:=by assumption)
  (h:wpAnyH P md ops Q S fuel (listed.setIfInBounds i true) a' w):wpAnyH P md ops Q S (fuel+1) listed a w:=z8 hi hd hs hf hr hQ hy hS (ha ▸ h)
end Go.Proofs.YtbkkolfpegplgaaGreatDoor
