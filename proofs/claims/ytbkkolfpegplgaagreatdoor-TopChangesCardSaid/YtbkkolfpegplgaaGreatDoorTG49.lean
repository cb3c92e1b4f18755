import Derived.Test.YtbkkolfpegplgaaGreatDoorTG37
import Derived.Test.YtbkkolfpegplgaaGreatDoorTG39
open List renaming getElem?_eq_getElem→PC,getD→PD,length_cons→PE,getElem_mem→PF
set_option maxHeartbeats 3200000
set_option maxRecDepth 100000
set_option linter.unusedVariables false
set_option linter.unusedSimpArgs false
namespace Go.Proofs.YtbkkolfpegplgaaGreatDoor
open Go Go.RowKit
def OM (K:Int→Int→Int→Prop) (S:List Int):Prop:=∀x,0<x→x ∉ S→∀r c,K x r c↔K (x-1) r c
def Wx (zs:List Iv):List Int:=zs.flatMap fun z=>[z.1,z.2+1]
theorem Zw{zs:List Iv}{x:Int}(h:x ∉ Wx zs):aV zs x↔aV zs (x-1):=by
 have b:∀z∈zs,x≠z.1∧x≠z.2+1:=fun z b=>⟨fun e=>h (List.mem_flatMap.2 ⟨z,b,by simp[e]⟩),fun e=>h (List.mem_flatMap.2 ⟨z,b,by simp[e]⟩)⟩;constructor
 ·rintro⟨z,j,h1,h2⟩;have:=b z j;exact⟨z,j,aA,aA⟩
 rintro⟨z,j,h1,h2⟩;have:=b z j;exact⟨z,j,aA,aA⟩
def MU (l:List FV):List Int:=l.flatMap fun f=>Wx f.items
theorem rV:∀{L M:List Int},L.Nodup→(∀x∈L,x∈M)→L.length≤M.length
 | [],M,_,_=>Nat.zero_le _
 | x :: L,M,hn,hm=>by
   obtain⟨A,B,rfl⟩:=List.append_of_mem (hm x aD);have b:=List.nodup_cons.1 hn;have:=rV (L:=L) (M:=A ++ B) b.2 (fun y j=>by
    have h1:=hm y (by simp[j]);have h2:y≠x:=fun e=>b.1 (e ▸ j);simp only[List.mem_append,List.mem_cons]at h1 ⊢;rcases h1 with h1 | h1 | h1
    ·exact .inl h1
    ·exact absurd h1 h2
    exact .inr h1)
   simp only[List.length_append,PE]at this ⊢;omega
theorem Vn{zs:List Iv}(h:cL zs){z:Iv}(n:z∈zs):¬aV zs (z.1-1):=by
 intro m;obtain⟨j,l,h1,h2⟩:=fU.1 m;obtain⟨i,hi,e⟩:=List.mem_iff_getElem.1 n;have p:Lo zs i=z.1:=by unfold Lo;simp[PD,PC hi,e]
 have b:=(h i hi).1;rcases Nat.lt_trichotomy i j with g | g | g
 ·have:=cG h g l;omega
 ·subst g;omega
 have:=cG h g hi;omega
theorem Oc{l:List FV}(h:CanL l):l.length≤bD l:=by
 have b:∀(m:List FV),(∀f∈m,f.items≠[])→m.length≤bD m:=by
  intro m;induction m with
  | nil=>intro _;exact Nat.le_refl _
  | cons f m ih=>
    intro j;have h1:=List.length_pos_iff.2 (j f aD);have h2:=ih (fun g n=>j g (by simp[n]));simp only[bD,PE];omega
 exact b l fun f p=>(h.at f p).2.1
instance (e:Ent) (c:Int):Decidable (rH e c):=by unfold rH;infer_instance
instance (es:List Ent) (r c:Int):Decidable (dN es r c):=by unfold dN;infer_instance
def uJ (l:List EV) (i:Nat):Int:=(l.getD i EV.z).1.rep
theorem BR{l:List EV}(h:bY (l.map (·.1))){i j:Nat}(n:i<j)(p:j<l.length):uJ l i<uJ l j:=by
 have b:∀k,0<k→k<l.length→uJ l (k-1)<uJ l k:=fun k h0 m=>by
  have:=h.2 k h0 (by rw[List.length_map];exact m);rw[cF,cF]at this;exact this
 induction j with
 | zero=>omega
 | succ j ih=>
   have h1:=b (j+1) aA p;rw[Nat.add_sub_cancel]at h1;rcases Nat.lt_or_ge i j with g | g
   ·have:=ih g aA;omega
   obtain rfl:i=j:=aA;exact h1
def JT (l:List EV) (x:Int):Prop:=∃i,i<l.length∧uJ l i=x
instance (l:List EV) (x:Int):Decidable (JT l x):=by unfold JT;infer_instance
theorem DT{l:List EV}(h:bY (l.map (·.1))){k:Nat}(b:k<l.length){r c:Int}(e:uJ l k=r):dN (l.map (·.1)) r c↔rH (l.getD k EV.z).1 c:=by
 have m:(l.getD k EV.z)∈l:=by
  rw[PD,PC b,Option.getD_some];exact PF b
 constructor
 ·rintro⟨B,n,h1,h2⟩;obtain⟨p,s,rfl⟩:=List.mem_map.1 n;obtain⟨i,hi,u⟩:=List.mem_iff_getElem.1 s;have j:l.getD i EV.z=p:=by simp[PD,PC hi,u]
  have A:uJ l i=r:=by unfold uJ;rw[j];exact h1
  rcases Nat.lt_trichotomy i k with g | g | g
  ·have:=BR h g b;omega
  ·subst g;rw[j];exact h2
  have:=BR h g hi;omega
 intro y;exact⟨(l.getD k EV.z).1,List.mem_map.2 ⟨_,m,rfl⟩,e,y⟩
theorem DS{l:List EV}{r c:Int}(h:¬JT l r):¬dN (l.map (·.1)) r c:=by
 rintro⟨e,b,h1,_⟩;obtain⟨p,j,rfl⟩:=List.mem_map.1 b;obtain⟨i,hi,m⟩:=List.mem_iff_getElem.1 j;exact h ⟨i,hi,by unfold uJ;simp[PD,PC hi,m,h1]⟩
theorem yJ{w:World}{a:Option Addr}{len:Nat}{l:List EV}(h:EntsAt w a len l){k:Nat}(b:k<len):l.getD k EV.z∈l:=by
 have:=h.length;rw[PD,PC aA,Option.getD_some];exact PF aA
theorem sI(zs:List Iv)(x:Int):gG zs x=decide (aV zs x):=by
 rw[Bool.eq_iff_iff,decide_eq_true_iff];unfold gG aV;rw[List.any_eq_true];constructor
 ·rintro⟨z,b,h⟩;exact⟨z,b,by simpa[zJ]using h⟩
 rintro⟨z,b,h⟩;exact⟨z,b,by simpa[zJ]using h⟩
theorem Jt(a:Option Addr)(len cap:Nat)(l:List EV)(x:Int)(w:World)(h:EntsAt w a len l) :
  Calls Tryz.prog 116 #[.slice a len cap,.int .u64 x] w fun e w'=>((∃k:Nat,k<len∧uJ l k=x∧e=.returned (.int .i64 k))∨(¬JT l x∧e=.returned (.int .i64 (-1))))∧Below w.heap.size w w':=by
 have H:=aI h;have D:=aI h.length;have F:=h.most;clear h;go_enter Tryz.func116,Tryz.ntmps116;go_wp2;go_loopw [5] (fun c wr=>∃k:Nat,k≤len∧c=.int .i64 k∧(∀i,i<k→uJ l i≠x)∧Below w.heap.size w wr)
  (fun c _=>len-(intOf c).toNat)
 case atStart=>exact⟨0,Nat.zero_le _,rfl,fun i hi=>absurd hi aA,Below.refl _ _⟩
 obtain⟨k,J,rfl,m,r⟩:=hrel;have A:=aI m;have n:=aI r;clear m;have G:(0:Int)≤(k:Int):=aA;by_cases hlt:k<len
 ·have I:(k:Int)<(len:Int):=aA;have B:=H.below r;obtain⟨b,off,rfl,s,u,_,_⟩:=B.cells k hlt;obtain⟨p,y⟩:=aG (l.getD k EV.z);obtain⟨rp,j⟩:=aG p.1.rep;have C:=aI (show uJ l k=rp from by unfold uJ;rw[y,j]);rw[y,j]at u;clear r y j B s;by_cases hx:rp=x
  ·subst hx;go_wp2;go_ret;exact⟨.inl ⟨k,hlt,C,rfl⟩,n⟩
  have E:=aI (show ∀i,i<k+1→uJ l i≠x from fun i hi=>by
   by_cases e:i<k
   ·exact A i e
   obtain rfl:i=k:=aA;rw[C.out];exact hx)
  go_wp2;go_roundw
  case rel=>exact⟨k+1,aA,by go_num,E,n⟩
  simp[intOf];omega
 obtain rfl:len=k:=aA;go_wp2;go_ret;exact⟨.inr ⟨fun⟨i,hi,e⟩=>A i (by have:=D.out;omega) e,rfl⟩,n⟩
end Go.Proofs.YtbkkolfpegplgaaGreatDoor
