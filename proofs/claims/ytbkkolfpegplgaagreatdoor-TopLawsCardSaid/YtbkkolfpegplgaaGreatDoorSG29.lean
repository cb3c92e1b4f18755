/- slices.BinarySearch of words; sorted.add: an element is put into an ascending list. lattice.do: the vector of the sets of an operation. lattice.Union, Meet, Minus: the vector of an operation. lattice.Add onto no vector. (Printed by wip/mklat.py.) Knowledge in memory; the iterator scope.with. The reference's Check, Few and Same of knowledge. (Printed by wip/mkref11.py.) scope.At: the vector of the versions that are known for an item. scope.Members: the indices of the fragments with an item. The operations on vectors that know hands on: closures over lattice. (Printed by wip/mkknops.py.) scope.Check of correct knowledge; know.need of no error. -/
import Derived.Test.YtbkkolfpegplgaaGreatDoorSG25
import Derived.Test.YtbkkolfpegplgaaGreatDoorSG24
import Derived.Test.YtbkkolfpegplgaaGreatDoorSG11
import Derived.Test.YtbkkolfpegplgaaGreatDoorSG13
import Derived.Test.YtbkkolfpegplgaaGreatDoorSG17
set_option maxHeartbeats 12800000
set_option maxRecDepth 100000
set_option linter.unusedVariables false
set_option linter.unusedSimpArgs false
namespace Go.Proofs.YtbkkolfpegplgaaGreatDoor
open Go Go.RowKit
theorem cnan_any (x:Int) (w:World):Calls Tryz.prog 150 #[.int .u64 x] w fun e w'=>e=.returned (.bool false)∧Below w.heap.size w w':=by
 have d1:((x:Int) != x)=false:=by simp
 go_enter Tryz.func150,Tryz.ntmps150
 go_wp2
 go_ret
 exact ⟨rfl,Below.refl _ _⟩
theorem snan_any (x:Int) (w:World):Calls Tryz.prog 230 #[.int .u64 x] w fun e w'=>e=.returned (.bool false)∧Below w.heap.size w w':=by
 have d1:((x:Int) != x)=false:=by simp
 go_enter Tryz.func230,Tryz.ntmps230
 go_wp2
 go_ret
 exact ⟨rfl,Below.refl _ _⟩
theorem less_any (x y:Int) (w:World):Calls Tryz.prog 229 #[.int .u64 x,.int .u64 y] w fun e w'=>e=.returned (.bool (decide (x<y)))∧Below w.heap.size w w':=by
 have K:=hide (fun W=>cnan_any x W)
 go_enter Tryz.func229,Tryz.ntmps229
 go_wp2_with fail
 refine (K.out _).mono ?_
 rintro e w1 ⟨rfl,hb⟩
 have HB:=hide hb
 clear hb
 by_cases h:x<y
 ·go_wp2
  go_ret
  exact ⟨by simp [h],HB.out⟩
 ·go_wp2
  go_ret
  exact ⟨by simp [h],HB.out⟩
theorem asc_at {xs:List Int} (h:xs.Pairwise (·<·)) {i j:Nat} (hij:i<j) (hj:j<xs.length):xs.getD i 0<xs.getD j 0:=by
 have:=List.pairwise_iff_getElem.1 h i j (by omega) hj hij
 simpa [List.getD,List.getElem?_eq_getElem (show i<xs.length by omega),List.getElem?_eq_getElem hj] using this
theorem bsearch_any (a:Option Addr) (n cap:Nat) (xs:List Int) (x:Int) (w:World) (h:Ints .u64 w a n xs) (hs:xs.Pairwise (·<·)) (hn:n≤1000000000) :
  Calls Tryz.prog 191 #[.slice a n cap,.int .u64 x] w fun e w'=>∃k:Nat,e=.returned (.tuple #[.int .i64 k,.bool (decide (x∈xs))])∧k≤n∧(∀i,i<k→xs.getD i 0<x)∧(∀i,k≤i→i<n→x≤xs.getD i 0)∧Below w.heap.size w w':=by
 have H:=hide h
 have HS:=hide hs
 have HL:=hide h.length
 clear h hs
 go_enter Tryz.func191,Tryz.ntmps191
 go_wp2
 go_loopw [7,8] (fun i j wr=>∃k m:Nat,k≤m∧m≤n∧i=.int .i64 k∧j=.int .i64 m∧(∀i,i<k→xs.getD i 0<x)∧(∀i,m≤i→i<n→x≤xs.getD i 0)∧Below w.heap.size w wr) (fun i j _=>(intOf j).toNat-(intOf i).toNat)
 case atStart=>exact ⟨0,n,Nat.zero_le _,Nat.le_refl _,rfl,rfl,fun i h=>absurd h (by omega),fun i h h'=>absurd h (by omega),Below.refl _ _⟩
 case round=>
  obtain ⟨k,m,hkm,hmn,rfl,rfl,hlo,hhi,hb⟩:=hrel
  have HB:=hide hb
  have HLO:=hide hlo
  have HHI:=hide hhi
  clear hlo hhi
  have i0:(0:Int)≤(k:Int):=by omega
  by_cases hlt:k<m
  ·obtain ⟨d,em⟩:∃d,(k+m) / 2=d:=⟨_,rfl⟩
   have hm:d<m:=by omega
   have hkd:k≤d:=by omega
   obtain ⟨b,off,rfl,hbl,hc1⟩:=(H.out.below hb).cells d (by omega)
   obtain ⟨y,ey⟩:∃y,xs.getD d 0=y:=⟨_,rfl⟩
   rw [ey] at hc1
   have EY:=hide ey
   have K:=hide (fun W=>less_any y x W)
   have i1:(k:Int)<(m:Int):=by omega
   have q0:IntKind.i64.wrap ((k:Int)+m)=(k:Int)+m:=IntWalk.i64_in _ (by omega)
   have q1:IntKind.u64.wrap ((k:Int)+m)=(k:Int)+m:=by rw [IntKind.wrap_u64];omega
   have q2:((k:Int)+m) / 2=d:=by omega
   have q3:IntKind.u64.wrap (d:Int)=d:=by rw [IntKind.wrap_u64];omega
   have q4:IntKind.i64.wrap (d:Int)=d:=IntWalk.i64_in _ (by omega)
   have q5:(0:Int)≤(d:Int):=by omega
   have q6:(d:Int)<(n:Int):=by omega
   have q7:IntKind.i64.wrap ((d:Int)+1)=(d:Int)+1:=IntWalk.i64_in _ (by omega)
   clear ey hb em
   go_wp2_with fail
   refine (K.out _).mono ?_
   rintro e w1 ⟨rfl,hb1⟩
   have B1:=hide (bl_trans HB.out hb1)
   clear hb1
   by_cases hyx:y<x
   ·have dx:decide (y<x)=true:=by simp [hyx]
    have L2:=hide (show ∀i,i<d+1→xs.getD i 0<x from fun i hi=>by
     rcases Nat.lt_or_ge i d with g | g
     ·have:=asc_at HS.out g (by rw [HL.out];omega)
      have:=EY.out
      omega
     ·obtain rfl:i=d:=by omega
      have:=EY.out
      omega)
    rw [dx]
    go_wp2
    go_roundw
    case rel=>exact ⟨d+1,m,by omega,hmn,by go_num,rfl,L2.out,HHI.out,B1.out⟩
    case measure=>simp [intOf];omega
   ·have dx:decide (y<x)=false:=by simp [hyx]
    have L2:=hide (show ∀i,d≤i→i<n→x≤xs.getD i 0 from fun i hi hin=>by
     rcases Nat.lt_or_ge d i with g | g
     ·have:=asc_at HS.out g (by rw [HL.out];omega)
      have:=EY.out
      omega
     ·obtain rfl:i=d:=by omega
      have:=EY.out
      omega)
    rw [dx]
    go_wp2
    go_roundw
    case rel=>exact ⟨k,d,hkd,by omega,rfl,rfl,HLO.out,L2.out,B1.out⟩
    case measure=>simp [intOf];omega
  ·obtain rfl:k=m:=by omega
   have no:∀i,i<n→(xs.getD i 0=x→i=k):=fun i hi e=>by
    rcases Nat.lt_or_ge i k with g | g
    ·have:=HLO.out i g;omega
    ·rcases Nat.lt_or_ge k i with g' | g'
     ·have h1:=asc_at HS.out g' (by rw [HL.out];omega)
      have h2:=HHI.out k (Nat.le_refl _) (by omega)
      omega
     ·omega
   have mem:(x∈xs)↔k<n∧xs.getD k 0=x:=by
    constructor
    ·intro hm
     obtain ⟨i,hi,e⟩:=List.mem_iff_getElem.1 hm
     have e2:xs.getD i 0=x:=by simp [List.getD,List.getElem?_eq_getElem hi,e]
     have hl:=HL.out
     obtain rfl:=no i (by omega) e2
     exact ⟨by omega,e2⟩
    ·rintro ⟨h1,h2⟩
     have hl:=HL.out
     rw [← h2]
     simp [List.getD,List.getElem?_eq_getElem (show k<xs.length by omega)]
   have MEM:=hide mem
   clear no mem
   by_cases hkn:k<n
   ·obtain ⟨b,off,rfl,hbl,hc1⟩:=(H.out.below hb).cells k hkn
    obtain ⟨y,ey⟩:∃y,xs.getD k 0=y:=⟨_,rfl⟩
    rw [ey] at hc1
    have M:=MEM.out
    rw [ey] at M
    have i1:(k:Int)<(n:Int):=by omega
    clear ey hb
    by_cases hyx:y=x
    ·subst hyx
     have dm:=hide (show decide (y∈xs)=true from by simp [M.2 ⟨hkn,rfl⟩])
     have d1:((y:Int) == y)=true:=by simp
     clear M
     go_wp2
     go_ret2
     exact ⟨k,(by rw [dm.out];rfl),hmn,HLO.out,HHI.out,HB.out⟩
    ·have dm:=hide (show decide (x∈xs)=false from by simp [M,hyx])
     have d1:((y:Int) == x)=false:=by simp [hyx]
     have K:=hide (fun W=>snan_any y W)
     clear M
     go_wp2_with fail
     refine (K.out _).mono ?_
     rintro e w1 ⟨rfl,hb1⟩
     have B1:=hide (bl_trans HB.out hb1)
     clear hb1
     go_wp2
     go_ret2
     exact ⟨k,(by rw [dm.out];rfl),hmn,HLO.out,HHI.out,B1.out⟩
   ·obtain rfl:k=n:=by omega
    have dm:=hide (show decide (x∈xs)=false from by have M:=MEM.out;simp [M])
    clear hb
    go_wp2
    go_ret2
    exact ⟨k,(by rw [dm.out];rfl),hmn,HLO.out,HHI.out,HB.out⟩
theorem ins_list {xs:List Int} {x:Int} {k:Nat} (hs:xs.Pairwise (·<·)) (hk:k≤xs.length) (hlo:∀i,i<k→xs.getD i 0<x) (hhi:∀i,k≤i→i<xs.length→x≤xs.getD i 0) (hx:x ∉ xs) :
  (xs.take k ++ [x] ++ xs.drop k).Pairwise (·<·)∧(∀y,y∈xs.take k ++ [x] ++ xs.drop k↔y=x∨y∈xs):=by
 have h1:∀y∈xs.take k,y<x:=fun y hy=>by
  obtain ⟨i,hi,e⟩:=List.mem_iff_getElem.1 hy
  rw [List.length_take] at hi
  have:=hlo i (by omega)
  rw [List.getElem_take] at e
  simpa [List.getD,List.getElem?_eq_getElem (show i<xs.length by omega),e] using this
 have h2:∀y∈xs.drop k,x<y:=fun y hy=>by
  obtain ⟨i,hi,e⟩:=List.mem_iff_getElem.1 hy
  rw [List.length_drop] at hi
  have:=hhi (k+i) (by omega) (by omega)
  rw [List.getElem_drop] at e
  have hm:y∈xs:=List.mem_of_mem_drop hy
  have hne:x≠y:=fun e=>hx (by rw [e];exact hm)
  have:x≤y:=by simpa [List.getD,List.getElem?_eq_getElem (show k+i<xs.length by omega),e] using this
  omega
 have hsplit:(xs.take k ++ xs.drop k).Pairwise (·<·):=by rw [List.take_append_drop];exact hs
 obtain ⟨p1,p2,p3⟩:=List.pairwise_append.1 hsplit
 refine ⟨?_,fun y=>?_⟩
 ·rw [List.append_assoc]
  refine List.pairwise_append.2 ⟨p1,List.pairwise_cons.2 ⟨h2,p2⟩,fun a ha b hb=>?_⟩
  rcases List.mem_cons.1 hb with rfl | hb
  ·exact h1 a ha
  ·exact p3 a ha b hb
 ·have:y∈xs↔y∈xs.take k∨y∈xs.drop k:=by
   rw [← List.mem_append,List.take_append_drop]
  rw [this]
  simp only [List.mem_append,List.mem_singleton]
  constructor
  ·rintro ((h | h) | h)
   ·exact .inr (.inl h)
   ·exact .inl h
   ·exact .inr (.inr h)
  ·rintro (h | h | h)
   ·exact .inl (.inr h)
   ·exact .inl (.inl h)
   ·exact .inr h
/-- An element is added to an ascending list. -/
theorem sadd_any (q base:Nat) (v:Value) (xs:List Int) (x:Int) (w:World) (hq:w.heap[q]?=some (.cells #[v] 210 (0,0))) (h:OwnI w base v xs) (hs:xs.Pairwise (·<·)) (hx:Word x) (hn:xs.length≤100000000) (hbase:base≤w.heap.size) (hxx:x ∉ xs) :
  Calls Tryz.prog 133 #[.pointer (some ⟨q,0,none⟩),.int .u64 x] w fun e w'=>∃v' xs',e=.returned (.tuple #[])∧w'.heap[q]?=some (.cells #[v'] 210 (0,0))∧OwnI w' base v' xs'∧xs'.Pairwise (·<·)∧(∀y,y∈xs'↔y=x∨y∈xs)∧xs'.length=xs.length+1∧Only (fun b=>b=q∨v.ownBlock=some b) w w':=by
 obtain ⟨a,cap,rfl,hI,hcap⟩:=h.ints (by omega)
 have KB:=hide (bsearch_any a xs.length cap xs x w hI hs (by omega))
 have H:=hide h
 have HS:=hide hs
 have HQ:=hide hq
 have HX:=hide hx
 have HXX:=hide hxx
 have ho1:∀k,(Value.slice a xs.length cap).ownBlock=some k→k≠q:=fun k hk e=>by
  obtain ⟨cs,hc⟩:=own_typed h.row hk
  rw [e,hq] at hc
  injection hc with hc
  injection hc with _ hc _
  exact absurd hc (by decide)
 have HO1:=hide ho1
 have c0:w.cell? ⟨q,0,none⟩=some (.slice a xs.length cap):=by simp [World.cell?,hq]
 have HC:=hide (ints_oneCell .u64 xs)
 obtain ⟨n,en⟩:∃n,xs.length=n:=⟨_,rfl⟩
 have EN:=hide en
 rw [en] at KB c0 H HQ HO1 hn ⊢
 clear h hs hx hxx hI hcap hq ho1 en
 go_enter Tryz.func133,Tryz.ntmps133
 go_wp2_with fail
 refine KB.out.mono ?_
 rintro e w1 ⟨k,rfl,hk,hlo,hhi,hb1⟩
 obtain ⟨L1,L2⟩:=ins_list HS.out (by rw [EN.out];exact hk) hlo (fun i h1 h2=>hhi i h1 (by rw [← EN.out];exact h2)) HXX.out
 have hq1:=(hb1.block q (Blk_lt HQ.out)).trans HQ.out
 have HQ1:=hide hq1
 have B1:=hide hb1
 have O1:=hide (H.out.below hb1)
 have P1:=hide L1
 have P2:=hide L2
 have HK:=hide hk
 have c1:w1.cell? ⟨q,0,none⟩=some (.slice a n cap):=by simp [World.cell?,hq1]
 clear hlo hhi L1 L2 hb1 hq1
 go_wp2_with fail
 have hqa:=hide (show (w1.alloc (.cells #[.int .u64 x] 57)).heap[q]?=some (.cells #[.slice a n cap] 210 (0,0)) from heap_old_at _ _ (Blk_lt HQ1.out) HQ1.out)
 have hvb:(Value.slice a n cap).ownBlock≠some w1.heap.size:=fun e=>by
  obtain ⟨cs,hc⟩:=own_typed O1.out.row e
  exact absurd (Blk_lt hc) (by omega)
 have hrow:(w1.alloc (.cells #[.int .u64 x] 57)).ownsRow base 57 1 (.slice a n cap) n (xs.map (Value.int .u64)):=by
  have:=O1.out.row.alloc (.cells #[.int .u64 x] 57)
  rw [EN.out] at this
  exact this
 refine (ins_u64_any base n k (.slice a n cap) (xs.map (Value.int .u64)) w1.heap.size [.int .u64 x] _ hrow HK.out (by omega) (by have:=B1.out.size;simp<;>omega) HC.out (one_one x) rfl (heap_new_at _ _ rfl) hvb).mono ?_
 rintro e w2 ⟨v',rfl,hown,ho⟩
 have hq2:=ho.obj (fun e=>HO1.out q e rfl) hqa.out
 have y0:w2.cell? ⟨q,0,none⟩=some (.slice a n cap):=by simp [World.cell?,hq2]
 have f0:w2.frozen? ⟨q,0,none⟩=false:=frozen_of_row _ _ 0 _ _ hq2
 obtain ⟨av,cv,rfl,_⟩:=own_len hown
 have HQ2:=hide hq2
 have HOW:=hide hown
 have HON:=hide ho
 clear hq2 hown ho hvb hrow c1
 go_wp2
 refine bodyPost_end (results_none rfl _ _ _) rfl ?_
 refine ⟨.slice av (n+1) cv,xs.take k ++ [x] ++ xs.drop k,rfl,heap_setCell_same _ _ 0 _ _ _ HQ2.out,⟨?_,fun z hz=>?_⟩,P1.out,P2.out,?_,?_⟩
 ·have e1:(xs.take k ++ [x] ++ xs.drop k).length=n+1:=by
   have:=EN.out
   have:=HK.out
   simp only [List.length_append,List.length_take,List.length_drop,List.length_singleton]
   omega
  have e2:(xs.take k ++ [x] ++ xs.drop k).map (Value.int .u64)=(xs.map (Value.int .u64)).take (k * 1) ++ [Value.int .u64 x] ++ (xs.map (Value.int .u64)).drop (k * 1):=by
   rw [Nat.mul_one,List.map_append,List.map_append,List.map_take,List.map_drop];rfl
  rw [e1,e2]
  refine own_only HOW.out ((Only.refl (fun b=>b=q) w2).setCell (p:=⟨q,0,none⟩) (.inl rfl) _) fun j hj e=>?_
  obtain ⟨cs,hc⟩:=own_typed HOW.out hj
  rw [e,HQ2.out] at hc
  injection hc with hc
  injection hc with _ hc _
  exact absurd hc (by decide)
 ·rcases (P2.out z).1 hz with rfl | hz
  ·exact HX.out
  ·exact H.out.words z hz
 ·have:=EN.out
  have:=HK.out
  simp only [List.length_append,List.length_take,List.length_drop,List.length_singleton]
  omega
 ·refine Only.setCell ?_ (p:=⟨q,0,none⟩) (.inl (.inl rfl)) _
  exact ((Only.of_below B1.out).alloc _).trans (HON.out.wide fun k hk=>.inr hk)
/-- A function of two lists is an operation. -/
structure OpsOf (g:FuncId) (tk:Bool→Bool→Bool):Prop where
 ent:∀(args:Array Value) (w:World),(callFunc g args).run Tryz.prog w=.ok (.enter g args) w
 off:tk false false=false
 set:∀(va vb:Value) (zs ys:List Iv) (w:World),RgAt w va zs→RgAt w vb ys→Cor zs→Cor ys→zs.length+ys.length≤100000000→Calls Tryz.prog g #[va,vb] w fun e w'=>SetR w tk zs ys e w'
theorem opsU:OpsOf 81 tkU:=⟨fun _ _=>by kernel_rfl,rfl,fun va vb zs ys w h1 h2 h3 h4 h5=>union_any va vb zs ys w h1 h2 h3 h4 h5⟩
theorem opsM:OpsOf 82 tkM:=⟨fun _ _=>by kernel_rfl,rfl,fun va vb zs ys w h1 h2 h3 h4 h5=>smeet_any va vb zs ys w h1 h2 h3 h4 h5⟩
/-- What is known by an operation. -/
def KnT (tk:Bool→Bool→Bool) (es fs:List Ent) (r c:Int):Prop:=tk (decide (KnV es r c)) (decide (KnV fs r c))=true
theorem knT_or {tk:Bool→Bool→Bool} (h0:tk false false=false) {es fs:List Ent} {r c:Int} (h:KnT tk es fs r c):KnV es r c∨KnV fs r c:=by
 unfold KnT at h
 by_cases h1:KnV es r c
 ·exact .inl h1
 ·by_cases h2:KnV fs r c
  ·exact .inr h2
  ·simp [h1,h2,h0] at h
/-- The list of a replica. -/
theorem knT_list {tk:Bool→Bool→Bool} (h0:tk false false=false) {es fs:List Ent} (he:∀e∈es,EntW e) (hf:∀e∈fs,EntW e) {r:Int} {zs ys out:List Iv} (hz:∀c,InL zs c↔KnV es r c) (hy:∀c,InL ys c↔KnV fs r c)
  (ho:∀x,InL out x↔0≤x∧x<18446744073709551616∧tk (decide (InL zs x)) (decide (InL ys x))=true) (c:Int):InL out c↔KnT tk es fs r c:=by
 rw [ho]
 have e1:decide (InL zs c)=decide (KnV es r c):=by simp [hz]
 have e2:decide (InL ys c)=decide (KnV fs r c):=by simp [hy]
 rw [e1,e2]
 constructor
 ·exact fun h=>h.2.2
 ·intro h
  have:0≤c∧c<18446744073709551616:=by
   rcases knT_or h0 h with ⟨e,hm,_,h1,h2,_⟩ | ⟨e,hm,_,h1,h2,_⟩
   ·have:=(he e hm).mx.2;omega
   ·have:=(hf e hm).mx.2;omega
  exact ⟨this.1,this.2,h⟩
/-- What the loop over the replicas has made. -/
structure LatO (tk:Bool→Bool→Bool) (es fs:List Ent) (A:Nat) (xs:List Int) (k:Nat) (lo:List EV):Prop where
 can:CanW (lo.map (·.1))
 rep:∀e∈lo.map (·.1),e.rep∈xs.take k
 kn:∀r c,KnV (lo.map (·.1)) r c↔r∈xs.take k∧KnT tk es fs r c
 len:lo.length≤k
 hs:∀p∈lo,p.1.hs.length≤A
theorem LatO.zero (tk:Bool→Bool→Bool) (es fs:List Ent) (A:Nat) (xs:List Int):LatO tk es fs A xs 0 []:=⟨CanW.nil,by simp,fun r c=>⟨fun h=>absurd h (knV_nil r c),fun h=>absurd h.1 (by simp)⟩,Nat.le_refl _,by simp⟩
theorem mem_takeN {xs:List Int} {k:Nat} (h:k<xs.length) (r:Int):r∈xs.take (k+1)↔r∈xs.take k∨r=xs.getD k 0:=by rw [takeN_snoc h];simp
theorem LatO.none {tk:Bool→Bool→Bool} {es fs:List Ent} {A:Nat} {xs:List Int} {k:Nat} {lo:List EV} (h:LatO tk es fs A xs k lo) (hk:k<xs.length) (hn:∀c,¬KnT tk es fs (xs.getD k 0) c):LatO tk es fs A xs (k+1) lo:=
 ⟨h.can,fun e he=>(mem_takeN hk _).2 (.inl (h.rep e he)),fun r c=>by
  rw [h.kn,mem_takeN hk]
  constructor
  ·rintro ⟨a,b⟩;exact ⟨.inl a,b⟩
  ·rintro ⟨a | a,b⟩
   ·exact ⟨a,b⟩
   ·rw [a] at b;exact absurd b (hn c),by have:=h.len;omega,h.hs⟩
theorem LatO.snoc {tk:Bool→Bool→Bool} {es fs:List Ent} {A:Nat} {xs:List Int} {k:Nat} {lo:List EV} (h:LatO tk es fs A xs k lo) (hk:k<xs.length) (hx:xs.Pairwise (·<·)) {en:Ent} {hv:Value} (hr:en.rep=xs.getD k 0) (hw:EntW en) (hc:EntC en) (hn:∀c,KnE en c↔KnT tk es fs (xs.getD k 0) c) (hl:en.hs.length≤A):LatO tk es fs A xs (k+1) (lo ++ [(en,hv)]):=by
 have hlt:∀f∈lo.map (·.1),f.rep<en.rep:=fun f hf=>by
  have hm:=h.rep f hf
  obtain ⟨i,hi,e⟩:=List.mem_iff_getElem.1 hm
  rw [List.length_take] at hi
  have:=asc_at hx (i:=i) (j:=k) (by omega) hk
  rw [List.getElem_take] at e
  have e2:xs.getD i 0=f.rep:=by simp [List.getD,List.getElem?_eq_getElem (show i<xs.length by omega),e]
  omega
 have em:(lo ++ [(en,hv)]).map (·.1)=lo.map (·.1) ++ [en]:=by simp
 refine ⟨by rw [em];exact h.can.snoc hc hw hlt,fun e he=>?_,fun r c=>?_,by have:=h.len;simp;omega,fun p hp=>?_⟩
 ·rw [em] at he
  rcases List.mem_append.1 he with he | he
  ·exact (mem_takeN hk _).2 (.inl (h.rep e he))
  ·obtain rfl:e=en:=by simpa using he
   exact (mem_takeN hk _).2 (.inr hr)
 ·rw [em,knV_snoc,h.kn,mem_takeN hk]
  constructor
  ·rintro (⟨a,b⟩ | ⟨a,b⟩)
   ·exact ⟨.inl a,b⟩
   ·have e:r=xs.getD k 0:=by omega
    exact ⟨.inr e,by rw [e];exact (hn c).1 b⟩
  ·rintro ⟨a | a,b⟩
   ·exact .inl ⟨a,b⟩
   ·refine .inr ⟨by omega,(hn c).2 ?_⟩
    rw [a] at b;exact b
 ·rcases List.mem_append.1 hp with hp | hp
  ·exact h.hs p hp
  ·obtain rfl:p=(en,hv):=by simpa using hp
   exact hl
/-- The lists of holes lie from a block on. -/
def HolB (base:Nat) (l:List EV):Prop:=∀p∈l,∀k,p.2.ownBlock=some k→base≤k
theorem HolB.mono {base base':Nat} {l:List EV} (h:HolB base l) (hb:base'≤base):HolB base' l:=fun p hp k hk=>Nat.le_trans hb (h p hp k hk)
theorem HolB.snoc {base:Nat} {l:List EV} {p:EV} (h:HolB base l) (hp:∀k,p.2.ownBlock=some k→base≤k):HolB base (l ++ [p]):=fun q hq=>by
 rcases List.mem_append.1 hq with hq | hq
 ·exact h q hq
 ·obtain rfl:q=p:=by simpa using hq
  exact hp
theorem RowF.onlyB {w w':World} {base:Nat} {v:Value} {l:List EV} {may:Nat→Prop} (h:RowF w base v l) (hl:HolB base l) (ho:Only may w w') (hm:∀k,may k→k<base):RowF w' base v l:=
 ⟨own_only h.row ho (fun k hk hy=>by have:=(h.row.lt k hk).1;have:=hm k hy;omega),fun p hp=>by
  obtain ⟨a,cap,hv,h1,h2,h3,h4⟩:=h.fins p hp
  have nm:∀ad,a=some ad→¬may ad.block:=fun ad e hk=>by
   have:=hl p hp ad.block (by rw [hv,e];rfl)
   have:=hm _ hk
   omega
  refine ⟨a,cap,hv,h1.only ho (fun b off e=>nm _ e),h2,h3,fun ad e=>?_⟩
  obtain ⟨k1,cs,k2⟩:=h4 ad e
  exact ⟨Nat.lt_of_lt_of_le k1 ho.size,cs,ho.obj (nm ad e) k2⟩,h.words⟩
theorem ldo_any (g:FuncId) (tk:Bool→Bool→Bool) (hg:OpsOf g tk) (a:Option Addr) (len cap:Nat) (l:List EV) (a':Option Addr) (len' cap':Nat) (l':List EV) (A B:Nat) (w:World) (hE:EntsAt w a len l) (hE':EntsAt w a' len' l') (hR:RightV (l.map (·.1))) (hR':RightV (l'.map (·.1)))
  (hs:∀p∈l,p.1.hs.length≤A) (hs':∀p∈l',p.1.hs.length≤B) (hAB:A+B≤9000000) (hlen:len≤10000000) (hlen':len'≤10000000) :
  Calls Tryz.prog 80 #[.slice a len cap,.slice a' len' cap',.func (.func g) #[] #[]] w fun e w'=>∃v lo,e=.returned v∧RowF w' w.heap.size v lo∧HolB w.heap.size lo∧CanW (lo.map (·.1))∧(∀r c,KnV (lo.map (·.1)) r c↔KnT tk (l.map (·.1)) (l'.map (·.1)) r c)∧lo.length≤len+len'∧(∀p∈lo,p.1.hs.length≤A+B+3)∧Below w.heap.size w w':=by
 obtain ⟨i0,hi,hz0,hz1,hz2⟩:=info_parts info_entry
 have KP:=hide (pair_any a len cap l a' len' cap' l' A B w hE hE' hR hR' hs hs' (by omega) (by omega) hlen hlen')
 have hwe:∀e∈l.map (·.1),EntW e:=fun e he=>by
  obtain ⟨p,hp,rfl⟩:=List.mem_map.1 he
  exact hE.words p hp
 have hwe':∀e∈l'.map (·.1),EntW e:=fun e he=>by
  obtain ⟨p,hp,rfl⟩:=List.mem_map.1 he
  exact hE'.words p hp
 have WE:=hide hwe
 have WE':=hide hwe'
 generalize l.map (·.1)=es at KP WE ⊢
 generalize l'.map (·.1)=fs at KP WE' ⊢
 have hent:=hg.ent
 have HG:=hide hg
 clear hE hE' hR hR' hs hs' hwe hwe' hg
 go_enter Tryz.func80,Tryz.ntmps80
 go_wp2_with fail
 refine KP.out.mono ?_
 rintro e w1 ⟨M,f,rfl,hM1,hM,hP,hb1⟩
 have HM:=hide hM
 have HP:=hide hP
 have B1:=hide hb1
 have hMlt:=hM.lt
 clear hM hP hb1
 go_wp2_with (at_range;refine wpList_range_r _ rfl _ 207 212 rfl Tryz.underlying207 M (len+len') f rfl (HM.out.below (bl_alloc (Below.refl _ _) _)) ?_;intro w2 cnt0 hcnt hrg0 hg0 hs0)
 go_frame
 obtain ⟨R,eR⟩:∃R,w1.heap.size=R:=⟨_,rfl⟩
 have e1:(w1.alloc (.cells #[.slice none 0 0] 210)).heap.size=R+1:=by simp [eR]
 have q0:w2.heap[R]?=some (.cells #[.slice none 0 0] 210 (0,0)):=(hg0.block R (by omega) (by simp)).trans (by rw [← eR];exact heap_new_at _ _ rfl)
 have B2:=hide (show Below R w1 w2 from by
  rw [← eR]
  exact (bl_alloc (Below.refl w1.heap.size w1) (.cells #[.slice none 0 0] 210)).grown hg0 (by simp) (fun j hj=>by cases hj))
 rw [e1] at hrg0 hs0 ⊢
 have ER:=hide eR
 rw [eR]
 have hMR:M<R:=by omega
 clear e1 eR hg0
 go_loopw [20] (fun _ wr=>∃(left:Int→Bool) (cnt:Nat) (v:Value) (xs:List Int),RangeR wr M (R+1) (len+len') f left cnt∧wr.heap[R]?=some (.cells #[v] 210 (0,0))∧OwnI wr (R+2) v xs∧xs.Pairwise (·<·)∧(∀y,Word y→(y∈xs↔(f y).isSome=true∧left y=false))∧xs.length+cnt≤len+len'∧Below R w1 wr)
  (fun _ wr=>wr.rangeLeft M (R+1))
 case atStart=>
  exact ⟨_,cnt0,_,[],hrg0,q0,OwnI.nil _ _,List.Pairwise.nil,(fun y _=>⟨fun h=>(by cases h),fun h=>(by have h1:=h.1;have h2:=h.2;rw [h1] at h2;cases h2)⟩),by simp;exact hcnt,B2.out⟩
 case round=>
  obtain ⟨left,cnt,v,xs,hrg,hq,hO,hxs,hmem,hxl,hb⟩:=hrel
  have HRG:=hide hrg
  have HQ:=hide hq
  have HO:=hide hO
  have HXS:=hide hxs
  have HMEM:=hide hmem
  have HB:=hide hb
  clear hrg hq hO hxs hmem hb q0 hrg0 hs0
  go_wp2_with (at_next;refine wpList_next_r _ rfl _ rfl M (R+1) (len+len') f left cnt rfl HRG.out ?_ ?_)
  ·intro hc0 hl0
   have hmm:=hide (show ∀y,Word y→(y∈xs↔(f y).isSome=true) from fun y hy=>by
    rw [HMEM.out y hy,hl0 y hy];simp)
   obtain ⟨ax,cx,rfl,hI,_⟩:=HO.out.ints (by omega)
   have WX:=hide HO.out.words
   obtain ⟨N,eN⟩:∃N,xs.length=N:=⟨_,rfl⟩
   have EN:=hide eN
   have HI:=hide hI
   have y0:wr.cell? ⟨R,0,none⟩=some (.slice ax N cx):=by rw [← eN];simp [World.cell?,HQ.out]
   have HMP:=hide HRG.out.map
   have hNl:N≤len+len':=by omega
   rw [eN] at HI
   have hPw:=hide (HP.out.below (HB.out.mono (by have:=ER.out;omega)))
   have HB0:=hide HB.out
   have S0W:=hide (show w.heap.size≤wr.heap.size from by have:=B1.out.size;have:=ER.out;have:=HB.out.size;omega)
   clear hl0 hI eN HQ HO HRG HMEM hc0
   go_wp2
   clear y0
   obtain ⟨WR,eWR⟩:∃W,wr=W:=⟨_,rfl⟩
   rw [eWR] at HI HMP hPw HB0 S0W ⊢
   clear eWR
   obtain ⟨S0,eS0⟩:∃S0,WR.heap.size=S0:=⟨_,rfl⟩
   rw [eS0] at S0W
   have ES0:=hide eS0
   clear eS0
   go_loopw [10,29] (fun o c wq=>∃(k:Nat) (lo:List EV),k≤N∧c=.int .i64 k∧LatO tk es fs (A+B+3) xs k lo∧RowF wq S0 o lo∧HolB S0 lo∧Below S0 WR wq) (fun _ c _=>N-(intOf c).toNat)
   case atStart=>exact ⟨0,[],Nat.zero_le _,rfl,LatO.zero _ _ _ _ _,RowF.nil _ _,(fun p hp=>by cases hp),Below.refl _ _⟩
   case round=>
    obtain ⟨k,lo,hk,rfl,hL,hF,hHB,hb'⟩:=hrel
    have HHB:=hide hHB
    have hb:Below WR.heap.size WR wr:=by rw [ES0.out];exact hb'
    have HL:=hide hL
    have HF:=hide hF
    have HBQ:=hide hb'
    have HBR:=hide hb
    have i0':(0:Int)≤(k:Int):=by omega
    clear hL hF hb' hHB
    by_cases hlt:k<N
    ·have i1:(k:Int)<(N:Int):=by omega
     obtain ⟨b,off,rfl,hbl,hc1⟩:=(HI.out.below hb).cells k hlt
     have hkl:k<xs.length:=by rw [EN.out];exact hlt
     have hmemx:xs.getD k 0∈xs:=by
      simp only [List.getD,List.getElem?_eq_getElem hkl,Option.getD_some]
      exact List.getElem_mem hkl
     have hwx:Word (xs.getD k 0):=WX.out _ hmemx
     obtain ⟨_,va,vb,hv,⟨zs,hza,hzc,hzi,hzl⟩,⟨ys,hya,hyc,hyi,hyl⟩⟩:=(hPw.out.below hb) _ hwx
     have SET:=hide (HG.out.set va vb zs ys wr hza hya hzc hyc (by omega))
     have LST:=hide (fun out ho c=>knT_list (tk:=tk) HG.out.off WE.out WE'.out (r:=xs.getD k 0) (zs:=zs) (ys:=ys) (out:=out) hzi hyi ho c)
     have HNO:=hide (fun hn=>HL.out.none hkl hn)
     have HSN:=hide (fun (en:Ent) (hv:Value) hr hw hc hn hl=>HL.out.snoc hkl HXS.out (en:=en) (hv:=hv) hr hw hc hn hl)
     obtain ⟨x,ex⟩:∃x,xs.getD k 0=x:=⟨_,rfl⟩
     rw [ex] at hc1 hwx hv LST HNO HSN
     have hlk:(Instr.lookup 207 (.map (some M)) (.int .u64 x) false).run Tryz.prog wr=.ok (.agg #[va,vb]) wr:=by
      rw [(HMP.out.below hb).look Tryz.underlying207 (zero_pairT _) hwx,hv]
     have ix0:∀W:World,(Instr.index 212 (.agg #[va,vb]) (.int .i64 0)).run Tryz.prog W=.ok va W:=fun W=>by rfl
     have ix1:∀W:World,(Instr.index 212 (.agg #[va,vb]) (.int .i64 1)).run Tryz.prog W=.ok vb W:=fun W=>by rfl
     have HWX:=hide hwx
     have LEN:=hide (And.intro hzl hyl)
     have HLL:=hide HL.out.len
     clear ex hmemx hkl hv hza hzc hzi hzl hya hyc hyi hyl hbl hb hwx
     go_wp2_with fail
     refine SET.out.mono ?_
     rintro e w3 ⟨⟨v,out,rfl,hO,hOc,hOi,hOl⟩,hb3⟩
     have B3:=hide (bl_trans HBR.out hb3)
     have F3:=hide (HF.out.only (may:=fun _=>False) (Only.of_below hb3) (fun _ h=>h.elim))
     have hLi:=LST.out out hOi
     by_cases hn0:out=[]
     ·subst hn0
      obtain ⟨av,cv,rfl,_,_,_⟩:=hO.prs
      have NX:=hide (HNO.out (fun c h=>inL_nil c ((hLi c).2 h)))
      have K0:=hide (fun W=>of_none x av cv W)
      clear hO hOc hOi hOl hb3 hLi
      go_wp2_with fail
      refine (K0.out _).mono ?_
      rintro e w4 ⟨rfl,hb4⟩
      have B4:=hide (bl_trans B3.out hb4)
      have F4:=hide (F3.out.only (may:=fun _=>False) (Only.of_below hb4) (fun _ h=>h.elim))
      clear hb4
      go_wp2
      go_roundw
      case rel=>
       exact ⟨k+1,lo,by omega,by simp,NX.out,F4.out.only (may:=fun _=>False) (Only.of_below (bl_alloc (Below.refl _ _) _)) (fun _ h=>h.elim),HHB.out,by rw [← ES0.out];exact bl_alloc B4.out _⟩
      case measure=>simp [intOf];omega
     ·have KO:=hide (of_some x v out w3 hO.rg hOc HWX.out hn0 (by have:=LEN.out;omega))
      have HOL:=hide hOl
      obtain ⟨av,cv,rfl,_,_,_⟩:=hO.prs
      have HLI:=hide hLi
      have B3S:=hide hb3.size
      have S0R:=hide (show S0≤wr.heap.size from by have:=HBQ.out.size;have:=ES0.out;omega)
      clear hO hOc hOi hOl hb3 hLi hn0
      obtain ⟨m0,em0⟩:∃m0,out.length=m0:=⟨_,rfl⟩
      rw [em0] at KO HOL ⊢
      clear em0
      go_wp2_with fail
      refine KO.out.mono ?_
      rintro e w4 ⟨en,hv,rfl,hrep,hOh,hEW,hEC,hKn,hel,hb4⟩
      have B4:=hide (bl_trans B3.out hb4)
      have F4:=hide (F3.out.only (may:=fun _=>False) (Only.of_below hb4) (fun _ h=>h.elim))
      have NX:=hide (HSN.out en hv hrep hEW hEC (fun c=>(hKn c).trans (HLI.out c)) (by have:=HOL.out;have:=LEN.out;omega))
      obtain ⟨rp,mx,hs⟩:=en
      simp only at hrep hOh hel
      subst hrep
      obtain ⟨ah,ch,rfl,_,_,_⟩:=hOh.prs
      have OH:=hide (show OwnL w4 S0 123 (.slice ah hs.length ch) hs from ⟨own_base hOh.row (Nat.le_trans S0R.out B3S.out),hOh.words⟩)
      have EW:=hide hEW
      clear hOh hEW hEC hKn hel hb4
      obtain ⟨m,em⟩:∃m,hs.length=m:=⟨_,rfl⟩
      rw [em] at OH NX ⊢
      clear em
      obtain ⟨ao,co,rfl,_⟩:=own_len F4.out.row
      go_wp2_with (at_builtin;go_loud (refine wpList_append_own_at _ rfl _ _ 76 rfl S0 96 i0 (.agg #[.int .u64 0,.int .u64 0,.slice none 0 0]) 3 40 Tryz.underlying76 hi hz0 hz1 hz2 rfl (by decide) _ _ _ rfl ((F4.out.row.alloc _).alloc _) ⟨w4.heap.size+1,0,none⟩ 1 1 [.int .u64 rp,.int .u64 mx,.slice ah m ch] rfl rfl ?z1 ?z2 ?z3 ?z4 ?z5 ?_))
      case z1=>exact three_new (heap_new_at _ _ (by simp))
      case z2=>intro u hu;simp at hu;rcases hu with rfl | rfl | rfl<;>rfl
      case z3=>have:=HLL.out;unfold maxLen;omega
      case z4=>have:=HLL.out;omega
      case z5=>have:=B4.out.size;have:=ES0.out;simp;omega
      intro v' w5 hown hgrow _ _
      have F5:=hide (RowF.push (e:=⟨rp,mx,hs⟩) (o:=.cells #[.int .u64 rp,.int .u64 mx,.slice ah m ch] 96) (F4.out.only (may:=fun _=>False) (Only.of_below (bl_alloc (Below.refl w4.heap.size w4) (.cells #[.int .u64 rp,.int .u64 mx,.slice ah m ch] 96))) (fun _ h=>h.elim))
       (⟨own_only OH.out.row ((Only.refl (fun _=>False) w4).alloc _) (fun _ _ h=>h),OH.out.words⟩) EW.out hown hgrow)
      have B5:=hide ((bl_trans B4.out (bl_alloc (bl_alloc (Below.refl w4.heap.size w4) (.cells #[.int .u64 rp,.int .u64 mx,.slice ah m ch] 96)) (.cells #[.int .u64 rp,.int .u64 mx,.slice ah m ch] 96))).grown hgrow (by have:=B4.out.size;simp<;>omega) (fun q hq=>by have:=(F4.out.row.lt q hq).1;have:=ES0.out;omega))
      clear hown hgrow
      go_wp2
      go_roundw
      case rel=>
       have FINAL:∃(k':Nat) (lo:List EV),k'≤N∧(.int .i64 ((k:Int)+1):Value)=.int .i64 k'∧LatO tk es fs (A+B+3) xs k' lo∧RowF w5 S0 v' lo∧HolB S0 lo∧Below S0 WR w5:=⟨k+1,_,by omega,by simp,NX.out,F5.out,HHB.out.snoc (fun k hk=>(OH.out.row.lt k hk).1),by rw [← ES0.out];exact B5.out⟩
       first | exact FINAL | ((repeat apply Exists.intro);exact ⟨FINAL,rfl⟩)
      case measure=>simp [intOf];omega
    ·obtain rfl:N=k:=by omega
     have FIN:=hide (show ∀r c,KnV (lo.map (·.1)) r c↔KnT tk es fs r c from fun r c=>by
      rw [HL.out.kn,List.take_of_length_le (by rw [EN.out];exact Nat.le_refl _)]
      constructor
      ·exact fun h=>h.2
      ·intro h
       refine ⟨?_,h⟩
       have hex:(∃e∈es,e.rep=r)∨(∃e∈fs,e.rep=r):=by
        rcases knT_or HG.out.off h with ⟨e,h1,h2,_⟩ | ⟨e,h1,h2,_⟩
        ·exact .inl ⟨e,h1,h2⟩
        ·exact .inr ⟨e,h1,h2⟩
       have hwr:Word r:=by
        rcases hex with ⟨e,h1,h2⟩ | ⟨e,h1,h2⟩
        ·rw [← h2];exact (WE.out e h1).rep
        ·rw [← h2];exact (WE'.out e h1).rep
       exact (hmm.out r hwr).2 (((HP.out r hwr).1).2 hex))
     have HCAN:=hide HL.out.can
     have HLEN:=hide (Nat.le_trans HL.out.len hNl)
     have HHS:=hide HL.out.hs
     have BE:=hide ((B1.out.trans (HB0.out.mono (by have:=ER.out;have:=B1.out.size;omega))).trans (HBQ.out.mono S0W.out))
     have FE:=hide (HF.out.base S0W.out)
     have HE:=hide (HHB.out.mono S0W.out)
     clear HL hb
     go_wp2
     go_ret
     first | exact ⟨_,rfl,lo,FE.out,HE.out,HCAN.out,FIN.out,HLEN.out,HHS.out,BE.out⟩ | exact ⟨_,lo,rfl,FE.out,HE.out,HCAN.out,FIN.out,HLEN.out,HHS.out,BE.out⟩
  ·intro x c w3 cnt1 hwx hlx hfx hrg1 hlt hg1 hs1 hen
   have g1:Only (fun k=>k=R+1) wr w3:=(Only.refl (fun k=>k=R+1) wr).grown hg1 (fun k hk=>by injection hk with hk;exact hk.symm)
   have hq3:=g1.obj (by omega) HQ.out
   have hO3:=HO.out.keep g1 (fun k hk=>by omega)
   have hxx:x ∉ xs:=fun hm=>by
    have:=((HMEM.out x hwx).1 hm).2
    rw [hlx] at this
    cases this
   have hvl:∀k,v.ownBlock=some k→R+2≤k:=fun k hk=>(HO.out.row.lt k hk).1
   have KA:=hide (sadd_any R (R+2) v xs x w3 hq3 hO3 HXS.out hwx (by omega) (by have:=hrg1.lt;omega) hxx)
   have HRG1:=hide hrg1
   have HVL:=hide hvl
   have G1:=hide g1
   have HWX:=hide hwx
   have HFX:=hide hfx
   clear hrg1 hg1 g1 hq3 hO3 hxx hvl hwx hfx hlx
   go_wp2_with fail
   refine KA.out.mono ?_
   rintro e w4 ⟨v',xs',rfl,hq4,hO4,hs4,hm4,hl4,ho4⟩
   have RG4:=hide (HRG1.out.only ho4 (fun h=>by
    rcases h with h | h
    ·omega
    ·have:=HVL.out _ h;omega) (fun h=>by
    rcases h with h | h
    ·omega
    ·have:=HVL.out _ h;omega))
   have HB4:=hide ((HB.out.trans (G1.out.below (n:=R) (by have:=HRG.out.lt;omega) (fun k hk=>by omega))).trans (ho4.below (n:=R) (by have:=HRG1.out.lt;omega) (fun k hk=>by
    rcases hk with hk | hk
    ·omega
    ·have:=HVL.out _ hk;omega)))
   have HQ4:=hide hq4
   have HO4:=hide hO4
   have HS4:=hide hs4
   have HM4:=hide (show ∀y,Word y→(y∈xs'↔(f y).isSome=true∧(left y && !decide (y=x))=false) from fun y hy=>by
    rw [hm4,HMEM.out y hy]
    by_cases e:y=x
    ·subst e;simp [HFX.out]
    ·simp [e])
   have HL4:=hide hl4
   clear hq4 hO4 hs4 hm4 hl4 ho4
   go_wp2
   go_roundw
   case rel=>
    have FINAL:∃(left:Int→Bool) (cnt:Nat) (v:Value) (xs:List Int),RangeR w4 M (R+1) (len+len') f left cnt∧w4.heap[R]?=some (.cells #[v] 210 (0,0))∧OwnI w4 (R+2) v xs∧xs.Pairwise (·<·)∧(∀y,Word y→(y∈xs↔(f y).isSome=true∧left y=false))∧xs.length+cnt≤len+len'∧Below R w1 w4:=
     ⟨_,cnt1,v',xs',RG4.out,HQ4.out,HO4.out,HS4.out,HM4.out,by have:=HL4.out;omega,HB4.out⟩
    first | exact FINAL | ((repeat apply Exists.intro);exact ⟨FINAL,rfl⟩)
   case measure=>rw [RG4.out.left_eq,HRG.out.left_eq];exact hlt
/-- A vector, as a value has it; a nil list has no capacity. -/
def VecAt (w:World) (v:Value) (l:List EV):Prop:=∃a cap,v=.slice a l.length cap∧EntsN w a l.length l∧l.length≤cap
theorem VecAt.below {w w':World} {v:Value} {l:List EV} (h:VecAt w v l) (hb:Below w.heap.size w w'):VecAt w' v l:=by
 obtain ⟨a,cap,h1,h2,h3⟩:=h
 exact ⟨a,cap,h1,h2.below hb,h3⟩
theorem RowF.vecAt {w:World} {base:Nat} {v:Value} {l:List EV} (h:RowF w base v l):VecAt w v l:=h.entsN
theorem VecAt.nil (w:World):VecAt w nilV []:=(RowF.nil w 0).vecAt
theorem right_nil:RightV []:=⟨fun i hi=>absurd hi (by simp),fun i _ hi=>absurd hi (by simp)⟩
/-- The result of an operation. -/
def LatR (w:World) (tk:Bool→Bool→Bool) (es fs:List Ent) (n A:Nat) (e:Ending) (w':World):Prop:=∃v lo,e=.returned v∧RowF w' w.heap.size v lo∧HolB w.heap.size lo∧CanW (lo.map (·.1))∧(∀r c,KnV (lo.map (·.1)) r c↔KnT tk es fs r c)∧lo.length≤n∧(∀p∈lo,p.1.hs.length≤A)∧Below w.heap.size w w'
theorem lunion_any (va vb:Value) (l l':List EV) (A B:Nat) (w:World) (hE:VecAt w va l) (hE':VecAt w vb l') (hR:RightV (l.map (·.1))) (hR':RightV (l'.map (·.1)))
  (hs:∀p∈l,p.1.hs.length≤A) (hs':∀p∈l',p.1.hs.length≤B) (hAB:A+B≤9000000) (hlen:l.length≤10000000) (hlen':l'.length≤10000000) :
  Calls Tryz.prog 35 #[va,vb] w fun e w'=>LatR w tkU (l.map (·.1)) (l'.map (·.1)) (l.length+l'.length) (A+B+3) e w':=by
 obtain ⟨a,cap,rfl,h1,_⟩:=hE
 obtain ⟨a',cap',rfl,h2,_⟩:=hE'
 have K:=hide (ldo_any 81 tkU opsU a l.length cap l a' l'.length cap' l' A B w h1.at' h2.at' hR hR' hs hs' hAB hlen hlen')
 clear h1 h2 hR hR' hs hs'
 go_enter Tryz.func35,Tryz.ntmps35
 go_wp2_with fail
 refine K.out.mono ?_
 rintro e w1 ⟨v,lo,rfl,h⟩
 have HH:=hide h
 clear h
 go_wp2
 go_ret
 exact ⟨v,lo,rfl,HH.out⟩
theorem lmeet_any (va vb:Value) (l l':List EV) (A B:Nat) (w:World) (hE:VecAt w va l) (hE':VecAt w vb l') (hR:RightV (l.map (·.1))) (hR':RightV (l'.map (·.1)))
  (hs:∀p∈l,p.1.hs.length≤A) (hs':∀p∈l',p.1.hs.length≤B) (hAB:A+B≤9000000) (hlen:l.length≤10000000) (hlen':l'.length≤10000000) :
  Calls Tryz.prog 37 #[va,vb] w fun e w'=>LatR w tkM (l.map (·.1)) (l'.map (·.1)) (l.length+l'.length) (A+B+3) e w':=by
 obtain ⟨a,cap,rfl,h1,_⟩:=hE
 obtain ⟨a',cap',rfl,h2,_⟩:=hE'
 have K:=hide (ldo_any 82 tkM opsM a l.length cap l a' l'.length cap' l' A B w h1.at' h2.at' hR hR' hs hs' hAB hlen hlen')
 clear h1 h2 hR hR' hs hs'
 go_enter Tryz.func37,Tryz.ntmps37
 go_wp2_with fail
 refine K.out.mono ?_
 rintro e w1 ⟨v,lo,rfl,h⟩
 have HH:=hide h
 clear h
 go_wp2
 go_ret
 exact ⟨v,lo,rfl,HH.out⟩
theorem knE_one {en:Ent} {rep x:Int} (h:∀c,KnE en c↔InL [(x,x)] c) (c:Int):KnE en c↔c=x:=by
 rw [h,inL_one];constructor
 ·rintro ⟨a,b⟩;simp at a b;omega
 ·rintro rfl;exact ⟨Int.le_refl _,Int.le_refl _⟩
theorem ladd_any (rep x:Int) (w:World) (hr:Word rep) (hx:Word x) :
  Calls Tryz.prog 72 #[.slice none 0 0,.int .u64 rep,.int .u64 x] w fun e w'=>∃v lo,e=.returned v∧RowF w' w.heap.size v lo∧HolB w.heap.size lo∧CanW (lo.map (·.1))∧(∀r c,KnV (lo.map (·.1)) r c↔r=rep∧c=x)∧lo.length≤1∧(∀p∈lo,p.1.hs.length≤10)∧Below w.heap.size w w':=by
 have K:=hide (fun W (h:W.heap[w.heap.size]?=some (.cells #[.int .u64 x,.int .u64 x] 123 (0,0)))=>of_some rep (.slice (some ⟨w.heap.size,0,none⟩) 1 1) [(x,x)] W ⟨_,_,rfl,prs_one hx hx h,Nat.le_refl _⟩ (cor_one (Int.le_refl _)) hr (by simp) (by simp))
 go_enter Tryz.func72,Tryz.ntmps72
 go_wp2_with fail
 refine (K.out _ (heap_new_at _ _ rfl)).mono ?_
 rintro e w1 ⟨en,hv,rfl,hrep,hO,hEW,hEC,hKn,hel,hb1⟩
 have B1:=hide (bl_trans (bl_alloc (Below.refl w.heap.size w) (.cells #[.int .u64 x,.int .u64 x] 123)) hb1)
 obtain ⟨av,cv,rfl,_,_,_⟩:=hO.prs
 have HKN:=hide (knE_one (rep:=rep) hKn)
 have HOH:=hide hO
 have HEW:=hide hEW
 have HEC:=hide hEC
 have HEL:=hide hel
 have HREP:=hide hrep
 obtain ⟨m,em⟩:∃m,en.hs.length=m:=⟨_,rfl⟩
 obtain ⟨mx,emx⟩:∃mx,en.mx=mx:=⟨_,rfl⟩
 have EM:=hide em
 have EMX:=hide emx
 rw [em] at HOH
 rw [em,emx]
 clear hO hEW hEC hKn hel hb1 hrep em emx
 go_wp2_with fail
 obtain ⟨W2,eW2⟩:∃W,(w1.alloc (.cells #[.int .u64 rep,.int .u64 mx,.slice av m cv] 96)).alloc (.cells #[.int .u64 rep,.int .u64 mx,.slice av m cv] 96)=W:=⟨_,rfl⟩
 have hrow:W2.heap[w1.heap.size+1]?=some (.cells #[.int .u64 rep,.int .u64 mx,.slice av m cv] 96 (0,0)):=by rw [← eW2];exact heap_new_at _ _ (by simp)
 have hbl2:Below w1.heap.size w1 W2:=by rw [← eW2];exact bl_alloc (bl_alloc (Below.refl _ _) _) _
 have hOW:=HOH.out.only (may:=fun _=>False) (Only.of_below hbl2) (fun _ h=>h.elim)
 have hrp:=HREP.out
 have hmx:=EMX.out
 have hem:=EM.out
 have hF:RowF W2 (w.heap.size+1) (.slice (some ⟨w1.heap.size+1,0,none⟩) 1 1) [(en,.slice av m cv)]:=by
  refine ⟨⟨by simp [cellsE],.inr ⟨w1.heap.size+1,1,_,rfl,by have:=B1.out.size;omega,hrow,Nat.le_refl _,by decide,by simp,by simp [cellsE,hrp,hmx]⟩⟩,fun p hp=>?_,fun p hp=>?_⟩
  ·obtain rfl:p=(en,.slice av m cv):=by simpa using hp
   refine (HoleF.of_own (w:=W2) (base:=w.heap.size+1) ⟨?_,hOW.words⟩)
   have:=hOW.row
   rw [World.size_alloc] at this
   exact this
  ·obtain rfl:p=(en,.slice av m cv):=by simpa using hp
   exact HEW.out
 have hsb:∀p∈[(en,Value.slice av m cv)],p.1.hs.length≤3:=fun p hp=>by
  obtain rfl:p=(en,.slice av m cv):=by simpa using hp
  have h2:=HEL.out
  simp at h2
  show en.hs.length≤3
  omega
 have KU:=hide (lunion_any nilV (.slice (some ⟨w1.heap.size+1,0,none⟩) 1 1) [] [(en,.slice av m cv)] 0 3 W2 (VecAt.nil _) hF.vecAt right_nil (CanV.right (CanW.v ⟨by simpa using HEC.out,by simpa using HEW.out,by simp⟩)) (by simp) hsb (by omega) (by simp) (by simp))
 have B2:=hide (bl_trans B1.out hbl2)
 rw [eW2]
 clear hrow hbl2 hOW hF eW2
 refine KU.out.mono ?_
 rintro e w3 ⟨v,lo,rfl,hF3,hH3,hC3,hK3,hl3,hs3,hb3⟩
 have F3:=hide (hF3.base (Nat.le_trans (Nat.le_refl _) B2.out.size))
 have B3:=hide (bl_trans B2.out hb3)
 have H3:=hide (hH3.mono B2.out.size)
 have C3:=hide hC3
 have HK3:=hide (show ∀r c,KnV (lo.map (·.1)) r c↔r=rep∧c=x from fun r c=>by
  rw [hK3]
  unfold KnT tkU
  have e1:decide (KnV ([]:List Ent) r c)=false:=by simpa using knV_nil r c
  have e2:KnV [en] r c↔r=rep∧c=x:=by
   rw [knV_cons,HKN.out c]
   constructor
   ·rintro (⟨a,b⟩ | h)
    ·exact ⟨by rw [← a,hrp],b⟩
    ·exact absurd h (knV_nil r c)
   ·rintro ⟨a,b⟩
    exact .inl ⟨by rw [a,hrp],b⟩
  show (decide (KnV ([]:List Ent) r c) || decide (KnV [en] r c))=true↔_
  rw [e1]
  simp [e2])
 have L3:=hide hl3
 have S3:=hide hs3
 clear hF3 hH3 hC3 hK3 hl3 hs3 hb3 hrp hmx hem
 go_wp2
 go_ret
 exact ⟨v,lo,rfl,F3.out,H3.out,C3.out,HK3.out,by simpa using L3.out,fun p hp=>by have:=S3.out p hp;omega,B3.out⟩
attribute [local go_sem] Oper.semAt_some
/-- A fragment with the values of its lists. -/
structure FV where
 items:List Iv
 iv:Value
 vec:List EV
 vv:Value
def FV.z:FV:=⟨[],nilV,[],nilV⟩
def FV.frag (f:FV):Frag:=⟨f.items,f.vec.map (·.1)⟩
/-- Its lists can be read. -/
structure FragAt (w:World) (f:FV):Prop where
 items:RgAt w f.iv f.items
 vec:VecAt w f.vv f.vec
theorem FragAt.below {w w':World} {f:FV} (h:FragAt w f) (hb:Below w.heap.size w w'):FragAt w' f:=⟨h.items.below hb,h.vec.below hb⟩
/-- A row of fragments that can be read. -/
structure KnowAt (w:World) (a:Option Addr) (len:Nat) (l:List FV):Prop where
 length:l.length=len
 frags:∀f∈l,FragAt w f
 cells:∀i,i<len→∃b off,a=some ⟨b,off,none⟩∧b<w.heap.size∧w.cell? ⟨b,off+i * 2,none⟩=some (l.getD i FV.z).iv∧w.cell? ⟨b,off+i * 2+1,none⟩=some (l.getD i FV.z).vv
theorem KnowAt.below {w w':World} {a:Option Addr} {len:Nat} {l:List FV} (h:KnowAt w a len l) (hb:Below w.heap.size w w'):KnowAt w' a len l:=
 ⟨h.length,fun f hf=>(h.frags f hf).below hb,fun i hi=>by
  obtain ⟨b,off,e,hlt,h1,h2⟩:=h.cells i hi
  exact ⟨b,off,e,Nat.lt_of_lt_of_le hlt hb.size,keep_cell hb hlt h1,keep_cell hb hlt h2⟩⟩
theorem KnowAt.mem {w:World} {a:Option Addr} {len:Nat} {l:List FV} (h:KnowAt w a len l) {i:Nat} (hi:i<len):l.getD i FV.z∈l:=by
 have:=h.length
 rw [List.getD,List.getElem?_eq_getElem (by omega),Option.getD_some]
 exact List.getElem_mem (by omega)
/-- Knowledge, as a value has it. -/
def KnwAt (w:World) (v:Value) (l:List FV):Prop:=∃a cap,v=.slice a l.length cap∧KnowAt w a l.length l∧l.length≤cap
theorem KnwAt.below {w w':World} {v:Value} {l:List FV} (h:KnwAt w v l) (hb:Below w.heap.size w w'):KnwAt w' v l:=by
 obtain ⟨a,cap,h1,h2,h3⟩:=h
 exact ⟨a,cap,h1,h2.below hb,h3⟩
/-- Correct knowledge, within bounds. -/
structure OkK (l:List FV) (I V A:Nat):Prop where
 cor:∀f∈l,Cor f.items
 right:∀f∈l,RightV (f.vec.map (·.1))
 items:∀f∈l,f.items.length≤I
 vec:∀f∈l,f.vec.length≤V
 hs:∀f∈l,∀p∈f.vec,p.1.hs.length≤A
/-- The indices of the fragments with an item. -/
def selI (l:List FV) (x:Int) (k:Nat):List Nat:=(List.range k).filter (fun i=>decide (InL (l.getD i FV.z).items x))
theorem selI_yes {l:List FV} {x:Int} {k:Nat} (h:InL (l.getD k FV.z).items x):selI l x (k+1)=selI l x k ++ [k]:=by
 unfold selI
 rw [List.range_succ,List.filter_append]
 congr 1
 rw [List.filter_cons_of_pos (by simpa using h)]
 rfl
theorem selI_no {l:List FV} {x:Int} {k:Nat} (h:¬InL (l.getD k FV.z).items x):selI l x (k+1)=selI l x k:=by
 unfold selI
 rw [List.range_succ,List.filter_append,List.filter_cons_of_neg (by simpa using h)]
 simp
theorem selI_pre (l:List FV) (x:Int) {k m:Nat} (h:k≤m):∃t,selI l x m=selI l x k ++ t:=by
 induction m with
 | zero=>obtain rfl:k=0:=by omega
         exact ⟨[],by simp⟩
 | succ m ih=>
   rcases Nat.lt_or_ge k (m+1) with g | g
   ·obtain ⟨t,e⟩:=ih (by omega)
    by_cases hm:InL (l.getD m FV.z).items x
    ·exact ⟨t ++ [m],by rw [selI_yes hm,e,List.append_assoc]⟩
    ·exact ⟨t,by rw [selI_no hm,e]⟩
   ·obtain rfl:k=m+1:=by omega
    exact ⟨[],by simp⟩
theorem selI_at {l:List FV} {x:Int} {k m:Nat} (h:k<m) (hx:InL (l.getD k FV.z).items x):(selI l x m).getD (selI l x k).length 0=k∧(selI l x k).length<(selI l x m).length:=by
 obtain ⟨t,e⟩:=selI_pre l x (k:=k+1) (m:=m) h
 rw [selI_yes hx,List.append_assoc] at e
 rw [e]
 constructor
 ·simp [List.getD]
 ·simp
theorem selI_mem {l:List FV} {x:Int} {m i:Nat}:i∈selI l x m↔i<m∧InL (l.getD i FV.z).items x:=by
 unfold selI
 simp
/-- What the iterator yields. -/
def encW (l:List FV) (s:List Nat) (k:Nat):Array Value:=#[.int .i64 (s.getD k 0:Nat),.agg #[(l.getD (s.getD k 0) FV.z).iv,(l.getD (s.getD k 0) FV.z).vv]]
theorem with_any (v:Value) (x:Int) (a:Option Addr) (len cap:Nat) (hv:v=.slice a len cap) (w:World) :
  Calls Tryz.prog 68 #[v,.int .u64 x] w fun e w'=>e=.returned (.func (.func 118) #[] #[.pointer (some ⟨w.heap.size,0,none⟩),.pointer (some ⟨w.heap.size+1,0,none⟩)])∧w'=(w.alloc (.cells #[v] 23)).alloc (.cells #[.int .u64 x] 57):=by
 subst hv
 go_enter Tryz.func68,Tryz.ntmps68
 go_wp2
 go_ret
 exact ⟨rfl,rfl⟩
theorem with1_typ (n:Nat) (hn:1≤n) (B1 B2:Nat) (a:Option Addr) (len cap:Nat) (l:List FV) (x:Int) (wE w0:World) (hE:KnowAt wE a len l) (hb0:Below wE.heap.size wE w0)
  (h1:w0.heap[B1]?=some (.cells #[.slice a len cap] 23 (0,0))) (h2:w0.heap[B2]?=some (.cells #[.int .u64 x] 57 (0,0)))
  (M:Nat→Prop) (hM:∀k,M k→wE.heap.size≤k∧k<w0.heap.size) (hM1:¬M B1) (hM2:¬M B2) (hC:∀f∈l,Cor f.items) (hs:∀f∈l,f.items.length≤100000000) (hlen:len≤100000000)
  (t:TypeId) (ht1:t≠23) (ht2:t≠57) :
  SeqTyp Fence.wide n Tryz.prog 118 #[.pointer (some ⟨B1,0,none⟩),.pointer (some ⟨B2,0,none⟩)] (encW l (selI l x len)) M t wE.heap.size (selI l x len).length w0:=by
 intro ll J Jx W hW hl0 hl1 hJ hJx hY h0
 have hl:=hE.length
 have HJ:=hide hJ;have HJx:=hide hJx;have HY:=hide hY
 have HE:=hide hE
 have HM:=hide hM
 have hWE:=hide (show Below wE.heap.size wE W from hb0.trans (hW.mono hb0.size))
 have szE:=hb0.size
 have szW:=hW.size
 have l1:=Blk_lt h1
 have l2:=Blk_lt h2
 have hb1:=(hW.block _ l1).trans h1
 have hb2:=(hW.block _ l2).trans h2
 have nl1:B1≠ll:=by omega
 have nl2:B2≠ll:=by omega
 have HC:=hide hC
 have HS:=hide hs
 have c1:W.cell? ⟨B1,0,none⟩=some (.slice a len cap):=by simp [World.cell?,hb1]

 have KEEP:=hide (show ∀(W1 W2:World),Below wE.heap.size wE W1→Only (fun b=>M b∨b=ll∨wE.heap.size≤b∧Typed W1 t b) W1 W2→Below wE.heap.size wE W2 from fun W1 W2 h1 h2=>h1.trans (h2.below h1.size fun k hk=>by
  rcases hk with hk | hk | hk
  ·exact (hM k hk).1
  ·omega
  ·exact hk.1))
 have KEEP2:=hide (show ∀(W1 W2:World),W1.heap[B2]?=some (.cells #[.int .u64 x] 57 (0,0))→Only (fun b=>M b∨b=ll∨wE.heap.size≤b∧Typed W1 t b) W1 W2→W2.heap[B2]?=some (.cells #[.int .u64 x] 57 (0,0)) from fun W1 W2 k1 k2=>k2.obj (fun h=>h.elim hM2 (fun h=>h.elim nl2 (fun h=>Typed.ne h.2 (show Typed W1 57 B2 from ⟨_,k1⟩) ht2 rfl))) k1)
 have J0:=hide (show J (selI l x 0).length W from h0)
 have HB2:=hide hb2
 clear hJ hJx hY hE hM hb0 hW h1 h2 hb1 hb2 hC hs h0
 refine callsIn_of_wp Tryz.func118 rfl trivial ?_ rfl
 simp only [Tryz.ntmps118,List.size_toArray,List.length_cons,List.length_nil,Nat.reduceAdd,Nat.reduceSub,Array.replicate_succ,Array.replicate_zero,List.push_toArray,List.append_toArray,List.nil_append,List.cons_append]
 gi_wp2
 gi_loopw [8] (fun c wr=>∃k:Nat,k≤len∧c=.int .i64 k∧J (selI l x k).length wr∧Below wE.heap.size wE wr∧wr.heap[B2]?=some (.cells #[.int .u64 x] 57 (0,0))∧W.heap.size≤wr.heap.size) (fun c _=>len-(intOf c).toNat)
 case atStart=>exact ⟨0,Nat.zero_le _,rfl,J0.out,hWE.out,HB2.out,Nat.le_refl _⟩
 case round=>
  obtain ⟨k,hk,rfl,hJk,hbk,hb2,hsk⟩:=hrel
  have JK:=hide hJk
  have BK:=hide hbk
  have H2:=hide hb2
  clear hJk hb2 J0 HB2 hWE
  have i0:(0:Int)≤(k:Int):=by omega
  by_cases hlt:k<len
  ·have i1:(k:Int)<(len:Int):=by omega
   have hEk:=HE.out.below hbk
   obtain ⟨b,off,rfl,hbl,hc1,hc2⟩:=hEk.cells k hlt
   have hmem:=hEk.mem hlt
   have hfr:=hEk.frags _ hmem
   have hcor:=HC.out _ hmem
   have hsz:=HS.out _ hmem
   have HIN:=hide (fun hx=>selI_at (l:=l) (x:=x) (k:=k) (m:=len) hlt hx)
   have YES:=hide (fun hx=>selI_yes (l:=l) (x:=x) (k:=k) hx)
   have NO:=hide (fun hx=>selI_no (l:=l) (x:=x) (k:=k) hx)
   obtain ⟨p,ep⟩:∃p,l.getD k FV.z=p:=⟨_,rfl⟩
   have EP:=hide ep
   rw [ep] at hc1 hc2 hfr hcor hsz HIN YES NO
   have HK:=hide (fun W (hW:Below wr.heap.size wr W)=>rgh_any p.iv p.items x W (hfr.items.below hW) hcor hsz)
   have k2:wr.cell? ⟨B2,0,none⟩=some (.int .u64 x):=by simp [World.cell?,H2.out]
   obtain ⟨ai,ci,ei,_,_⟩:=hfr.items
   obtain ⟨av,cv,ev,_,_⟩:=hfr.vec
   obtain ⟨items,iv,vec,vv⟩:=p
   simp only at hc1 hc2 HK ei ev HIN YES NO
   subst ei
   subst ev
   obtain ⟨ni,eni⟩:∃ni,items.length=ni:=⟨_,rfl⟩
   obtain ⟨nv,env⟩:∃nv,vec.length=nv:=⟨_,rfl⟩
   have hEP:=EP.out
   rw [eni,env] at hEP
   rw [eni] at hc1 HK
   rw [env] at hc2
   have EP:=hide hEP
   obtain ⟨Be,eBe⟩:∃B,wr.heap.size=B:=⟨_,rfl⟩
   have BA:=hide (show Below wE.heap.size wE (wr.alloc (.cells #[.slice ai ni ci,.slice av nv cv] 80)) from hbk.alloc hbk.size _)
   have JA:=hide (HJ.out _ _ _ JK.out ((Only.refl (fun _=>False) wr).alloc (.cells #[.slice ai ni ci,.slice av nv cv] 80)))
   have CA:=hide (show (wr.alloc (.cells #[.slice ai ni ci,.slice av nv cv] 80)).heap[Be]?=some (.cells #[.slice ai ni ci,.slice av nv cv] 80 (0,0)) from heap_new_at _ _ eBe.symm)
   have C2:=hide (show (wr.alloc (.cells #[.slice ai ni ci,.slice av nv cv] 80)).heap[B2]?=some (.cells #[.int .u64 x] 57 (0,0)) from heap_old_at _ _ (Blk_lt H2.out) H2.out)
   have HK2:=hide (HK.out _ (bl_alloc (Below.refl wr.heap.size wr) (.cells #[.slice ai ni ci,.slice av nv cv] 80)))
   clear ep hbk hEk hmem hfr hcor hsz hEP eni env HK
   have k3:(wr.alloc (.cells #[.slice ai ni ci,.slice av nv cv] 80)).cell? ⟨B2,0,none⟩=some (.int .u64 x):=by simp [World.cell?,C2.out]
   clear k2
   by_cases hin:InL items x
   ·obtain ⟨hat,hcnt⟩:=HIN.out hin
    have hYES:=YES.out hin
    have d:decide (InL items x)=true:=by simp [hin]
    rw [d] at HK2
    have HAT:=hide hat
    have HCNT:=hide hcnt
    have HYES:=hide hYES
    clear hat hcnt hYES d hin
    gi_wp2_with (refine ⟨trivial,?_⟩;gi_at_call 119;refine (callsIn_wide.2 HK2.out).mono ?_;rintro e W4 ⟨rfl,hb4⟩;have B4:=hide (BA.out.trans (hb4.mono BA.out.size));have J4:=hide (HJ.out _ _ _ JA.out (Only.of_below hb4));have q4:=(hb4.block _ (Blk_lt CA.out)).trans CA.out;have q2:=hide ((hb4.block _ (Blk_lt C2.out)).trans C2.out);have y0:W4.cell? ⟨Be,0,none⟩=some (.slice ai ni ci):=(by simp [World.cell?,q4]);have y1:W4.cell? ⟨Be,1,none⟩=some (.slice av nv cv):=(by simp [World.cell?,q4]);have s4:=hb4.size;have s5:W.heap.size≤W4.heap.size:=(by simp at s4;omega);obtain ⟨fn,tmps,assign,body,hy,hR⟩:=HY.out _ W4 J4.out HCNT.out s5;have HR:=hide hR;simp only [encW,HAT.out,EP.out] at hy;clear hR hb4 q4 s4)
    refine HR.out.mono ?_
    rintro e W5 (⟨rfl,hJ5,ho5⟩ | ⟨rfl,hJx5⟩)
    ·have B5:=hide (KEEP.out _ W5 B4.out ho5)
     have J5:=hide (show J (selI l x (k+1)).length W5 from by rw [HYES.out,List.length_append];exact hJ5)
     have Q5:=hide (KEEP2.out _ W5 q2.out ho5)
     have s6:=ho5.size
     clear hJ5 ho5 hy
     gi_wp2
     go_roundw
     case rel=>first | exact ⟨k+1,by omega,by go_num,J5.out,B5.out,Q5.out,by omega⟩ | ((repeat apply Exists.intro);exact ⟨⟨k+1,by omega,by go_num,J5.out,B5.out,Q5.out,by omega⟩,rfl⟩)
     case measure=>simp [intOf];omega
    ·gi_wp2
     refine bodyPost_ret (results_none rfl _ _ _) rfl ?_
     exact ⟨⟨_,rfl⟩,.inr ⟨_,HCNT.out,hJx5⟩⟩
   ·have hNO:=NO.out hin
    have d:decide (InL items x)=false:=by simp [hin]
    rw [d] at HK2
    have HNO:=hide hNO
    clear hNO d hin
    gi_wp2_with (refine ⟨trivial,?_⟩;gi_at_call 119;refine (callsIn_wide.2 HK2.out).mono ?_;rintro e W4 ⟨rfl,hb4⟩;have B4:=hide (BA.out.trans (hb4.mono BA.out.size));have J4:=hide (HJ.out _ _ _ JA.out (Only.of_below hb4));have q2:=hide ((hb4.block _ (Blk_lt C2.out)).trans C2.out);have s4:=hb4.size;have s5:W.heap.size≤W4.heap.size:=(by simp at s4;omega);clear hb4 s4)
    have J5:=hide (show J (selI l x (k+1)).length W4 from by rw [HNO.out];exact J4.out)
    refine ⟨fun _ h=>(by cases h),?_⟩
    gi_wp2
    go_roundw
    case rel=>first | exact ⟨k+1,by omega,by go_num,J5.out,B4.out,q2.out,by omega⟩ | ((repeat apply Exists.intro);exact ⟨⟨k+1,by omega,by go_num,J5.out,B4.out,q2.out,by omega⟩,rfl⟩)
    case measure=>simp [intOf];omega
  ·obtain rfl:len=k:=by omega
   have hnl:¬(len:Int)<(len:Int):=by omega
   gi_wp2
   go_end0
   exact ⟨⟨_,rfl⟩,.inl JK.out⟩
end Go.Proofs.YtbkkolfpegplgaaGreatDoor
namespace Go.Proofs.YtbkkolfpegplgaaGreatDoor
open Go Go.RowKit
/-- The first entries are right and ascend. -/
def RiTo (l:List EV) (k:Nat):Prop:=AscTo l k∧∀i,i<k→RightE (l.getD i EV.z).1
theorem RiTo.zero (l:List EV):RiTo l 0:=⟨fun i _ hi=>absurd hi (by omega),fun i hi=>absurd hi (by omega)⟩
theorem RiTo.succ {l:List EV} {k:Nat} (h:RiTo l k) (h1:0<k→(l.getD (k-1) EV.z).1.rep<(l.getD k EV.z).1.rep) (h2:RightE (l.getD k EV.z).1):RiTo l (k+1):=⟨h.1.succ h1,fun i hi=>by
 by_cases e:i=k
 ·subst e;exact h2
 ·exact h.2 i (by omega)⟩
theorem RiTo.all {l:List EV} {k:Nat} (h:RiTo l k) (hl:l.length=k):RightV (l.map (·.1)):=by
 refine ⟨fun i hi=>?_,fun i h0 hi=>?_⟩
 ·rw [getD_map];exact h.2 i (by rw [List.length_map] at hi;omega)
 ·rw [getD_map,getD_map];exact h.1 i h0 (by rw [List.length_map] at hi;omega)
theorem r9full_any (a:Option Addr) (len cap:Nat) (l:List EV) (w:World) (h:EntsAt w a len l) :
  Calls Tryz.prog 122 #[.slice a len cap] w fun e w'=>CodePost (RightV (l.map (·.1))) e∧Below w.heap.size w w':=by
 have H:=hide h
 have hm:=h.most
 clear h
 go_enter Tryz.func122,Tryz.ntmps122
 go_wp2
 go_loopw [4] (fun c wr=>∃k:Nat,k≤len∧c=.int .i64 k∧RiTo l k∧Below w.heap.size w wr)
  (fun c _=>len-(intOf c).toNat)
 case atStart=>exact ⟨0,Nat.zero_le _,rfl,RiTo.zero _,Below.refl _ _⟩
 case round=>
  obtain ⟨k,hk,rfl,hno,hb⟩:=hrel
  have HN:=hide hno
  have HB:=hide hb
  clear hno
  have i0:(0:Int)≤(k:Int):=by omega
  by_cases hlt:k<len
  ·obtain ⟨b,off,rfl,hbl,hc1,hc2,hc3⟩:=(H.out.below hb).cells k hlt
   have i1:(k:Int)<(len:Int):=by omega
   have KE:=hide (fun W (hW:Below wr.heap.size wr W)=>r7check_any (l.getD k EV.z) W (((H.out.below hb).below hW).holes _ (H.out.mem hlt)))
   unfold aggE at KE
   obtain ⟨x,ex⟩:∃x,(l.getD k EV.z).1.rep=x:=⟨_,rfl⟩
   obtain ⟨y,ey⟩:∃x,(l.getD k EV.z).1.mx=x:=⟨_,rfl⟩
   obtain ⟨hv,ev⟩:∃x,(l.getD k EV.z).2=x:=⟨_,rfl⟩
   rw [ex,ey,ev] at KE
   rw [ex] at hc1
   rw [ey] at hc2
   rw [ev] at hc3
   have EX:=hide ex
   clear ex ey ev
   by_cases hk0:k=0
   ·have n0:¬(0:Int)<(k:Int):=by omega
    have n1:decide ((0:Int)<(k:Int))=false:=decide_eq_false n0
    have n2:decide (0<k)=false:=decide_eq_false (by omega)
    have HS:=hide (fun hr=>HN.out.succ (fun h=>by omega) hr)
    clear hk0 hb
    go_wp2_with fail
    refine (KE.out _ (Below.refl _ _)).mono ?_
    rintro e w1 ⟨⟨c,i,rfl,hor⟩,hb1⟩
    have B1:=hide (bl_trans HB.out hb1)
    clear hb1
    by_cases hc:c=0
    ·subst hc
     have HS:=hide (HS.out (hor rfl))
     clear hor
     go_wp2_with fail
     go_quiet (fail)
     go_wp2
     go_roundw
     case rel=>exact ⟨k+1,by omega,by go_num,HS.out,bl_drewN B1.out _⟩
     case measure=>simp [intOf];omega
    ·have q:(c != 0)=true:=by simpa using hc
     have HC:=hide hc
     clear hc hor
     go_wp2
     go_ret2
     exact ⟨⟨c,k,rfl,fun h=>absurd h HC.out⟩,B1.out⟩
   ·obtain ⟨b2,off2,eb,_,hp0,_,_⟩:=(H.out.below hb).cells (k-1) (by omega)
    obtain ⟨rfl,rfl⟩:b=b2∧off=off2:=by simpa using eb
    obtain ⟨q,eq⟩:∃x,(l.getD (k-1) EV.z).1.rep=x:=⟨_,rfl⟩
    rw [eq] at hp0
    have EQ:=hide eq
    have n0:(0:Int)<(k:Int):=by omega
    have n1:(0:Int)≤(k:Int)-1:=by omega
    have n2:(k:Int)-1<(len:Int):=by omega
    have n3:IntKind.i64.wrap ((k:Int)-1)=(k:Int)-1:=IntWalk.i64_in _ (by omega)
    have n4:((k:Int)-1).toNat=k-1:=by omega
    have hk1:0<k:=by omega
    have HS:=hide (fun (hh:q<x) hr=>HN.out.succ (fun _=>by rw [EX.out,EQ.out];exact hh) hr)
    clear eb eq hk0 hb
    go_wp2_with fail
    refine (KE.out _ (Below.refl _ _)).mono ?_
    rintro e w1 ⟨⟨c,i,rfl,hor⟩,hb1⟩
    have B1:=hide (bl_trans HB.out hb1)
    have d1:=keep_c hb1 hc1
    have d0:=keep_c hb1 hp0
    clear hb1 hc1 hc2 hc3 hp0
    by_cases hc:c=0
    ·subst hc
     have HOR:=hide (hor rfl)
     clear hor
     by_cases hle:x≤q
     ·go_wp2_with fail
      go_quiet (fail)
      go_wp2
      go_ret2
      exact ⟨⟨3,k,rfl,fun h=>by cases h⟩,bl_drewN B1.out _⟩
     ·have HS':=hide (HS.out (by omega) HOR.out)
      have hled:decide (x≤q)=false:=decide_eq_false hle
      clear HS
      go_wp2_with fail
      go_quiet (fail)
      go_wp2
      go_roundw
      case rel=>exact ⟨k+1,by omega,by go_num,HS'.out,bl_drewN B1.out _⟩
      case measure=>simp [intOf];omega
    ·have q:(c != 0)=true:=by simpa using hc
     have HC:=hide hc
     clear hc hor
     go_wp2
     go_ret2
     exact ⟨⟨c,k,rfl,fun h=>absurd h HC.out⟩,B1.out⟩
  ·obtain rfl:k=len:=by omega
   have OKV:=hide (HN.out.all H.out.length)
   go_wp2
   go_ret2
   exact ⟨⟨0,-1,rfl,fun _=>OKV.out⟩,HB.out⟩
/-- Few fragments with few intervals, entries and holes. -/
structure FewK (l:List FV):Prop where
 len:l.length≤12
 items:∀f∈l,f.items.length≤20
 vec:∀f∈l,f.vec.length≤20
 hs:∀f∈l,∀p∈f.vec,p.1.hs.length≤30
structure FewTo (l:List FV) (k:Nat):Prop where
 items:∀i,i<k→(l.getD i FV.z).items.length≤20
 few:∀i,i<k→FewV ((l.getD i FV.z).vec.map (·.1))
theorem FewTo.zero (l:List FV):FewTo l 0:=⟨fun i h=>absurd h (by omega),fun i h=>absurd h (by omega)⟩
theorem FewTo.succ {l:List FV} {k:Nat} (h:FewTo l k) (h1:(l.getD k FV.z).items.length≤20) (h2:FewV ((l.getD k FV.z).vec.map (·.1))):FewTo l (k+1):=
 ⟨fun i hi=>by
  by_cases e:i=k
  ·subst e;exact h1
  ·exact h.items i (by omega),fun i hi=>by
  by_cases e:i=k
  ·subst e;exact h2
  ·exact h.few i (by omega)⟩
theorem memF {l:List FV} {f:FV} (hf:f∈l):∃i,i<l.length∧l.getD i FV.z=f:=by
 obtain ⟨i,hi,e⟩:=List.mem_iff_getElem.1 hf
 exact ⟨i,hi,by simp [List.getD,List.getElem?_eq_getElem hi,e]⟩
theorem FewV.hs {l:List EV} (h:FewV (l.map (·.1))):∀p∈l,p.1.hs.length≤30:=fun p hp=>by
 obtain ⟨i,hi,e⟩:=List.mem_iff_getElem.1 hp
 have:=h.2 i (by rw [List.length_map];exact hi)
 rw [getD_map] at this
 have e2:l.getD i EV.z=p:=by simp [List.getD,List.getElem?_eq_getElem hi,e]
 rwa [e2] at this
theorem FewTo.all {l:List FV} (h:FewTo l l.length) (hl:l.length≤12):FewK l:=by
 refine ⟨hl,fun f hf=>?_,fun f hf=>?_,fun f hf=>?_⟩
 all_goals obtain ⟨i,hi,rfl⟩:=memF hf
 ·exact h.items i hi
 ·have:=(h.few i hi).1
  simpa using this
 ·exact (h.few i hi).hs
theorem few11_any (v:Value) (l:List FV) (w:World) (hE:KnwAt w v l) (hlen:l.length≤9223372036854775807) :
  Calls Tryz.prog 27 #[v] w fun e w'=>BoolPost (FewK l) e∧Below w.heap.size w w':=by
 obtain ⟨a,cap,rfl,hK,_⟩:=hE
 have H:=hide hK
 obtain ⟨len,elen⟩:∃len,l.length=len:=⟨_,rfl⟩
 have EL:=hide elen
 rw [elen] at H hlen ⊢
 clear hK elen
 go_enter Tryz.func27,Tryz.ntmps27
 go_wp2
 go_loopw [3] (fun c wr=>∃k:Nat,k≤len∧c=.int .i64 k∧FewTo l k∧Below w.heap.size w wr)
  (fun c _=>len-(intOf c).toNat)
 case atStart=>exact ⟨0,Nat.zero_le _,rfl,FewTo.zero _,Below.refl _ _⟩
 case round=>
  obtain ⟨k,hk,rfl,hno,hb⟩:=hrel
  have HN:=hide hno
  have HB:=hide hb
  clear hno
  have i0:(0:Int)≤(k:Int):=by omega
  by_cases hlt:k<len
  ·have i1:(k:Int)<(len:Int):=by omega
   have Hr:=H.out.below hb
   obtain ⟨b,off,rfl,hbl,hc1,hc2⟩:=Hr.cells k hlt
   have hmem:=Hr.mem hlt
   have hfr:=Hr.frags _ hmem
   obtain ⟨p,ep⟩:∃p,l.getD k FV.z=p:=⟨_,rfl⟩
   have EP:=hide ep
   rw [ep] at hc1 hc2 hfr
   obtain ⟨⟨ai,ci,ei,hP,_⟩,⟨av,cv,ev,hEn,_⟩⟩:=hfr
   obtain ⟨items,iv,vec,vv⟩:=p
   simp only at hc1 hc2 ei ev hP hEn
   subst ei
   subst ev
   have K2:=hide (fun W (hW:Below wr.heap.size wr W)=>few_any av vec.length cv vec W (hEn.at'.below hW))
   obtain ⟨ni,eni⟩:∃ni,items.length=ni:=⟨_,rfl⟩
   obtain ⟨nv,env⟩:∃nv,vec.length=nv:=⟨_,rfl⟩
   have ENI:=hide eni
   rw [eni] at hc1
   rw [env] at hc2 K2
   clear ep hb hbl Hr hmem hP hEn eni env
   by_cases h20:20<(ni:Int)
   ·have d20:decide (20<(ni:Int))=true:=decide_eq_true h20
    go_wp2
    go_ret
    exact ⟨bool_f _,HB.out⟩
   ·have d20:decide (20<(ni:Int))=false:=decide_eq_false h20
    go_wp2_with fail
    refine (K2.out _ (Below.refl _ _)).mono ?_
    rintro e w3 ⟨⟨bb,rfl,hbb⟩,hb3⟩
    have B3:=hide (bl_trans HB.out hb3)
    clear hb3
    cases bb with
    | false=>
      clear hbb
      go_wp2
      go_ret
      exact ⟨bool_f _,B3.out⟩
    | true=>
      have HS:=hide (HN.out.succ (by rw [EP.out];show items.length≤20;have:=ENI.out;omega) (by rw [EP.out];exact hbb rfl))
      clear hbb
      go_wp2
      go_roundw
      case rel=>exact ⟨k+1,by omega,by go_num,HS.out,B3.out⟩
      case measure=>simp [intOf];omega
  ·obtain rfl:len=k:=by omega
   by_cases h12:(len:Int)≤12
   ·have d12:decide ((len:Int)≤12)=true:=decide_eq_true h12
    have OK:=hide (show FewK l from (show FewTo l l.length from by rw [EL.out];exact HN.out).all (by rw [EL.out];omega))
    go_wp2
    go_ret
    exact ⟨bool_t OK.out,HB.out⟩
   ·have d12:decide ((len:Int)≤12)=false:=decide_eq_false h12
    go_wp2
    go_ret
    exact ⟨bool_f _,HB.out⟩
/-- Correct knowledge. -/
structure RightK (l:List FV):Prop where
 cor:∀f∈l,Cor f.items
 vec:∀f∈l,RightV (f.vec.map (·.1))
structure RiK (l:List FV) (k:Nat):Prop where
 cor:∀i,i<k→Cor (l.getD i FV.z).items
 vec:∀i,i<k→RightV ((l.getD i FV.z).vec.map (·.1))
theorem RiK.zero (l:List FV):RiK l 0:=⟨fun i h=>absurd h (by omega),fun i h=>absurd h (by omega)⟩
theorem RiK.succ {l:List FV} {k:Nat} (h:RiK l k) (h1:Cor (l.getD k FV.z).items) (h2:RightV ((l.getD k FV.z).vec.map (·.1))):RiK l (k+1):=
 ⟨fun i hi=>by
  by_cases e:i=k
  ·subst e;exact h1
  ·exact h.cor i (by omega),fun i hi=>by
  by_cases e:i=k
  ·subst e;exact h2
  ·exact h.vec i (by omega)⟩
theorem RiK.all {l:List FV} (h:RiK l l.length):RightK l:=by
 refine ⟨fun f hf=>?_,fun f hf=>?_⟩
 all_goals obtain ⟨i,hi,rfl⟩:=memF hf
 ·exact h.cor i hi
 ·exact h.vec i hi
theorem check11_any (v:Value) (l:List FV) (w:World) (hE:KnwAt w v l) (hlen:l.length≤9223372036854775807) :
  Calls Tryz.prog 71 #[v] w fun e w'=>CodePost (RightK l) e∧Below w.heap.size w w':=by
 obtain ⟨a,cap,rfl,hK,_⟩:=hE
 have H:=hide hK
 obtain ⟨len,elen⟩:∃len,l.length=len:=⟨_,rfl⟩
 have EL:=hide elen
 rw [elen] at H hlen ⊢
 clear hK elen
 go_enter Tryz.func71,Tryz.ntmps71
 go_wp2
 go_loopw [4] (fun c wr=>∃k:Nat,k≤len∧c=.int .i64 k∧RiK l k∧Below w.heap.size w wr)
  (fun c _=>len-(intOf c).toNat)
 case atStart=>exact ⟨0,Nat.zero_le _,rfl,RiK.zero _,Below.refl _ _⟩
 case round=>
  obtain ⟨k,hk,rfl,hno,hb⟩:=hrel
  have HN:=hide hno
  have HB:=hide hb
  clear hno
  have i0:(0:Int)≤(k:Int):=by omega
  by_cases hlt:k<len
  ·have i1:(k:Int)<(len:Int):=by omega
   have Hr:=H.out.below hb
   obtain ⟨b,off,rfl,hbl,hc1,hc2⟩:=Hr.cells k hlt
   have hmem:=Hr.mem hlt
   have hfr:=Hr.frags _ hmem
   obtain ⟨p,ep⟩:∃p,l.getD k FV.z=p:=⟨_,rfl⟩
   have EP:=hide ep
   rw [ep] at hc1 hc2 hfr
   obtain ⟨⟨ai,ci,ei,hP,_⟩,⟨av,cv,ev,hEn,_⟩⟩:=hfr
   obtain ⟨items,iv,vec,vv⟩:=p
   simp only at hc1 hc2 ei ev hP hEn
   subst ei
   subst ev
   have K1:=hide (fun W (hW:Below wr.heap.size wr W)=>check_any ai items.length ci items W (hP.below hW))
   have K2:=hide (fun W (hW:Below wr.heap.size wr W)=>r9full_any av vec.length cv vec W (hEn.at'.below hW))
   obtain ⟨ni,eni⟩:∃ni,items.length=ni:=⟨_,rfl⟩
   obtain ⟨nv,env⟩:∃nv,vec.length=nv:=⟨_,rfl⟩
   rw [eni] at hc1 K1
   rw [env] at hc2 K2
   clear ep hb Hr hmem hP hEn eni env
   go_wp2_with fail
   refine (K1.out _ (Below.refl _ _)).mono ?_
   rintro e w3 ⟨⟨c,i,rfl,hor⟩,hb3⟩
   have B3:=hide (bl_trans HB.out hb3)
   have B3r:=hide hb3
   have d2:=keep_cell hb3 hbl hc2
   rcases hor with ⟨rfl,hC⟩ | ⟨hc,_⟩
   ·have HC:=hide hC
    clear hb3 hC hc1 hc2
    go_wp2_with fail
    refine (K2.out _ B3r.out).mono ?_
    rintro e w4 ⟨⟨c,i2,rfl,hor⟩,hb4⟩
    have B4:=hide (bl_trans B3.out hb4)
    clear hb4
    by_cases hc:c=0
    ·subst hc
     have HS:=hide (HN.out.succ (by rw [EP.out];exact HC.out) (by rw [EP.out];exact hor rfl))
     clear hor
     go_wp2
     go_roundw
     case rel=>exact ⟨k+1,by omega,by go_num,HS.out,B4.out⟩
     case measure=>simp [intOf];omega
    ·have q:(c != 0)=true:=by simpa using hc
     have HC0:=hide hc
     clear hc hor
     go_wp2
     go_ret2
     exact ⟨⟨c,k,rfl,fun h=>absurd h HC0.out⟩,B4.out⟩
   ·clear hb3 hc1 hc2
    rcases hc with rfl | rfl
    all_goals
     go_wp2
     go_ret2
     exact ⟨⟨_,k,rfl,fun h=>(by cases h)⟩,B3.out⟩
  ·obtain rfl:len=k:=by omega
   have OK:=hide (show RightK l from (show RiK l l.length from by rw [EL.out];exact HN.out).all)
   go_wp2
   go_ret2
   exact ⟨⟨0,-1,rfl,fun _=>OK.out⟩,HB.out⟩
theorem right11_any (v:Value) (l:List FV) (w:World) (hE:KnwAt w v l) (hlen:l.length≤9223372036854775807) :
  Calls Tryz.prog 28 #[v] w fun e w'=>BoolPost (RightK l) e∧Below w.heap.size w w':=by
 have K:=hide (check11_any v l w hE hlen)
 obtain ⟨a,cap,rfl,hK,_⟩:=hE
 clear hK
 go_enter Tryz.func28,Tryz.ntmps28
 go_wp2_with fail
 refine K.out.mono ?_
 rintro e w1 ⟨⟨c,i,rfl,hor⟩,hb1⟩
 have B1:=hide hb1
 clear hb1
 by_cases hc:c=0
 ·subst hc
  have OK:=hide (hor rfl)
  clear hor
  go_wp2
  go_ret
  exact ⟨bool_t OK.out,B1.out⟩
 ·have q:(c == 0)=false:=by simpa using hc
  clear hor hc
  go_wp2
  go_ret
  exact ⟨bool_f _,B1.out⟩
theorem frag_at {l l':List FV} (e:l.map FV.frag=l'.map FV.frag) (i:Nat) (h:i<l.length):(l.getD i FV.z).frag=(l'.getD i FV.z).frag:=by
 have hl:l.length=l'.length:=by simpa using congrArg List.length e
 have e':(l.map FV.frag)[i]?=(l'.map FV.frag)[i]?:=by rw [e]
 simp only [List.getElem?_map,List.getElem?_eq_getElem h,List.getElem?_eq_getElem (show i<l'.length by omega),Option.map_some] at e'
 simp only [List.getD,List.getElem?_eq_getElem h,List.getElem?_eq_getElem (show i<l'.length by omega),Option.getD_some]
 exact Option.some.inj e'
theorem same11_yes (v v':Value) (l l':List FV) (w:World) (hE:KnwAt w v l) (hE':KnwAt w v' l') (he:l.map FV.frag=l'.map FV.frag) (hlen:l.length≤9223372036854775807) :
  Calls Tryz.prog 12 #[v,v'] w fun e w'=>e=.returned (.bool true)∧Below w.heap.size w w':=by
 have hmx:Tryz.prog.follows .mixedOrders=true:=by kernel_rfl
 have hl:l'.length=l.length:=by simpa using (congrArg List.length he).symm
 obtain ⟨a,cap,rfl,hK,_⟩:=hE
 obtain ⟨a2,cap2,e2,hK2,_⟩:=hE'
 rw [hl] at e2 hK2
 subst e2
 have H:=hide hK
 have H2:=hide hK2
 have FA:=hide (frag_at he)
 obtain ⟨len,elen⟩:∃len,l.length=len:=⟨_,rfl⟩
 have EL:=hide elen
 rw [elen] at H H2 hlen FA ⊢
 clear hK hK2 elen hl he
 go_enter Tryz.func12,Tryz.ntmps12
 go_wp2
 go_loopw [5] (fun c wr=>∃k:Nat,k≤len∧c=.int .i64 k∧Below w.heap.size w wr) (fun c _=>len-(intOf c).toNat)
 case atStart=>exact ⟨0,Nat.zero_le _,rfl,Below.refl _ _⟩
 case round=>
  obtain ⟨k,hk,rfl,hb⟩:=hrel
  have HB:=hide hb
  have i0:(0:Int)≤(k:Int):=by omega
  by_cases hlt:k<len
  ·have i1:(k:Int)<(len:Int):=by omega
   have Hr:=H.out.below hb
   have Hr2:=H2.out.below hb
   obtain ⟨b,off,rfl,hbl,hc1,hc2⟩:=Hr.cells k hlt
   obtain ⟨b2,off2,rfl,hbl2,hd1,hd2⟩:=Hr2.cells k hlt
   have hfr:=Hr.frags _ (Hr.mem hlt)
   have hfr2:=Hr2.frags _ (Hr2.mem hlt)
   have hfe:=FA.out k hlt
   obtain ⟨p,ep⟩:∃p,l.getD k FV.z=p:=⟨_,rfl⟩
   obtain ⟨p2,ep2⟩:∃p,l'.getD k FV.z=p:=⟨_,rfl⟩
   rw [ep] at hc1 hc2 hfr hfe
   rw [ep2] at hd1 hd2 hfr2 hfe
   obtain ⟨⟨ai,ci,ei,hP,_⟩,⟨av,cv,ev,hEn,_⟩⟩:=hfr
   obtain ⟨⟨ai2,ci2,ei2,hP2,_⟩,⟨av2,cv2,ev2,hEn2,_⟩⟩:=hfr2
   obtain ⟨items,iv,vec,vv⟩:=p
   obtain ⟨items2,iv2,vec2,vv2⟩:=p2
   simp only at hc1 hc2 ei ev hP hEn hd1 hd2 ei2 ev2 hP2 hEn2
   subst ei
   subst ev
   subst ei2
   subst ev2
   have f1:items=items2:=congrArg Frag.items hfe
   have f2:vec.map (·.1)=vec2.map (·.1):=congrArg Frag.vec hfe
   subst f1
   have f3:vec2.length=vec.length:=by simpa using (congrArg List.length f2).symm
   rw [f3] at hd2 hEn2
   have q1:sameL items items=true:=by unfold sameL;simp
   have q2:sameV vec vec2=true:=by unfold sameV;simpa using f2
   have K1:=hide (fun W (hX:Only (fun _=>False) wr W)=>same_any ai ai2 items.length ci items.length ci2 items items W (hP.below (hX.below (n:=wr.heap.size) (Nat.le_refl _) (fun _ h=>h.elim))) (hP2.below (hX.below (n:=wr.heap.size) (Nat.le_refl _) (fun _ h=>h.elim))))
   have K2:=hide (fun W (hX:Only (fun _=>False) wr W)=>vsame_any av av2 vec.length cv vec.length cv2 vec vec2 W (hEn.at'.below (hX.below (n:=wr.heap.size) (Nat.le_refl _) (fun _ h=>h.elim))) (hEn2.at'.below (hX.below (n:=wr.heap.size) (Nat.le_refl _) (fun _ h=>h.elim))))
   rw [q1] at K1
   rw [q2] at K2
   obtain ⟨ni,eni⟩:∃ni,items.length=ni:=⟨_,rfl⟩
   obtain ⟨nv,env⟩:∃nv,vec.length=nv:=⟨_,rfl⟩
   rw [eni] at hc1 hd1 K1
   rw [env] at hc2 hd2 K2
   clear ep ep2 Hr Hr2 hfe hP hP2 hEn hEn2 eni env f2 f3 q1 q2 hbl hbl2
   go_wp2_with fail
   refine wp_region_held_drew (S:=Only (fun _=>False) wr) hmx (Only.refl _ _).drew (fun hS=>?_)
   refine tkd (i:=0) (d:=some 17) (v:=(.slice (some ⟨b,off,none⟩) len cap)) (hy:=.inl ⟨by rfl,?_⟩) (h:=?_)
   ·intro X hX;go_simp
   refine tkd (i:=1) (d:=some 18) (v:=(.int .i64 k)) (hy:=.inl ⟨by rfl,?_⟩) (h:=?_)
   ·intro X hX;go_simp
   refine tkd (i:=2) (d:=some 19) (v:=(.pointer (some ⟨b,off+k * 2,none⟩))) (hy:=.inl ⟨by rfl,?_⟩) (h:=?_)
   ·intro X hX;go_simp
   refine tkd (i:=3) (d:=some 20) (v:=(.pointer (some ⟨b,off+k * 2,none⟩))) (hy:=.inl ⟨by rfl,?_⟩) (h:=?_)
   ·intro X hX;go_simp
   refine tkd (i:=4) (d:=some 21) (v:=(.slice ai ni ci)) (hy:=.inl ⟨by rfl,?_⟩) (h:=?_)
   ·intro X hX;have x0:=hX.cell (fun h=>h) hc1;go_simp
   refine tkd (i:=5) (d:=some 22) (v:=(.slice (some ⟨b2,off2,none⟩) len cap2)) (hy:=.inl ⟨by rfl,?_⟩) (h:=?_)
   ·intro X hX;go_simp
   refine tkd (i:=6) (d:=some 23) (v:=(.int .i64 k)) (hy:=.inl ⟨by rfl,?_⟩) (h:=?_)
   ·intro X hX;go_simp
   refine tkd (i:=7) (d:=some 24) (v:=(.pointer (some ⟨b2,off2+k * 2,none⟩))) (hy:=.inl ⟨by rfl,?_⟩) (h:=?_)
   ·intro X hX;go_simp
   refine tkd (i:=8) (d:=some 25) (v:=(.pointer (some ⟨b2,off2+k * 2,none⟩))) (hy:=.inl ⟨by rfl,?_⟩) (h:=?_)
   ·intro X hX;go_simp
   refine tkd (i:=9) (d:=some 26) (v:=(.slice ai2 ni ci2)) (hy:=.inl ⟨by rfl,?_⟩) (h:=?_)
   ·intro X hX;have x0:=hX.cell (fun h=>h) hd1;go_simp
   refine wpAnyH_ready (rs:=[10]) (by kernel_rfl) (by simp) ?_
   refine AllReadyH.cons (o:=_) rfl (fun K hK=>?_) AllReadyH.nil
   go_simp
   refine (K1.out _ hS).mono ?_
   rintro e wq ⟨rfl,hb⟩
   have hS:=hS.call hb
   clear hb
   go_simp
   refine hK.out _ _ hS (fun _=>?_)
   clear hK K
   refine tkd (i:=11) (d:=some 28) (v:=(.bool false)) (hy:=.inl ⟨by rfl,?_⟩) (h:=?_)
   ·intro X hX;go_simp
   refine tkd (i:=12) (d:=some 29) (v:=(.bool false)) (hy:=.inl ⟨by rfl,?_⟩) (h:=?_)
   ·intro X hX;go_simp
   refine tkd (i:=13) (d:=some 30) (v:=(.slice (some ⟨b,off,none⟩) len cap)) (hy:=.inl ⟨by rfl,?_⟩) (h:=?_)
   ·intro X hX;go_simp
   refine tkd (i:=14) (d:=some 31) (v:=(.int .i64 k)) (hy:=.inl ⟨by rfl,?_⟩) (h:=?_)
   ·intro X hX;go_simp
   refine tkd (i:=15) (d:=some 32) (v:=(.pointer (some ⟨b,off+k * 2,none⟩))) (hy:=.inl ⟨by rfl,?_⟩) (h:=?_)
   ·intro X hX;go_simp
   refine tkd (i:=16) (d:=some 33) (v:=(.pointer (some ⟨b,off+k * 2+1,none⟩))) (hy:=.inl ⟨by rfl,?_⟩) (h:=?_)
   ·intro X hX;go_simp
   refine tkd (i:=17) (d:=some 34) (v:=(.slice av nv cv)) (hy:=.inl ⟨by rfl,?_⟩) (h:=?_)
   ·intro X hX;have x0:=hX.cell (fun h=>h) hc2;go_simp
   refine tkd (i:=18) (d:=some 35) (v:=(.slice (some ⟨b2,off2,none⟩) len cap2)) (hy:=.inl ⟨by rfl,?_⟩) (h:=?_)
   ·intro X hX;go_simp
   refine tkd (i:=19) (d:=some 36) (v:=(.int .i64 k)) (hy:=.inl ⟨by rfl,?_⟩) (h:=?_)
   ·intro X hX;go_simp
   refine tkd (i:=20) (d:=some 37) (v:=(.pointer (some ⟨b2,off2+k * 2,none⟩))) (hy:=.inl ⟨by rfl,?_⟩) (h:=?_)
   ·intro X hX;go_simp
   refine tkd (i:=21) (d:=some 38) (v:=(.pointer (some ⟨b2,off2+k * 2+1,none⟩))) (hy:=.inl ⟨by rfl,?_⟩) (h:=?_)
   ·intro X hX;go_simp
   refine tkd (i:=22) (d:=some 39) (v:=(.slice av2 nv cv2)) (hy:=.inl ⟨by rfl,?_⟩) (h:=?_)
   ·intro X hX;have x0:=hX.cell (fun h=>h) hd2;go_simp
   refine wpAnyH_ready (rs:=[23]) (by kernel_rfl) (by simp) ?_
   refine AllReadyH.cons (o:=_) rfl (fun K hK=>?_) AllReadyH.nil
   go_simp
   refine (K2.out _ hS).mono ?_
   rintro e wq ⟨rfl,hb⟩
   have hS:=hS.call hb
   clear hb
   go_simp
   refine hK.out _ _ hS (fun _=>?_)
   clear hK K
   refine tkd (i:=24) (d:=some 41) (v:=(.bool false)) (hy:=.inl ⟨by rfl,?_⟩) (h:=?_)
   ·intro X hX;go_simp
   refine tkd (i:=25) (d:=some 42) (v:=(.bool false)) (hy:=.inl ⟨by rfl,?_⟩) (h:=?_)
   ·intro X hX;go_simp
   refine wpAnyH_done (by kernel_rfl) ?_ _
   have B5:=hide (HB.out.trans (hS.below (n:=w.heap.size) HB.out.size (fun _ h=>h.elim)))
   clear hS
   go_wp2
   go_roundw
   case rel=>exact ⟨k+1,by omega,by go_num,B5.out⟩
   case measure=>simp [intOf];omega
  ·obtain rfl:len=k:=by omega
   go_wp2
   go_ret
   exact ⟨rfl,HB.out⟩
end Go.Proofs.YtbkkolfpegplgaaGreatDoor
namespace Go.Proofs.YtbkkolfpegplgaaGreatDoor
open Go Go.RowKit
attribute [local go_sem] Oper.semAt_some
theorem at1_any (va vb iv:Value) (i:Int) (l l':List EV) (A B:Nat) (w:World) (hE:VecAt w va l) (hE':VecAt w vb l') (hR:RightV (l.map (·.1))) (hR':RightV (l'.map (·.1)))
  (hs:∀p∈l,p.1.hs.length≤A) (hs':∀p∈l',p.1.hs.length≤B) (hAB:A+B≤9000000) (hlen:l.length≤10000000) (hlen':l'.length≤10000000) (hiv:∃a n c,iv=.slice a n c) :
  Calls Tryz.prog 131 #[va,.int .i64 i,.agg #[iv,vb]] w fun e w'=>LatR w tkU (l.map (·.1)) (l'.map (·.1)) (l.length+l'.length) (A+B+3) e w':=by
 obtain ⟨ai,ni,ci,rfl⟩:=hiv
 have K:=hide (fun W (hb:Below w.heap.size w W)=>lunion_any va vb l l' A B W (hE.below hb) (hE'.below hb) hR hR' hs hs' hAB hlen hlen')
 obtain ⟨a,cap,rfl,_,_⟩:=hE
 obtain ⟨a',cap',rfl,_,_⟩:=hE'
 clear hR hR' hs hs'
 go_enter Tryz.func131,Tryz.ntmps131
 go_wp2_with fail
 have hb0:=hide (bl_alloc (Below.refl w.heap.size w) (.cells #[.slice ai ni ci,.slice a' l'.length cap'] 80))
 refine (K.out _ hb0.out).mono ?_
 rintro e w1 ⟨v,lo,rfl,hF,hH,hC,hK,hl,hh,hb1⟩
 have HH:=hide (show LatR w tkU (l.map (·.1)) (l'.map (·.1)) (l.length+l'.length) (A+B+3) (.returned v) w1 from ⟨v,lo,rfl,hF.base hb0.out.size,hH.mono hb0.out.size,hC,hK,hl,hh,bl_trans hb0.out hb1⟩)
 clear hF hH hC hK hl hh hb1 hb0
 go_wp2
 go_ret
 exact HH.out
/-- What is known by the first of the fragments with an item. -/
def KnS (l:List FV) (s:List Nat) (r c:Int):Prop:=∃i∈s,KnV ((l.getD i FV.z).vec.map (·.1)) r c
/-- The variable that collects. -/
structure OutV (w:World) (D:Nat) (l:List FV) (V A:Nat) (s:List Nat) (W:World):Prop where
 out:∃v lo,W.heap[w.heap.size]?=some (.cells #[v] 76 (0,0))∧RowF W D v lo∧HolB D lo∧CanW (lo.map (·.1))∧(∀r c,KnV (lo.map (·.1)) r c↔KnS l s r c)∧lo.length≤s.length * V∧(∀p∈lo,p.1.hs.length≤s.length * (A+3))
 fn:W.heap[w.heap.size+1]?=some (.cells #[.func (.func 131) #[] #[]] 205 (0,0))
 bl:Below w.heap.size w W
theorem OutV.only {w:World} {D:Nat} {l:List FV} {V A:Nat} {s:List Nat} {X X':World} {may:Nat→Prop} (h:OutV w D l V A s X) (ho:Only may X X') (h0:∀k,may k→w.heap.size+2≤k) (hD:∀k,may k→k<D):OutV w D l V A s X':=by
 obtain ⟨⟨v,lo,k1,k2,k3,k4⟩,k5,k6⟩:=h
 exact ⟨⟨v,lo,ho.obj (fun h=>by have:=h0 _ h;omega) k1,k2.onlyB k3 ho hD,k3,k4⟩,ho.obj (fun h=>by have:=h0 _ h;omega) k5,k6.trans (ho.below k6.size (fun k hk=>by have:=h0 k hk;omega))⟩
theorem foldV_any (B1 B2:Nat) (a:Option Addr) (len cap:Nat) (l:List FV) (x:Int) (I V A:Nat) (w:World) (hE:KnowAt w a len l) (hO:OkK l I V A)
  (h1:w.heap[B1]?=some (.cells #[.slice a len cap] 23 (0,0))) (h2:w.heap[B2]?=some (.cells #[.int .u64 x] 57 (0,0)))
  (hI:I≤100000000) (hV:V≤1000000) (hA:A≤1000000) (hlen:len≤100000000) (N:Nat) (hN:(selI l x len).length≤N) (hVl:(N+1) * V≤5000000) (hAl:(N+1) * (A+3)≤4000000) :
  Calls Tryz.prog 130 #[.func (.func 118) #[] #[.pointer (some ⟨B1,0,none⟩),.pointer (some ⟨B2,0,none⟩)],.slice none 0 0,.func (.func 131) #[] #[]] w fun e w'=>∃v lo,e=.returned v∧RowF w' w.heap.size v lo∧HolB w.heap.size lo∧CanW (lo.map (·.1))∧(∀r c,KnV (lo.map (·.1)) r c↔KnS l (selI l x len) r c)∧lo.length≤(selI l x len).length * V∧(∀p∈lo,p.1.hs.length≤(selI l x len).length * (A+3))∧Below w.heap.size w w':=by
 have hsl:(selI l x len).length≤len:=by
  have:=List.length_filter_le (fun i=>decide (InL (l.getD i FV.z).items x)) (List.range len)
  simpa [selI] using this
 have l1:=Blk_lt h1
 have l2:=Blk_lt h2
 have SQ0:∀V1,Below w.heap.size w V1→w.heap.size<V1.heap.size→_:=fun V1 bel hlt=>with1_typ 5 (by omega) B1 B2 a len cap l x w V1 hE bel ((bel.block _ l1).trans h1) ((bel.block _ l2).trans h2) (fun b=>b=w.heap.size) (fun k hk=>by omega) (by omega) (by omega) hO.cor (fun f hf=>Nat.le_trans (hO.items f hf) hI) hlen 3 (by decide) (by decide)
 have SQ:=hide SQ0
 have smem:∀i∈selI l x len,i<len:=fun i hi=>(selI_mem.1 hi).1
 obtain ⟨s,es⟩:∃s,selI l x len=s:=⟨_,rfl⟩
 rw [es] at SQ hsl smem hN ⊢
 have HE:=hide hE
 have HO:=hide hO
 have SM:=hide smem
 clear SQ0 h1 h2 hE hO es smem
 refine (callsIn_wide (n:=6)).1 ?_
 refine callsIn_of_wp_marks Tryz.func130 rfl trivial ?_ rfl
 simp only [Tryz.ntmps130,List.size_toArray,List.length_cons,List.length_nil,Nat.reduceAdd,Nat.reduceSub,Array.replicate_succ,Array.replicate_zero,List.push_toArray,List.append_toArray,List.nil_append,List.cons_append]
 gi_wp2
 obtain ⟨V1,hV1⟩:∃V1,(w.alloc (.cells #[.slice none 0 0] 76)).alloc (.cells #[.func (.func 131) #[] #[]] 205)=V1:=⟨_,rfl⟩
 have hB:V1.heap.size=w.heap.size+2:=by rw [← hV1];simp
 have bel:Below w.heap.size w V1:=by rw [← hV1];exact bl_alloc (bl_alloc (Below.refl _ _) _) _
 have q1:V1.heap[w.heap.size]?=some (.cells #[.slice none 0 0] 76 (0,0)):=by rw [← hV1];exact heap_old_at _ _ (by simp) (heap_new_at _ _ rfl)
 have q2:V1.heap[w.heap.size+1]?=some (.cells #[.func (.func 131) #[] #[]] 205 (0,0)):=by rw [← hV1];exact heap_new_at _ _ (by simp)
 rw [hV1]
 clear hV1
 have SEQ:=hide (SQ.out V1 bel (by omega))
 have hE1:∀args W,(callFunc 131 args).run Tryz.prog W=.ok (.enter 131 args) W:=fun _ _=>by kernel_rfl
 refine wpIn_rangeFunc_typ (gf:=118) (lb:=#[.pointer (some ⟨B1,0,none⟩),.pointer (some ⟨B2,0,none⟩)]) rfl (by omega) rfl trivial (enters_of Tryz.func118 (by kernel_rfl) rfl)
  SEQ.out (Below.refl _ _) (fun _=>rfl) (fun k hk=>by omega)
  (fun k W=>OutV w (V1.heap.size+2) l V A (s.take k) W)
  (fun _ _ _=>False) ?hI (fun _ _ _ _ h _=>h) ⟨⟨_,[],q1,RowF.nil _ _,(fun p hp=>by cases hp),CanW.nil,(fun r c=>⟨fun h=>absurd h (knV_nil r c),fun ⟨_,h,_⟩=>by cases h⟩),by simp,(fun p hp=>by cases hp)⟩,q2,bel⟩
  (fun k a₁ W=>OutV w (V1.heap.size+2) l V A (s.take k) W∧∃by',V1.heap.size+2≤by'∧W.heap[by']?=some (.cells #[(l.getD (s.getD k 0) FV.z).iv,(l.getD (s.getD k 0) FV.z).vv] 80 (0,0)) ∧
    a₁={ tmps:=#[.func (.func 118) #[] #[.pointer (some ⟨B1,0,none⟩),.pointer (some ⟨B2,0,none⟩)],.slice none 0 0,.func (.func 131) #[] #[],undef,.pointer (some ⟨w.heap.size,0,none⟩),.pointer (some ⟨w.heap.size+1,0,none⟩),.slice none 0 0,.int .i64 (s.getD k 0:Nat),.pointer (some ⟨by',0,none⟩),.func (.func 118) #[] #[.pointer (some ⟨B1,0,none⟩),.pointer (some ⟨B2,0,none⟩)],.int .i64 (s.getD k 0:Nat),.agg #[(l.getD (s.getD k 0) FV.z).iv,(l.getD (s.getD k 0) FV.z).vv],undef,undef,undef,undef,undef,undef],defers:=[] })
  ?hAx ?assign ?body ?done (fun _ _ _ _ _ _ h _=>h.elim)
 case hI=>
  intro k X Y h ho
  exact h.only ho (fun q hq=>by omega) (fun q hq=>by omega)
 case hAx=>
  rintro k a₁ X Y ⟨h,by',hb,hq,e⟩ ho
  exact ⟨h.only ho (fun q hq=>by omega) (fun q hq=>by omega),by',hb,ho.obj (fun hk=>by omega) hq,e⟩
 case assign=>
  rintro ll k W hlt h hk
  have hm:=HE.out.mem (SM.out (s.getD k 0) (by simp only [List.getD,List.getElem?_eq_getElem hk,Option.getD_some];exact List.getElem_mem hk))
  obtain ⟨⟨ai,ci,ei,_⟩,⟨av,cv,ev,_⟩⟩:=HE.out.frags _ hm
  simp only [encW]
  obtain ⟨p,ep⟩:∃p,l.getD (s.getD k 0) FV.z=p:=⟨_,rfl⟩
  rw [ep] at ei ev ⊢
  obtain ⟨i,eii⟩:∃i,s.getD k 0=i:=⟨_,rfl⟩
  rw [eii]
  obtain ⟨items,iv,vec,vv⟩:=p
  simp only at ei ev ⊢
  subst ei
  subst ev
  have HH:=hide h
  clear h hm ep eii
  gi_wp2
  exact ⟨(Only.refl _ W).alloc _,HH.out.only (may:=fun _=>False) ((Only.refl _ W).alloc _) (fun _ h=>h.elim) (fun _ h=>h.elim),W.heap.size,by omega,heap_new_at _ _ rfl,rfl⟩
 case body=>
  rintro ll k a₁ W hlt ⟨h,by',hby,hq,rfl⟩ hk
  have hil:s.getD k 0∈s:=by simp only [List.getD,List.getElem?_eq_getElem hk,Option.getD_some];exact List.getElem_mem hk
  have hm:=HE.out.mem (SM.out _ hil)
  have E1:=hide (show s.take (k+1)=s.take k ++ [s.getD k 0] from by
   rw [List.take_succ_eq_append_getElem hk]
   simp [List.getD,List.getElem?_eq_getElem hk])
  obtain ⟨⟨v,lo,hv,hF,hH,hC,hKn,hl,hh⟩,hf,hbl⟩:=h
  have hfr:=(HE.out.frags _ hm).below hbl
  have hlk:(s.take k).length=k:=by rw [List.length_take];omega
  rw [hlk] at hl hh
  obtain ⟨p,ep⟩:∃p,l.getD (s.getD k 0) FV.z=p:=⟨_,rfl⟩
  have hri:=HO.out.right _ hm
  have hvl:=HO.out.vec _ hm
  have hha:=HO.out.hs _ hm
  have HKS:=hide (show ∀r c,KnS l (s.take (k+1)) r c↔KnS l (s.take k) r c∨KnV (p.vec.map (·.1)) r c from fun r c=>by
   unfold KnS
   rw [E1.out,← ep]
   constructor
   ·rintro ⟨i,hi,h⟩
    rcases List.mem_append.1 hi with hi | hi
    ·exact .inl ⟨i,hi,h⟩
    ·obtain rfl:i=s.getD k 0:=by simpa using hi
     exact .inr h
   ·rintro (⟨i,hi,h⟩ | h)
    ·exact ⟨i,List.mem_append_left _ hi,h⟩
    ·exact ⟨s.getD k 0,by simp,h⟩)
  rw [ep] at hq hfr hri hvl hha ⊢
  have hks:k+1≤N:=by omega
  have m1:(k+1) * V≤(N+1) * V:=Nat.mul_le_mul_right _ (by omega)
  have m2:(k+1) * (A+3)≤(N+1) * (A+3):=Nat.mul_le_mul_right _ (by omega)
  rw [Nat.succ_mul] at m1 m2
  have M1:=hide (Nat.succ_mul k V)
  have M2:=hide (Nat.succ_mul k (A+3))
  obtain ⟨kv,ekv⟩:∃kv,k * V=kv:=⟨_,rfl⟩
  obtain ⟨ka,eka⟩:∃ka,k * (A+3)=ka:=⟨_,rfl⟩
  rw [ekv] at hl m1 M1
  rw [eka] at hh m2 M2
  have KA:=hide (at1_any v p.vv p.iv (s.getD k 0:Nat) lo p.vec ka A W hF.vecAt hfr.vec (CanV.right (CanW.v hC)) hri hh hha (by omega) (by omega) (by omega) (by obtain ⟨a',c',e',_⟩:=hfr.items;exact ⟨a',_,c',e'⟩))
  obtain ⟨i,eii⟩:∃i,s.getD k 0=i:=⟨_,rfl⟩
  rw [eii] at KA ⊢
  obtain ⟨⟨ai,ci,ei,_⟩,⟨av,cv,ev,_⟩⟩:=hfr
  obtain ⟨ao,co,eo,_⟩:=hF.vecAt
  obtain ⟨items,iv,vec,vv⟩:=p
  simp only at ei ev hq KA HKS hvl hha
  subst ei
  subst ev
  subst eo
  have v0:W.cell? ⟨w.heap.size,0,none⟩=some (.slice ao lo.length co):=by simp [World.cell?,hv]
  have v1:W.cell? ⟨w.heap.size+1,0,none⟩=some (.func (.func 131) #[] #[]):=by simp [World.cell?,hf]
  have v2:W.cell? ⟨by',0,none⟩=some (.slice ai items.length ci):=by simp [World.cell?,hq]
  have v3:W.cell? ⟨by',1,none⟩=some (.slice av vec.length cv):=by simp [World.cell?,hq]
  have HV:=hide hv
  have HF:=hide hf
  have HBL:=hide hbl
  have HKN:=hide hKn
  have HL:=hide (And.intro hl hvl)
  have HLT:=hide hlt
  clear hv hF hH hC hKn hh hf hbl hq hri hha hm hil ep eii ekv eka hvl hl
  gi_wp2_with (refine ⟨trivial,?_⟩;gi_at_call 131;refine (callsIn_wide.2 KA.out).mono ?_;rintro e W4 ⟨v',lo',rfl,hF',hH',hC',hK',hl',hh',hb'⟩;obtain ⟨a4,c4,rfl,_⟩:=hF'.vecAt;have R4:=hide (And.intro hF' (And.intro hH' (And.intro hC' (And.intro hK' (And.intro hl' (And.intro hh' hb'))))));have q4:=(hb'.block _ (Blk_lt HV.out)).trans HV.out;have y0:W4.cell? ⟨w.heap.size,0,none⟩=some (.slice ao lo.length co):=(by simp [World.cell?,q4]);have y1:W4.frozen? ⟨w.heap.size,0,none⟩=false:=frozen_of_row W4 _ 0 _ _ q4;have Q4:=hide q4;clear hF' hH' hC' hK' hl' hh' hb' q4)
  obtain ⟨hF',hH',hC',hK',hl',hh',hb'⟩:=R4.out
  have o1:=hide ((Only.of_below (may:=fun b=>b=w.heap.size) hb').setCell (p:=⟨w.heap.size,0,none⟩) (.inl rfl) (.slice a4 lo'.length c4))
  have o2:Only (fun b=>b=w.heap.size) W4 (W4.setCell ⟨w.heap.size,0,none⟩ (.slice a4 lo'.length c4)):=(Only.refl (fun b=>b=w.heap.size) W4).setCell (p:=⟨w.heap.size,0,none⟩) (.inl rfl) _
  refine ⟨o1.out.wide (fun b hb=>.inl hb),⟨⟨_,lo',heap_setCell_same _ _ 0 _ _ _ Q4.out,(hF'.base (base':=V1.heap.size+2) HLT.out).onlyB (hH'.mono HLT.out) o2 (fun k hk=>by omega),hH'.mono HLT.out,hC',fun r c=>?_,?_,fun p hp=>?_⟩,o1.out.obj (fun h=>by omega) HF.out,HBL.out.trans (o1.out.below (n:=w.heap.size) HBL.out.size (fun k hk=>by omega))⟩⟩
  ·rw [hK',HKS.out,← HKN.out]
   show (decide _ || decide _)=true↔_
   simp
  ·have hlk2:(s.take (k+1)).length=k+1:=by rw [List.length_take];omega
   have:=HL.out
   rw [hlk2,M1.out]
   omega
  ·have hlk2:(s.take (k+1)).length=k+1:=by rw [List.length_take];omega
   have:=hh' p hp
   rw [hlk2,M2.out]
   omega
 case done=>
  rintro D W hD h hK
  rw [List.take_length] at h
  obtain ⟨⟨v,lo,hv,hF,hH,hC,hKn,hl,hh⟩,hf,hbl⟩:=h
  have v0:W.cell? ⟨w.heap.size,0,none⟩=some v:=by simp [World.cell?,hv]
  gi_wp2
  refine ⟨by simp,.inl ⟨_,_,rfl,run_takeDeferred hK,?_⟩⟩
  have oD:=Only.putObj (may:=fun x=>x=D) W D (.deferred none) rfl
  have nD:∀t,t≠0→¬Typed W t D:=fun t _ ⟨cs,hc⟩=>by rw [hK] at hc;cases hc
  refine ⟨_,results_tmp rfl _ _ _,v,lo,rfl,(hF.only oD (fun k hk=>by rw [hk];exact ⟨fun ⟨cs,hc⟩=>(by rw [hK] at hc;cases hc),fun ⟨cs,hc⟩=>(by rw [hK] at hc;cases hc)⟩)).base (by omega),hH.mono (by omega),hC,hKn,hl,hh,hbl.trans (oD.below (n:=w.heap.size) hbl.size (fun k (hk:k=D)=>by omega))⟩
theorem knS_iff {l:List FV} {x r c:Int}:KnS l (selI l x l.length) r c↔KnK (l.map FV.frag) x r c:=by
 constructor
 ·rintro ⟨i,hi,h⟩
  obtain ⟨h1,h2⟩:=selI_mem.1 hi
  refine ⟨(l.getD i FV.z).frag,List.mem_map.2 ⟨_,?_,rfl⟩,h2,h⟩
  rw [List.getD,List.getElem?_eq_getElem h1,Option.getD_some]
  exact List.getElem_mem h1
 ·rintro ⟨f,hf,h1,h2⟩
  obtain ⟨g,hg,rfl⟩:=List.mem_map.1 hf
  obtain ⟨i,hi,e⟩:=List.mem_iff_getElem.1 hg
  have e2:l.getD i FV.z=g:=by rw [List.getD,List.getElem?_eq_getElem hi,Option.getD_some,e]
  exact ⟨i,selI_mem.2 ⟨hi,by rw [e2];exact h1⟩,by rw [e2];exact h2⟩
/-- The versions that are known for an item. -/
theorem at_any (v:Value) (l:List FV) (x:Int) (I V A:Nat) (w:World) (hE:KnwAt w v l) (hO:OkK l I V A) (hI:I≤100000000) (hV:V≤1000000) (hA:A≤1000000) (hlen:l.length≤100000000) (N:Nat) (hN:(selI l x l.length).length≤N) (hVl:(N+1) * V≤5000000) (hAl:(N+1) * (A+3)≤4000000) :
  Calls Tryz.prog 79 #[v,.int .u64 x] w fun e w'=>∃v lo,e=.returned v∧RowF w' w.heap.size v lo∧HolB w.heap.size lo∧CanW (lo.map (·.1))∧(∀r c,KnV (lo.map (·.1)) r c↔KnK (l.map FV.frag) x r c)∧lo.length≤(selI l x l.length).length * V∧(∀p∈lo,p.1.hs.length≤(selI l x l.length).length * (A+3))∧Below w.heap.size w w':=by
 obtain ⟨a,cap,rfl,hK,_⟩:=hE
 obtain ⟨W,eW⟩:∃W,(w.alloc (.cells #[.slice a l.length cap] 23)).alloc (.cells #[.int .u64 x] 57)=W:=⟨_,rfl⟩
 have hb:Below w.heap.size w W:=by rw [← eW];exact bl_alloc (bl_alloc (Below.refl _ _) _) _
 have q1:W.heap[w.heap.size]?=some (.cells #[.slice a l.length cap] 23 (0,0)):=by rw [← eW];exact heap_old_at _ _ (by simp) (heap_new_at _ _ rfl)
 have q2:W.heap[w.heap.size+1]?=some (.cells #[.int .u64 x] 57 (0,0)):=by rw [← eW];exact heap_new_at _ _ (by simp)
 have KW:=hide (with_any (.slice a l.length cap) x a l.length cap rfl w)
 have KF:=hide (foldV_any w.heap.size (w.heap.size+1) a l.length cap l x I V A W (hK.below hb) hO q1 q2 hI hV hA hlen N hN hVl hAl)
 rw [eW] at KW
 have HB:=hide hb
 clear hK hO hVl hAl eW hb q1 q2
 go_enter Tryz.func79,Tryz.ntmps79
 go_wp2_with fail
 refine KW.out.mono ?_
 rintro e w1 ⟨rfl,rfl⟩
 go_wp2_with fail
 refine KF.out.mono ?_
 rintro e w2 ⟨v,lo,rfl,hF,hH,hC,hKn,hl,hh,hb2⟩
 have R2:=hide (And.intro (hF.base HB.out.size) (And.intro (hH.mono HB.out.size) (And.intro hC (And.intro (fun r c=>(hKn r c).trans knS_iff) (And.intro hl (And.intro hh (bl_trans HB.out hb2)))))))
 clear hF hH hC hKn hl hh hb2
 go_wp2
 go_ret
 exact ⟨v,lo,rfl,R2.out⟩
end Go.Proofs.YtbkkolfpegplgaaGreatDoor
namespace Go.Proofs.YtbkkolfpegplgaaGreatDoor
open Go Go.RowKit
attribute [local go_sem] Oper.semAt_some
/-- A list of indices in a row of the call's own. -/
def intsN (s:List Nat):List Value:=s.map (fun (i:Nat)=>Value.int .i64 (i:Int))
def OwnJ (w:World) (base:Nat) (v:Value) (s:List Nat):Prop:=w.ownsRow base 3 1 v s.length (intsN s)
theorem OwnJ.nil (w:World) (base:Nat):OwnJ w base (.slice none 0 0) []:=World.ownsRow_nil _ _ _ _
theorem info_int:(Tryz.prog.info? 3).map (fun i=>(i.zero,i.size,i.bytes))=some (some (.int .i64 0),1,8):=by kernel_rfl
theorem one_oneI (x:Int):∀u∈[Value.int .i64 x],u.oneCell'=true:=by
 intro u hu;simp at hu;subst hu;rfl
theorem mem1_any (base:Nat) (v iv vv:Value) (s:List Nat) (i:Nat) (w:World) (h:OwnJ w base v s) (hn:s.length≤100000000) (hbase:base≤w.heap.size) (hiv:∃a n c,iv=.slice a n c) (hvv:∃a n c,vv=.slice a n c) :
  Calls Tryz.prog 189 #[v,.int .i64 (i:Int),.agg #[iv,vv]] w fun e w'=>∃v',e=.returned v'∧OwnJ w' base v' (s ++ [i])∧Only (fun b=>v.ownBlock=some b) w w':=by
 obtain ⟨i0,hi,hz0,hz1,hz2⟩:=info_parts info_int
 obtain ⟨ai,ni,ci,rfl⟩:=hiv
 obtain ⟨av,nv,cv,rfl⟩:=hvv
 have H:=hide h
 obtain ⟨a,cap,rfl,_⟩:=own_len h
 clear h
 obtain ⟨n,en⟩:∃n,s.length=n:=⟨_,rfl⟩
 have EN:=hide en
 unfold OwnJ at H
 rw [en] at H hn ⊢
 clear en
 go_enter Tryz.func189,Tryz.ntmps189
 go_wp2_with (at_builtin;go_loud (refine wpList_append_own_at _ rfl _ _ 86 rfl base 3 i0 (.int .i64 0) 1 8 Tryz.underlying86 hi hz0 hz1 hz2 rfl (by decide) _ _ _ rfl ((H.out.alloc _).alloc _) ⟨w.heap.size+1,0,none⟩ 1 1 [.int .i64 (i:Int)] rfl rfl ?c1 (one_oneI _) ?c2 ?c3 ?c4 ?_))
 case c1=>
  have:=cell_one_new (w.alloc (.cells #[.slice ai ni ci,.slice av nv cv] 80)) (.int .i64 (i:Int)) 3
  simp only [World.size_alloc] at this
  exact this
 case c2=>unfold maxLen;omega
 case c3=>omega
 case c4=>simp;omega
 intro v' w2 hown hgrow _ _
 have HO:=hide hown
 have HG:=hide ((((Only.refl (fun b=>(Value.slice a n cap).ownBlock=some b) w).alloc (.cells #[.slice ai ni ci,.slice av nv cv] 80)).alloc (.cells #[.int .i64 (i:Int)] 3)).grown hgrow (fun k hk=>hk))
 clear hown hgrow
 go_wp2
 go_ret
 refine ⟨v',rfl,?_,HG.out⟩
 unfold OwnJ intsN
 rw [List.map_append,List.length_append,EN.out]
 exact HO.out
/-- The variable that collects. -/
structure OutJ (w:World) (D:Nat) (s:List Nat) (W:World):Prop where
 out:∃v,W.heap[w.heap.size]?=some (.cells #[v] 86 (0,0))∧OwnJ W D v s
 fn:W.heap[w.heap.size+1]?=some (.cells #[.func (.func 189) #[] #[]] 287 (0,0))
 bl:Below w.heap.size w W
theorem OutJ.only {w:World} {D:Nat} {s:List Nat} {X X':World} {may:Nat→Prop} (h:OutJ w D s X) (ho:Only may X X') (h0:∀k,may k→w.heap.size+2≤k) (hD:∀k,may k→k<D):OutJ w D s X':=by
 obtain ⟨⟨v,k1,k2⟩,k5,k6⟩:=h
 exact ⟨⟨v,ho.obj (fun h=>by have:=h0 _ h;omega) k1,row_only k2 ho hD⟩,ho.obj (fun h=>by have:=h0 _ h;omega) k5,k6.trans (ho.below k6.size (fun k hk=>by have:=h0 k hk;omega))⟩
theorem foldI_any (B1 B2:Nat) (a:Option Addr) (len cap:Nat) (l:List FV) (x:Int) (w:World) (hE:KnowAt w a len l) (hcor:∀f∈l,Cor f.items) (hits:∀f∈l,f.items.length≤100000000)
  (h1:w.heap[B1]?=some (.cells #[.slice a len cap] 23 (0,0))) (h2:w.heap[B2]?=some (.cells #[.int .u64 x] 57 (0,0))) (hlen:len≤10000000) :
  Calls Tryz.prog 188 #[.func (.func 118) #[] #[.pointer (some ⟨B1,0,none⟩),.pointer (some ⟨B2,0,none⟩)],.slice none 0 0,.func (.func 189) #[] #[]] w fun e w'=>∃v,e=.returned v∧OwnJ w' w.heap.size v (selI l x len)∧Below w.heap.size w w':=by
 have hsl:(selI l x len).length≤len:=by
  have:=List.length_filter_le (fun i=>decide (InL (l.getD i FV.z).items x)) (List.range len)
  simpa [selI] using this
 have l1:=Blk_lt h1
 have l2:=Blk_lt h2
 have SQ0:∀V1,Below w.heap.size w V1→w.heap.size<V1.heap.size→_:=fun V1 bel hlt=>with1_typ 5 (by omega) B1 B2 a len cap l x w V1 hE bel ((bel.block _ l1).trans h1) ((bel.block _ l2).trans h2) (fun b=>b=w.heap.size) (fun k hk=>by omega) (by omega) (by omega) hcor hits (by omega) 3 (by decide) (by decide)
 have SQ:=hide SQ0
 have smem:∀i∈selI l x len,i<len:=fun i hi=>(selI_mem.1 hi).1
 obtain ⟨s,es⟩:∃s,selI l x len=s:=⟨_,rfl⟩
 rw [es] at SQ hsl smem ⊢
 have HE:=hide hE
 have SM:=hide smem
 clear SQ0 h1 h2 hE hcor hits es smem
 refine (callsIn_wide (n:=6)).1 ?_
 refine callsIn_of_wp_marks Tryz.func188 rfl trivial ?_ rfl
 simp only [Tryz.ntmps188,List.size_toArray,List.length_cons,List.length_nil,Nat.reduceAdd,Nat.reduceSub,Array.replicate_succ,Array.replicate_zero,List.push_toArray,List.append_toArray,List.nil_append,List.cons_append]
 gi_wp2
 obtain ⟨V1,hV1⟩:∃V1,(w.alloc (.cells #[.slice none 0 0] 86)).alloc (.cells #[.func (.func 189) #[] #[]] 287)=V1:=⟨_,rfl⟩
 have hB:V1.heap.size=w.heap.size+2:=by rw [← hV1];simp
 have bel:Below w.heap.size w V1:=by rw [← hV1];exact bl_alloc (bl_alloc (Below.refl _ _) _) _
 have q1:V1.heap[w.heap.size]?=some (.cells #[.slice none 0 0] 86 (0,0)):=by rw [← hV1];exact heap_old_at _ _ (by simp) (heap_new_at _ _ rfl)
 have q2:V1.heap[w.heap.size+1]?=some (.cells #[.func (.func 189) #[] #[]] 287 (0,0)):=by rw [← hV1];exact heap_new_at _ _ (by simp)
 rw [hV1]
 clear hV1
 have SEQ:=hide (SQ.out V1 bel (by omega))
 have hE1:∀args W,(callFunc 189 args).run Tryz.prog W=.ok (.enter 189 args) W:=fun _ _=>by kernel_rfl
 refine wpIn_rangeFunc_typ (gf:=118) (lb:=#[.pointer (some ⟨B1,0,none⟩),.pointer (some ⟨B2,0,none⟩)]) rfl (by omega) rfl trivial (enters_of Tryz.func118 (by kernel_rfl) rfl)
  SEQ.out (Below.refl _ _) (fun _=>rfl) (fun k hk=>by omega)
  (fun k W=>OutJ w (V1.heap.size+2) (s.take k) W)
  (fun _ _ _=>False) ?hI (fun _ _ _ _ h _=>h) ⟨⟨_,q1,OwnJ.nil _ _⟩,q2,bel⟩
  (fun k a₁ W=>OutJ w (V1.heap.size+2) (s.take k) W∧∃by',V1.heap.size+2≤by'∧W.heap[by']?=some (.cells #[(l.getD (s.getD k 0) FV.z).iv,(l.getD (s.getD k 0) FV.z).vv] 80 (0,0)) ∧
    a₁={ tmps:=#[.func (.func 118) #[] #[.pointer (some ⟨B1,0,none⟩),.pointer (some ⟨B2,0,none⟩)],.slice none 0 0,.func (.func 189) #[] #[],undef,.pointer (some ⟨w.heap.size,0,none⟩),.pointer (some ⟨w.heap.size+1,0,none⟩),.slice none 0 0,.int .i64 (s.getD k 0:Nat),.pointer (some ⟨by',0,none⟩),.func (.func 118) #[] #[.pointer (some ⟨B1,0,none⟩),.pointer (some ⟨B2,0,none⟩)],.int .i64 (s.getD k 0:Nat),.agg #[(l.getD (s.getD k 0) FV.z).iv,(l.getD (s.getD k 0) FV.z).vv],undef,undef,undef,undef,undef,undef],defers:=[] })
  ?hAx ?assign ?body ?done (fun _ _ _ _ _ _ h _=>h.elim)
 case hI=>
  intro k X Y h ho
  exact h.only ho (fun q hq=>by omega) (fun q hq=>by omega)
 case hAx=>
  rintro k a₁ X Y ⟨h,by',hb,hq,e⟩ ho
  exact ⟨h.only ho (fun q hq=>by omega) (fun q hq=>by omega),by',hb,ho.obj (fun hk=>by omega) hq,e⟩
 case assign=>
  rintro ll k W hlt h hk
  have hm:=HE.out.mem (SM.out (s.getD k 0) (by simp only [List.getD,List.getElem?_eq_getElem hk,Option.getD_some];exact List.getElem_mem hk))
  obtain ⟨⟨ai,ci,ei,_⟩,⟨av,cv,ev,_⟩⟩:=HE.out.frags _ hm
  simp only [encW]
  obtain ⟨p,ep⟩:∃p,l.getD (s.getD k 0) FV.z=p:=⟨_,rfl⟩
  rw [ep] at ei ev ⊢
  obtain ⟨i,eii⟩:∃i,s.getD k 0=i:=⟨_,rfl⟩
  rw [eii]
  obtain ⟨items,iv,vec,vv⟩:=p
  simp only at ei ev ⊢
  subst ei
  subst ev
  have HH:=hide h
  clear h hm ep eii
  gi_wp2
  exact ⟨(Only.refl _ W).alloc _,HH.out.only (may:=fun _=>False) ((Only.refl _ W).alloc _) (fun _ h=>h.elim) (fun _ h=>h.elim),W.heap.size,by omega,heap_new_at _ _ rfl,rfl⟩
 case body=>
  rintro ll k a₁ W hlt ⟨h,by',hby,hq,rfl⟩ hk
  have hil:s.getD k 0∈s:=by simp only [List.getD,List.getElem?_eq_getElem hk,Option.getD_some];exact List.getElem_mem hk
  have hm:=HE.out.mem (SM.out _ hil)
  have E1:=hide (show s.take (k+1)=s.take k ++ [s.getD k 0] from by
   rw [List.take_succ_eq_append_getElem hk]
   simp [List.getD,List.getElem?_eq_getElem hk])
  obtain ⟨⟨v,hv,hF⟩,hf,hbl⟩:=h
  have hfr:=(HE.out.frags _ hm).below hbl
  have hlk:(s.take k).length=k:=by rw [List.length_take];omega
  obtain ⟨i,eii⟩:∃i,s.getD k 0=i:=⟨_,rfl⟩
  rw [eii] at hq hfr E1 ⊢
  obtain ⟨p,ep⟩:∃p,l.getD i FV.z=p:=⟨_,rfl⟩
  rw [ep] at hq hfr ⊢
  have KA:=hide (mem1_any (V1.heap.size+2) v p.iv p.vv (s.take k) i W hF (by omega) hlt (by obtain ⟨a',c',e',_⟩:=hfr.items;exact ⟨a',_,c',e'⟩) (by obtain ⟨a',c',e',_⟩:=hfr.vec;exact ⟨a',_,c',e'⟩))
  obtain ⟨⟨ai,ci,ei,_⟩,⟨av,cv,ev,_⟩⟩:=hfr
  have hown:∀q,v.ownBlock=some q→V1.heap.size+2≤q∧Typed W 3 q:=fun q hq=>⟨(hF.lt q hq).1,own_typed hF hq⟩
  obtain ⟨ao,co,eo,_⟩:=own_len hF
  obtain ⟨items,iv,vec,vv⟩:=p
  simp only at ei ev hq KA
  subst ei
  subst ev
  subst eo
  rw [hlk] at hv KA hown
  have v0:W.cell? ⟨w.heap.size,0,none⟩=some (.slice ao k co):=by simp [World.cell?,hv]
  have v1:W.cell? ⟨w.heap.size+1,0,none⟩=some (.func (.func 189) #[] #[]):=by simp [World.cell?,hf]
  have v2:W.cell? ⟨by',0,none⟩=some (.slice ai items.length ci):=by simp [World.cell?,hq]
  have v3:W.cell? ⟨by',1,none⟩=some (.slice av vec.length cv):=by simp [World.cell?,hq]
  have HV:=hide hv
  have HF:=hide hf
  have HBL:=hide hbl
  have HLT:=hide hlt
  have HOW:=hide hown
  have nC:¬(Value.slice ao k co).ownBlock=some w.heap.size:=fun e=>by have:=(hown _ e).1;omega
  have nC1:¬(Value.slice ao k co).ownBlock=some (w.heap.size+1):=fun e=>by have:=(hown _ e).1;omega
  have NC:=hide nC
  have NC1:=hide nC1
  clear hv hF hf hbl hq hm hil ep eii hown nC nC1 hlk
  gi_wp2_with (refine ⟨trivial,?_⟩;gi_at_call 189;refine (callsIn_wide.2 KA.out).mono ?_;rintro e W4 ⟨v',rfl,hF',ho'⟩;obtain ⟨a4,c4,rfl,_⟩:=own_len hF';obtain ⟨m4,em⟩:∃m,(s.take k ++ [i]).length=m:=⟨_,rfl⟩;rw [em] at hF' ⊢;clear em;have R4:=hide (And.intro hF' ho');have q4:=ho'.obj NC.out HV.out;have y0:W4.cell? ⟨w.heap.size,0,none⟩=some (.slice ao k co):=(by simp [World.cell?,q4]);have y1:W4.frozen? ⟨w.heap.size,0,none⟩=false:=frozen_of_row W4 _ 0 _ _ q4;have Q4:=hide q4;clear hF' ho' q4)
  obtain ⟨hF',ho'⟩:=R4.out
  have o1:=hide (((ho'.wide (may':=fun b=>b=w.heap.size∨w.heap.size≤b∧Typed W 3 b) (fun b hb=>.inr ⟨by have:=(HOW.out b hb).1;omega,(HOW.out b hb).2⟩))).setCell (p:=⟨w.heap.size,0,none⟩) (.inl (.inl rfl)) (.slice a4 m4 c4))
  have o2:Only (fun b=>b=w.heap.size) W4 (W4.setCell ⟨w.heap.size,0,none⟩ (.slice a4 m4 c4)):=(Only.refl (fun b=>b=w.heap.size) W4).setCell (p:=⟨w.heap.size,0,none⟩) (.inl rfl) _
  refine ⟨o1.out,?_⟩
  show OutJ w (V1.heap.size+2) (s.take (k+1)) _
  rw [E1.out]
  refine ⟨⟨_,heap_setCell_same _ _ 0 _ _ _ Q4.out,row_only hF' o2 (fun q hq=>by omega)⟩,?_,HBL.out.trans (o1.out.below (n:=w.heap.size) HBL.out.size (fun q hq=>by omega))⟩
  exact o2.obj (fun h=>by omega) (ho'.obj NC1.out HF.out)
 case done=>
  rintro D W hD h hK
  rw [List.take_length] at h
  obtain ⟨⟨v,hv,hF⟩,hf,hbl⟩:=h
  have v0:W.cell? ⟨w.heap.size,0,none⟩=some v:=by simp [World.cell?,hv]
  gi_wp2
  refine ⟨by simp,.inl ⟨_,_,rfl,run_takeDeferred hK,?_⟩⟩
  have oD:=Only.putObj (may:=fun x=>x=D) W D (.deferred none) rfl
  have nD:∀q,v.ownBlock=some q→¬q=D:=fun q hq e=>by
   obtain ⟨cs,hc⟩:=own_typed hF hq
   rw [e,hK] at hc
   cases hc
  exact ⟨_,results_tmp rfl _ _ _,v,rfl,own_base (own_only hF oD nD) (by omega),hbl.trans (oD.below (n:=w.heap.size) hbl.size (fun k (hk:k=D)=>by omega))⟩
theorem members_any (v:Value) (l:List FV) (x:Int) (w:World) (hE:KnwAt w v l) (hcor:∀f∈l,Cor f.items) (hits:∀f∈l,f.items.length≤100000000) (hlen:l.length≤10000000) :
  Calls Tryz.prog 129 #[v,.int .u64 x] w fun e w'=>∃v,e=.returned v∧OwnJ w' w.heap.size v (selI l x l.length)∧Below w.heap.size w w':=by
 obtain ⟨a,cap,rfl,hK,_⟩:=hE
 obtain ⟨W,eW⟩:∃W,(w.alloc (.cells #[.slice a l.length cap] 23)).alloc (.cells #[.int .u64 x] 57)=W:=⟨_,rfl⟩
 have hb:Below w.heap.size w W:=by rw [← eW];exact bl_alloc (bl_alloc (Below.refl _ _) _) _
 have q1:W.heap[w.heap.size]?=some (.cells #[.slice a l.length cap] 23 (0,0)):=by rw [← eW];exact heap_old_at _ _ (by simp) (heap_new_at _ _ rfl)
 have q2:W.heap[w.heap.size+1]?=some (.cells #[.int .u64 x] 57 (0,0)):=by rw [← eW];exact heap_new_at _ _ (by simp)
 have KW:=hide (with_any (.slice a l.length cap) x a l.length cap rfl w)
 have KF:=hide (foldI_any w.heap.size (w.heap.size+1) a l.length cap l x W (hK.below hb) hcor hits q1 q2 hlen)
 rw [eW] at KW
 have HB:=hide hb
 clear hK hcor hits eW hb q1 q2
 go_enter Tryz.func129,Tryz.ntmps129
 go_wp2_with fail
 refine KW.out.mono ?_
 rintro e w1 ⟨rfl,rfl⟩
 go_wp2_with fail
 refine KF.out.mono ?_
 rintro e w2 ⟨v,rfl,hF,hb2⟩
 have R2:=hide (And.intro (own_base hF HB.out.size) (bl_trans HB.out hb2))
 clear hF hb2
 go_wp2
 go_ret
 exact ⟨v,rfl,R2.out⟩
end Go.Proofs.YtbkkolfpegplgaaGreatDoor
namespace Go.Proofs.YtbkkolfpegplgaaGreatDoor
open Go Go.RowKit
/-- A function of two vectors is an operation. -/
structure VecOp (g:FuncId) (tk:Bool→Bool→Bool):Prop where
 ent:∀(args:Array Value) (w:World),(callFunc g args).run Tryz.prog w=.ok (.enter g args) w
 off:tk false false=false
 run:∀(va vb:Value) (l l':List EV) (A B:Nat) (w:World),VecAt w va l→VecAt w vb l'→RightV (l.map (·.1))→RightV (l'.map (·.1))→(∀p∈l,p.1.hs.length≤A)→(∀p∈l',p.1.hs.length≤B)→A+B≤9000000→l.length≤10000000→l'.length≤10000000 →
  Calls Tryz.prog g #[va,vb] w fun e w'=>LatR w tk (l.map (·.1)) (l'.map (·.1)) (l.length+l'.length) (A+B+3) e w'
theorem knU_op:VecOp 34 tkU:=⟨fun _ _=>by kernel_rfl,rfl,fun va vb l l' A B w hE hE' hR hR' hs hs' hAB hlen hlen'=>by
 have K:=hide (lunion_any va vb l l' A B w hE hE' hR hR' hs hs' hAB hlen hlen')
 obtain ⟨a,cap,rfl,_⟩:=hE
 obtain ⟨a',cap',rfl,_⟩:=hE'
 clear hR hR' hs hs'
 go_enter Tryz.func34,Tryz.ntmps34
 go_wp2_with fail
 refine K.out.mono ?_
 rintro e w1 ⟨v,lo,rfl,h⟩
 have HH:=hide h
 clear h
 go_wp2
 go_ret
 exact ⟨v,lo,rfl,HH.out⟩⟩
theorem knM_op:VecOp 36 tkM:=⟨fun _ _=>by kernel_rfl,rfl,fun va vb l l' A B w hE hE' hR hR' hs hs' hAB hlen hlen'=>by
 have K:=hide (lmeet_any va vb l l' A B w hE hE' hR hR' hs hs' hAB hlen hlen')
 obtain ⟨a,cap,rfl,_⟩:=hE
 obtain ⟨a',cap',rfl,_⟩:=hE'
 clear hR hR' hs hs'
 go_enter Tryz.func36,Tryz.ntmps36
 go_wp2_with fail
 refine K.out.mono ?_
 rintro e w1 ⟨v,lo,rfl,h⟩
 have HH:=hide h
 clear h
 go_wp2
 go_ret
 exact ⟨v,lo,rfl,HH.out⟩⟩
end Go.Proofs.YtbkkolfpegplgaaGreatDoor
namespace Go.Proofs.YtbkkolfpegplgaaGreatDoor
open Go Go.RowKit
theorem scheck_any (v:Value) (l:List FV) (w:World) (hE:KnwAt w v l) (hcor:∀f∈l,Cor f.items) (hR:∀f∈l,RightV (f.vec.map (·.1))) (hlen:l.length≤1000000000) :
  Calls Tryz.prog 42 #[v] w fun e w'=>e=.returned .nilIface∧Below w.heap.size w w':=by
 obtain ⟨a,cap,rfl,hK,_⟩:=hE
 have H:=hide hK
 have HC:=hide hcor
 have HR:=hide hR
 obtain ⟨len,elen⟩:∃len,l.length=len:=⟨_,rfl⟩
 rw [elen] at H hlen ⊢
 clear hK hcor hR elen
 go_enter Tryz.func42,Tryz.ntmps42
 go_wp2
 go_loopw [9] (fun c wr=>∃k:Nat,k≤len∧c=.int .i64 k∧Below w.heap.size w wr) (fun c _=>len-(intOf c).toNat)
 case atStart=>exact ⟨0,Nat.zero_le _,rfl,Below.refl _ _⟩
 case round=>
  obtain ⟨k,hk,rfl,hb⟩:=hrel
  have HB:=hide hb
  have i0':(0:Int)≤(k:Int):=by omega
  by_cases hlt:k<len
  ·have i1:(k:Int)<(len:Int):=by omega
   have Hr:=H.out.below hb
   obtain ⟨b,off,rfl,hbl,hc1,hc2⟩:=Hr.cells k hlt
   have hmem:=Hr.mem hlt
   have hfr:=Hr.frags _ hmem
   have hco:=HC.out _ hmem
   have hri:=HR.out _ hmem
   obtain ⟨p,ep⟩:∃p,l.getD k FV.z=p:=⟨_,rfl⟩
   rw [ep] at hc1 hc2 hfr hco hri
   obtain ⟨⟨ai,ci,ei,hP,_⟩,⟨av,cv,ev,hEn,_⟩⟩:=hfr
   obtain ⟨items,iv,vec,vv⟩:=p
   simp only at hc1 hc2 ei ev hP hEn hco hri
   subst ei
   subst ev
   have K1:=hide (fun W (hW:Below wr.heap.size wr W)=>rgcheck_ok ai items.length ci items W (hP.below hW) hco)
   have K2:=hide (fun W (hW:Below wr.heap.size wr W)=>vcheck_right av vec.length cv vec W (hEn.at'.below hW) hri)
   obtain ⟨ni,eni⟩:∃ni,items.length=ni:=⟨_,rfl⟩
   obtain ⟨nv,env⟩:∃nv,vec.length=nv:=⟨_,rfl⟩
   rw [eni] at hc1 K1
   rw [env] at hc2 K2
   have n9:(wr.alloc (.cells #[.slice ai ni ci,.slice av nv cv] 80)).heap[wr.heap.size]?=some (.cells #[.slice ai ni ci,.slice av nv cv] 80 (0,0)):=heap_new_at _ _ rfl
   have N9:=hide n9
   have BA:=hide (bl_alloc (Below.refl wr.heap.size wr) (.cells #[.slice ai ni ci,.slice av nv cv] 80))
   clear ep hb hbl Hr hmem hco hri hP hEn eni env n9
   go_wp2_with fail
   refine (K1.out _ BA.out).mono ?_
   rintro e w3 ⟨rfl,hb3⟩
   have q3:=(hb3.block _ (Blk_lt N9.out)).trans N9.out
   have y1:w3.cell? ⟨wr.heap.size,1,none⟩=some (.slice av nv cv):=by simp [World.cell?,q3]
   have B3:=hide (BA.out.trans (hb3.mono BA.out.size))
   clear hb3 q3
   go_wp2_with fail
   refine (K2.out _ B3.out).mono ?_
   rintro e w4 ⟨rfl,hb4⟩
   have B4:=hide (HB.out.trans ((B3.out.trans (hb4.mono B3.out.size)).mono HB.out.size))
   clear hb4
   go_wp2
   go_roundw
   case rel=>first | exact ⟨k+1,by omega,by go_num,B4.out⟩ | ((repeat apply Exists.intro);exact ⟨⟨k+1,by omega,by go_num,B4.out⟩,rfl⟩)
   case measure=>simp [intOf];omega
  ·obtain rfl:len=k:=by omega
   go_wp2
   go_ret
   exact ⟨rfl,HB.out⟩
theorem need_nil (s:ByteArray) (w:World):Calls Tryz.prog 77 #[.string s,.nilIface] w fun e w'=>e=.returned (.tuple #[])∧w'=w:=by
 go_enter Tryz.func77,Tryz.ntmps77
 go_wp2
 go_end0
 exact ⟨rfl,rfl⟩
end Go.Proofs.YtbkkolfpegplgaaGreatDoor
