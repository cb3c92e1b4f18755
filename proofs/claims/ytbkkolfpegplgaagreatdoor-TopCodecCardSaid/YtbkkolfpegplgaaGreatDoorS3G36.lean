/- slices.Sort of a list of the call's own; slices.Equal of lists of indices; a map's store as an equation. atoms.Starts: items at which something may change. atoms.Pieces: intervals of items that are in the same fragments. The search in a list of fragments: slices.BinarySearchFunc by vector.Compare. A row of fragments of the call's own. What list.add makes of canonical knowledge, in plain lists. list.add: a fragment is added to a list in ascending order of the vectors. atoms.Group: fragments with equal vectors are joined. Fragments of single pieces: what they know. (Plain lists.) 'append' of a fragment onto a row of fragments, as an equation. Fragments of single pieces are fit for Group; what Group leaves is within bounds. atoms.Refine: a fragment for each piece; canon.Canon. (Printed by wip/mkrefine.py.) know.guard where nothing has panicked; append of whole knowledge onto a row. -/
import Derived.Test.YtbkkolfpegplgaaGreatDoorS3G35
import Derived.Test.YtbkkolfpegplgaaGreatDoorS3G29
import Derived.Test.YtbkkolfpegplgaaGreatDoorS3G18
import Derived.Test.YtbkkolfpegplgaaGreatDoorS3G1
import Derived.Test.YtbkkolfpegplgaaGreatDoorS3G24
import Derived.Test.YtbkkolfpegplgaaGreatDoorS3G25
import Derived.Test.YtbkkolfpegplgaaGreatDoorS3G21
import Derived.Defers
import Derived.Recover
set_option maxHeartbeats 16000000
set_option maxRecDepth 100000
set_option linter.unusedVariables false
set_option linter.unusedSimpArgs false
namespace Go.Proofs.YtbkkolfpegplgaaGreatDoor
open Go Go.RowKit
theorem heap_putU{w:World}{g n:Nat}{os:Array Obj}{cur:Array Value}{e:TypeId}{fr:Nat×Nat}(d:Array Int)(hb:w.heap[g]?=some (.cells cur e fr)) :
  (Sort.grow (Sort.putRow (Value.int .u64) (Sort.ahead w n) g 0 d) os).heap[g]?=some (.cells (Sort.putCells (Value.int .u64) 0 d cur) e fr):=by
 have hg:g<w.heap.size:=(Array.getElem?_eq_some_iff.1 hb).1;rw[Sort.heap_grow_old _ _ (by simpa using hg)];simp[Sort.putRow,Sort.mapBlock,Sort.ahead,Array.getElem?_modify,hb,Sort.onCells]
theorem only_putU{w:World}{g n:Nat}{os:Array Obj}(d:Array Int):Only (fun b=>b=g) w (Sort.grow (Sort.putRow (Value.int .u64) (Sort.ahead w n) g 0 d) os):=by
 refine⟨rfl,rfl,rfl,by simp,fun k hk hne=>?_⟩;rw[Sort.heap_grow_old _ _ (by simpa using hk)];have:g≠k:=fun e=>hne e.symm;simp[Sort.putRow,Sort.mapBlock,Sort.ahead,Array.getElem?_modify,this]
theorem take_putU(cur:Array Value)(ts:List Int)(h:ts.length≤cur.size):(Sort.putCells (Value.int .u64) 0 ts.toArray cur).toList.take ts.length=ts.map (Value.int .u64):=by
 apply List.ext_getElem?
 intro j;by_cases hj:j<ts.length
 ·rw[List.getElem?_take_of_lt hj,Array.getElem?_toList]
  simp[Sort.putCells,hj,show j<cur.size by omega]
 ·rw[List.getElem?_take_eq_none (by omega),List.getElem?_eq_none (by simp;omega)]
def sortI (zs:List Int):List Int:=zs.mergeSort fun x y=>decide (x≤y)
theorem sortI_mem(zs:List Int)(x:Int):x∈sortI zs↔x∈zs:=by unfold sortI;exact List.mem_mergeSort
theorem sortI_length(zs:List Int):(sortI zs).length=zs.length:=by unfold sortI;exact List.length_mergeSort _
theorem sortI_asc{zs:List Int}(h:zs.Nodup):(sortI zs).Pairwise (·<·):=by
 have h1:(sortI zs).Pairwise (fun a b=>decide (a≤b)=true):=List.pairwise_mergeSort (fun a b c h1 h2=>by simp at *;omega) (fun a b=>by simp;omega) zs;have h2:(sortI zs).Nodup:=(List.mergeSort_perm zs _).nodup_iff.2 h;exact(h1.and h2).imp (fun {a b} h=>by have h3:=h.1;have h4:=h.2;simp at h3;omega)
theorem sort_own(base g cap:Nat)(zs:List Int)(w:World)(h:OwnI w base (.slice (some ⟨g,0,none⟩) zs.length cap) zs)(h0:zs≠[])(hn:zs.length≤1000000000) :
  Calls Tryz.prog 187 #[.slice (some ⟨g,0,none⟩) zs.length cap] w fun e w'=>e=.returned (.tuple #[])∧OwnI w' base (.slice (some ⟨g,0,none⟩) zs.length cap) (sortI zs)∧Only (fun b=>b=g) w w':=by
 rcases h.row.2 with⟨hv,hl⟩ | ⟨g',cap',cur,hv,hb,hc,h1,h2,h3,h4⟩
 ·exact absurd (List.length_eq_zero_iff.1 hl) h0
 ·injection hv with e1 _ e3
  injection e1 with e1
  injection e1 with e1 _ _
  subst e1;subst e3;have hg:=zh hc;have hH:Sort.Holds (Value.int .u64) w g 0 zs.toArray:=by
   intro j hj;have hj':j<zs.length:=by simpa using hj
   refine⟨?_,by simp[World.frozen?,hc]⟩;have h5:(cur.toList.take zs.length)[j]?=(zs.map (Value.int .u64))[j]?:=by rw[← h4,Nat.mul_one]
   rw[List.getElem?_take_of_lt hj']at h5;simp only[World.cell?,hc,Nat.zero_add];simp only[Option.isSome_none,Bool.false_eq_true,if_false];rw[← Array.getElem?_toList,h5];simp[hj']
  refine(z5h g 0 cap zs w hH hg (by omega)).mono ?_;rintro e w' ⟨rfl,n,os,rfl⟩;have hl:=sortI_length zs;refine⟨rfl,⟨⟨by simp[hl],.inr ⟨g,cap,_,by rw[hl],hb,heap_putU _ hc,by rw[hl];exact h1,h2,by simp[Sort.putCells,h3],?_⟩⟩,fun z hz=>h.words z ((sortI_mem zs z).1 hz)⟩,only_putU _⟩;rw[Nat.mul_one];exact take_putU cur (sortI zs) (by rw[hl];omega)
theorem MapR.put{w:World}{b n:Nat}{f:Int→Option Value}{t e:TypeId}(h:MapR w b n f)(ht:Tryz.prog.underlying t=some (.map 57 e))(hn:n<maxLen){r:Int}(hr:Word r)(v:Value) :
  ∃w',(Instr.mapUpdate t (.map (some b)) (.int .u64 r) v).run Tryz.prog w=.ok () w'∧MapR w' b (n+1) (setM f r (some v))∧w.grownBy w' (some b):=by
 obtain⟨D,h,hf⟩:=h;have hM:=h.isMap;obtain⟨w',h1,h2,h3⟩:=h.update key_u64 ht hn (key_of hr) (d:=.held v) (ps:=[]) rfl;exact⟨w',h1,⟨_,h2,hf.put hM hr v⟩,h3⟩
def eqJI (xs ys:List Int):Bool:=decide (xs=ys)
theorem getDI_ext{xs ys:List Int}(hl:xs.length=ys.length)(h:∀i,i<xs.length→xs.getD i 0=ys.getD i 0):xs=ys:=by
 refine List.ext_getElem hl fun i h1 h2=>?_;have:=h i h1;simpa[List.getD,List.getElem?_eq_getElem h1,List.getElem?_eq_getElem h2]using this
theorem equalI_any(a a':Option Addr)(len cap len' cap':Nat)(xs ys:List Int)(w:World)(h:Ints .i64 w a len xs)(h':Ints .i64 w a' len' ys) :
  Calls Tryz.prog 186 #[.slice a len cap,.slice a' len' cap'] w fun e w'=>e=.returned (.bool (eqJI xs ys))∧Below w.heap.size w w':=by
 have H:=z7 h;have H':=z7 h';have hl:=z7 h.length;have hl':=z7 h'.length;have hm:=h.most;have hm':=h'.most;clear h h';by_cases hn:len=len'
 ·subst hn
  go_enter Tryz.func186,Tryz.ntmps186
  go_wp2
  go_loopw [13] (fun c wr=>∃k:Nat,k≤len∧c=.int .i64 k∧(∀i,i<k→xs.getD i 0=ys.getD i 0)∧Below w.heap.size w wr)
   (fun c _=>len-(intOf c).toNat)
  case atStart=>exact⟨0,Nat.zero_le _,rfl,(fun i h=>absurd h (by omega)),Below.refl _ _⟩
  case round=>
   obtain⟨k,hk,rfl,hs,hb⟩:=hrel;have HS:=z7 hs;clear hs;by_cases hlt:k<len
   ·obtain⟨b,off,rfl,hbl,hcell⟩:=(H.out.below hb).cells k hlt
    obtain⟨b',off',rfl,hbl',hcell'⟩:=(H'.out.below hb).cells k hlt;have i0:(0:Int)≤(k:Int):=by omega
    have i1:(k:Int)<(len:Int):=by omega
    obtain⟨x,ex⟩:∃x,x=xs.getD k 0:=⟨_,rfl⟩;obtain⟨y,ey⟩:∃y,y=ys.getD k 0:=⟨_,rfl⟩;rw[← ex]at hcell;rw[← ey]at hcell';have EX:=z7 ex;have EY:=z7 ey;clear ex ey;by_cases hxy:x=y
    ·subst hxy
     have d1:((x:Int) != x)=false:=by simp
     go_wp2
     go_quiet (fail)
     go_wp2
     go_roundw
     case rel=>exact⟨k+1,by omega,by go_num,(fun i hi=>by
      by_cases e:i=k
      ·subst e;rw[← EX.out,← EY.out]
      ·exact HS.out i (by omega)),zm hb _⟩
     case measure=>simp[intOf];omega
    ·have d1:((x:Int) != y)=true:=by simp[hxy]
     have BAD:=z7 (show eqJI xs ys=false from decide_eq_false (fun e=>hxy (by rw[EX.out,EY.out,e])));clear hxy;go_wp2
     go_quiet (fail)
     go_wp2
     go_ret
     exact⟨z2r BAD.out.symm,zm hb _⟩
   ·obtain rfl:k=len:=by omega
    have GOOD:=z7 (show eqJI xs ys=true from decide_eq_true (getDI_ext (hl.out.trans hl'.out.symm) (fun i hi=>HS.out i (by rw[hl.out]at hi;exact hi))));go_wp2
    go_ret
    exact⟨z2r GOOD.out.symm,hb⟩
 ·have d1:((len:Int) != (len':Int))=true:=by simp;omega
  have BAD:=z7 (show eqJI xs ys=false from decide_eq_false (fun e=>hn (by rw[← hl.out,← hl'.out,e])));go_enter Tryz.func186,Tryz.ntmps186
  go_wp2
  go_ret
  exact⟨z2r BAD.out.symm,Below.refl _ _⟩
theorem OwnJ.ints{w:World}{base:Nat}{v:Value}{s:List Nat}(h:OwnJ w base v s)(hm:s.length≤1000000000)(hx:∀x∈s,x≤1000000000):∃a cap,v=.slice a s.length cap∧Ints .i64 w a s.length (s.map (fun(i:Nat)=>(i:Int))):=by
 have h':w.ownsRow base 3 1 v (s.map (fun(i:Nat)=>(i:Int))).length ((s.map (fun(i:Nat)=>(i:Int))).map (Value.int .i64)):=by
  rw[List.length_map,List.map_map];exact h
 obtain⟨a,cap,hv,h1,_,h3⟩:=z4i h' (by rw[List.length_map];omega) (fun z hz=>by
  obtain⟨i,hi,rfl⟩:=List.mem_map.1 hz;have:=hx i hi;simp[Lit.wf,IntKind.min,IntKind.max,IntKind.signed,IntKind.bits]
  omega)
 rw[List.length_map]at hv h3;exact⟨a,cap,hv,h3⟩
theorem eqJ_any(base base':Nat)(v v':Value)(xs ys:List Nat)(w:World)(h:OwnJ w base v xs)(h':OwnJ w base' v' ys)(hm:xs.length≤1000000000)(hm':ys.length≤1000000000)(hx:∀x∈xs,x≤1000000000)(hy:∀x∈ys,x≤1000000000) :
  Calls Tryz.prog 186 #[v,v'] w fun e w'=>e=.returned (.bool (decide (xs=ys)))∧Below w.heap.size w w':=by
 obtain⟨a,cap,rfl,hI⟩:=h.ints hm hx;obtain⟨a',cap',rfl,hI'⟩:=h'.ints hm' hy;refine(equalI_any a a' xs.length cap ys.length cap' _ _ w hI hI').mono ?_;rintro e w' ⟨rfl,hb⟩;refine⟨?_,hb⟩;unfold eqJI;have:(xs.map (fun(i:Nat)=>(i:Int))=ys.map (fun(i:Nat)=>(i:Int)))↔xs=ys:=by
  constructor
  ·intro e
   exact(List.map_inj_right (fun a b h=>Int.ofNat.inj h)).1 e
  ·intro e;rw[e]
 simp[this]
theorem selI_len(l:List FV)(x:Int)(k:Nat):(selI l x k).length≤k:=by
 have:=List.length_filter_le (fun i=>decide (InL (l.getD i FV.z).items x)) (List.range k);simpa[selI]using this
def totI:List FV→Nat
 | []=>0
 | f :: l=>f.items.length+totI l
theorem zx(a b:List FV):totI (a ++ b)=totI a+totI b:=by
 induction a with
 | nil=>simp[totI]
 | cons x xs ih=>simp only[List.cons_append,totI,ih];omega
theorem z2h{l:List FV}{k:Nat}(h:k<l.length):l.take (k+1)=l.take k ++ [l.getD k FV.z]:=by
 rw[List.take_succ_eq_append_getElem h];simp[List.getD,List.getElem?_eq_getElem h]
theorem totI_take{l:List FV}{k:Nat}(h:k<l.length):totI (l.take (k+1))=totI (l.take k)+(l.getD k FV.z).items.length:=by
 rw[z2h h,zx];simp[totI]
theorem totI_le(l:List FV)(k:Nat):totI (l.take k)≤totI l:=by
 have:=zx (l.take k) (l.drop k);rw[List.take_append_drop]at this;omega
def HasZ (f:Int→Option Value) (z:Iv):Prop:=(f z.1).isSome=true∧(z.2<18446744073709551615→(f (z.2+1)).isSome=true)
def EndsF (l:List FV) (k:Nat) (f:Int→Option Value):Prop:=(f 0).isSome=true∧∀i,i<k→∀z∈(l.getD i FV.z).items,HasZ f z
theorem z54{f:Int→Option Value}{x:Int}(h:(f x).isSome=true)(r:Int)(v:Value):(setM f r (some v) x).isSome=true:=by
 unfold setM;split
 ·rfl
 ·exact h
theorem z56(f:Int→Option Value)(r:Int)(v:Value):(setM f r (some v) r).isSome=true:=by unfold setM;rw[if_pos rfl];rfl
theorem HasZ.put{f:Int→Option Value}{z:Iv}(h:HasZ f z)(r:Int)(v:Value):HasZ (setM f r (some v)) z:=⟨z54 h.1 r v,fun g=>z54 (h.2 g) r v⟩
theorem EndsF.put{l:List FV}{k:Nat}{f:Int→Option Value}(h:EndsF l k f)(r:Int)(v:Value):EndsF l k (setM f r (some v)):=⟨z54 h.1 r v,fun i hi z hz=>(h.2 i hi z hz).put r v⟩
def NoCh2 (l:List FV) (f:Int→Option Value):Prop:=∀x,Word x→0<x→(f x).isSome=false→selI l x l.length=selI l (x-1) l.length
theorem EndsF.no{l:List FV}{f:Int→Option Value}(h:EndsF l l.length f):NoCh2 l f:=by
 intro x hx h0 hn;unfold selI;refine List.filter_congr fun i hi=>?_;have hi':i<l.length:=by simpa using hi
 have hz:∀z∈(l.getD i FV.z).items,(z.1≤x∧x≤z.2)↔(z.1≤x-1∧x-1≤z.2):=fun z hz=>by
  obtain⟨h1,h2⟩:=h.2 i hi' z hz;have n1:z.1≠x:=fun e=>by rw[e]at h1;rw[h1]at hn;cases hn
  have n2:z.2+1≠x:=fun e=>by
   have h3:=h2 (by have:=hx.2;omega);rw[e]at h3;rw[h3]at hn;cases hn
  omega
 have:InL (l.getD i FV.z).items x↔InL (l.getD i FV.z).items (x-1):=by
  constructor
  ·rintro⟨z,hm,h⟩;exact⟨z,hm,(hz z hm).1 h⟩
  ·rintro⟨z,hm,h⟩;exact⟨z,hm,(hz z hm).2 h⟩
 exact decide_eq_decide.2 this
theorem NoCh2.del{l:List FV}{f:Int→Option Value}(h:NoCh2 l f){r:Int}(hr:selI l r l.length=selI l (r-1) l.length):NoCh2 l (setM f r none):=by
 intro x hx h0 hn;by_cases e:x=r
 ·rw[e];exact hr
 ·refine h x hx h0 ?_
  unfold setM at hn;rw[if_neg e]at hn;exact hn
theorem starts_any(v:Value)(l:List FV)(w:World)(hE:KnwAt w v l)(hcor:∀f∈l,Cor f.items)(hits:∀f∈l,f.items.length≤1000000)(htot:totI l≤10000000)(hlen:l.length≤10000000) :
  Calls Tryz.prog 128 #[v] w fun e w'=>∃v ss,e=.returned v∧OwnI w' w.heap.size v ss∧ss.Pairwise (·<·)∧0∈ss∧(∀x,Word x→0<x→x ∉ ss→selI l x l.length=selI l (x-1) l.length)∧ss.length≤1+2 * totI l∧Below w.heap.size w w':=by
 obtain⟨i0,hi,hz0,hz1,hz2⟩:=info_parts info_u64;have KM:=z7 (fun W (hb:Below w.heap.size w W) x=>members_any v l x W (hE.below hb) hcor (fun f hf=>by have:=hits f hf;omega) hlen);obtain⟨a,cap,rfl,hK,_⟩:=hE;have H:=z7 hK;have HITS:=z7 hits;have hmk:∀W,(Instr.makeMap 283 none).run Tryz.prog W=.ok (.map (some W.heap.size)) (W.alloc (.map #[] 0)):=fun W=>by simp[Instr.makeMap]
 have hM0:=MapR.made w;obtain⟨w1,hput,hM1,hg1⟩:=hM0.put (t:=283) (e:=4) Tryz.underlying283 (by unfold maxLen;omega) (r:=0) ⟨by decide,by decide⟩ (.bool true);obtain⟨M,eM⟩:∃M,w.heap.size=M:=⟨_,rfl⟩;have B1:=z7 (((zc (Below.refl w.heap.size w) (.map #[] 0))).grown hg1 (by simp) (fun j hj=>by injection hj with hj;omega));have HM1:=z7 (show MapR w1 M 1 (setM (fun _=>none) 0 (some (.bool true)))from by rw[← eM];exact hM1);have EM:=z7 eM;obtain⟨len,elen⟩:∃len,l.length=len:=⟨_,rfl⟩;have EL:=z7 elen;rw[elen]at H hlen KM ⊢;clear hK hM0 hM1 hg1 hits hcor eM elen;go_enter Tryz.func128,Tryz.ntmps128
 go_wp2
 rw[EM.out];go_loopw [19] (fun c wr=>∃(k n:Nat) (f:Int→Option Value),k≤len∧c=.int .i64 k∧MapR wr M n f∧n≤1+2 * totI (l.take k)∧EndsF l k f∧Below w.heap.size w wr) (fun c _=>len-(intOf c).toNat)
 case atStart=>exact⟨0,1,_,Nat.zero_le _,rfl,HM1.out,by omega,⟨z56 _ _ _,fun i hi=>absurd hi (by omega)⟩,B1.out⟩
 case round=>
  obtain⟨k,n,f,hk,rfl,hM,hn,hF,hb⟩:=hrel;have HM:=z7 hM;have HF:=z7 hF;have HB:=z7 hb;have i0':(0:Int)≤(k:Int):=by omega
  clear hM hF;by_cases hlt:k<len
  ·have i1:(k:Int)<(len:Int):=by omega
   have Hr:=H.out.below hb;obtain⟨b,off,rfl,hbl,hc1,hc2⟩:=Hr.cells k hlt;have hfr:=H.out.frags _ (H.out.mem hlt);have hit:=HITS.out _ (Hr.mem hlt);have TT:=z7 (totI_take (l:=l) (k:=k) (by rw[EL.out];exact hlt));have TL:=z7 (totI_le l k);obtain⟨p,ep⟩:∃p,l.getD k FV.z=p:=⟨_,rfl⟩;have EP:=z7 ep;rw[ep]at hc1 hc2 hfr hit TT;obtain⟨⟨ai,ci,ei,hPi,hci⟩,⟨av,cv,ev,_⟩⟩:=hfr;obtain⟨items,iv,vec,vv⟩:=p;simp only at hc1 hc2 ei ev hPi hit TT;subst ei;subst ev;have HPI:=z7 hPi;obtain⟨ni,eni⟩:∃ni,items.length=ni:=⟨_,rfl⟩;have ENI:=z7 eni;rw[eni]at hc1 HPI hit TT;have hBA:=z7 (zc (Below.refl wr.heap.size wr) (.cells #[.slice ai ni ci,.slice av vec.length cv] 80));clear ep eni hPi hb Hr;go_wp2
   obtain⟨W0,eW0⟩:∃W,wr.alloc (.cells #[.slice ai ni ci,.slice av vec.length cv] 80)=W:=⟨_,rfl⟩;have HM0:=z7 (show MapR W0 M n f from by rw[← eW0];exact HM.out.below hBA.out);have HB0:=z7 (show Below w.heap.size w W0 from by rw[← eW0];exact HB.out.trans (hBA.out.mono HB.out.size));rw[eW0];clear eW0;go_loopw [26] (fun c wq=>∃(j n:Nat) (f:Int→Option Value),j≤ni∧c=.int .i64 j∧MapR wq M n f∧n≤1+2 * totI (l.take k)+2 * j∧EndsF l k f∧(∀z∈items.take j,HasZ f z)∧Below w.heap.size w wq) (fun c _=>ni-(intOf c).toNat)
   case atStart=>exact⟨0,n,f,Nat.zero_le _,rfl,HM0.out,by omega,HF.out,by simp,HB0.out⟩
   case round=>
    clear HM0 HB0 HM HF HB hn;obtain⟨j,n,f,hj,rfl,hM,hn,hF,hZ,hb⟩:=hrel;have HM:=z7 hM;have HF:=z7 hF;have HZ:=z7 hZ;have HB:=z7 hb;have j0:(0:Int)≤(j:Int):=by omega
    clear hM hF hZ;by_cases hjm:j<ni
    ·have j1:(j:Int)<(ni:Int):=by omega
     have hjl:j<items.length:=by rw[ENI.out];exact hjm
     have hwl:=HPI.out.word (i:=j) hjm;have E1:=z7 (take_snoc items j hjl);obtain⟨b2,off2,rfl,hbl2,hl1,hl2⟩:=(HPI.out.below hb).cells j hjm;obtain⟨lo,elo⟩:∃t,Lo items j=t:=⟨_,rfl⟩;obtain⟨hv,ehv⟩:∃t,Hi items j=t:=⟨_,rfl⟩;rw[elo]at hl1 hwl E1;rw[ehv]at hl2 hwl E1;have HWL:=z7 hwl;have HMa:=z7 (HM.out.below (zc (Below.refl wr.heap.size wr) (.cells #[.int .u64 lo,.int .u64 hv] 123)));have HBa:=z7 (HB.out.trans ((zc (Below.refl wr.heap.size wr) (.cells #[.int .u64 lo,.int .u64 hv] 123)).mono HB.out.size));have C1:=z7 (show(wr.alloc (.cells #[.int .u64 lo,.int .u64 hv] 123)).heap[wr.heap.size]?=some (.cells #[.int .u64 lo,.int .u64 hv] 123 (0,0))from ze _ _ rfl);have MLT:=z7 HM.out.lt;have nb:n+1≤30000000:=by have:=TL.out;omega
     clear elo ehv hb hbl2;by_cases hmax:hv<18446744073709551615
     ·have KN:=z7 (fun W=>next_lt hv hwl.2 hmax W)
      have hw1:Word (hv+1):=⟨by have:=hwl.2.1;omega,by omega⟩;have HW1:=z7 hw1;clear hwl hw1;go_wp2_with(at_mapUpdate;go_loud(refine z2g _ rfl _ _ _ 283 4 rfl Tryz.underlying283 M n f rfl HMa.out (by unfold maxLen;omega) lo (.bool true) rfl HWL.out.1 rfl ?_);intro w2 hM2 hg2;have HM2:=z7 hM2;have c2:=z3b hg2 (by simp) (fun e=>by have:=MLT.out;injection e with e;omega) C1.out;have y2:w2.cell? ⟨wr.heap.size,1,none⟩=some (.int .u64 hv):=(by simp[World.cell?,c2]);have HB2:=z7 (HBa.out.grown hg2 (by have:=HBa.out.size;omega) (fun q hq=>by injection hq with hq;have:=EM.out;omega));clear hM2 hg2 c2)
      refine(KN.out _).mono ?_;rintro e w3 ⟨rfl,rfl⟩;go_wp2_with(at_mapUpdate;go_loud(refine z2g _ rfl _ _ _ 283 4 rfl Tryz.underlying283 M (n+1) _ rfl HM2.out (by unfold maxLen;omega) (hv+1) (.bool true) rfl HW1.out rfl ?_);intro w4 hM4 hg4;have HM4:=z7 hM4;have HB4:=z7 (HB2.out.grown hg4 (by have:=HB2.out.size;omega) (fun q hq=>by injection hq with hq;have:=EM.out;omega));clear hM4 hg4)
      go_roundw
      case rel=>
       have FINAL:∃(j' n:Nat) (f:Int→Option Value),j'≤ni∧(.int .i64 ((j:Int)+1):Value)=.int .i64 j'∧MapR w4 M n f∧n≤1+2 * totI (l.take k)+2 * j'∧EndsF l k f∧(∀z∈items.take j',HasZ f z)∧Below w.heap.size w w4:=
        ⟨j+1,n+2,_,by omega,by simp,HM4.out,by omega,(HF.out.put _ _).put _ _,fun z hz=>by
         rw[← E1.out]at hz;rcases List.mem_append.1 hz with hz | hz
         ·exact((HZ.out z hz).put _ _).put _ _
         ·obtain rfl:z=(lo,hv):=by simpa using hz
          exact⟨z54 (z56 _ _ _) _ _,fun _=>z56 _ _ _⟩,HB4.out⟩
       first | exact FINAL | ((repeat apply Exists.intro);exact⟨FINAL,rfl⟩)
      case measure=>simp[intOf];omega
     ·obtain rfl:hv=18446744073709551615:=by have:=hwl.2.2;omega
      have KN:=z7 (fun W=>next_top W);clear hwl;go_wp2_with(at_mapUpdate;go_loud(refine z2g _ rfl _ _ _ 283 4 rfl Tryz.underlying283 M n f rfl HMa.out (by unfold maxLen;omega) lo (.bool true) rfl HWL.out.1 rfl ?_);intro w2 hM2 hg2;have HM2:=z7 hM2;have c2:=z3b hg2 (by simp) (fun e=>by have:=MLT.out;injection e with e;omega) C1.out;have y2:w2.cell? ⟨wr.heap.size,1,none⟩=some (.int .u64 18446744073709551615):=(by simp[World.cell?,c2]);have HB2:=z7 (HBa.out.grown hg2 (by have:=HBa.out.size;omega) (fun q hq=>by injection hq with hq;have:=EM.out;omega));clear hM2 hg2 c2)
      refine(KN.out _).mono ?_;rintro e w3 ⟨rfl,rfl⟩;go_wp2
      go_roundw
      case rel=>
       have FINAL:∃(j' n:Nat) (f:Int→Option Value),j'≤ni∧(.int .i64 ((j:Int)+1):Value)=.int .i64 j'∧MapR w2 M n f∧n≤1+2 * totI (l.take k)+2 * j'∧EndsF l k f∧(∀z∈items.take j',HasZ f z)∧Below w.heap.size w w2:=
        ⟨j+1,n+1,_,by omega,by simp,HM2.out,by omega,HF.out.put _ _,fun z hz=>by
         rw[← E1.out]at hz;rcases List.mem_append.1 hz with hz | hz
         ·exact(HZ.out z hz).put _ _
         ·obtain rfl:z=(lo,18446744073709551615):=by simpa using hz
          exact⟨z56 _ _ _,fun h=>absurd h (by show ¬(18446744073709551615:Int)<18446744073709551615;omega)⟩,HB2.out⟩
       first | exact FINAL | ((repeat apply Exists.intro);exact⟨FINAL,rfl⟩)
      case measure=>simp[intOf];omega
    ·obtain rfl:ni=j:=by omega
     have HF2:=z7 (show EndsF l (k+1) f from⟨HF.out.1,fun i hi z hz=>by
      by_cases e:i=k
      ·subst e
       rw[EP.out]at hz;exact HZ.out z (by rw[List.take_of_length_le (by rw[ENI.out];exact Nat.le_refl _)];exact hz)
      ·exact HF.out.2 i (by omega) z hz⟩)
     clear hb;go_wp2
     go_roundw
     case rel=>
      have FINAL:∃(k' n:Nat) (f:Int→Option Value),k'≤len∧(.int .i64 ((k:Int)+1):Value)=.int .i64 k'∧MapR wr M n f∧n≤1+2 * totI (l.take k')∧EndsF l k' f∧Below w.heap.size w wr:=⟨k+1,n,f,by omega,by simp,HM.out,by rw[TT.out];omega,HF2.out,HB.out⟩;first | exact FINAL | ((repeat apply Exists.intro);exact⟨FINAL,rfl⟩)
     case measure=>simp[intOf];omega
  ·obtain rfl:len=k:=by omega
   have NC:=z7 (EndsF.no (l:=l) (f:=f) (by rw[EL.out];exact HF.out));have F0:=z7 HF.out.1;have nb:n≤1+2 * totI l:=Nat.le_trans hn (by have:=totI_le l len;omega);have nb2:n≤30000000:=by omega
   clear hb hn HF;go_wp2_with(at_range;refine z3d _ rfl _ 283 4 rfl Tryz.underlying283 M n f rfl HM.out ?_;intro w2 cnt0 hcnt hrg0 hg0 hs0)
   go_frame
   obtain⟨R,eR⟩:∃R,wr.heap.size=R:=⟨_,rfl⟩;have HB2:=z7 (HB.out.grown hg0 HB.out.size (fun j hj=>by cases hj));have HRG0:=z7 (show RangeR w2 M R n f _ cnt0 from by rw[← eR];exact hrg0);rw[eR];have MR:M<R:=by rw[← eR];exact HM.out.lt
   have WR:=z7 (show w.heap.size≤R from by rw[← eR];exact HB.out.size);clear hrg0 hg0 hs0 eR HM HB;go_loopw [46] (fun _ wq=>∃(left:Int→Bool) (cnt:Nat) (f:Int→Option Value),RangeR wq M R n f left cnt∧(f 0).isSome=true∧NoCh2 l f∧Below w.heap.size w wq) (fun _ wq=>wq.rangeLeft M R)
   case atStart=>exact⟨_,cnt0,f,HRG0.out,F0.out,NC.out,HB2.out⟩
   case round=>
    clear HRG0 F0 NC HB2;obtain⟨left,cnt,f,hrg,hf0,hnc,hb⟩:=hrel;have HRG:=z7 hrg;have F0:=z7 hf0;have NC:=z7 hnc;have HB:=z7 hb;clear hrg hf0 hnc hb;go_wp2_with(at_next;refine z3j _ rfl _ rfl M R n f left cnt rfl HRG.out ?_ ?_)
    ·intro hc0 hl0
     have HM:=z7 HRG.out.map;clear HRG hl0;go_wp2_with(at_range;refine z3d _ rfl _ 283 4 rfl Tryz.underlying283 M n f rfl HM.out ?_;intro w2 cnt0 hcnt hrg0 hg0 hs0)
     go_frame
     obtain⟨R2,eR2⟩:∃R,wr.heap.size=R:=⟨_,rfl⟩;have HB2:=z7 (HB.out.grown hg0 HB.out.size (fun j hj=>by cases hj));have HRG0:=z7 (show RangeR w2 M R2 n f _ cnt0 from by rw[← eR2];exact hrg0);rw[eR2];have MR2:M<R2:=by rw[← eR2];exact HM.out.lt
     have WR2:=z7 (show w.heap.size≤R2 from by rw[← eR2];exact HB.out.size);clear hrg0 hg0 hs0 eR2 HM HB;go_loopw [13,69] (fun o _ wq=>∃(left:Int→Bool) (cnt:Nat) (xs:List Int),RangeR wq M R2 n f left cnt∧OwnI wq (R2+1) o xs∧xs.Nodup∧(∀y,Word y→(y∈xs↔(f y).isSome=true∧left y=false))∧xs.length+cnt≤n∧Below w.heap.size w wq) (fun _ _ wq=>wq.rangeLeft M R2)
     case atStart=>exact⟨_,cnt0,[],HRG0.out,OwnI.nil _ _,List.nodup_nil,(fun y _=>⟨fun h=>(by cases h),fun h=>(by have h1:=h.1;have h2:=h.2;rw[h1]at h2;cases h2)⟩),by simp;exact hcnt,HB2.out⟩
     case round=>
      clear HRG0 HB2 hcnt;obtain⟨left,cnt,xs,hrg,hO,hnd,hmem,hxl,hb⟩:=hrel;have HRG:=z7 hrg;have HO:=z7 hO;have HND:=z7 hnd;have HMEM:=z7 hmem;have HB:=z7 hb;clear hrg hnd hmem hb;obtain⟨ax,cx,rfl,_⟩:=zl hO.row;clear hO;obtain⟨N,eN⟩:∃N,xs.length=N:=⟨_,rfl⟩;have EN:=z7 eN;rw[eN]at HO hxl ⊢;clear eN;go_wp2_with(at_next;refine z3j _ rfl _ rfl M R2 n f left cnt rfl HRG.out ?_ ?_)
      ·intro hc0 hl0
       have hmm:=z7 (show ∀y,Word y→(y∈xs↔(f y).isSome=true)from fun y hy=>by
        rw[HMEM.out y hy,hl0 y hy];simp)
       have z0:=z7 ((hmm.out 0 ⟨by decide,by decide⟩).2 F0.out);have hne:xs≠[]:=fun e=>by have:=z0.out;rw[e]at this;cases this
       have hNp:0<N:=by rw[← EN.out];exact List.length_pos_iff.2 hne
       rcases HO.out.row.2 with⟨hv,hl⟩ | ⟨g,cap',cur,hv,hgb,hcells,_⟩
       ·have:=EN.out;omega
       ·injection hv with e1 e2 e3
        clear e2 hcells;subst e1;subst e3;have KS:=z7 (fun W (hW:OwnI W (R2+1) (.slice (some ⟨g,0,none⟩) xs.length cx) xs)=>sort_own (R2+1) g cx xs W hW hne (by rw[EN.out];omega));rw[EN.out]at KS;clear hl0;go_wp2_with fail
        refine(KS.out _ HO.out).mono ?_;rintro e w5 ⟨rfl,hO5,ho5⟩;have O5:=z7 hO5;have B5:=z7 (HB.out.trans (ho5.below (n:=w.heap.size) HB.out.size (fun k hk=>by have:=WR2.out;omega)));have SA:=z7 (sortI_asc HND.out);have SM:=z7 (fun x=>sortI_mem xs x);have SL:=z7 (sortI_length xs);clear hO5 ho5 hne;go_wp2
        go_ret
        have fin:∃v ss,(.returned (.slice (some ⟨g,0,none⟩) N cx):Ending)=.returned v∧OwnI w5 w.heap.size v ss∧ss.Pairwise (·<·)∧0∈ss∧(∀x,Word x→0<x→x ∉ ss→selI l x len=selI l (x-1) len)∧ss.length≤1+2 * totI l∧Below w.heap.size w w5:=
         ⟨_,sortI xs,rfl,⟨z1b O5.out.row (by have:=WR2.out;omega),O5.out.words⟩,SA.out,(SM.out 0).2 z0.out,fun x hx h0 hn=>by
          have:=NC.out x hx h0 (by
           cases hq:(f x).isSome
           ·rfl
           ·exact absurd ((SM.out x).2 ((hmm.out x hx).2 hq)) hn)
          rw[EL.out]at this;exact this,by rw[SL.out,EN.out];omega,B5.out⟩
        first | exact fin | (obtain⟨v,ss,h1,h2⟩:=fin;exact⟨v,h1,ss,h2⟩)
      ·intro x c w3 cnt1 hwx hlx hfx hrg1 hlt hg1 hs1 hen
       have g1:Only (fun k=>k=R2) wr w3:=(Only.refl (fun k=>k=R2) wr).grown hg1 (fun k hk=>by injection hk with hk;exact hk.symm);have O3:=z7 (HO.out.keep g1 (fun k hk=>by omega));have B3:=z7 (HB.out.trans (g1.below (n:=w.heap.size) HB.out.size (fun k hk=>by have:=WR2.out;omega)));have hxx:x ∉ xs:=fun hm=>by
        have:=((HMEM.out x hwx).1 hm).2;rw[hlx]at this
        cases this
       have HXX:=z7 hxx;have HRG1:=z7 hrg1;have HWX:=z7 hwx;have HFX:=z7 hfx;clear hrg1 hg1 g1 hxx hwx hfx hlx hs1;go_wp2_with(at_builtin;go_loud(refine wpList_append_own_at _ rfl _ _ 89 rfl (R2+1) 57 i0 (.int .u64 0) 1 8 Tryz.underlying89 hi hz0 hz1 hz2 rfl (by decide) _ _ _ rfl (z1g O3.out.row ((Only.refl (fun _=>False) w3).alloc _) (fun k h=>h.elim)) ⟨w3.heap.size,0,none⟩ 1 1 [.int .u64 x] rfl rfl (z3y _ _ _) (one_one _) ?c1 ?c2 ?c3 ?_))
       case c1=>rw[EN.out];unfold maxLen;omega
       case c2=>rw[EN.out];omega
       case c3=>have:=HRG1.out.lt;simp;omega
       intro v' w4 hown' hgrow _ _;have hvl:∀k,(Value.slice ax N cx).ownBlock=some k→R2+1≤k:=fun k hk=>(O3.out.row.lt k hk).1;have ho4:Only (fun b=>(Value.slice ax N cx).ownBlock=some b) w3 w4:=((Only.refl (fun b=>(Value.slice ax N cx).ownBlock=some b) w3).alloc (.cells #[.int .u64 x] 57)).grown hgrow (fun k hk=>hk);have RG4:=z7 (HRG1.out.only ho4 (fun h=>by have:=hvl _ h;omega) (fun h=>by have:=hvl _ h;omega));have HB4:=z7 (B3.out.trans (ho4.below (n:=w.heap.size) B3.out.size (fun k hk=>by have:=hvl _ hk;have:=WR2.out;omega)));have O4:=z7 (show OwnI w4 (R2+1) v' (xs ++ [x])from⟨by rw[List.map_append,List.length_append];exact hown',fun z hz=>by
        rcases List.mem_append.1 hz with hz | hz
        ·exact HO.out.words z hz
        ·obtain rfl:z=x:=by simpa using hz
         exact HWX.out⟩)
       have ND4:=z7 (show(xs ++ [x]).Nodup from List.nodup_append.2 ⟨HND.out,by simp,fun a ha b hb e=>by
        obtain rfl:b=x:=by simpa using hb
        exact HXX.out (e ▸ ha)⟩)
       have HM4:=z7 (show ∀y,Word y→(y∈xs ++ [x]↔(f y).isSome=true∧(left y && !decide (y=x))=false)from fun y hy=>by
        rw[List.mem_append,HMEM.out y hy];by_cases e:y=x
        ·subst e;simp[HFX.out]
        ·simp[e])
       clear hown' hgrow ho4 hvl;go_wp2
       go_roundw
       case rel=>
        have FINAL:∃(left:Int→Bool) (cnt:Nat) (xs:List Int),RangeR w4 M R2 n f left cnt∧OwnI w4 (R2+1) v' xs∧xs.Nodup∧(∀y,Word y→(y∈xs↔(f y).isSome=true∧left y=false))∧xs.length+cnt≤n∧Below w.heap.size w w4:=
         ⟨_,cnt1,xs ++ [x],RG4.out,O4.out,ND4.out,HM4.out,by rw[List.length_append,EN.out];simp;omega,HB4.out⟩
        first | exact FINAL | ((repeat apply Exists.intro);exact⟨FINAL,rfl⟩)
       case measure=>rw[RG4.out.left_eq,HRG.out.left_eq];exact hlt
    ·intro x c w3 cnt1 hwx hlx hfx hrg1 hlt hg1 hs1 hen
     have g1:Only (fun k=>k=R) wr w3:=(Only.refl (fun k=>k=R) wr).grown hg1 (fun k hk=>by injection hk with hk;exact hk.symm);have B3:=z7 (HB.out.trans (g1.below (n:=w.heap.size) HB.out.size (fun k hk=>by have:=WR.out;omega)));have HRG1:=z7 hrg1;have HWX:=z7 hwx;clear hrg1 hg1 g1 hfx hlx hs1;by_cases hx0:x=0
     ·subst hx0
      have KP:=z7 (fun W=>prev_zero W);go_wp2_with fail
      refine(KP.out _).mono ?_;rintro e w4 ⟨rfl,rfl⟩;go_wp2
      go_roundw
      case rel=>
       have FINAL:∃(left:Int→Bool) (cnt:Nat) (f:Int→Option Value),RangeR w3 M R n f left cnt∧(f 0).isSome=true∧NoCh2 l f∧Below w.heap.size w w3:=⟨_,cnt1,f,HRG1.out,F0.out,NC.out,B3.out⟩;first | exact FINAL | ((repeat apply Exists.intro);exact⟨FINAL,rfl⟩)
      case measure=>rw[HRG1.out.left_eq,HRG.out.left_eq];exact hlt
     ·have hxp:0<x:=by have:=hwx.1;omega
      have KP:=z7 (fun W=>prev_pos x hwx hxp W);clear hwx;go_wp2_with fail
      refine(KP.out _).mono ?_;rintro e w4 ⟨rfl,rfl⟩;go_wp2_with fail
      refine(KM.out _ B3.out (x-1)).mono ?_;rintro e w5 ⟨v1,rfl,hJ1,hb5⟩;have B5:=z7 (B3.out.trans (hb5.mono B3.out.size));have RG5:=z7 (HRG1.out.below hb5);obtain⟨a1,c1,rfl,_⟩:=zl hJ1;have HJ1:=z7 hJ1;obtain⟨m1,em1⟩:∃m,(selI l (x-1) len).length=m:=⟨_,rfl⟩;rw[em1]at HJ1 ⊢;clear hJ1 hb5 em1;go_wp2_with fail
      refine(KM.out _ B5.out x).mono ?_;rintro e w6 ⟨v2,rfl,hJ2,hb6⟩;have B6:=z7 (B5.out.trans (hb6.mono B5.out.size));have RG6:=z7 (RG5.out.below hb6);have J1:=z7 (irowI_below HJ1.out hb6);obtain⟨a2,c2,rfl,_⟩:=zl hJ2;have HJ2:=z7 hJ2;obtain⟨m2,em2⟩:∃m,(selI l x len).length=m:=⟨_,rfl⟩;rw[em2]at HJ2 ⊢;clear hJ2 hb6 em2;go_wp2_with fail
      refine(eqJ_any _ _ _ _ (selI l (x-1) len) (selI l x len) w6 J1.out HJ2.out (by have:=selI_len l (x-1) len;omega) (by have:=selI_len l x len;omega) (fun i hi=>by have:=(z1j.1 hi).1;omega) (fun i hi=>by have:=(z1j.1 hi).1;omega)).mono ?_;rintro e w7 ⟨rfl,hb7⟩;have B7:=z7 (B6.out.trans (hb7.mono B6.out.size));have RG7:=z7 (RG6.out.below hb7);clear hb7;by_cases hq:selI l (x-1) len=selI l x len
      ·have d:decide (selI l (x-1) len=selI l x len)=true:=decide_eq_true hq
       have NC2:=z7 (NC.out.del (r:=x) (by rw[EL.out];exact hq.symm));have F02:=z7 (show(setM f x none 0).isSome=true from by
        unfold setM;rw[if_neg (by omega)];exact F0.out)
       rw[d];clear hq d;go_wp2_with(at_delete;go_loud(refine wpList_delete_r _ rfl _ _ 283 4 rfl Tryz.underlying283 M R n f _ cnt1 rfl RG7.out x rfl HWX.out ?_);intro w8 cnt2 hrg8 hle8 hg8 hs8;have RG8:=z7 hrg8;have B8:=z7 (B7.out.grown hg8 B7.out.size (fun q hq=>by injection hq with hq;have:=EM.out;omega));clear hrg8 hg8 hs8)
       go_roundw
       case rel=>
        have FINAL:∃(left:Int→Bool) (cnt:Nat) (f:Int→Option Value),RangeR w8 M R n f left cnt∧(f 0).isSome=true∧NoCh2 l f∧Below w.heap.size w w8:=⟨_,cnt2,_,RG8.out,F02.out,NC2.out,B8.out⟩;first | exact FINAL | ((repeat apply Exists.intro);exact⟨FINAL,rfl⟩)
       case measure=>rw[RG8.out.left_eq,HRG.out.left_eq];omega
      ·have d:decide (selI l (x-1) len=selI l x len)=false:=decide_eq_false hq
       rw[d];clear hq d;go_wp2
       go_roundw
       case rel=>
        have FINAL:∃(left:Int→Bool) (cnt:Nat) (f:Int→Option Value),RangeR w7 M R n f left cnt∧(f 0).isSome=true∧NoCh2 l f∧Below w.heap.size w w7:=⟨_,cnt1,f,RG7.out,F0.out,NC.out,B7.out⟩;first | exact FINAL | ((repeat apply Exists.intro);exact⟨FINAL,rfl⟩)
       case measure=>rw[RG7.out.left_eq,HRG.out.left_eq];exact hlt
structure PcsOk (l:List FV) (ps:List Iv):Prop where
 le:∀p∈ps,p.1≤p.2
 asc:ps.Pairwise (fun a b=>a.2<b.1)
 same:∀p∈ps,∀x,p.1≤x→x≤p.2→selI l x l.length=selI l p.1 l.length
 some:∀p∈ps,selI l p.1 l.length≠[]
 all:∀x,Word x→selI l x l.length≠[]→∃p∈ps,p.1≤x∧x≤p.2
def nxt (ss:List Int) (k:Nat):Int:=if k+1<ss.length then ss.getD (k+1) 0-1 else 18446744073709551615
structure StOk (l:List FV) (ss:List Int):Prop where
 words:∀x∈ss,Word x
 asc:ss.Pairwise (·<·)
 zero:0∈ss
 no:∀x,Word x→0<x→x ∉ ss→selI l x l.length=selI l (x-1) l.length
theorem z3t{xs:List Int}{k:Nat}(h:k<xs.length):xs.getD k 0∈xs:=by
 simp only[List.getD,List.getElem?_eq_getElem h,Option.getD_some];exact List.getElem_mem h
theorem StOk.le{l:List FV}{ss:List Int}(h:StOk l ss){k:Nat}(hk:k<ss.length):ss.getD k 0≤nxt ss k∧nxt ss k≤18446744073709551615:=by
 unfold nxt;split
 ·rename_i h1
  have:=z4b h.asc (i:=k) (j:=k+1) (by omega) h1;have:=(h.words _ (z3t h1)).2;omega
 ·have:=(h.words _ (z3t hk)).2
  omega
theorem StOk.same{l:List FV}{ss:List Int}(h:StOk l ss){k:Nat}(hk:k<ss.length):∀(n:Nat) (x:Int),x=ss.getD k 0+n→x≤nxt ss k→selI l x l.length=selI l (ss.getD k 0) l.length
 | 0,x,hx,_=>by rw[hx];simp
 | n+1,x,hx,hn=>by
   have h0:=(h.words _ (z3t hk)).1;have hle:=(h.le hk).2;have hno:x ∉ ss:=fun hm=>by
    obtain⟨i,hi,e⟩:=List.mem_iff_getElem.1 hm;have e2:ss.getD i 0=x:=by simp[List.getD,List.getElem?_eq_getElem hi,e]
    rcases Nat.lt_or_ge k i with g | g
    ·have h1:k+1<ss.length:=by omega
     unfold nxt at hn;rw[if_pos h1]at hn;rcases Nat.lt_or_ge (k+1) i with g' | g'
     ·have:=z4b h.asc g' hi;omega
     ·obtain rfl:i=k+1:=by omega
      omega
    ·rcases Nat.lt_or_ge i k with g' | g'
     ·have:=z4b h.asc g' hk;omega
     ·obtain rfl:i=k:=by omega
      omega
   rw[h.no x ⟨by omega,by omega⟩ (by omega) hno];exact h.same hk n (x-1) (by omega) (by omega)
theorem StOk.cover{l:List FV}{ss:List Int}(h:StOk l ss){x:Int}(hx:Word x):∃k,k<ss.length∧ss.getD k 0≤x∧x≤nxt ss k:=by
 obtain⟨i,hi,e⟩:=List.mem_iff_getElem.1 h.zero;have e2:ss.getD i 0=0:=by simp[List.getD,List.getElem?_eq_getElem hi,e]
 have main:∀(n k:Nat),k<ss.length→ss.length-k≤n→ss.getD k 0≤x→∃k,k<ss.length∧ss.getD k 0≤x∧x≤nxt ss k:=by
  intro n;induction n with
  | zero=>intro k hk hn _;omega
  | succ n ih=>
    intro k hk hn hle;by_cases h1:k+1<ss.length
    ·by_cases h2:ss.getD (k+1) 0≤x
     ·exact ih (k+1) h1 (by omega) h2
     ·exact⟨k,hk,hle,by unfold nxt;rw[if_pos h1];omega⟩
    ·exact⟨k,hk,hle,by unfold nxt;rw[if_neg h1];have:=hx.2;omega⟩
 exact main ss.length i hi (by omega) (by rw[e2];exact hx.1)
structure PsK (l:List FV) (ss:List Int) (k:Nat) (ps:List Iv):Prop where
 mem:∀p,p∈ps↔∃i,i<k∧p=(ss.getD i 0,nxt ss i)∧selI l (ss.getD i 0) l.length≠[]
 asc:ps.Pairwise (fun a b=>a.2<b.1)
 len:ps.length≤k
theorem PsK.zero(l:List FV)(ss:List Int):PsK l ss 0 []:=⟨fun p=>⟨fun h=>(by cases h),fun⟨i,h,_⟩=>absurd h (by omega)⟩,List.Pairwise.nil,Nat.le_refl _⟩
theorem PsK.skip{l:List FV}{ss:List Int}{k:Nat}{ps:List Iv}(h:PsK l ss k ps)(hn:selI l (ss.getD k 0) l.length=[]):PsK l ss (k+1) ps:=
 ⟨fun p=>by
  rw[h.mem];constructor
  ·rintro⟨i,h1,h2⟩;exact⟨i,by omega,h2⟩
  ·rintro⟨i,h1,h2,h3⟩
   by_cases e:i=k
   ·subst e;exact absurd hn h3
   ·exact⟨i,by omega,h2,h3⟩,h.asc,by have:=h.len;omega⟩
theorem PsK.push{l:List FV}{ss:List Int}{k:Nat}{ps:List Iv}(h:PsK l ss k ps)(hS:StOk l ss)(hk:k<ss.length)(hn:selI l (ss.getD k 0) l.length≠[]):PsK l ss (k+1) (ps ++ [(ss.getD k 0,nxt ss k)]):=by
 refine⟨fun p=>?_,?_,by have:=h.len;simp;omega⟩
 ·rw[List.mem_append,h.mem]
  constructor
  ·rintro(⟨i,h1,h2⟩ | h1)
   ·exact⟨i,by omega,h2⟩
   ·exact⟨k,by omega,by simpa using h1,hn⟩
  ·rintro⟨i,h1,h2,h3⟩
   by_cases e:i=k
   ·subst e;exact .inr (by simp[h2])
   ·exact .inl ⟨i,by omega,h2,h3⟩
 ·refine List.pairwise_append.2 ⟨h.asc,by simp,fun a ha b hb=>?_⟩
  obtain rfl:b=(ss.getD k 0,nxt ss k):=by simpa using hb
  obtain⟨i,h1,rfl,_⟩:=(h.mem a).1 ha;show nxt ss i<ss.getD k 0
  unfold nxt;rw[if_pos (by omega)];rcases Nat.lt_or_ge (i+1) k with g | g
  ·have:=z4b hS.asc g hk;omega
  ·obtain rfl:i+1=k:=by omega
   omega
theorem PsK.ok{l:List FV}{ss:List Int}{ps:List Iv}(h:PsK l ss ss.length ps)(hS:StOk l ss):PcsOk l ps:=by
 refine⟨fun p hp=>?_,h.asc,fun p hp x h1 h2=>?_,fun p hp=>?_,fun x hx hn=>?_⟩
 ·obtain⟨i,hi,rfl,_⟩:=(h.mem p).1 hp
  exact(hS.le hi).1
 ·obtain⟨i,hi,rfl,_⟩:=(h.mem p).1 hp
  have h1':ss.getD i 0≤x:=h1;exact hS.same hi (x-ss.getD i 0).toNat x (by omega) h2
 ·obtain⟨i,hi,rfl,h3⟩:=(h.mem p).1 hp
  exact h3
 ·obtain⟨k,hk,h1,h2⟩:=hS.cover hx
  refine⟨_,(h.mem _).2 ⟨k,hk,rfl,?_⟩,h1,h2⟩;rw[← hS.same hk (x-ss.getD k 0).toNat x (by omega) h2];exact hn
theorem pcs_any(v:Value)(l:List FV)(w:World)(hE:KnwAt w v l)(hcor:∀f∈l,Cor f.items)(hits:∀f∈l,f.items.length≤1000000)(htot:totI l≤10000000)(hlen:l.length≤10000000) :
  Calls Tryz.prog 78 #[v] w fun e w'=>∃v ps,e=.returned v∧OwnL w' w.heap.size 123 v ps∧PcsOk l ps∧ps.length≤1+2 * totI l∧Below w.heap.size w w':=by
 have KM:=z7 (fun W (hb:Below w.heap.size w W) x=>members_any v l x W (hE.below hb) hcor (fun f hf=>by have:=hits f hf;omega) hlen);have KS:=z7 (starts_any v l w hE hcor hits htot hlen);obtain⟨a,cap,rfl,_⟩:=hE;have TOT:=z7 htot;clear hcor hits;go_enter Tryz.func78,Tryz.ntmps78
 go_wp2_with fail
 refine KS.out.mono ?_;rintro e w1 ⟨vs,ss,rfl,hO,hasc,hzero,hno,hsl,hb1⟩;have ST:=z7 (show StOk l ss from⟨hO.words,hasc,hzero,hno⟩);have B1:=z7 hb1;obtain⟨a0,c0,rfl,hI,_⟩:=hO.ints (by omega);obtain⟨N,eN⟩:∃N,ss.length=N:=⟨_,rfl⟩;have EN:=z7 eN;rw[eN]at hI hsl ⊢;have HI:=z7 hI;clear hO hasc hzero hno hb1 eN hI;go_wp2
 go_loopw [3,12] (fun o c wr=>∃(k:Nat) (ps:List Iv),k≤N∧c=.int .i64 k∧OwnL wr w1.heap.size 123 o ps∧PsK l ss k ps∧Below w1.heap.size w1 wr) (fun _ c _=>N-(intOf c).toNat)
 case atStart=>exact⟨0,[],Nat.zero_le _,rfl,⟨World.ownsRow_nil _ _ _ _,by simp⟩,PsK.zero _ _,Below.refl _ _⟩
 case round=>
  obtain⟨k,ps,hk,rfl,hO,hP,hb⟩:=hrel;have HO:=z7 hO;have HP:=z7 hP;have HB:=z7 hb;have i0':(0:Int)≤(k:Int):=by omega
  clear hP;by_cases hlt:k<N
  ·have i1:(k:Int)<(N:Int):=by omega
   have hks:k<ss.length:=by rw[EN.out];exact hlt
   obtain⟨b,off,rfl,hbl,hc1⟩:=(HI.out.below hb).cells k hlt;obtain⟨x,ex⟩:∃x,ss.getD k 0=x:=⟨_,rfl⟩;have EX:=z7 ex;rw[ex]at hc1;have WX:=z7 (show Word x from by rw[← ex];exact ST.out.words _ (z3t hks));have KMx:=z7 (KM.out wr (B1.out.trans (hb.mono B1.out.size)) x);have c2:∀h:k+1<N,∃y,wr.cell? ⟨b,off+(k+1),none⟩=some (.int .u64 y)∧nxt ss k=y-1∧Word y∧0<y:=fun h=>by
    obtain⟨b',off',e',_,hc'⟩:=(HI.out.below hb).cells (k+1) h;injection e' with e'
    injection e' with e1 e2 _
    subst e1;subst e2;have hy:=ST.out.words _ (z3t (k:=k+1) (xs:=ss) (by rw[EN.out];exact h));have:=z4b ST.out.asc (i:=k) (j:=k+1) (by omega) (by rw[EN.out];exact h);have:=WX.out.1;refine⟨_,hc',?_,hy,by omega⟩;unfold nxt;rw[if_pos (by rw[EN.out];exact h)]
   have C2:=z7 c2;obtain⟨ao,co,rfl,_⟩:=zl hO.row;have PL:=z7 HP.out.len;clear hO ex hbl c2;go_wp2_with fail
   refine KMx.out.mono ?_;rintro e w3 ⟨vm,rfl,hJ,hb3⟩;obtain⟨am,cm,rfl,_⟩:=zl hJ;have B3:=z7 (HB.out.trans (hb3.mono HB.out.size));have O3:=z7 (HO.out.only (may:=fun _=>False) (Only.of_below hb3) (fun _ h=>h.elim));obtain⟨m,em⟩:∃m,(selI l x l.length).length=m:=⟨_,rfl⟩;rw[em];by_cases hm:m=0
   ·have hnil:selI l x l.length=[]:=List.length_eq_zero_iff.1 (by omega)
    have P4:=z7 (HP.out.skip (by rw[EX.out];exact hnil));subst hm;clear hJ hb3 em hnil hb;go_wp2
    go_roundw
    case rel=>
     have FINAL:∃(k':Nat) (ps':List Iv),k'≤N∧(.int .i64 ((k:Int)+1):Value)=.int .i64 k'∧OwnL w3 w1.heap.size 123 (.slice ao ps.length co) ps'∧PsK l ss k' ps'∧Below w1.heap.size w1 w3:=⟨k+1,ps,by omega,by simp,O3.out,P4.out,B3.out⟩;first | exact FINAL | ((repeat apply Exists.intro);exact⟨FINAL,rfl⟩)
    case measure=>simp[intOf];omega
   ·have hne:selI l x l.length≠[]:=fun e=>hm (by rw[← em,e];rfl)
    have q1:((m:Int) == 0)=false:=by simp;omega
    have q2:¬(m:Int)=0:=by omega
    have q7:IntKind.i64.wrap ((k:Int)+1)=(k:Int)+1:=IntWalk.i64_in _ (by omega);by_cases h2:k+1<N
    ·obtain⟨y,hy,hnx,hwy,hy0⟩:=C2.out h2
     have hblt:b<wr.heap.size:=by
      rcases Nat.lt_or_ge b wr.heap.size with g | g
      ·exact g
      ·have e:wr.heap[b]?=none:=by simp;omega
       simp[World.cell?,e]at hy
     have cy:w3.cell? ⟨b,off+(k+1),none⟩=some (.int .u64 y):=zg hb3 hblt hy;have h2':(k:Int)+1<(N:Int):=by omega
     have q8:IntKind.u64.wrap (y-1)=y-1:=by rw[IntKind.wrap_u64];have:=hwy.2;omega
     have q9:((k:Int)+1).toNat=k+1:=by omega
     have q10:(0:Int)≤(k:Int)+1:=by omega
     have WY:=z7 (show Word (y-1)from⟨by omega,by have:=hwy.2;omega⟩);have HNX:=z7 hnx;clear hJ hb3 em hy hnx hwy hy0 hblt hb hm;go_wp2_with(at_builtin;go_loud(refine z1s rfl _ _ rfl w1.heap.size _ ps rfl (O3.out.only (may:=fun _=>False) ((Only.refl (fun _=>False) w3).alloc (.cells #[.int .u64 x,.int .u64 (y-1)] 123)) (fun _ h=>h.elim)) (some ⟨w3.heap.size,0,none⟩) 1 1 [(x,y-1)] rfl (prs_one WX.out WY.out (ze _ _ rfl)) (fun h=>by cases h) ?c1 ?c2 ?_))
     case c1=>have:=PL.out;omega
     case c2=>have:=B3.out.size;simp;omega
     intro v' w4 hO4 hg4;have O4:=z7 hO4;have hvl:∀q,(Value.slice ao ps.length co).ownBlock=some q→w1.heap.size≤q:=fun q hq=>(O3.out.row.lt q hq).1;have B4:=z7 ((B3.out.alloc B3.out.size _).grown hg4 (by have:=B3.out.size;simp;omega) hvl);have P4:=z7 (show PsK l ss (k+1) (ps ++ [(x,y-1)])from by
      have:=HP.out.push ST.out hks (by rw[EX.out];exact hne);rw[EX.out,HNX.out]at this;exact this)
     clear hO4 hg4 hvl;go_wp2
     go_roundw
     case rel=>
      have FINAL:∃(k':Nat) (ps:List Iv),k'≤N∧(.int .i64 ((k:Int)+1):Value)=.int .i64 k'∧OwnL w4 w1.heap.size 123 v' ps∧PsK l ss k' ps∧Below w1.heap.size w1 w4:=⟨k+1,_,by omega,by simp,O4.out,P4.out,B4.out⟩;first | exact FINAL | ((repeat apply Exists.intro);exact⟨FINAL,rfl⟩)
     case measure=>simp[intOf];omega
    ·have h2':¬(k:Int)+1<(N:Int):=by omega
     have HNX:=z7 (show nxt ss k=18446744073709551615 from by unfold nxt;rw[if_neg (by rw[EN.out];exact h2)]);clear hJ hb3 em hb hm;go_wp2_with(at_builtin;go_loud(refine z1s rfl _ _ rfl w1.heap.size _ ps rfl (O3.out.only (may:=fun _=>False) ((Only.refl (fun _=>False) w3).alloc (.cells #[.int .u64 x,.int .u64 (18446744073709551615)] 123)) (fun _ h=>h.elim)) (some ⟨w3.heap.size,0,none⟩) 1 1 [(x,18446744073709551615)] rfl (prs_one WX.out ⟨by decide,by decide⟩ (ze _ _ rfl)) (fun h=>by cases h) ?c1 ?c2 ?_))
     case c1=>have:=PL.out;omega
     case c2=>have:=B3.out.size;simp;omega
     intro v' w4 hO4 hg4;have O4:=z7 hO4;have hvl:∀q,(Value.slice ao ps.length co).ownBlock=some q→w1.heap.size≤q:=fun q hq=>(O3.out.row.lt q hq).1;have B4:=z7 ((B3.out.alloc B3.out.size _).grown hg4 (by have:=B3.out.size;simp;omega) hvl);have P4:=z7 (show PsK l ss (k+1) (ps ++ [(x,18446744073709551615)])from by
      have:=HP.out.push ST.out hks (by rw[EX.out];exact hne);rw[EX.out,HNX.out]at this;exact this)
     clear hO4 hg4 hvl;go_wp2
     go_roundw
     case rel=>
      have FINAL:∃(k':Nat) (ps:List Iv),k'≤N∧(.int .i64 ((k:Int)+1):Value)=.int .i64 k'∧OwnL w4 w1.heap.size 123 v' ps∧PsK l ss k' ps∧Below w1.heap.size w1 w4:=⟨k+1,_,by omega,by simp,O4.out,P4.out,B4.out⟩;first | exact FINAL | ((repeat apply Exists.intro);exact⟨FINAL,rfl⟩)
     case measure=>simp[intOf];omega
  ·obtain rfl:N=k:=by omega
   have OK:=z7 (show PcsOk l ps from PsK.ok (by rw[EN.out];exact HP.out) ST.out);have PL:=z7 HP.out.len;have OE:=z7 (show OwnL wr w.heap.size 123 u3 ps from⟨z1b HO.out.row B1.out.size,HO.out.words⟩);have BE:=z7 (B1.out.trans (HB.out.mono B1.out.size));clear hO hb;go_wp2
   go_ret
   have fin:∃v ps,(.returned u3:Ending)=.returned v∧OwnL wr w.heap.size 123 v ps∧PcsOk l ps∧ps.length≤1+2 * totI l∧Below w.heap.size w wr:=⟨u3,ps,rfl,OE.out,OK.out,by have:=PL.out;omega,BE.out⟩;first | exact fin | (obtain⟨v,ps,h1,h2⟩:=fin;exact⟨v,h1,ps,h2⟩)
def FV.es (f:FV):List Ent:=f.vec.map (·.1)
def CmpB (l:List EV):Prop:=l.length≤1000000000∧(∀p∈l,p.1.hs.length≤1000000000)∧(absV (l.map (·.1))).length≤1000000000
theorem gcmp_any(f:FV)(v:Value)(l':List EV)(w:World)(h:FragAt w f)(h':VecAt w v l')(hb:CmpB f.vec)(hb':CmpB l') :
  Calls Tryz.prog 138 #[.agg #[f.iv,f.vv],v] w fun e w'=>e=.returned (.int .i64 (cmpL (absV f.es) (absV (l'.map (·.1)))))∧Below w.heap.size w w':=by
 obtain⟨items,iv,vec,vv⟩:=f;obtain⟨⟨ai,ci,ei,_⟩,⟨av,cv,ev,hE,_⟩⟩:=h;simp only at ei ev hE hb;subst ei;subst ev;obtain⟨a',c',rfl,hE',_⟩:=h';obtain⟨b1,b2,b3⟩:=hb;obtain⟨b1',b2',b3'⟩:=hb';have K:=z7 (fun W (hW:Below w.heap.size w W)=>z3z av a' vec.length cv l'.length c' vec l' W (hE.at'.below hW) (hE'.at'.below hW) b2 b2' b1 b1' b3 b3');unfold FV.es;simp only;clear hE hE' b2 b2' b3 b3';go_enter Tryz.func138,Tryz.ntmps138
 go_wp2_with fail
 refine(K.out _ (zc (Below.refl _ _) _)).mono ?_;rintro e w1 ⟨rfl,hb⟩;have B1:=z7 (zf (zc (Below.refl w.heap.size w) (.cells #[.slice ai items.length ci,.slice av vec.length cv] 80)) hb);clear hb;go_wp2
 go_ret
 exact⟨rfl,B1.out⟩
theorem vlt_asc{l:List FV}(h:(l.map FV.es).Pairwise VLt){i j:Nat}(hij:i<j)(hj:j<l.length):VLt (l.getD i FV.z).es (l.getD j FV.z).es:=by
 have:=List.pairwise_iff_getElem.1 h i j (by simp;omega) (by simpa using hj) hij;simpa[List.getD,List.getElem?_eq_getElem (show i<l.length by omega),List.getElem?_eq_getElem hj]using this
theorem vlt_of{a b:List Ent}(h1:¬VLt a b)(h2:cmpL (absV a) (absV b)≠0):VLt b a:=by
 unfold VLt at *;rw[cmpL_swap (absV a) (absV b)];rcases cmpL_or (absV a) (absV b)with h | h | h<;>omega
theorem gsearch_any(a:Option Addr)(n cap:Nat)(l:List FV)(v:Value)(l':List EV)(w:World)(h:KnowAt w a n l)(h':VecAt w v l')(hasc:(l.map FV.es).Pairwise VLt)(hbs:∀f∈l,CmpB f.vec)(hb':CmpB l')(hn:n≤100000000) :
  Calls Tryz.prog 137 #[.slice a n cap,v,.func (.func 138) #[] #[]] w fun e w'=>∃(k:Nat) (fb:Bool),e=.returned (.tuple #[.int .i64 k,.bool fb])∧k≤n∧(∀i,i<k→VLt (l.getD i FV.z).es (l'.map (·.1))) ∧
   (fb=true→k<n∧(l.getD k FV.z).es=l'.map (·.1))∧(fb=false→∀i,k≤i→i<n→VLt (l'.map (·.1)) (l.getD i FV.z).es)∧Below w.heap.size w w':=by
 have H:=z7 h;have HC:=z7 hasc;have HL:=z7 h.length;obtain⟨a',c',rfl,hV,hV2⟩:=h';have KC:=z7 (fun W (hW:Below w.heap.size w W) d (hd:d<n)=>gcmp_any (l.getD d FV.z) (.slice a' l'.length c') l' W (((h.frags _ (h.mem hd)).below hW)) ⟨a',c',rfl,hV.below hW,hV2⟩ (hbs _ (h.mem hd)) hb');have hE:∀args W,(callFunc 138 args).run Tryz.prog W=.ok (.enter 138 args) W:=fun _ _=>by kernel_rfl
 obtain⟨es,ees⟩:∃es,l'.map (·.1)=es:=⟨_,rfl⟩;rw[ees]at KC ⊢;obtain⟨n',en'⟩:∃n',l'.length=n':=⟨_,rfl⟩;rw[en']at KC ⊢;clear h hasc hV hbs hb' ees en' hV2;go_enter Tryz.func137,Tryz.ntmps137
 go_wp2
 go_loopw [9,10] (fun i j wr=>∃k m:Nat,k≤m∧m≤n∧i=.int .i64 k∧j=.int .i64 m∧(∀i,i<k→VLt (l.getD i FV.z).es es)∧(∀i,m≤i→i<n→¬VLt (l.getD i FV.z).es es)∧Below w.heap.size w wr) (fun i j _=>(intOf j).toNat-(intOf i).toNat)
 case atStart=>exact⟨0,n,Nat.zero_le _,Nat.le_refl _,rfl,rfl,fun i h=>absurd h (by omega),fun i h h'=>absurd h (by omega),Below.refl _ _⟩
 case round=>
  obtain⟨k,m,hkm,hmn,rfl,rfl,hlo,hhi,hb⟩:=hrel;have HB:=z7 hb;have HLO:=z7 hlo;have HHI:=z7 hhi;clear hlo hhi;have i0:(0:Int)≤(k:Int):=by omega
  by_cases hlt:k<m
  ·obtain⟨d,em⟩:∃d,(k+m) / 2=d:=⟨_,rfl⟩
   have hm:d<m:=by omega
   have hkd:k≤d:=by omega
   obtain⟨b,off,rfl,hbl,hc1,hc2⟩:=(H.out.below hb).cells d (by omega);have hfr:=(H.out.frags _ (H.out.mem (show d<n by omega)));have KD:=KC.out wr hb d (by omega);obtain⟨p,ep⟩:∃p,l.getD d FV.z=p:=⟨_,rfl⟩;have EY:=z7 ep;rw[ep]at hc1 hc2 hfr KD;have KD:=z7 KD;obtain⟨⟨ai,ci,ei,_⟩,⟨av,cv,ev,_⟩⟩:=hfr;obtain⟨items,iv,vec,vv⟩:=p;simp only at hc1 hc2 ei ev KD;subst ei;subst ev;have i1:(k:Int)<(m:Int):=by omega
   have q0:IntKind.i64.wrap ((k:Int)+m)=(k:Int)+m:=IntWalk.i64_in _ (by omega);have q1:IntKind.u64.wrap ((k:Int)+m)=(k:Int)+m:=by rw[IntKind.wrap_u64];omega
   have q2:((k:Int)+m) / 2=d:=by omega
   have q3:IntKind.u64.wrap (d:Int)=d:=by rw[IntKind.wrap_u64];omega
   have q4:IntKind.i64.wrap (d:Int)=d:=IntWalk.i64_in _ (by omega);have q5:(0:Int)≤(d:Int):=by omega
   have q6:(d:Int)<(n:Int):=by omega
   have q7:IntKind.i64.wrap ((d:Int)+1)=(d:Int)+1:=IntWalk.i64_in _ (by omega);obtain⟨f,ef⟩:∃f,cmpL (absV (FV.mk items (.slice ai items.length ci) vec (.slice av vec.length cv)).es) (absV es)=f:=⟨_,rfl⟩;rw[ef]at KD;have EF:=z7 ef;clear ep hb em ef hbl;go_wp2_with fail
   refine KD.out.mono ?_;rintro e w1 ⟨rfl,hb1⟩;have B1:=z7 (zf HB.out hb1);clear hb1;by_cases hf:f<0
   ·have hv:VLt (l.getD d FV.z).es es:=by rw[EY.out];unfold VLt;rw[EF.out];exact hf
    have L2:=z7 (show ∀i,i<d+1→VLt (l.getD i FV.z).es es from fun i hi'=>by
     rcases Nat.lt_or_ge i d with g | g
     ·exact z3q (vlt_asc HC.out g (by rw[HL.out];omega)) hv
     ·obtain rfl:i=d:=by omega
      exact hv)
    clear hv;go_wp2
    go_roundw
    case rel=>exact⟨d+1,m,by omega,hmn,by go_num,rfl,L2.out,HHI.out,B1.out⟩
    case measure=>simp[intOf];omega
   ·have hv:¬VLt (l.getD d FV.z).es es:=by rw[EY.out];unfold VLt;rw[EF.out];exact hf
    have L2:=z7 (show ∀i,d≤i→i<n→¬VLt (l.getD i FV.z).es es from fun i hi' hin hc=>by
     rcases Nat.lt_or_ge d i with g | g
     ·exact hv (z3q (vlt_asc HC.out g (by rw[HL.out];omega)) hc)
     ·obtain rfl:i=d:=by omega
      exact hv hc)
    clear hv;go_wp2
    go_roundw
    case rel=>exact⟨k,d,hkd,by omega,rfl,rfl,HLO.out,L2.out,B1.out⟩
    case measure=>simp[intOf];omega
  ·obtain rfl:k=m:=by omega
   by_cases hkn:k<n
   ·obtain⟨b,off,rfl,hbl,hc1,hc2⟩:=(H.out.below hb).cells k hkn
    have hfr:=(H.out.frags _ (H.out.mem hkn));have KD:=KC.out wr hb k hkn;have hge:=HHI.out k (Nat.le_refl _) hkn;obtain⟨p,ep⟩:∃p,l.getD k FV.z=p:=⟨_,rfl⟩;have EY:=z7 ep;rw[ep]at hc1 hc2 hfr KD hge;have KD:=z7 KD;obtain⟨⟨ai,ci,ei,_⟩,⟨av,cv,ev,_⟩⟩:=hfr;obtain⟨items,iv,vec,vv⟩:=p;simp only at hc1 hc2 ei ev KD;subst ei;subst ev;have i1:(k:Int)<(n:Int):=by omega
    obtain⟨f,ef⟩:∃f,cmpL (absV (FV.mk items (.slice ai items.length ci) vec (.slice av vec.length cv)).es) (absV es)=f:=⟨_,rfl⟩;rw[ef]at KD;have FIN:=z7 (show ∀i,f≠0→k≤i→i<n→VLt es (l.getD i FV.z).es from fun i hf hi' hin=>by
     have h0:VLt es (l.getD k FV.z).es:=by
      rw[EY.out];exact vlt_of hge (by rw[ef];exact hf)
     rcases Nat.lt_or_ge k i with g | g
     ·exact z3q h0 (vlt_asc HC.out g (by rw[HL.out];omega))
     ·obtain rfl:i=k:=by omega
      exact h0)
    have FIN2:=z7 (show f=0→(l.getD k FV.z).es=es from fun hf=>by
     rw[EY.out];exact absV_inj (cmpL_eq (by rw[ef];exact hf)))
    clear ep hb ef hbl hge;go_wp2_with fail
    refine KD.out.mono ?_;rintro e w1 ⟨rfl,hb1⟩;have B1:=z7 (zf HB.out hb1);clear hb1;go_wp2
    go_ret2
    exact⟨k,f == 0,rfl,hmn,HLO.out,fun h=>⟨hkn,FIN2.out (by simpa using h)⟩,fun h i h1 h2=>FIN.out i (by simpa using h) h1 h2,B1.out⟩
   ·obtain rfl:k=n:=by omega
    clear hb;go_wp2
    go_ret2
    exact⟨k,false,rfl,hmn,HLO.out,fun h=>(by cases h),fun _ i h1 h2=>absurd h2 (by omega),HB.out⟩
def ItT (w:World) (v:Value) (zs:List Iv):Prop:=∃a cap,v=.slice a zs.length cap∧Prs w a zs.length zs∧zs.length≤cap∧(a=none→cap=0)∧∀ad,a=some ad→Typed w 123 ad.block
theorem OwnL.itT{w:World}{base:Nat}{v:Value}{zs:List Iv}(h:OwnL w base 123 v zs):ItT w v zs:=by
 obtain⟨a,cap,hv,hp,hc,hn⟩:=h.prs;exact⟨a,cap,hv,hp,hc,hn,fun ad e=>zj h.row (by rw[hv,e];rfl)⟩
theorem ItT.rg{w:World}{v:Value}{zs:List Iv}(h:ItT w v zs):RgAt w v zs:=by
 obtain⟨a,cap,hv,hp,hc,_⟩:=h;exact⟨a,cap,hv,hp,hc⟩
theorem ItT.only{w w':World}{v:Value}{zs:List Iv}{may:Nat→Prop}(h:ItT w v zs)(ho:Only may w w')(hm:∀k,may k→¬Typed w 123 k):ItT w' v zs:=by
 obtain⟨a,cap,hv,hp,hc,hn,ht⟩:=h;have nm:∀ad,a=some ad→¬may ad.block:=fun ad e hk=>hm _ hk (ht ad e);exact⟨a,cap,hv,hp.only ho (fun b off e=>nm _ e),hc,hn,fun ad e=>by
  obtain⟨cs,k2⟩:=ht ad e;exact⟨cs,ho.obj (nm ad e) k2⟩⟩
structure FragT (w:World) (f:FV):Prop where
 items:ItT w f.iv f.items
 vec:RowF w 0 f.vv f.vec
theorem FragT.at{w:World}{f:FV}(h:FragT w f):FragAt w f:=⟨h.items.rg,h.vec.vecAt⟩
theorem FragT.only{w w':World}{f:FV}{may:Nat→Prop}(h:FragT w f)(ho:Only may w w')(hm:∀k,may k→¬Typed w 96 k∧¬Typed w 123 k):FragT w' f:=
 ⟨h.items.only ho (fun k hk=>(hm k hk).2),h.vec.only ho hm⟩
theorem FragT.below{w w':World}{f:FV}(h:FragT w f)(hb:Below w.heap.size w w'):FragT w' f:=h.only (may:=fun _=>False) (Only.of_below hb) (fun _ h=>h.elim)
def cellsK (l:List FV):List Value:=l.flatMap fun f=>[f.iv,f.vv]
theorem z2p(a b:List FV):cellsK (a ++ b)=cellsK a ++ cellsK b:=by simp[cellsK]
theorem z5e(l:List FV):(cellsK l).length=l.length * 2:=by
 induction l with
 | nil=>rfl
 | cons f l ih=>simp only[cellsK,List.flatMap_cons,List.length_append,List.length_cons,List.length_nil]at ih ⊢;omega
theorem cellsK_take(l:List FV)(k:Nat):cellsK (l.take k)=(cellsK l).take (k * 2):=by
 induction l generalizing k with
 | nil=>simp[cellsK]
 | cons f l ih=>
   cases k with
   | zero=>simp[cellsK]
   | succ k=>
     have:=ih k;simp only[cellsK,List.take_succ_cons,List.flatMap_cons]at this ⊢;rw[this,show(k+1) * 2=k * 2+1+1 by omega];rfl
theorem cellsK_drop(l:List FV)(k:Nat):cellsK (l.drop k)=(cellsK l).drop (k * 2):=by
 induction l generalizing k with
 | nil=>simp[cellsK]
 | cons f l ih=>
   cases k with
   | zero=>simp[cellsK]
   | succ k=>
     have:=ih k;simp only[cellsK,List.drop_succ_cons,List.flatMap_cons]at this ⊢;rw[this,show(k+1) * 2=k * 2+1+1 by omega];rfl
theorem z34{l:List FV}{i:Nat}(h:i<l.length):(cellsK l)[i * 2]?=some (l.getD i FV.z).iv∧(cellsK l)[i * 2+1]?=some (l.getD i FV.z).vv:=by
 induction l generalizing i with
 | nil=>simp at h
 | cons f l ih=>
   cases i with
   | zero=>exact⟨rfl,rfl⟩
   | succ i=>
     obtain⟨h1,h2⟩:=ih (i:=i) (by simpa using h);rw[show(i+1) * 2=i * 2+1+1 by omega];exact⟨h1,h2⟩
structure KRow (w:World) (base:Nat) (v:Value) (l:List FV):Prop where
 row:w.ownsRow base 80 2 v l.length (cellsK l)
 frags:∀f∈l,FragT w f
theorem KRow.nil(w:World)(base:Nat):KRow w base (.slice none 0 0) []:=⟨World.ownsRow_nil _ _ _ _,by simp⟩
theorem KRow.know{w:World}{base:Nat}{v:Value}{l:List FV}(h:KRow w base v l):KnwAt w v l:=by
 rcases h.row.2 with⟨hv,hl⟩ | ⟨g,cap,cur,hv,hb,hc,h1,h2,h3,h4⟩
 ·have e:=List.length_eq_zero_iff.1 hl
  subst e;exact⟨none,0,hv,⟨rfl,by simp,fun i hi=>absurd hi (by simp)⟩,Nat.le_refl _⟩
 ·refine⟨_,cap,hv,⟨rfl,fun f hf=>(h.frags f hf).at,fun i hi=>⟨g,0,rfl,zh hc,?_,?_⟩⟩,h1⟩
  ·have h5:(cur.toList.take (l.length * 2))[i * 2]?=(cellsK l)[i * 2]?:=by rw[h4]
   rw[List.getElem?_take_of_lt (by omega),(z34 hi).1]at h5;simp only[World.cell?,hc,Nat.zero_add];simpa using h5
  ·have h5:(cur.toList.take (l.length * 2))[i * 2+1]?=(cellsK l)[i * 2+1]?:=by rw[h4]
   rw[List.getElem?_take_of_lt (by omega),(z34 hi).2]at h5;simp only[World.cell?,hc,Nat.zero_add];simpa using h5
theorem KRow.only{w w':World}{base:Nat}{v:Value}{l:List FV}{may:Nat→Prop}(h:KRow w base v l)(ho:Only may w w')(hm:∀k,may k→¬Typed w 80 k∧¬Typed w 96 k∧¬Typed w 123 k):KRow w' base v l:=
 ⟨zo h.row ho (fun k hk hy=>(hm k hy).1 (zj h.row hk)),fun f hf=>(h.frags f hf).only ho fun k hk=>(hm k hk).2⟩
theorem KRow.below{w w':World}{base:Nat}{v:Value}{l:List FV}(h:KRow w base v l)(hb:Below w.heap.size w w'):KRow w' base v l:=h.only (may:=fun _=>False) (Only.of_below hb) (fun _ h=>h.elim)
theorem KRow.base{w:World}{base base':Nat}{v:Value}{l:List FV}(h:KRow w base v l)(hb:base'≤base):KRow w base' v l:=⟨z1b h.row hb,h.frags⟩
theorem one_frag(f:FV):cellsK [f]=[f.iv,f.vv]:=rfl
theorem frag_one{w:World}{f:FV}(h:FragT w f):f.iv.oneCell'=true∧f.vv.oneCell'=true:=by
 obtain⟨a,cap,hv,_⟩:=h.items;obtain⟨a',cap',hv',_⟩:=h.vec.vecAt;rw[hv,hv'];exact⟨rfl,rfl⟩
theorem cellsK_one{w:World}{l:List FV}(h:∀f∈l,FragT w f):∀u∈cellsK l,u.oneCell'=true:=by
 intro u hu;obtain⟨f,hf,hu⟩:=List.mem_flatMap.1 hu;have:=frag_one (h f hf);simp at hu
 rcases hu with rfl | rfl
 ·exact this.1
 ·exact this.2
theorem KRow.ins{w w':World}{base:Nat}{v v':Value}{l:List FV}{g:FV}{k:Nat}(h:KRow w base v l)(hg:FragT w g)(hk:k≤l.length)(ho:Only (fun b=>v.ownBlock=some b) w w')
  (hr:w'.ownsRow base 80 2 v' (l.length+1) ((cellsK l).take (k * 2) ++ [g.iv,g.vv] ++ (cellsK l).drop (k * 2))):KRow w' base v' (l.take k ++ [g] ++ l.drop k):=by
 have hm:∀b,v.ownBlock=some b→¬Typed w 96 b∧¬Typed w 123 b:=fun b hb=>⟨Typed.not (zj h.row hb) (by decide),Typed.not (zj h.row hb) (by decide)⟩;refine⟨?_,fun f hf=>?_⟩
 ·rw[z2p,z2p,cellsK_take,cellsK_drop,one_frag]
  have e:(l.take k ++ [g] ++ l.drop k).length=l.length+1:=by simp;omega
  rw[e];exact hr
 ·have hf':f∈l∨f=g:=by
   rcases List.mem_append.1 hf with hf | hf
   ·rcases List.mem_append.1 hf with hf | hf
    ·exact .inl (List.mem_of_mem_take hf)
    ·exact .inr (by simpa using hf)
   ·exact .inl (List.mem_of_mem_drop hf)
  rcases hf' with hf | rfl
  ·exact(h.frags f hf).only ho hm
  ·exact hg.only ho hm
def CanL (l:List FV):Prop:=CanK (l.map FV.frag)
def Apart (l:List FV) (zs:List Iv):Prop:=∀f∈l,∀x,¬(InL f.items x∧InL zs x)
def insL (l:List FV) (k:Nat) (g:FV):List FV:=l.take k ++ [g] ++ l.drop k
theorem z19{l:List FV}{k:Nat}{g f:FV}:f∈insL l k g↔f=g∨f∈l:=by
 have:f∈l↔f∈l.take k∨f∈l.drop k:=by rw[← List.mem_append,List.take_append_drop]
 rw[this];unfold insL;simp only[List.mem_append,List.mem_singleton];constructor
 ·rintro((h | h) | h)
  ·exact .inr (.inl h)
  ·exact .inl h
  ·exact .inr (.inr h)
 ·rintro(h | h | h)
  ·exact .inl (.inr h)
  ·exact .inl (.inl h)
  ·exact .inr h
theorem z4s{l:List FV}{k:Nat}{g:FV}(h:k≤l.length):(insL l k g).length=l.length+1:=by unfold insL;simp;omega
theorem pair_ins{α:Type}{R:α→α→Prop}{l:List α}{k:Nat}{g:α}(h:l.Pairwise R)(h1:∀f∈l.take k,R f g)(h2:∀f∈l.drop k,R g f):(l.take k ++ [g] ++ l.drop k).Pairwise R:=by
 have hs:(l.take k ++ l.drop k).Pairwise R:=by rw[List.take_append_drop];exact h
 obtain⟨p1,p2,p3⟩:=List.pairwise_append.1 hs;rw[List.append_assoc];refine List.pairwise_append.2 ⟨p1,List.pairwise_cons.2 ⟨h2,p2⟩,fun a ha b hb=>?_⟩;rcases List.mem_cons.1 hb with rfl | hb
 ·exact h1 a ha
 ·exact p3 a ha b hb
theorem zn{l:List FV}{f:Frag}:f∈l.map FV.frag↔∃g∈l,g.frag=f:=List.mem_map
theorem CanL.of{l:List FV}(h1:∀f∈l,Cor f.items∧f.items≠[]∧CanW f.es∧f.es≠[])(h2:l.Pairwise (fun f g=>VLt f.es g.es))(h3:l.Pairwise (fun f g=>∀x,¬(InL f.items x∧InL g.items x))):CanL l:=by
 refine⟨fun f hf=>?_,fun f hf=>?_,fun f hf=>?_,fun f hf=>?_,List.pairwise_map.2 h2,List.pairwise_map.2 h3⟩;all_goals
  obtain⟨g,hg,rfl⟩:=zn.1 hf
 ·exact(h1 g hg).1
 ·exact(h1 g hg).2.1
 ·exact(h1 g hg).2.2.1
 ·exact(h1 g hg).2.2.2
theorem CanL.at{l:List FV}(h:CanL l):∀f∈l,Cor f.items∧f.items≠[]∧CanW f.es∧f.es≠[]:=fun f hf=>
 ⟨h.cor _ (zn.2 ⟨f,hf,rfl⟩),h.some _ (zn.2 ⟨f,hf,rfl⟩),h.vec _ (zn.2 ⟨f,hf,rfl⟩),h.vne _ (zn.2 ⟨f,hf,rfl⟩)⟩
theorem CanL.asc'{l:List FV}(h:CanL l):l.Pairwise (fun f g=>VLt f.es g.es):=(List.pairwise_map (f:=FV.frag) (R:=fun f g=>VLt f.vec g.vec)).1 h.asc
theorem CanL.apart'{l:List FV}(h:CanL l):l.Pairwise (fun f g=>∀x,¬(InL f.items x∧InL g.items x)):=(List.pairwise_map (f:=FV.frag) (R:=fun f g=>∀x,¬(InL f.items x∧InL g.items x))).1 h.apart
theorem CanL.ess{l:List FV}(h:CanL l):(l.map FV.es).Pairwise VLt:=List.pairwise_map.2 h.asc'
theorem knK_ins{l:List FV}{k:Nat}{g:FV}{x r c:Int}:KnK ((insL l k g).map FV.frag) x r c↔KnK (l.map FV.frag) x r c∨(InL g.items x∧KnV g.es r c):=by
 constructor
 ·rintro⟨f,hf,h⟩
  obtain⟨f',hf',rfl⟩:=zn.1 hf;rcases z19.1 hf' with rfl | hf'
  ·exact .inr h
  ·exact .inl ⟨_,zn.2 ⟨f',hf',rfl⟩,h⟩
 ·rintro(⟨f,hf,h⟩ | h)
  ·obtain⟨f',hf',rfl⟩:=zn.1 hf
   exact⟨_,zn.2 ⟨f',z19.2 (.inr hf'),rfl⟩,h⟩
  ·exact⟨g.frag,zn.2 ⟨g,z19.2 (.inl rfl),rfl⟩,h⟩
theorem getD_of_take{l:List FV}{k:Nat}{f:FV}(h:f∈l.take k):∃i,i<k∧i<l.length∧l.getD i FV.z=f:=by
 obtain⟨i,hi,e⟩:=List.mem_iff_getElem.1 h;rw[List.length_take]at hi;rw[List.getElem_take]at e;exact⟨i,by omega,by omega,by simp[List.getD,List.getElem?_eq_getElem (show i<l.length by omega),e]⟩
theorem getD_of_drop{l:List FV}{k:Nat}{f:FV}(h:f∈l.drop k):∃i,k≤i∧i<l.length∧l.getD i FV.z=f:=by
 obtain⟨i,hi,e⟩:=List.mem_iff_getElem.1 h;rw[List.length_drop]at hi;rw[List.getElem_drop]at e;exact⟨k+i,by omega,by omega,by simp[List.getD,List.getElem?_eq_getElem (show k+i<l.length by omega),e]⟩
theorem CanL.ins{l:List FV}(h:CanL l){k:Nat}{g:FV}(h1:∀i,i<k→i<l.length→VLt (l.getD i FV.z).es g.es)(h2:∀i,k≤i→i<l.length→VLt g.es (l.getD i FV.z).es)(hg:Cor g.items∧g.items≠[]∧CanW g.es∧g.es≠[])(ha:Apart l g.items):CanL (insL l k g):=by
 refine CanL.of (fun f hf=>?_) (pair_ins h.asc' (fun f hf=>?_) (fun f hf=>?_)) (pair_ins h.apart' (fun f hf x=>?_) (fun f hf x=>?_))
 ·rcases z19.1 hf with rfl | hf
  ·exact hg
  ·exact h.at f hf
 ·obtain⟨i,a,b,rfl⟩:=getD_of_take hf
  exact h1 i a b
 ·obtain⟨i,a,b,rfl⟩:=getD_of_drop hf
  exact h2 i a b
 ·exact ha f (List.mem_of_mem_take hf) x
 ·exact fun hx=>ha f (List.mem_of_mem_drop hf) x ⟨hx.2,hx.1⟩
def setL (l:List FV) (k:Nat) (zs:List Iv) (v:Value):List FV:=l.set k ⟨zs,v,(l.getD k FV.z).vec,(l.getD k FV.z).vv⟩
theorem set_split{l:List FV}{k:Nat}(h:k<l.length)(g:FV):l.set k g=l.take k ++ [g] ++ l.drop (k+1):=by
 rw[List.set_eq_take_append_cons_drop,if_pos h,List.append_assoc];rfl
theorem split_at{l:List FV}{k:Nat}(h:k<l.length):l=l.take k ++ [l.getD k FV.z] ++ l.drop (k+1):=by
 have e:l.getD k FV.z=l[k]:=by simp[List.getD,List.getElem?_eq_getElem h]
 rw[e,List.append_assoc];simp
theorem pair_set{R:FV→FV→Prop}{l:List FV}{k:Nat}(hk:k<l.length){g:FV}(h:l.Pairwise R)(h1:∀f∈l,R f (l.getD k FV.z)→R f g)(h2:∀f∈l,R (l.getD k FV.z) f→R g f):(l.set k g).Pairwise R:=by
 rw[set_split hk];have hs:=h;rw[split_at hk,List.append_assoc]at hs;obtain⟨p1,p2,p3⟩:=List.pairwise_append.1 hs;obtain⟨p4,p5⟩:=List.pairwise_cons.1 p2;rw[List.append_assoc];refine List.pairwise_append.2 ⟨p1,List.pairwise_cons.2 ⟨fun f hf=>h2 f (List.mem_of_mem_drop hf) (p4 f hf),p5⟩,fun a ha b hb=>?_⟩;rcases List.mem_cons.1 hb with rfl | hb
 ·exact h1 a (List.mem_of_mem_take ha) (p3 a ha _ (by simp))
 ·exact p3 a ha b (List.mem_append_right _ hb)
theorem CanL.set{l:List FV}(h:CanL l){k:Nat}(hk:k<l.length){zs us:List Iv}{v:Value}(hu:Cor us)(hi:∀x,InL us x↔InL (l.getD k FV.z).items x∨InL zs x)(ha:Apart l zs):CanL (setL l k us v):=by
 have hm:l.getD k FV.z∈l:=by
  rw[List.getD,List.getElem?_eq_getElem hk,Option.getD_some];exact List.getElem_mem hk
 obtain⟨g1,g2,g3,g4⟩:=h.at _ hm;have hap:=h.apart';refine CanL.of (fun f hf=>?_) (pair_set hk h.asc' (fun f _ h=>h) (fun f _ h=>h)) (pair_set hk hap (fun f hf h x hx=>?_) (fun f hf h x hx=>?_))
 ·rcases List.mem_or_eq_of_mem_set hf with hf | rfl
  ·exact h.at f hf
  ·refine⟨hu,fun e=>?_,g3,g4⟩
   obtain⟨x,hx⟩:=cor_first g1 g2;have:=(hi x).2 (.inl hx);simp only at e;rw[e]at this;exact z1r x this
 ·rcases(hi x).1 hx.2 with q | q
  ·exact h x ⟨hx.1,q⟩
  ·exact ha f hf x ⟨hx.1,q⟩
 ·rcases(hi x).1 hx.1 with q | q
  ·exact h x ⟨q,hx.2⟩
  ·exact ha f hf x ⟨hx.2,q⟩
theorem knK_set{l:List FV}{k:Nat}(hk:k<l.length){zs us:List Iv}{v:Value}(hi:∀x,InL us x↔InL (l.getD k FV.z).items x∨InL zs x){x r c:Int} :
  KnK ((setL l k us v).map FV.frag) x r c↔KnK (l.map FV.frag) x r c∨(InL zs x∧KnV (l.getD k FV.z).es r c):=by
 have hm:l.getD k FV.z∈l:=by
  rw[List.getD,List.getElem?_eq_getElem hk,Option.getD_some];exact List.getElem_mem hk
 have hin:∀f,f∈setL l k us v↔f∈l.take k∨f=⟨us,v,(l.getD k FV.z).vec,(l.getD k FV.z).vv⟩∨f∈l.drop (k+1):=fun f=>by
  unfold setL;rw[set_split hk];simp[or_assoc]
 have hin2:∀f,f∈l↔f∈l.take k∨f=l.getD k FV.z∨f∈l.drop (k+1):=fun f=>by
  conv=>lhs;rw[split_at hk]
  simp[or_assoc]
 constructor
 ·rintro⟨f,hf,h1,h2⟩
  obtain⟨f',hf',rfl⟩:=zn.1 hf;rcases(hin f').1 hf' with q | rfl | q
  ·exact .inl ⟨_,zn.2 ⟨f',(hin2 f').2 (.inl q),rfl⟩,h1,h2⟩
  ·rcases(hi x).1 h1 with q | q
   ·exact .inl ⟨_,zn.2 ⟨_,hm,rfl⟩,q,h2⟩
   ·exact .inr ⟨q,h2⟩
  ·exact .inl ⟨_,zn.2 ⟨f',(hin2 f').2 (.inr (.inr q)),rfl⟩,h1,h2⟩
 ·rintro(⟨f,hf,h1,h2⟩ | ⟨h1,h2⟩)
  ·obtain⟨f',hf',rfl⟩:=zn.1 hf
   rcases(hin2 f').1 hf' with q | rfl | q
   ·exact⟨_,zn.2 ⟨f',(hin f').2 (.inl q),rfl⟩,h1,h2⟩
   ·exact⟨_,zn.2 ⟨_,(hin _).2 (.inr (.inl rfl)),rfl⟩,(hi x).2 (.inl h1),h2⟩
   ·exact⟨_,zn.2 ⟨f',(hin f').2 (.inr (.inr q)),rfl⟩,h1,h2⟩
  ·exact⟨_,zn.2 ⟨_,(hin _).2 (.inr (.inl rfl)),rfl⟩,(hi x).2 (.inr h1),h2⟩
theorem cellsK_set{l:List FV}{k:Nat}(h:k<l.length)(us:List Iv)(u:Value):cellsK (setL l k us u)=(cellsK l).set (k * 2) u:=by
 unfold setL;induction l generalizing k with
 | nil=>simp at h
 | cons f l ih=>
   cases k with
   | zero=>rfl
   | succ k=>
     have:=ih (k:=k) (by simpa using h);rw[show(k+1) * 2=k * 2+1+1 by omega];simp only[cellsK,List.set_cons_succ,List.flatMap_cons,List.cons_append,List.nil_append,List.getD_cons_succ]at this ⊢;rw[this]
theorem z3g(l:List FV)(k:Nat)(us:List Iv)(u:Value):(setL l k us u).length=l.length:=by unfold setL;simp
theorem KRow.set{w:World}{base gb n cap:Nat}{l:List FV}{us:List Iv}{u:Value}{k b2:Nat}(h:KRow w base (.slice (some ⟨gb,0,none⟩) n cap) l)(hk:k<l.length)(hu:OwnL w b2 123 u us) :
  KRow (w.setCell ⟨gb,k * 2,none⟩ u) base (.slice (some ⟨gb,0,none⟩) n cap) (setL l k us u):=by
 have htg:=zj h.row (k:=gb) rfl;have ho:Only (fun b=>b=gb) w (w.setCell ⟨gb,k * 2,none⟩ u):=(Only.refl (fun b=>b=gb) w).setCell (p:=⟨gb,k * 2,none⟩) (.inl rfl) _;have hm:∀b,b=gb→¬Typed w 96 b∧¬Typed w 123 b:=fun b hb=>by
  rw[hb];exact⟨Typed.not htg (by decide),Typed.not htg (by decide)⟩
 refine⟨?_,fun f hf=>?_⟩
 ·rw[z3g,cellsK_set hk]
  rcases h.row.2 with⟨hv,hl⟩ | ⟨g',cap',cur,hv,hb,hc,h1,h2,h3,h4⟩
  ·cases hv
  ·injection hv with e1 e2 e3
   injection e1 with e1
   injection e1 with e1 _ _
   subst e1;subst e3;refine⟨by rw[List.length_set];exact h.row.1,.inr ⟨gb,cap,_,by rw[e2],hb,heap_setCell_same _ _ (k * 2) _ _ _ hc,h1,h2,by simpa using h3,?_⟩⟩;rw[Array.toList_setIfInBounds,List.take_set,h4]
 ·rcases List.mem_or_eq_of_mem_set hf with hf | rfl
  ·exact(h.frags f hf).only ho hm
  ·have hmem:l.getD k FV.z∈l:=by
    rw[List.getD,List.getElem?_eq_getElem hk,Option.getD_some];exact List.getElem_mem hk
   exact⟨hu.itT.only ho (fun b hb=>(hm b hb).2),((h.frags _ hmem).only ho hm).vec⟩
theorem totI_set{l:List FV}{k:Nat}(hk:k<l.length)(us:List Iv)(u:Value):totI (setL l k us u)+(l.getD k FV.z).items.length=totI l+us.length:=by
 unfold setL;have h1:=congrArg totI (set_split hk ⟨us,u,(l.getD k FV.z).vec,(l.getD k FV.z).vv⟩);have h2:=congrArg totI (split_at hk);rw[zx,zx]at h1 h2;simp only[totI]at h1 h2;omega
theorem totI_mem{l:List FV}{f:FV}(h:f∈l):f.items.length≤totI l:=by
 induction l with
 | nil=>cases h
 | cons x l ih=>
   simp only[totI];rcases List.mem_cons.1 h with rfl | h
   ·omega
   ·have:=ih h;omega
theorem cov_set{l:List FV}{k:Nat}(hk:k<l.length){zs us:List Iv}{u:Value}(hi:∀x,InL us x↔InL (l.getD k FV.z).items x∨InL zs x)(x:Int):(∃f∈setL l k us u,InL f.items x)↔(∃f∈l,InL f.items x)∨InL zs x:=by
 have hm:l.getD k FV.z∈l:=by
  rw[List.getD,List.getElem?_eq_getElem hk,Option.getD_some];exact List.getElem_mem hk
 constructor
 ·rintro⟨f,hf,h⟩
  rcases List.mem_or_eq_of_mem_set hf with hf | rfl
  ·exact .inl ⟨f,hf,h⟩
  ·rcases(hi x).1 h with h | h
   ·exact .inl ⟨_,hm,h⟩
   ·exact .inr h
 ·have hnew:(⟨us,u,(l.getD k FV.z).vec,(l.getD k FV.z).vv⟩:FV)∈setL l k us u:=by
   unfold setL;exact List.mem_iff_getElem.2 ⟨k,by simpa using hk,by simp⟩
  rintro(⟨f,hf,h⟩ | h)
  ·obtain⟨i,hi',e⟩:=List.mem_iff_getElem.1 hf
   by_cases q:i=k
   ·subst q
    have e2:l.getD i FV.z=f:=by simp[List.getD,List.getElem?_eq_getElem hi',e]
    exact⟨_,hnew,(hi x).2 (.inl (by rw[e2];exact h))⟩
   ·refine⟨f,?_,h⟩
    unfold setL;exact List.mem_iff_getElem.2 ⟨i,by simpa using hi',by rw[List.getElem_set_ne (fun e=>q e.symm)];exact e⟩
  ·exact⟨_,hnew,(hi x).2 (.inr h)⟩
structure AddR (q base:Nat) (v:Value) (l:List FV) (g:FV) (w:World) (v':Value) (l':List FV) (w':World):Prop where
 cell:w'.heap[q]?=some (.cells #[v'] 137 (0,0))
 row:KRow w' base v' l'
 can:CanL l'
 kn:∀x r c,KnK (l'.map FV.frag) x r c↔KnK (l.map FV.frag) x r c∨(InL g.items x∧KnV g.es r c)
 cov:∀x,(∃f∈l',InL f.items x)↔(∃f∈l,InL f.items x)∨InL g.items x
 len:l'.length≤l.length+1
 cmp:∀f∈l',CmpB f.vec
 tot:totI l'≤totI l+g.items.length
 only:Only (fun b=>b=q∨v.ownBlock=some b) w w'
theorem gadd_any(q base:Nat)(v:Value)(l:List FV)(g:FV)(w:World)(hq:w.heap[q]?=some (.cells #[v] 137 (0,0)))(hK:KRow w base v l)(hC:CanL l)(hI:ItT w g.iv g.items)(hV:RowF w 0 g.vv g.vec)
  (hg:Cor g.items∧g.items≠[]∧CanW g.es∧g.es≠[]) (ha:Apart l g.items) (hb:∀f∈l,CmpB f.vec) (hb':CmpB g.vec) (hl:l.length≤10000000) (ht:totI l≤10000000) (hgi:g.items.length≤1000) (hbase:base≤w.heap.size) :
  Calls Tryz.prog 83 #[.pointer (some ⟨q,0,none⟩),.agg #[g.iv,g.vv]] w fun e w'=>∃v' l',e=.returned (.tuple #[])∧AddR q base v l g w v' l' w':=by
 have hmx:Tryz.prog.follows .mixedOrders=true:=by kernel_rfl
 obtain⟨a,cap,rfl,hKn,_⟩:=hK.know;have KS:=z7 (fun W (hW:Below w.heap.size w W)=>gsearch_any a l.length cap l g.vv g.vec W (hKn.below hW) (hV.vecAt.below hW) hC.ess hb hb' (by omega));have HQ:=z7 hq;have HK:=z7 hK;have HC:=z7 hC;have HI:=z7 hI;have HV:=z7 hV;have HG:=z7 hg;have HA:=z7 ha;have HBD:=z7 hb;have HBG:=z7 hb';obtain⟨ai,ci,ei,_⟩:=hI.rg;obtain⟨av,cv,ev,_⟩:=hV.vecAt;obtain⟨items,iv,vec,vv⟩:=g;simp only at ei ev;subst ei;subst ev;obtain⟨n,en⟩:∃n,l.length=n:=⟨_,rfl⟩;have EN:=z7 en;simp only at KS hgi;rw[en]at KS HQ HK hl ⊢;obtain⟨W1,eW1⟩:∃W,w.alloc (.cells #[.slice ai items.length ci,.slice av vec.length cv] 80)=W:=⟨_,rfl⟩;have B1:=z7 (show Below w.heap.size w W1 from by rw[← eW1];exact zc (Below.refl _ _) _);have p1:W1.heap[w.heap.size]?=some (.cells #[.slice ai items.length ci,.slice av vec.length cv] 80 (0,0)):=by rw[← eW1];exact ze _ _ rfl
 have p2:W1.heap[q]?=some (.cells #[.slice a n cap] 137 (0,0)):=by rw[← eW1];exact zk _ _ (zh HQ.out) HQ.out
 have c0:W1.cell? ⟨q,0,none⟩=some (.slice a n cap):=by simp[World.cell?,p2]
 have c1:W1.cell? ⟨w.heap.size,0,none⟩=some (.slice ai items.length ci):=by simp[World.cell?,p1]
 have c2:W1.cell? ⟨w.heap.size,1,none⟩=some (.slice av vec.length cv):=by simp[World.cell?,p1]
 obtain⟨ni,eni⟩:∃ni,items.length=ni:=⟨_,rfl⟩;obtain⟨nv,env⟩:∃nv,vec.length=nv:=⟨_,rfl⟩;have P1:=z7 p1;have P2:=z7 p2;have EW:=z7 eW1;have ENI:=z7 eni;have ENV:=z7 env;rw[eni]at c1 P1 EW hgi ⊢;rw[env]at c2 P1 EW KS ⊢;clear hq hK hC hI hV hg ha hb hb' hKn en eW1 p1 p2 eni env;go_enter Tryz.func83,Tryz.ntmps83
 go_wp2_with fail
 rw[EW.out];refine wp_region_held_drew (S:=Only (fun _=>False) W1) hmx (Only.refl _ _).drew (fun hS=>?_);refine tkd (i:=0) (d:=some 7) (v:=(.pointer (some ⟨q,0,none⟩))) (hy:=.inl ⟨by rfl,?_⟩) (h:=?_)
 ·intro X hX;go_simp
 refine tkd (i:=1) (d:=some 8) (v:=(.pointer (some ⟨q,0,none⟩))) (hy:=.inl ⟨by rfl,?_⟩) (h:=?_)
 ·intro X hX;go_simp
 refine tkd (i:=2) (d:=some 9) (v:=(.pointer (some ⟨q,0,none⟩))) (hy:=.inl ⟨by rfl,?_⟩) (h:=?_)
 ·intro X hX;go_simp
 refine tkd (i:=3) (d:=some 10) (v:=(.slice a n cap)) (hy:=.inl ⟨by rfl,?_⟩) (h:=?_)
 ·intro X hX;have x0:=hX.cell (fun h=>h) c0;go_simp
 refine tkd (i:=4) (d:=some 11) (v:=(.pointer (some ⟨w.heap.size,1,none⟩))) (hy:=.inl ⟨by rfl,?_⟩) (h:=?_)
 ·intro X hX;go_simp
 refine tkd (i:=5) (d:=some 12) (v:=(.slice av nv cv)) (hy:=.inl ⟨by rfl,?_⟩) (h:=?_)
 ·intro X hX;have x0:=hX.cell (fun h=>h) c2;go_simp
 refine wpAnyH_ready (rs:=[6]) (by kernel_rfl) (by simp) ?_;refine AllReadyH.cons (o:=_) rfl (fun K hK=>?_) AllReadyH.nil;go_simp
 refine(KS.out _ (B1.out.trans ((hS.below (n:=w.heap.size) B1.out.size (fun _ h=>h.elim))))).mono ?_;rintro e wq ⟨k,fb,rfl,hk,hlo,hyes,hno,hbq⟩;have hS:=hS.call hbq;have HLO:=z7 hlo;have HYES:=z7 hyes;have HNO:=z7 hno;clear hlo hyes hno hbq;go_simp
 refine hK.out _ _ hS (fun _=>?_);clear hK K;refine tkd (i:=7) (d:=some 6) (v:=(.tuple #[.int .i64 k,.bool fb])) (hy:=.inl ⟨by rfl,?_⟩) (h:=?_)
 ·intro X hX;go_simp
 refine tkd (i:=8) (d:=some 14) (v:=(.int .i64 k)) (hy:=.inl ⟨by rfl,?_⟩) (h:=?_)
 ·intro X hX;go_simp
 refine tkd (i:=9) (d:=some 15) (v:=(.bool fb)) (hy:=.inl ⟨by rfl,?_⟩) (h:=?_)
 ·intro X hX;go_simp
 refine tkd (i:=10) (d:=some 4) (v:=(.int .i64 k)) (hy:=.inl ⟨by rfl,?_⟩) (h:=?_)
 ·intro X hX;go_simp
 refine tkd (i:=11) (d:=some 5) (v:=(.bool fb)) (hy:=.inl ⟨by rfl,?_⟩) (h:=?_)
 ·intro X hX;go_simp
 refine wpAnyH_done (by kernel_rfl) ?_ _;have HS:=z7 hS;clear hS
 cases fb with
 | true=>
   go_wp2_with fail
   obtain⟨hkn,hes⟩:=HYES.out trivial;have hkl:k<l.length:=by rw[EN.out];exact hkn
   have hmem:l.getD k FV.z∈l:=by
    rw[List.getD,List.getElem?_eq_getElem hkl,Option.getD_some];exact List.getElem_mem hkl
   have bq:=z7 (B1.out.trans (HS.out.below (n:=w.heap.size) B1.out.size (fun _ h=>h.elim)));rcases HK.out.row.2 with⟨_,h0⟩ | ⟨gb,cap',cur,hv,hgb,hcells,hr1,hr2,hr3,hr4⟩
   ·have:=EN.out;omega
   ·injection hv with e1 e2 e3
    clear e2 hr1 hr2;subst e1;subst e3;have hgt:=zh hcells;have htg:=zj HK.out.row (k:=gb) rfl;have nq0:q≠gb:=fun e=>by
     rw[← e,HQ.out]at hcells;injection hcells with hcells
     injection hcells with _ hcells _
     exact absurd hcells (by decide)
    have hiv:w.cell? ⟨gb,k * 2,none⟩=some (l.getD k FV.z).iv:=by
     have h5:(cur.toList.take (l.length * 2))[k * 2]?=(cellsK l)[k * 2]?:=by rw[hr4]
     rw[List.getElem?_take_of_lt (by omega),(z34 hkl).1]at h5;simp only[World.cell?,hcells];simpa using h5
    have gq:=(bq.out.block gb hgt).trans hcells;have d2:wq.cell? ⟨gb,k * 2,none⟩=some (l.getD k FV.z).iv:=zg bq.out hgt hiv;have d0:wq.cell? ⟨q,0,none⟩=some (.slice (some ⟨gb,0,none⟩) n cap):=HS.out.cell (fun h=>h) c0;have d1:wq.cell? ⟨w.heap.size,0,none⟩=some (.slice ai ni ci):=HS.out.cell (fun h=>h) c1;have nq:¬q=gb:=nq0;have nb:¬w.heap.size=gb:=by omega
    obtain⟨hf1,hf2,_,_⟩:=HC.out.at _ hmem;have hrg:=(HK.out.frags _ hmem).at.items;have htot:=totI_mem hmem;have KU:=z7 (fun W (hW:Below wq.heap.size wq W)=>union_any (l.getD k FV.z).iv (.slice ai ni ci) (l.getD k FV.z).items items W ((hrg.below bq.out).below hW) (by rw[← ENI.out];exact((HI.out.rg).below bq.out).below hW) hf1 HG.out.1 (by rw[ENI.out];omega));obtain⟨a0,cz,e0,_⟩:=hrg;obtain⟨n0,en0⟩:∃n0,(l.getD k FV.z).items.length=n0:=⟨_,rfl⟩;rw[e0]at d2;rw[e0]at KU;rw[en0]at d2 KU;have EN0:=z7 en0;have WDF:=z7 (HK.out.frags _ hmem).at.items.words;have i0:(0:Int)≤(k:Int):=by omega
    have i1:(k:Int)<(n:Int):=by omega
    clear hf2 en0 e0 hcells hr3 hr4 hiv;refine wp_region_held_drew (S:=Only (fun b=>b=gb) wq) hmx (Only.refl _ _).drew (fun hS=>?_);refine tkd (i:=0) (d:=some 17) (v:=(.pointer (some ⟨q,0,none⟩))) (hy:=.inl ⟨by rfl,?_⟩) (h:=?_)
    ·intro X hX;go_simp
    refine tkd (i:=1) (d:=some 18) (v:=(.pointer (some ⟨q,0,none⟩))) (hy:=.inl ⟨by rfl,?_⟩) (h:=?_)
    ·intro X hX;go_simp
    refine tkd (i:=2) (d:=some 19) (v:=(.pointer (some ⟨q,0,none⟩))) (hy:=.inl ⟨by rfl,?_⟩) (h:=?_)
    ·intro X hX;go_simp
    refine tkd (i:=3) (d:=some 20) (v:=(.slice (some ⟨gb,0,none⟩) n cap)) (hy:=.inl ⟨by rfl,?_⟩) (h:=?_)
    ·intro X hX;have x0:=hX.cell (fun h=>nq h) d0;go_simp
    refine tkd (i:=4) (d:=some 21) (v:=(.int .i64 k)) (hy:=.inl ⟨by rfl,?_⟩) (h:=?_)
    ·intro X hX;go_simp
    refine tkd (i:=5) (d:=some 22) (v:=(.pointer (some ⟨q,0,none⟩))) (hy:=.inl ⟨by rfl,?_⟩) (h:=?_)
    ·intro X hX;go_simp
    refine tkd (i:=6) (d:=some 23) (v:=(.pointer (some ⟨q,0,none⟩))) (hy:=.inl ⟨by rfl,?_⟩) (h:=?_)
    ·intro X hX;go_simp
    refine tkd (i:=7) (d:=some 24) (v:=(.pointer (some ⟨q,0,none⟩))) (hy:=.inl ⟨by rfl,?_⟩) (h:=?_)
    ·intro X hX;go_simp
    refine tkd (i:=8) (d:=some 25) (v:=(.slice (some ⟨gb,0,none⟩) n cap)) (hy:=.inl ⟨by rfl,?_⟩) (h:=?_)
    ·intro X hX;have x0:=hX.cell (fun h=>nq h) d0;go_simp
    refine tkd (i:=9) (d:=some 26) (v:=(.int .i64 k)) (hy:=.inl ⟨by rfl,?_⟩) (h:=?_)
    ·intro X hX;go_simp
    refine tkd (i:=10) (d:=some 27) (v:=(.pointer (some ⟨gb,k * 2,none⟩))) (hy:=.inl ⟨by rfl,?_⟩) (h:=?_)
    ·intro X hX;go_simp
    refine tkd (i:=11) (d:=some 28) (v:=(.pointer (some ⟨gb,k * 2,none⟩))) (hy:=.inl ⟨by rfl,?_⟩) (h:=?_)
    ·intro X hX;go_simp
    refine tkd (i:=13) (d:=some 30) (v:=(.pointer (some ⟨w.heap.size,0,none⟩))) (hy:=.inl ⟨by rfl,?_⟩) (h:=?_)
    ·intro X hX;go_simp
    refine tkd (i:=14) (d:=some 31) (v:=(.slice ai ni ci)) (hy:=.inl ⟨by rfl,?_⟩) (h:=?_)
    ·intro X hX;have x1:=hX.cell (fun h=>nb h) d1;go_simp
    have f2:wq.frozen? ⟨gb,k * 2,none⟩=false:=frozen_of_row _ _ (k * 2) _ _ gq;refine wpAnyH_ready (rs:=[12]) (by kernel_rfl) (by simp) ?_;refine AllReadyH.cons (o:=_) rfl (fun K hK=>?_) AllReadyH.nil;go_simp
    refine hK.out _ _ hS (fun _=>?_);clear hK K;refine wpAnyH_ready (rs:=[15]) (by kernel_rfl) (by simp) ?_;refine AllReadyH.cons (o:=_) rfl (fun K hK=>?_) AllReadyH.nil;go_simp
    refine(KU.out _ ((Only.refl (fun _=>False) wq).drew.below (n:=wq.heap.size) (Nat.le_refl _) (fun _ h=>h.elim))).mono ?_;rintro e w5 ⟨⟨u,us,rfl,hO,hOc,hOi,hOl⟩,hb5⟩;have hS:=hS.call hb5;obtain⟨au,cu,rfl,_,_,_⟩:=hO.prs;obtain⟨nu,enu⟩:∃nu,us.length=nu:=⟨_,rfl⟩;have ENU:=z7 enu;rw[enu]at hO ⊢;have HOU:=z7 hO;have HOC:=z7 hOc;have HOI:=z7 hOi;have HOL:=z7 hOl;have B5:=z7 hb5;have gq5:=(hb5.block gb (zh gq)).trans gq;have c5:w5.cell? ⟨gb,k * 2,none⟩=some (.slice a0 n0 cz):=zg hb5 (zh gq) d2;have f5:w5.frozen? ⟨gb,k * 2,none⟩=false:=frozen_of_row _ _ (k * 2) _ _ gq5;clear hO hOc hOi hOl hb5 enu;go_simp
    refine hK.out _ _ hS (fun _=>?_);clear hK K;refine tkd (i:=16) (d:=some 33) (v:=(.pointer (some ⟨gb,k * 2,none⟩))) (hy:=.inl ⟨by rfl,?_⟩) (h:=?_)
    ·intro X hX;go_simp
    refine tkd (i:=17) (d:=some 34) (v:=(.pointer (some ⟨gb,k * 2,none⟩))) (hy:=.inl ⟨by rfl,?_⟩) (h:=?_)
    ·intro X hX;go_simp
    refine wpAnyH_ready (rs:=[18]) (by kernel_rfl) (by simp) ?_;refine AllReadyH.cons (o:=_) rfl (fun K hK=>?_) AllReadyH.nil;have hS6:=hS.setCell (p:=⟨gb,k * 2,none⟩) (.inl rfl) (.slice au nu cu);go_simp
    refine hK.out _ _ hS6 (fun _=>?_);clear hK K;refine wpAnyH_done (by kernel_rfl) ?_ _;have HS6:=z7 hS6;clear hS hS6 d0 d1 d2 f2 c5 f5 gq gq5;go_wp2
    refine bodyPost_ret (results_none rfl _ _ _) rfl ?_;have hii:∀x,InL us x↔InL (l.getD k FV.z).items x∨InL items x:=fun x=>by
     rw[HOI.out];have e1:tkU (decide (InL (l.getD k FV.z).items x)) (decide (InL items x))=true↔InL (l.getD k FV.z).items x∨InL items x:=by
      show(decide _ || decide _)=true↔_
      simp
     rw[e1];constructor
     ·exact fun h=>h.2.2
     ·intro h
      have:0≤x∧x<18446744073709551616:=by
       rcases h with h | h
       ·exact z20 WDF.out h
       ·exact z20 HI.out.rg.words h
      exact⟨this.1,this.2,h⟩
    have K5:=(HK.out.below (bq.out)).only (may:=fun _=>False) ((Only.refl (fun _=>False) wq).drew.call B5.out) (fun _ h=>h.elim);have hto:=totI_set hkl us (.slice au nu cu);have ol:=HOL.out;have e9:=EN0.out;have e8:=ENI.out;refine⟨_,setL l k us (.slice au nu cu),rfl,?_,K5.set hkl HOU.out,HC.out.set hkl HOC.out hii HA.out,fun x r c=>?_,fun x=>cov_set hkl hii x,by rw[z3g];have:=EN.out;omega,fun f hf=>?_,by show totI _≤totI l+items.length;omega,?_⟩
    ·exact HS6.out.obj nq ((HS.out.obj (fun h=>h) P2.out))
    ·rw[knK_set hkl hii]
     show _↔_∨(InL items x∧KnV (vec.map (·.1)) r c)
     rw[show KnV (l.getD k FV.z).es r c↔KnV (vec.map (·.1)) r c from by rw[hes]]
    ·rcases List.mem_or_eq_of_mem_set hf with hf | rfl
     ·exact HBD.out f hf
     ·show CmpB (l.getD k FV.z).vec
      exact HBD.out _ hmem
    ·refine((Only.of_below B1.out).trans ((HS.out.wide (fun _ h=>h.elim)))).trans (HS6.out.wide fun b hb=>.inr ?_)
     rw[hb];rfl
 | false=>
   go_wp2_with fail
   have HN2:=z7 (show ∀i,k≤i→i<n→VLt (vec.map (·.1)) (l.getD i FV.z).es from HNO.out trivial);have bq:=z7 (B1.out.trans (HS.out.below (n:=w.heap.size) B1.out.size (fun _ h=>h.elim)));have hown:∀x,(Value.slice a n cap).ownBlock=some x→x<w.heap.size∧x≠q:=fun x hx=>⟨(HK.out.row.lt x hx).2,fun e=>by
    obtain⟨cs,hc⟩:=zj HK.out.row hx;rw[e,HQ.out]at hc;injection hc with hc
    injection hc with _ hc _
    exact absurd hc (by decide)⟩
   have HOW:=z7 hown;have qlt:=zh HQ.out;have gq:=(bq.out.block q qlt).trans HQ.out;have d0:wq.cell? ⟨q,0,none⟩=some (.slice a n cap):=HS.out.cell (fun h=>h) c0;have d1:wq.cell? ⟨w.heap.size,0,none⟩=some (.slice ai ni ci):=HS.out.cell (fun h=>h) c1;have d2:wq.cell? ⟨w.heap.size,1,none⟩=some (.slice av nv cv):=HS.out.cell (fun h=>h) c2;have nb:¬(w.heap.size=q∨(Value.slice a n cap).ownBlock=some w.heap.size):=fun h=>h.elim (fun h=>by omega) (fun h=>by have:=(hown _ h).1;omega);obtain⟨a3,c3,e3,hP3,_,hn3,_⟩:=HI.out;have e3':Value.slice ai ni ci=.slice a3 items.length c3:=by rw[← ENI.out];exact e3
   have KC:=z7 (fun W (hW:Below wq.heap.size wq W)=>show Calls Tryz.prog _ #[.slice ai ni ci] W _ from by rw[e3'];exact clone_any a3 items.length c3 items W ((hP3.below bq.out).below hW) hn3 (by rw[ENI.out];exact hgi));clear hP3 hn3 e3 hown e3';refine wp_region_held_drew (S:=Only (fun b=>b=q∨(Value.slice a n cap).ownBlock=some b) wq) hmx (Only.refl _ _).drew (fun hS=>?_);refine tkd (i:=0) (d:=some 35) (v:=(.pointer (some ⟨q,0,none⟩))) (hy:=.inl ⟨by rfl,?_⟩) (h:=?_)
   ·intro X hX;go_simp
   refine tkd (i:=1) (d:=some 36) (v:=(.pointer (some ⟨q,0,none⟩))) (hy:=.inl ⟨by rfl,?_⟩) (h:=?_)
   ·intro X hX;go_simp
   refine tkd (i:=2) (d:=some 37) (v:=(.pointer (some ⟨q,0,none⟩))) (hy:=.inl ⟨by rfl,?_⟩) (h:=?_)
   ·intro X hX;go_simp
   refine tkd (i:=3) (d:=some 38) (v:=(.pointer (some ⟨q,0,none⟩))) (hy:=.inl ⟨by rfl,?_⟩) (h:=?_)
   ·intro X hX;go_simp
   refine tkd (i:=5) (d:=some 40) (v:=(.int .i64 k)) (hy:=.inl ⟨by rfl,?_⟩) (h:=?_)
   ·intro X hX;go_simp
   refine tkd (i:=6) (d:=some 41) (v:=(.pointer (some ⟨w.heap.size,0,none⟩))) (hy:=.inl ⟨by rfl,?_⟩) (h:=?_)
   ·intro X hX;go_simp
   refine tkd (i:=7) (d:=some 42) (v:=(.slice ai ni ci)) (hy:=.inl ⟨by rfl,?_⟩) (h:=?_)
   ·intro X hX;have x1:=hX.cell (fun h=>nb h) d1;go_simp
   refine tkd (i:=9) (d:=some 44) (v:=(.pointer (some ⟨w.heap.size,1,none⟩))) (hy:=.inl ⟨by rfl,?_⟩) (h:=?_)
   ·intro X hX;go_simp
   refine tkd (i:=10) (d:=some 45) (v:=(.slice av nv cv)) (hy:=.inl ⟨by rfl,?_⟩) (h:=?_)
   ·intro X hX;have x2:=hX.cell (fun h=>nb h) d2;go_simp
   refine wpAnyH_ready (rs:=[4,8]) (by kernel_rfl) (by simp) ?_;refine AllReadyH.cons (o:=_) rfl (fun K hK=>?_) (AllReadyH.cons (o:=_) rfl (fun K hK=>?_) AllReadyH.nil)
   ·go_simp
    refine hK.out _ _ hS (fun _=>?_);clear hK K;refine wpAnyH_ready (rs:=[8]) (by kernel_rfl) (by simp) ?_;refine AllReadyH.cons (o:=_) rfl (fun K hK=>?_) AllReadyH.nil;go_simp
    refine(KC.out _ ((Only.refl (fun _=>False) wq).drew.below (n:=wq.heap.size) (Nat.le_refl _) (fun _ h=>h.elim))).mono ?_;rintro e w7 ⟨v1,rfl,hO,hb7⟩;have hS:=hS.call hb7;have HO7:=z7 hO;have B7:=z7 ((Only.refl (fun _=>False) wq).drew.call hb7);obtain⟨au,cu,rfl,_,_,_⟩:=hO.prs;obtain⟨nu,enu⟩:∃nu,items.length=nu:=⟨_,rfl⟩;have ENU:=z7 enu;rw[enu]at HO7 ⊢;clear hO hb7 enu;go_simp
    refine hK.out _ _ hS (fun _=>?_);clear hK K;refine tkd (i:=11) (d:=some 46) (v:=(.agg #[.slice au nu cu,.slice av nv cv])) (hy:=.inl ⟨by rfl,?_⟩) (h:=?_)
    ·intro X hX;go_simp
    refine wpAnyH_ready (rs:=[12]) (by kernel_rfl) (by simp) ?_;refine AllReadyH.cons (o:=_) rfl (fun K hK=>?_) AllReadyH.nil;have hS9:=hS.alloc (.cells #[.slice au nu cu,.slice av nv cv] 80);go_simp
    refine hK.out _ _ hS9 (fun _=>?_);clear hK K;refine wpAnyH_ready (rs:=[13]) (by kernel_rfl) (by simp) ?_;refine AllReadyH.cons (o:=_) rfl (fun K hK=>?_) AllReadyH.nil;have hb9:=B7.out.alloc (.cells #[.slice au nu cu,.slice av nv cv] 80);have hW9:=bq.out.trans (hb9.below (n:=w.heap.size) bq.out.size (fun _ h=>h.elim));have hK9:=(HK.out.below hW9);have gq9:=hb9.obj (fun h=>h) gq;have hv9:(Value.slice a n cap).ownBlock≠some w7.heap.size:=fun e=>by
     have h1:=(HOW.out _ e).1;have h2:=B7.out.size;have h3:=bq.out.size;omega
    have hrow:=hK9.row;rw[EN.out]at hrow;have HK9:=z7 hK9;have HW9:=z7 hW9;have HS9:=z7 hb9;have n9:(w7.alloc (.cells #[.slice au nu cu,.slice av nv cv] 80)).heap[w7.heap.size]?=some (.cells #[.slice au nu cu,.slice av nv cv] 80 (0,0)):=ze _ _ rfl;have hbase9:base≤(w7.alloc (.cells #[.slice au nu cu,.slice av nv cv] 80)).heap.size:=Nat.le_trans hbase hW9.size;have KI:=z7 (z4e base n k (.slice a n cap) (cellsK l) w7.heap.size [.slice au nu cu,.slice av nv cv] _ hrow hk (by omega) hbase9 (cellsK_one hK9.frags) (by intro u hu;simp at hu;rcases hu with rfl | rfl<;>rfl) rfl n9 hv9);clear hb9 hW9 hK9 hrow n9 hbase9 hv9;go_simp
    refine KI.out.mono ?_;rintro e w10 ⟨v2,rfl,hown,ho⟩;have hS10:=(by assumption:Only (fun b=>b=q∨(Value.slice a n cap).ownBlock=some b) wq (w7.alloc (.cells #[.slice au nu cu,.slice av nv cv] 80))).trans (ho.wide (fun b hb=>.inr hb));have gq10:=ho.obj (fun h=>(HOW.out _ h).2 rfl) gq9;have y0:w10.cell? ⟨q,0,none⟩=some (.slice a n cap):=by simp[World.cell?,gq10]
    have y1:w10.frozen? ⟨q,0,none⟩=false:=frozen_of_row _ _ 0 _ _ gq10;obtain⟨a2,c2',rfl,_⟩:=zl hown;have HOWN:=z7 hown;have HO10:=z7 ho;have GQ10:=z7 gq10;clear hown ho gq10 gq9;go_simp
    refine hK.out _ _ hS10 (fun _=>?_);clear hK K;refine tkd (i:=14) (d:=some 49) (v:=(.pointer (some ⟨q,0,none⟩))) (hy:=.inl ⟨by rfl,?_⟩) (h:=?_)
    ·intro X hX;go_simp
    refine tkd (i:=15) (d:=some 50) (v:=(.pointer (some ⟨q,0,none⟩))) (hy:=.inl ⟨by rfl,?_⟩) (h:=?_)
    ·intro X hX;go_simp
    refine wpAnyH_ready (rs:=[16]) (by kernel_rfl) (by simp) ?_;refine AllReadyH.cons (o:=_) rfl (fun K hK=>?_) AllReadyH.nil;have hS11:=hS10.setCell (p:=⟨q,0,none⟩) (.inl (.inl rfl)) (.slice a2 (n+1) c2');go_simp
    refine hK.out _ _ hS11 (fun _=>?_);clear hK K;refine wpAnyH_done (by kernel_rfl) ?_ _;have HS11:=z7 hS11;clear hS10 hS11 d0 d1 d2 y0 y1;go_wp2
    refine bodyPost_end (results_none rfl _ _ _) rfl ?_;have o12:Only (fun b=>b=q) w10 (w10.setCell ⟨q,0,none⟩ (.slice a2 (n+1) c2')):=(Only.refl (fun b=>b=q) w10).setCell (p:=⟨q,0,none⟩) (.inl rfl) _;have htq:Typed w10 137 q:=⟨_,GQ10.out⟩;have hfr:FragT (w7.alloc (.cells #[.slice au nu cu,.slice av nv cv] 80)) ⟨items,.slice au nu cu,vec,.slice av nv cv⟩:=⟨(HO7.out.only (may:=fun _=>False) ((Only.refl (fun _=>False) w7).alloc _) (fun _ h=>h.elim)).itT,by have hv:=HV.out;rw[ENV.out]at hv;exact hv.only (may:=fun _=>False) (Only.of_below HW9.out) (fun _ h=>h.elim)⟩;have hkl:k≤l.length:=by rw[EN.out];exact hk
    have hins:=HK9.out.ins (g:=⟨items,.slice au nu cu,vec,.slice av nv cv⟩) hfr hkl HO10.out (by rw[EN.out];exact HOWN.out);refine⟨_,insL l k ⟨items,.slice au nu cu,vec,.slice av nv cv⟩,rfl,heap_setCell_same _ _ 0 _ _ _ GQ10.out,hins.only o12 (fun b hb=>by rw[hb];exact⟨Typed.not htq (by decide),Typed.not htq (by decide),Typed.not htq (by decide)⟩),HC.out.ins (fun i h1 _=>HLO.out i h1) (fun i h1 h2=>HN2.out i h1 (by rw[← EN.out];exact h2)) HG.out HA.out,fun x r c=>knK_ins,fun x=>?_,by rw[z4s hkl];have:=EN.out;omega,fun f hf=>?_,?_,?_⟩
    ·constructor
     ·rintro⟨f,hf,h⟩
      rcases z19.1 hf with rfl | hf
      ·exact .inr h
      ·exact .inl ⟨f,hf,h⟩
     ·rintro(⟨f,hf,h⟩ | h)
      ·exact⟨f,z19.2 (.inr hf),h⟩
      ·exact⟨_,z19.2 (.inl rfl),h⟩
    ·rcases z19.1 hf with rfl | hf
     ·exact HBG.out
     ·exact HBD.out f hf
    ·have h1:=zx (l.take k) (l.drop k)
     rw[List.take_append_drop]at h1;unfold insL;rw[zx,zx];simp only[totI];omega
    ·exact((Only.of_below B1.out).trans (HS.out.wide (fun _ h=>h.elim))).trans HS11.out
   ·go_simp
    refine(KC.out _ ((Only.refl (fun _=>False) wq).drew.below (n:=wq.heap.size) (Nat.le_refl _) (fun _ h=>h.elim))).mono ?_;rintro e w7 ⟨v1,rfl,hO,hb7⟩;have hS:=hS.call hb7;have HO7:=z7 hO;have B7:=z7 ((Only.refl (fun _=>False) wq).drew.call hb7);obtain⟨au,cu,rfl,_,_,_⟩:=hO.prs;obtain⟨nu,enu⟩:∃nu,items.length=nu:=⟨_,rfl⟩;have ENU:=z7 enu;rw[enu]at HO7 ⊢;clear hO hb7 enu;go_simp
    refine hK.out _ _ hS (fun _=>?_);clear hK K;refine tkd (i:=11) (d:=some 46) (v:=(.agg #[.slice au nu cu,.slice av nv cv])) (hy:=.inl ⟨by rfl,?_⟩) (h:=?_)
    ·intro X hX;go_simp
    refine wpAnyH_ready (rs:=[4,12]) (by kernel_rfl) (by simp) ?_;refine AllReadyH.cons (o:=_) rfl (fun K hK=>?_) (AllReadyH.cons (o:=_) rfl (fun K hK=>?_) AllReadyH.nil)
    ·have x4:=(B7.out.cell (fun h=>h) d0)
     go_simp
     refine hK.out _ _ hS (fun _=>?_);clear hK K;refine wpAnyH_ready (rs:=[12]) (by kernel_rfl) (by simp) ?_;refine AllReadyH.cons (o:=_) rfl (fun K hK=>?_) AllReadyH.nil;have hS9:=hS.alloc (.cells #[.slice au nu cu,.slice av nv cv] 80);go_simp
     refine hK.out _ _ hS9 (fun _=>?_);clear hK K;refine wpAnyH_ready (rs:=[13]) (by kernel_rfl) (by simp) ?_;refine AllReadyH.cons (o:=_) rfl (fun K hK=>?_) AllReadyH.nil;have hb9:=B7.out.alloc (.cells #[.slice au nu cu,.slice av nv cv] 80);have hW9:=bq.out.trans (hb9.below (n:=w.heap.size) bq.out.size (fun _ h=>h.elim));have hK9:=(HK.out.below hW9);have gq9:=hb9.obj (fun h=>h) gq;have hv9:(Value.slice a n cap).ownBlock≠some w7.heap.size:=fun e=>by
      have h1:=(HOW.out _ e).1;have h2:=B7.out.size;have h3:=bq.out.size;omega
     have hrow:=hK9.row;rw[EN.out]at hrow;have HK9:=z7 hK9;have HW9:=z7 hW9;have HS9:=z7 hb9;have n9:(w7.alloc (.cells #[.slice au nu cu,.slice av nv cv] 80)).heap[w7.heap.size]?=some (.cells #[.slice au nu cu,.slice av nv cv] 80 (0,0)):=ze _ _ rfl;have hbase9:base≤(w7.alloc (.cells #[.slice au nu cu,.slice av nv cv] 80)).heap.size:=Nat.le_trans hbase hW9.size;have KI:=z7 (z4e base n k (.slice a n cap) (cellsK l) w7.heap.size [.slice au nu cu,.slice av nv cv] _ hrow hk (by omega) hbase9 (cellsK_one hK9.frags) (by intro u hu;simp at hu;rcases hu with rfl | rfl<;>rfl) rfl n9 hv9);clear hb9 hW9 hK9 hrow n9 hbase9 hv9;go_simp
     refine KI.out.mono ?_;rintro e w10 ⟨v2,rfl,hown,ho⟩;have hS10:=(by assumption:Only (fun b=>b=q∨(Value.slice a n cap).ownBlock=some b) wq (w7.alloc (.cells #[.slice au nu cu,.slice av nv cv] 80))).trans (ho.wide (fun b hb=>.inr hb));have gq10:=ho.obj (fun h=>(HOW.out _ h).2 rfl) gq9;have y0:w10.cell? ⟨q,0,none⟩=some (.slice a n cap):=by simp[World.cell?,gq10]
     have y1:w10.frozen? ⟨q,0,none⟩=false:=frozen_of_row _ _ 0 _ _ gq10;obtain⟨a2,c2',rfl,_⟩:=zl hown;have HOWN:=z7 hown;have HO10:=z7 ho;have GQ10:=z7 gq10;clear hown ho gq10 gq9;go_simp
     refine hK.out _ _ hS10 (fun _=>?_);clear hK K;refine tkd (i:=14) (d:=some 49) (v:=(.pointer (some ⟨q,0,none⟩))) (hy:=.inl ⟨by rfl,?_⟩) (h:=?_)
     ·intro X hX;go_simp
     refine tkd (i:=15) (d:=some 50) (v:=(.pointer (some ⟨q,0,none⟩))) (hy:=.inl ⟨by rfl,?_⟩) (h:=?_)
     ·intro X hX;go_simp
     refine wpAnyH_ready (rs:=[16]) (by kernel_rfl) (by simp) ?_;refine AllReadyH.cons (o:=_) rfl (fun K hK=>?_) AllReadyH.nil;have hS11:=hS10.setCell (p:=⟨q,0,none⟩) (.inl (.inl rfl)) (.slice a2 (n+1) c2');go_simp
     refine hK.out _ _ hS11 (fun _=>?_);clear hK K;refine wpAnyH_done (by kernel_rfl) ?_ _;have HS11:=z7 hS11;clear hS10 hS11 d0 d1 d2 y0 y1;go_wp2
     refine bodyPost_end (results_none rfl _ _ _) rfl ?_;have o12:Only (fun b=>b=q) w10 (w10.setCell ⟨q,0,none⟩ (.slice a2 (n+1) c2')):=(Only.refl (fun b=>b=q) w10).setCell (p:=⟨q,0,none⟩) (.inl rfl) _;have htq:Typed w10 137 q:=⟨_,GQ10.out⟩;have hfr:FragT (w7.alloc (.cells #[.slice au nu cu,.slice av nv cv] 80)) ⟨items,.slice au nu cu,vec,.slice av nv cv⟩:=⟨(HO7.out.only (may:=fun _=>False) ((Only.refl (fun _=>False) w7).alloc _) (fun _ h=>h.elim)).itT,by have hv:=HV.out;rw[ENV.out]at hv;exact hv.only (may:=fun _=>False) (Only.of_below HW9.out) (fun _ h=>h.elim)⟩;have hkl:k≤l.length:=by rw[EN.out];exact hk
     have hins:=HK9.out.ins (g:=⟨items,.slice au nu cu,vec,.slice av nv cv⟩) hfr hkl HO10.out (by rw[EN.out];exact HOWN.out);refine⟨_,insL l k ⟨items,.slice au nu cu,vec,.slice av nv cv⟩,rfl,heap_setCell_same _ _ 0 _ _ _ GQ10.out,hins.only o12 (fun b hb=>by rw[hb];exact⟨Typed.not htq (by decide),Typed.not htq (by decide),Typed.not htq (by decide)⟩),HC.out.ins (fun i h1 _=>HLO.out i h1) (fun i h1 h2=>HN2.out i h1 (by rw[← EN.out];exact h2)) HG.out HA.out,fun x r c=>knK_ins,fun x=>?_,by rw[z4s hkl];have:=EN.out;omega,fun f hf=>?_,?_,?_⟩
     ·constructor
      ·rintro⟨f,hf,h⟩
       rcases z19.1 hf with rfl | hf
       ·exact .inr h
       ·exact .inl ⟨f,hf,h⟩
      ·rintro(⟨f,hf,h⟩ | h)
       ·exact⟨f,z19.2 (.inr hf),h⟩
       ·exact⟨_,z19.2 (.inl rfl),h⟩
     ·rcases z19.1 hf with rfl | hf
      ·exact HBG.out
      ·exact HBD.out f hf
     ·have h1:=zx (l.take k) (l.drop k)
      rw[List.take_append_drop]at h1;unfold insL;rw[zx,zx];simp only[totI];omega
     ·exact((Only.of_below B1.out).trans (HS.out.wide (fun _ h=>h.elim))).trans HS11.out
    ·have x4:=((B7.out.alloc (.cells #[.slice au nu cu,.slice av nv cv] 80)).cell (fun h=>h) d0)
     have hS9:=hS.alloc (.cells #[.slice au nu cu,.slice av nv cv] 80);go_simp
     refine hK.out _ _ hS9 (fun _=>?_);clear hK K;refine wpAnyH_ready (rs:=[4]) (by kernel_rfl) (by simp) ?_;refine AllReadyH.cons (o:=_) rfl (fun K hK=>?_) AllReadyH.nil;go_simp
     refine hK.out _ _ hS9 (fun _=>?_);clear hK K;refine wpAnyH_ready (rs:=[13]) (by kernel_rfl) (by simp) ?_;refine AllReadyH.cons (o:=_) rfl (fun K hK=>?_) AllReadyH.nil;have hb9:=B7.out.alloc (.cells #[.slice au nu cu,.slice av nv cv] 80);have hW9:=bq.out.trans (hb9.below (n:=w.heap.size) bq.out.size (fun _ h=>h.elim));have hK9:=(HK.out.below hW9);have gq9:=hb9.obj (fun h=>h) gq;have hv9:(Value.slice a n cap).ownBlock≠some w7.heap.size:=fun e=>by
      have h1:=(HOW.out _ e).1;have h2:=B7.out.size;have h3:=bq.out.size;omega
     have hrow:=hK9.row;rw[EN.out]at hrow;have HK9:=z7 hK9;have HW9:=z7 hW9;have HS9:=z7 hb9;have n9:(w7.alloc (.cells #[.slice au nu cu,.slice av nv cv] 80)).heap[w7.heap.size]?=some (.cells #[.slice au nu cu,.slice av nv cv] 80 (0,0)):=ze _ _ rfl;have hbase9:base≤(w7.alloc (.cells #[.slice au nu cu,.slice av nv cv] 80)).heap.size:=Nat.le_trans hbase hW9.size;have KI:=z7 (z4e base n k (.slice a n cap) (cellsK l) w7.heap.size [.slice au nu cu,.slice av nv cv] _ hrow hk (by omega) hbase9 (cellsK_one hK9.frags) (by intro u hu;simp at hu;rcases hu with rfl | rfl<;>rfl) rfl n9 hv9);clear hb9 hW9 hK9 hrow n9 hbase9 hv9;go_simp
     refine KI.out.mono ?_;rintro e w10 ⟨v2,rfl,hown,ho⟩;have hS10:=(by assumption:Only (fun b=>b=q∨(Value.slice a n cap).ownBlock=some b) wq (w7.alloc (.cells #[.slice au nu cu,.slice av nv cv] 80))).trans (ho.wide (fun b hb=>.inr hb));have gq10:=ho.obj (fun h=>(HOW.out _ h).2 rfl) gq9;have y0:w10.cell? ⟨q,0,none⟩=some (.slice a n cap):=by simp[World.cell?,gq10]
     have y1:w10.frozen? ⟨q,0,none⟩=false:=frozen_of_row _ _ 0 _ _ gq10;obtain⟨a2,c2',rfl,_⟩:=zl hown;have HOWN:=z7 hown;have HO10:=z7 ho;have GQ10:=z7 gq10;clear hown ho gq10 gq9;go_simp
     refine hK.out _ _ hS10 (fun _=>?_);clear hK K;refine tkd (i:=14) (d:=some 49) (v:=(.pointer (some ⟨q,0,none⟩))) (hy:=.inl ⟨by rfl,?_⟩) (h:=?_)
     ·intro X hX;go_simp
     refine tkd (i:=15) (d:=some 50) (v:=(.pointer (some ⟨q,0,none⟩))) (hy:=.inl ⟨by rfl,?_⟩) (h:=?_)
     ·intro X hX;go_simp
     refine wpAnyH_ready (rs:=[16]) (by kernel_rfl) (by simp) ?_;refine AllReadyH.cons (o:=_) rfl (fun K hK=>?_) AllReadyH.nil;have hS11:=hS10.setCell (p:=⟨q,0,none⟩) (.inl (.inl rfl)) (.slice a2 (n+1) c2');go_simp
     refine hK.out _ _ hS11 (fun _=>?_);clear hK K;refine wpAnyH_done (by kernel_rfl) ?_ _;have HS11:=z7 hS11;clear hS10 hS11 d0 d1 d2 y0 y1;go_wp2
     refine bodyPost_end (results_none rfl _ _ _) rfl ?_;have o12:Only (fun b=>b=q) w10 (w10.setCell ⟨q,0,none⟩ (.slice a2 (n+1) c2')):=(Only.refl (fun b=>b=q) w10).setCell (p:=⟨q,0,none⟩) (.inl rfl) _;have htq:Typed w10 137 q:=⟨_,GQ10.out⟩;have hfr:FragT (w7.alloc (.cells #[.slice au nu cu,.slice av nv cv] 80)) ⟨items,.slice au nu cu,vec,.slice av nv cv⟩:=⟨(HO7.out.only (may:=fun _=>False) ((Only.refl (fun _=>False) w7).alloc _) (fun _ h=>h.elim)).itT,by have hv:=HV.out;rw[ENV.out]at hv;exact hv.only (may:=fun _=>False) (Only.of_below HW9.out) (fun _ h=>h.elim)⟩;have hkl:k≤l.length:=by rw[EN.out];exact hk
     have hins:=HK9.out.ins (g:=⟨items,.slice au nu cu,vec,.slice av nv cv⟩) hfr hkl HO10.out (by rw[EN.out];exact HOWN.out);refine⟨_,insL l k ⟨items,.slice au nu cu,vec,.slice av nv cv⟩,rfl,heap_setCell_same _ _ 0 _ _ _ GQ10.out,hins.only o12 (fun b hb=>by rw[hb];exact⟨Typed.not htq (by decide),Typed.not htq (by decide),Typed.not htq (by decide)⟩),HC.out.ins (fun i h1 _=>HLO.out i h1) (fun i h1 h2=>HN2.out i h1 (by rw[← EN.out];exact h2)) HG.out HA.out,fun x r c=>knK_ins,fun x=>?_,by rw[z4s hkl];have:=EN.out;omega,fun f hf=>?_,?_,?_⟩
     ·constructor
      ·rintro⟨f,hf,h⟩
       rcases z19.1 hf with rfl | hf
       ·exact .inr h
       ·exact .inl ⟨f,hf,h⟩
      ·rintro(⟨f,hf,h⟩ | h)
       ·exact⟨f,z19.2 (.inr hf),h⟩
       ·exact⟨_,z19.2 (.inl rfl),h⟩
     ·rcases z19.1 hf with rfl | hf
      ·exact HBG.out
      ·exact HBD.out f hf
     ·have h1:=zx (l.take k) (l.drop k)
      rw[List.take_append_drop]at h1;unfold insL;rw[zx,zx];simp only[totI];omega
     ·exact((Only.of_below B1.out).trans (HS.out.wide (fun _ h=>h.elim))).trans HS11.out
structure GrpI (w:World) (l:List FV):Prop where
 it:∀f∈l,ItT w f.iv f.items
 cor:∀f∈l,Cor f.items
 few:∀f∈l,f.items.length≤1000
 can:∀f∈l,CanW f.es
 cmp:∀f∈l,CmpB f.vec
 hs:∀f∈l,∀e∈f.es,e.hs.length≤100000000
 len:∀f∈l,f.vec.length≤100000000
 apart:l.Pairwise (fun f g=>∀x,¬(InL f.items x∧InL g.items x))
theorem cmpB_of{l l':List EV}(h:CmpB l)(e:l'.map (·.1)=l.map (·.1)):CmpB l':=by
 obtain⟨h1,h2,h3⟩:=h;have hl:l'.length=l.length:=by simpa using congrArg List.length e
 refine⟨by omega,fun p hp=>?_,by rw[e];exact h3⟩;have:p.1∈l.map (·.1):=by rw[← e];exact List.mem_map.2 ⟨p,hp,rfl⟩
 obtain⟨p',hp',e'⟩:=List.mem_map.1 this;rw[← e'];exact h2 p' hp'
theorem knK_take{l:List FV}{k:Nat}(h:k<l.length){x r c:Int}:KnK ((l.take (k+1)).map FV.frag) x r c↔KnK ((l.take k).map FV.frag) x r c∨(InL (l.getD k FV.z).items x∧KnV (l.getD k FV.z).es r c):=by
 rw[z2h h];constructor
 ·rintro⟨f,hf,hh⟩
  obtain⟨f',hf',rfl⟩:=zn.1 hf;rcases List.mem_append.1 hf' with hf' | hf'
  ·exact .inl ⟨_,zn.2 ⟨f',hf',rfl⟩,hh⟩
  ·obtain rfl:f'=l.getD k FV.z:=by simpa using hf'
   exact .inr hh
 ·rintro(⟨f,hf,hh⟩ | hh)
  ·obtain⟨f',hf',rfl⟩:=zn.1 hf
   exact⟨_,zn.2 ⟨f',List.mem_append_left _ hf',rfl⟩,hh⟩
  ·exact⟨_,zn.2 ⟨l.getD k FV.z,by simp,rfl⟩,hh⟩
structure GrpK (l:List FV) (k:Nat) (l':List FV):Prop where
 can:CanL l'
 kn:∀x r c,KnK (l'.map FV.frag) x r c↔KnK ((l.take k).map FV.frag) x r c
 cov:∀x,(∃f∈l',InL f.items x)→∃f∈l.take k,InL f.items x
 len:l'.length≤k
 cmp:∀f∈l',CmpB f.vec
 tot:totI l'≤totI (l.take k)
theorem GrpK.zero(l:List FV):GrpK l 0 []:=
 ⟨CanL.of (by simp) List.Pairwise.nil List.Pairwise.nil,fun x r c=>Iff.rfl,(fun x h=>by
  obtain⟨f,hf,_⟩:=h
  cases hf),Nat.le_refl _,(fun f hf=>by cases hf),Nat.le_refl _⟩
theorem GrpK.skip{l l':List FV}{k:Nat}(h:GrpK l k l')(hk:k<l.length)(hn:(l.getD k FV.z).es=[]∨(l.getD k FV.z).items=[]):GrpK l (k+1) l':=
 ⟨h.can,fun x r c=>by
  rw[h.kn,knK_take hk];constructor
  ·exact .inl
  ·rintro(h | ⟨h1,h2⟩)
   ·exact h
   ·rcases hn with e | e
    ·rw[e]at h2;exact absurd h2 (z47 r c)
    ·rw[e]at h1;exact absurd h1 (z1r x),fun x hx=>by
  obtain⟨f,hf,h'⟩:=h.cov x hx;exact⟨f,by rw[z2h hk];exact List.mem_append_left _ hf,h'⟩,by have:=h.len;omega,h.cmp,by have:=h.tot;rw[totI_take hk];omega⟩
theorem GrpK.apart{w:World}{l l':List FV}{k:Nat}(h:GrpK l k l')(hG:GrpI w l)(hk:k<l.length):Apart l' (l.getD k FV.z).items:=by
 intro f hf x hx;obtain⟨f2,hf2,h2⟩:=h.cov x ⟨f,hf,hx.1⟩;have hp:=hG.apart;rw[split_at hk,List.append_assoc]at hp;obtain⟨_,_,p3⟩:=List.pairwise_append.1 hp;exact p3 f2 hf2 _ (by simp) x ⟨h2,hx.2⟩
theorem group_any(v:Value)(l:List FV)(w:World)(hE:KnwAt w v l)(hG:GrpI w l)(hlen:l.length≤10000000)(htot:totI l≤10000000) :
  Calls Tryz.prog 38 #[v] w fun e w'=>∃v' l',e=.returned v'∧KRow w' w.heap.size v' l'∧GrpK l l.length l'∧Below w.heap.size w w':=by
 obtain⟨a,cap,rfl,hK,_⟩:=hE;have H:=z7 hK;have HG:=z7 hG;obtain⟨q,eq⟩:∃q,w.heap.size=q:=⟨_,rfl⟩;have EQ:=z7 eq;have B0:=z7 (show Below w.heap.size w (w.alloc (.cells #[.slice none 0 0] 137))from zc (Below.refl _ _) _);have Q0:=z7 (show(w.alloc (.cells #[.slice none 0 0] 137)).heap[q]?=some (.cells #[.slice none 0 0] 137 (0,0))from by rw[← eq];exact ze _ _ rfl);obtain⟨len,elen⟩:∃len,l.length=len:=⟨_,rfl⟩;have EL:=z7 elen;rw[elen]at H hlen ⊢;have hS0:=z7 (show q+1≤(w.alloc (.cells #[.slice none 0 0] 137)).heap.size from by rw[← eq];simp);have hE83:∀args W,(callFunc 83 args).run Tryz.prog W=.ok (.enter 83 args) W:=fun _ _=>by kernel_rfl
 clear hK hG elen;go_enter Tryz.func38,Tryz.ntmps38
 go_wp2
 obtain⟨w0,ew0⟩:∃w0,w.alloc (.cells #[.slice none 0 0] 137)=w0:=⟨_,rfl⟩;rw[ew0]at B0 Q0 hS0;rw[ew0];clear ew0 eq;go_loopw [11] (fun c wr=>∃(k:Nat) (v':Value) (l':List FV),k≤len∧c=.int .i64 k∧wr.heap[q]?=some (.cells #[v'] 137 (0,0))∧KRow wr (q+1) v' l'∧GrpK l k l'∧Below w.heap.size w wr∧q+1≤wr.heap.size) (fun c _=>len-(intOf c).toNat)
 case atStart=>exact⟨0,_,[],Nat.zero_le _,rfl,Q0.out,KRow.nil _ _,GrpK.zero _,B0.out,hS0.out⟩
 case round=>
  obtain⟨k,v',l',hk,rfl,hq,hR,hP,hb,hsz⟩:=hrel;have HQ:=z7 hq;have HR:=z7 hR;have HP:=z7 hP;have HB:=z7 hb;have i0':(0:Int)≤(k:Int):=by omega
  clear hR hP;by_cases hlt:k<len
  ·have i1:(k:Int)<(len:Int):=by omega
   have hkl:k<l.length:=by rw[EL.out];exact hlt
   have Hr:=H.out.below hb;obtain⟨b,off,rfl,hbl,hc1,hc2⟩:=Hr.cells k hlt;have hmem:=Hr.mem hlt;have hfr:=Hr.frags _ hmem;have hitw:=HG.out.it _ hmem;have KV:=z7 (fun W (hW:Below w.heap.size w W) a' cap' (hV:EntsN W a' (l.getD k FV.z).vec.length (l.getD k FV.z).vec)=>vcan_any a' _ cap' (l.getD k FV.z).vec W hV (HG.out.can _ hmem) (HG.out.hs _ hmem) (HG.out.len _ hmem));obtain⟨p,ep⟩:∃p,l.getD k FV.z=p:=⟨_,rfl⟩;have EP:=z7 ep;rw[ep]at hc1 hc2 hfr hitw KV;have hmem':p∈l:=by rw[← ep];exact hmem
   obtain⟨⟨ai,ci,ei,_⟩,⟨av,cv,ev,hEn,_⟩⟩:=hfr;obtain⟨items,iv,vec,vv⟩:=p;simp only at hc1 hc2 ei ev hEn KV hitw;subst ei;subst ev;have HMEM:=z7 hmem';have HIT:=z7 hitw;have K1:=z7 (KV.out _ (HB.out.trans ((zc (Below.refl wr.heap.size wr) (.cells #[.slice ai items.length ci,.slice av vec.length cv] 80)).mono HB.out.size)) av cv (hEn.below (zc (Below.refl _ _) _)));have n9:(wr.alloc (.cells #[.slice ai items.length ci,.slice av vec.length cv] 80)).heap[wr.heap.size]?=some (.cells #[.slice ai items.length ci,.slice av vec.length cv] 80 (0,0)):=ze _ _ rfl;have N9:=z7 n9;have BA:=z7 (zc (Below.refl wr.heap.size wr) (.cells #[.slice ai items.length ci,.slice av vec.length cv] 80));obtain⟨ni,eni⟩:∃ni,items.length=ni:=⟨_,rfl⟩;obtain⟨nv,env⟩:∃nv,vec.length=nv:=⟨_,rfl⟩;have ENI:=z7 eni;have ENV:=z7 env;have hfew:=HG.out.few _ hmem';simp only at hfew;rw[eni]at hc1 N9 K1 BA hfew HIT;rw[env]at hc2 N9 K1 BA;clear hq hb ep hmem hitw hEn eni env n9 Hr KV hmem' hbl;go_wp2_with fail
   refine K1.out.mono ?_;rintro e w3 ⟨v2,l2,rfl,hmap,hF2,hb3⟩;have q3:=(hb3.block _ (zh N9.out)).trans N9.out;have y0:w3.cell? ⟨wr.heap.size,0,none⟩=some (.slice ai ni ci):=by simp[World.cell?,q3]
   have B3w:=z7 (BA.out.trans (hb3.mono BA.out.size));have B3:=z7 (HB.out.trans (B3w.out.mono HB.out.size));have R3:=z7 (HR.out.below B3w.out);have Q3:=z7 ((B3w.out.block q (zh HQ.out)).trans HQ.out);obtain⟨a2,c2,rfl,_⟩:=hF2.vecAt;have F2:=z7 hF2;have MAP:=z7 hmap;have hl2:l2.length=nv:=by rw[← ENV.out];simpa using congrArg List.length hmap
   have HL2:=z7 hl2;obtain⟨m,em⟩:∃m,l2.length=m:=⟨_,rfl⟩;rw[em]at F2 ⊢;have EM:=z7 em;have HSZ:=z7 (show q+1≤w3.heap.size from Nat.le_trans hsz B3w.out.size);clear hmap hF2 hb3 q3 hl2 em;by_cases hm:m=0
   ·have P4:=z7 (HP.out.skip hkl (.inl (by
     rw[EP.out];show vec.map (·.1)=[]
     rw[← MAP.out,List.length_eq_zero_iff.1 (show l2.length=0 by rw[EM.out];exact hm)];rfl)))
    subst hm;go_wp2
    go_roundw
    case rel=>
     have FINAL:∃(k':Nat) (v':Value) (l':List FV),k'≤len∧(.int .i64 ((k:Int)+1):Value)=.int .i64 k'∧w3.heap[q]?=some (.cells #[v'] 137 (0,0))∧KRow w3 (q+1) v' l'∧GrpK l k' l'∧Below w.heap.size w w3∧q+1≤w3.heap.size:=⟨k+1,v',l',by omega,by simp,Q3.out,R3.out,P4.out,B3.out,HSZ.out⟩;first | exact FINAL | ((repeat apply Exists.intro);exact⟨FINAL,rfl⟩)
    case measure=>simp[intOf];omega
   ·have m1:(0:Int)<(m:Int):=by omega
    by_cases hni:ni=0
    ·have P4:=z7 (HP.out.skip hkl (.inr (by
      rw[EP.out];exact List.length_eq_zero_iff.1 (show items.length=0 by rw[ENI.out];exact hni))))
     subst hni;go_wp2
     go_roundw
     case rel=>
      have FINAL:∃(k':Nat) (v':Value) (l':List FV),k'≤len∧(.int .i64 ((k:Int)+1):Value)=.int .i64 k'∧w3.heap[q]?=some (.cells #[v'] 137 (0,0))∧KRow w3 (q+1) v' l'∧GrpK l k' l'∧Below w.heap.size w w3∧q+1≤w3.heap.size:=⟨k+1,v',l',by omega,by simp,Q3.out,R3.out,P4.out,B3.out,HSZ.out⟩;first | exact FINAL | ((repeat apply Exists.intro);exact⟨FINAL,rfl⟩)
     case measure=>simp[intOf];omega
    ·have n1:(0:Int)<(ni:Int):=by omega
     have hes:(l2.map (·.1))=vec.map (·.1):=MAP.out;have hap:=HP.out.apart HG.out hkl;rw[EP.out]at hap;have tt:=HP.out.tot;have tl:=totI_le l k;have KA:=z7 (gadd_any q (q+1) v' l' ⟨items,.slice ai ni ci,l2,.slice a2 m c2⟩ w3 Q3.out R3.out HP.out.can (HIT.out.only (may:=fun _=>False) (Only.of_below B3.out) (fun _ h=>h.elim)) (by have:=F2.out.base (Nat.zero_le _);exact this)
      ⟨(show Cor items from HG.out.cor _ HMEM.out),fun e=>hni (by rw[← ENI.out];exact List.length_eq_zero_iff.2 e),by show CanW (l2.map (·.1));rw[hes];exact(show CanW (vec.map (·.1))from HG.out.can _ HMEM.out),fun e=>hm (by rw[← EM.out];have e':l2.map (·.1)=[]:=e;exact List.length_eq_zero_iff.2 (List.map_eq_nil_iff.1 e'))⟩
      hap HP.out.cmp (cmpB_of (show CmpB vec from HG.out.cmp _ HMEM.out) hes) (by have:=HP.out.len;omega) (by omega) (by show items.length≤1000;rw[ENI.out];exact hfew) HSZ.out)
     have HES:=z7 hes;clear hes hap;go_wp2_with fail
     refine KA.out.mono ?_;rintro e w4 ⟨v4,l4,rfl,hA⟩;have HA:=z7 hA;have hvq:∀b,v'.ownBlock=some b→q+1≤b:=fun b hb=>(R3.out.row.lt b hb).1;have B4:=z7 (B3.out.trans (hA.only.below (n:=w.heap.size) B3.out.size (fun b hb=>by
      have:=EQ.out;rcases hb with hb | hb
      ·omega
      ·have:=hvq b hb;omega)))
     have P4:=z7 (show GrpK l (k+1) l4 from⟨hA.can,fun x r c=>by
      rw[hA.kn,HP.out.kn,knK_take hkl,EP.out];show _∨(InL items x∧KnV (l2.map (·.1)) r c)↔_∨(InL items x∧KnV (vec.map (·.1)) r c)
      rw[HES.out],fun x hx=>by
      rw[z2h hkl,EP.out];rcases(hA.cov x).1 hx with h | h
      ·obtain⟨f,hf,h'⟩:=HP.out.cov x h
       exact⟨f,List.mem_append_left _ hf,h'⟩
      ·exact⟨⟨items,.slice ai items.length ci,vec,.slice av vec.length cv⟩,by simp,h⟩,by have:=hA.len;have:=HP.out.len;omega,hA.cmp,by
      have h1:=hA.tot;rw[totI_take hkl,EP.out];simp only at h1 ⊢;omega⟩)
     have S4:=z7 (Nat.le_trans HSZ.out hA.only.size);clear hA hvq;go_wp2
     go_roundw
     case rel=>
      have FINAL:∃(k':Nat) (v':Value) (l':List FV),k'≤len∧(.int .i64 ((k:Int)+1):Value)=.int .i64 k'∧w4.heap[q]?=some (.cells #[v'] 137 (0,0))∧KRow w4 (q+1) v' l'∧GrpK l k' l'∧Below w.heap.size w w4∧q+1≤w4.heap.size:=⟨k+1,v4,l4,by omega,by simp,HA.out.cell,HA.out.row,P4.out,B4.out,S4.out⟩;first | exact FINAL | ((repeat apply Exists.intro);exact⟨FINAL,rfl⟩)
     case measure=>simp[intOf];omega
  ·obtain rfl:len=k:=by omega
   have y0:wr.cell? ⟨q,0,none⟩=some v':=by simp[World.cell?,hq]
   have RE:=z7 (HR.out.base (base':=w.heap.size) (by have:=EQ.out;omega));clear hq hb;go_wp2
   go_ret
   first | exact⟨_,rfl,l',RE.out,HP.out,HB.out⟩ | exact⟨_,l',rfl,RE.out,HP.out,HB.out⟩
structure PartK (ps:List Iv) (F:Int→Int→Int→Prop) (k:Nat) (l':List FV):Prop where
 len:l'.length=k
 items:∀i,i<k→(l'.getD i FV.z).items=[(Lo ps i,Hi ps i)]
 kn:∀i,i<k→∀r c,KnV (l'.getD i FV.z).es r c↔F (Lo ps i) r c
theorem PartK.zero(ps:List Iv)(F:Int→Int→Int→Prop):PartK ps F 0 []:=⟨rfl,fun i h=>absurd h (by omega),fun i h=>absurd h (by omega)⟩
theorem getD_snoc_lt{l:List FV}{f:FV}{i:Nat}(h:i<l.length):(l ++ [f]).getD i FV.z=l.getD i FV.z:=by
 simp only[List.getD];rw[List.getElem?_append_left h]
theorem getD_snoc_eq{l:List FV}{f:FV}:(l ++ [f]).getD l.length FV.z=f:=by
 simp[List.getD]
theorem PartK.snoc{ps:List Iv}{F:Int→Int→Int→Prop}{k:Nat}{l':List FV}(h:PartK ps F k l'){f:FV}(hi:f.items=[(Lo ps k,Hi ps k)])(hk:∀r c,KnV f.es r c↔F (Lo ps k) r c):PartK ps F (k+1) (l' ++ [f]):=by
 have hl:=h.len;refine⟨by simp[hl],fun i hik=>?_,fun i hik=>?_⟩
 ·by_cases e:i<k
  ·rw[getD_snoc_lt (by omega)];exact h.items i e
  ·have e2:i=l'.length:=by omega
   have e3:i=k:=by omega
   rw[e2,getD_snoc_eq,hi,← hl]
 ·by_cases e:i<k
  ·rw[getD_snoc_lt (by omega)];exact h.kn i e
  ·have e2:i=l'.length:=by omega
   rw[e2,getD_snoc_eq,hl];exact hk
theorem PartK.know{both:List FV}{ps:List Iv}{F:Int→Int→Int→Prop}{l':List FV}(h:PartK ps F ps.length l')(hP:PcsOk both ps){r c:Int}(hs:∀x y,selI both x both.length=selI both y both.length→(F x r c↔F y r c))(hn:∀x,F x r c→Word x∧selI both x both.length≠[])(x:Int) :
  KnK (l'.map FV.frag) x r c↔F x r c:=by
 have mem:∀i,i<ps.length→(Lo ps i,Hi ps i)∈ps:=fun i hi=>by
  rw[← z1o ps i hi];exact List.getElem_mem hi
 constructor
 ·rintro⟨f,hf,h1,h2⟩
  obtain⟨f',hf',rfl⟩:=zn.1 hf;obtain⟨i,hi,e⟩:=List.mem_iff_getElem.1 hf';have hi':i<ps.length:=by have:=h.len;omega
  have e2:l'.getD i FV.z=f':=by simp[List.getD,List.getElem?_eq_getElem hi,e]
  have hit:=h.items i hi';have hkn:=h.kn i hi' r c;rw[e2]at hit hkn;have h1':InL f'.items x:=h1;rw[hit,z1l]at h1';have hsame:=hP.same _ (mem i hi') x h1'.1 h1'.2;exact(hs x (Lo ps i) hsame).2 (hkn.1 h2)
 ·intro hF
  obtain⟨hw,hne⟩:=hn x hF;obtain⟨p,hp,h1,h2⟩:=hP.all x hw hne;obtain⟨i,hi,e⟩:=List.mem_iff_getElem.1 hp;rw[z1o ps i hi]at e;subst e;have hsame:=hP.same _ hp x h1 h2;have hi2:i<l'.length:=by rw[h.len];exact hi
  refine⟨(l'.getD i FV.z).frag,zn.2 ⟨_,?_,rfl⟩,?_,(h.kn i hi r c).2 ((hs x (Lo ps i) hsame).1 hF)⟩
  ·rw[List.getD,List.getElem?_eq_getElem hi2,Option.getD_some];exact List.getElem_mem hi2
  ·show InL (l'.getD i FV.z).items x
   rw[h.items i hi,z1l];exact⟨h1,h2⟩
theorem knK_same{l:List FV}{x y r c:Int}(h:selI l x l.length=selI l y l.length):KnK (l.map FV.frag) x r c↔KnK (l.map FV.frag) y r c:=by
 rw[← knS_iff,← knS_iff,h]
theorem KRow.app{w:World}{base:Nat}{v:Value}{l:List FV}{g:FV}{vb:Nat}(h:KRow w base v l)(hg:FragT w g)(hb:w.heap[vb]?=some (.cells #[g.iv,g.vv] 80 (0,0)))(hn:l.length≤4000000000)(hbase:base≤w.heap.size)(ty:TypeId) :
  ∃v' w',(Builtin.append_ #[23,23] ty #[v,.slice (some ⟨vb,0,none⟩) 1 1]).run Tryz.prog w=.ok v' w'∧KRow w' base v' (l ++ [g])∧Only (fun b=>v.ownBlock=some b) w w':=by
 obtain⟨i0,hi,hz0,hz1,hz2⟩:=info_parts z1p;obtain⟨v',w',hr,hown,hgrow,_,_⟩:=run_append_own_at (P:=Tryz.prog) w base 23 ty 80 i0 (.agg #[.slice none 0 0,.slice none 0 0]) 2 48 Tryz.underlying23 hi hz0 hz1 hz2 rfl (by decide) v l.length (cellsK l) h.row ⟨vb,0,none⟩ 1 1 [g.iv,g.vv] rfl (z10 hb) (fun u hu=>by
  have:=frag_one hg;simp at hu
  rcases hu with rfl | rfl
  ·exact this.1
  ·exact this.2) (by unfold maxLen;omega) (by omega) hbase
 have ho:Only (fun b=>v.ownBlock=some b) w w':=⟨hgrow.os,hgrow.tape,hgrow.output,hgrow.size,fun k hk hl=>hgrow.block k hk (fun e=>hl e.symm)⟩;have hm:∀b,v.ownBlock=some b→¬Typed w 96 b∧¬Typed w 123 b:=fun b hb=>⟨Typed.not (zj h.row hb) (by decide),Typed.not (zj h.row hb) (by decide)⟩;refine⟨v',w',hr,⟨?_,fun f hf=>?_⟩,ho⟩
 ·rw[z2p,List.length_append]
  exact hown
 ·rcases List.mem_append.1 hf with hf | hf
  ·exact(h.frags f hf).only ho hm
  ·obtain rfl:f=g:=by simpa using hf
   exact hg.only ho hm
structure VecB (l:List FV) (V A:Nat):Prop where
 can:∀f∈l,CanW f.es
 vec:∀f∈l,f.vec.length≤V
 hs:∀f∈l,∀p∈f.vec,p.1.hs.length≤A
theorem VecB.nil(V A:Nat):VecB [] V A:=⟨by simp,by simp,by simp⟩
theorem VecB.snoc{l:List FV}{V A:Nat}(h:VecB l V A){f:FV}(h1:CanW f.es)(h2:f.vec.length≤V)(h3:∀p∈f.vec,p.1.hs.length≤A):VecB (l ++ [f]) V A:=by
 refine⟨fun g hg=>?_,fun g hg=>?_,fun g hg=>?_⟩;all_goals
  rcases List.mem_append.1 hg with hg | hg
 ·exact h.can g hg
 ·obtain rfl:g=f:=by simpa using hg
  exact h1
 ·exact h.vec g hg
 ·obtain rfl:g=f:=by simpa using hg
  exact h2
 ·exact h.hs g hg
 ·obtain rfl:g=f:=by simpa using hg
  exact h3
theorem VecB.mono{l:List FV}{V A V' A':Nat}(h:VecB l V A)(hV:V≤V')(hA:A≤A'):VecB l V' A':=
 ⟨h.can,fun f hf=>Nat.le_trans (h.vec f hf) hV,fun f hf p hp=>Nat.le_trans (h.hs f hf p hp) hA⟩
theorem absE_len(e:Ent):(absE e).length=3+2 * e.hs.length:=by
 unfold absE;have:∀zs:List Iv,(zs.flatMap (fun z=>[z.1,z.2])).length=2 * zs.length:=by
  intro zs;induction zs with
  | nil=>rfl
  | cons z zs ih=>simp only[List.flatMap_cons,List.length_append,List.length_cons,List.length_nil]at ih ⊢;omega
 simp only[List.length_append,List.length_cons,List.length_nil,this]
theorem absV_le{es:List Ent}{A:Nat}(h:∀e∈es,e.hs.length≤A):(absV es).length≤1+es.length * (3+2 * A):=by
 have main:(es.flatMap absE).length≤es.length * (3+2 * A):=by
  induction es with
  | nil=>simp
  | cons e es ih=>
    have h1:=ih (fun f hf=>h f (by simp[hf]));have h2:=h e (by simp);simp only[List.flatMap_cons,List.length_append,absE_len,List.length_cons,Nat.succ_mul]at h1 ⊢;omega
 unfold absV;simp only[List.length_cons];omega
theorem VecB.cmp{l:List FV}{V A:Nat}(h:VecB l V A)(hV:V≤10000)(hA:A≤40000):∀f∈l,CmpB f.vec:=fun f hf=>by
 have h1:=h.vec f hf;have h2:=h.hs f hf;refine⟨by omega,fun p hp=>by have:=h2 p hp;omega,?_⟩;have h3:=absV_le (es:=f.vec.map (·.1)) (A:=A) (fun e he=>by
  obtain⟨p,hp,rfl⟩:=List.mem_map.1 he;exact h2 p hp)
 rw[List.length_map]at h3;have h4:f.vec.length * (3+2 * A)≤10000 * (3+2 * 40000):=Nat.mul_le_mul (by omega) (by omega);omega
theorem PartK.it{ps:List Iv}{F:Int→Int→Int→Prop}{k:Nat}{l':List FV}(h:PartK ps F k l'){f:FV}(hf:f∈l'):∃i,i<k∧f=l'.getD i FV.z∧f.items=[(Lo ps i,Hi ps i)]:=by
 obtain⟨i,hi,e⟩:=List.mem_iff_getElem.1 hf;have hi':i<k:=by have:=h.len;omega
 have e2:l'.getD i FV.z=f:=by simp[List.getD,List.getElem?_eq_getElem hi,e]
 exact⟨i,hi',e2.symm,by rw[← e2];exact h.items i hi'⟩
theorem pcs_mem(ps:List Iv)(i:Nat)(hi:i<ps.length):(Lo ps i,Hi ps i)∈ps:=by
 rw[← z1o ps i hi];exact List.getElem_mem hi
theorem cor_single{a b:Int}(h:a≤b):Cor [(a,b)]:=fun i hi=>by
 have:i=0:=by simpa using hi
 subst this;exact⟨h,fun h0=>absurd h0 (by omega)⟩
theorem PartK.grp{both:List FV}{ps:List Iv}{F:Int→Int→Int→Prop}{l':List FV}(h:PartK ps F ps.length l')(hP:PcsOk both ps){w:World}{base:Nat}{v:Value}(hK:KRow w base v l'){V A:Nat}(hB:VecB l' V A)(hV:V≤10000)(hA:A≤40000):GrpI w l':=by
 refine⟨fun f hf=>(hK.frags f hf).items,fun f hf=>?_,fun f hf=>?_,hB.can,hB.cmp hV hA,fun f hf e he=>?_,fun f hf=>by have:=hB.vec f hf;omega,?_⟩
 ·obtain⟨i,hi,_,e⟩:=h.it hf
  rw[e];exact cor_single (hP.le _ (pcs_mem ps i hi))
 ·obtain⟨i,hi,_,e⟩:=h.it hf
  rw[e];simp
 ·obtain⟨p,hp,rfl⟩:=List.mem_map.1 he
  have:=hB.hs f hf p hp;omega
 ·refine List.pairwise_iff_getElem.2 fun i j hi hj hij x=>?_
  have hl:=h.len;have e1:l'.getD i FV.z=l'[i]:=by simp[List.getD,List.getElem?_eq_getElem hi]
  have e2:l'.getD j FV.z=l'[j]:=by simp[List.getD,List.getElem?_eq_getElem hj]
  have i1:=h.items i (by omega);have i2:=h.items j (by omega);rw[e1]at i1;rw[e2]at i2;rw[i1,i2,z1l,z1l];have hp:=List.pairwise_iff_getElem.1 hP.asc i j (by omega) (by omega) hij;rw[z1o ps i (by omega),z1o ps j (by omega)]at hp;have hp':Hi ps i<Lo ps j:=hp;rintro⟨⟨_,a⟩,⟨b,_⟩⟩;have a':x≤Hi ps i:=a;have b':Lo ps j≤x:=b;omega
theorem selI_one{l:List FV}(h:l.Pairwise (fun f g=>∀x,¬(InL f.items x∧InL g.items x)))(x:Int):(selI l x l.length).length≤1:=by
 rcases Nat.lt_or_ge 1 (selI l x l.length).length with g | g
 ·exfalso
  have hs:(selI l x l.length).Pairwise (·<·):=(List.pairwise_lt_range (n:=l.length)).filter _;have h0:=List.pairwise_iff_getElem.1 hs 0 1 (by omega) g (by omega);obtain⟨a1,a2⟩:=z1j.1 (List.getElem_mem (show 0<(selI l x l.length).length by omega));obtain⟨b1,b2⟩:=z1j.1 (List.getElem_mem g);generalize (selI l x l.length)[0]=i at *
  generalize (selI l x l.length)[1]=j at *
  have:=List.pairwise_iff_getElem.1 h i j a1 b1 h0 x;rw[List.getD,List.getElem?_eq_getElem a1,Option.getD_some]at a2;rw[List.getD,List.getElem?_eq_getElem b1,Option.getD_some]at b2;exact this ⟨a2,b2⟩
 ·exact g
theorem grp_es{w:World}{l l':List FV}(hG:GrpI w l)(h:GrpK l l.length l'){f:FV}(hf:f∈l'):∃g∈l,f.es=g.es:=by
 obtain⟨hc,hn,hw,hne⟩:=h.can.at f hf;obtain⟨x,hx⟩:=cor_first hc hn;have hfk:=fun r c=>CanK.at h.can (zn.2 ⟨f,hf,rfl⟩) (f:=f.frag) hx r c;have hk:=fun r c=>h.kn x r c;rw[List.take_length]at hk;obtain⟨r0,c0,h0⟩:=hw.ne_nil hne;obtain⟨g,hg,hgx,_⟩:=(hk r0 c0).1 ((hfk r0 c0).2 h0);obtain⟨g,hg',rfl⟩:=zn.1 hg;refine⟨g,hg',vec_unique hw (hG.can g hg') fun r c=>?_⟩;rw[show KnV f.es r c↔KnK (l'.map FV.frag) x r c from(hfk r c).symm,hk];constructor
 ·rintro⟨q,hq,hqx,hqk⟩
  obtain⟨q,hq',rfl⟩:=zn.1 hq;obtain⟨i,hi,ei⟩:=List.mem_iff_getElem.1 hg';obtain⟨j,hj,ej⟩:=List.mem_iff_getElem.1 hq';have hap:=List.pairwise_iff_getElem.1 hG.apart;have:i=j:=by
   rcases Nat.lt_trichotomy i j with t | t | t
   ·exact absurd (by rw[ei,ej];exact⟨hgx,hqx⟩) (hap i j hi hj t x)
   ·exact t
   ·exact absurd (by rw[ei,ej];exact⟨hqx,hgx⟩) (hap j i hj hi t x)
  subst this;rw[ei]at ej;rw[ej];exact hqk
 ·exact fun hh=>⟨g.frag,zn.2 ⟨g,hg',rfl⟩,hgx,hh⟩
theorem grp_vecB{w:World}{l l':List FV}{V A:Nat}(hG:GrpI w l)(h:GrpK l l.length l')(hB:VecB l V A):VecB l' V A:=by
 refine⟨fun f hf=>(h.can.at f hf).2.2.1,fun f hf=>?_,fun f hf p hp=>?_⟩
 ·obtain⟨g,hg,e⟩:=grp_es hG h hf
  have e2:(f.vec.map (·.1)).length=(g.vec.map (·.1)).length:=congrArg List.length e;have:=hB.vec g hg;simp at e2
  omega
 ·obtain⟨g,hg,e⟩:=grp_es hG h hf
  have e2:p.1∈g.vec.map (·.1):=by
   have e':f.vec.map (·.1)=g.vec.map (·.1):=e;rw[← e'];exact List.mem_map.2 ⟨p,hp,rfl⟩
  obtain⟨q,hq,e3⟩:=List.mem_map.1 e2;rw[← e3];exact hB.hs g hg q hq
theorem itT_one{w:World}{b:Nat}{lo hi:Int}(h1:Word lo)(h2:Word hi)(h:w.heap[b]?=some (.cells #[.int .u64 lo,.int .u64 hi] 123 (0,0))):ItT w (.slice (some ⟨b,0,none⟩) 1 1) [(lo,hi)]:=
 ⟨_,_,rfl,prs_one h1 h2 h,Nat.le_refl _,fun e=>(by cases e),fun ad e=>by
  injection e with e
  subst e;exact⟨_,h⟩⟩
theorem z1a{P:Program}{o:Oper}{a:Act}{w:World}{next:Act→World→Prop}{Q:Exit→Act→World→Prop}(s x:Operand)(t t':TypeId)
  (ho:o.op=.call { callee:=.builtin .append,args:=#[s,x],argTypes:=#[t,t'] }) {v xv v':Value} {w':World} (hs:a.eval s=v) (hx:a.eval x=xv)
  (hr:(Builtin.append_ #[t,t'] o.type #[v,xv]).run P w=.ok v' w') (h:next (a.put o.dst v') w'):Oper.wp P o a w next Q:=by
 unfold Oper.wp execOp;simp only[ho,resolve,invoke,builtin,Sem.run_bind,Sem.run_pure,Result.andThen_ok,List.map_toArray,List.map_cons,List.map_nil,hs,hx,hr];exact h
structure RefK (l:List FV) (ps:List Iv) (V A:Nat) (k:Nat) (l':List FV):Prop where
 part:PartK ps (KnK (l.map FV.frag)) k l'
 bnd:VecB l' V A
theorem refine_any(v:Value)(l:List FV)(I V A N:Nat)(w:World)(hE:KnwAt w v l)(hO:OkK l I V A)(hI:I≤1000000)(htot:totI l≤4000000)(hlen:l.length≤10000000)
  (hV:V≤1000000) (hA:A≤1000000) (hN:∀x,(selI l x l.length).length≤N) (hVl:(N+1) * V≤5000000) (hAl:(N+1) * (A+3)≤4000000) :
  Calls Tryz.prog 39 #[v] w fun e w'=>∃v' ps l',e=.returned v'∧KRow w' w.heap.size v' l'∧PcsOk l ps∧ps.length≤1+2 * totI l∧RefK l ps (N * V) (N * (A+3)) ps.length l'∧Below w.heap.size w w':=by
 have hmx:Tryz.prog.follows .mixedOrders=true:=by kernel_rfl
 have KP:=z7 (pcs_any v l w hE hO.cor (fun f hf=>Nat.le_trans (hO.items f hf) hI) (by omega) hlen);have KAT:=z7 (fun W (hb:Below w.heap.size w W) x=>at_any v l x I V A W (hE.below hb) hO (by omega) hV hA (by omega) N (hN x) hVl hAl);have MV:=z7 (fun x=>Nat.mul_le_mul_right V (hN x));have MA:=z7 (fun x=>Nat.mul_le_mul_right (A+3) (hN x));obtain⟨NV,eNV⟩:∃NV,N * V=NV:=⟨_,rfl⟩;obtain⟨NA,eNA⟩:∃NA,N * (A+3)=NA:=⟨_,rfl⟩;rw[eNV]at MV ⊢;rw[eNA]at MA ⊢;obtain⟨a,cap,rfl,_⟩:=hE;have TOT:=z7 htot;clear hO hI hN hVl hAl eNV eNA;go_enter Tryz.func39,Tryz.ntmps39
 go_wp2_with fail
 refine KP.out.mono ?_;rintro e w1 ⟨vp,ps,rfl,hO1,hPk,hpl,hb1⟩;obtain⟨ap,cp,rfl,hPr,_,_⟩:=hO1.prs;have B1:=z7 hb1;have PK:=z7 hPk;have PL:=z7 hpl;have HP:=z7 hPr;obtain⟨n,en⟩:∃n,ps.length=n:=⟨_,rfl⟩;have EN:=z7 en;rw[en]at HP PL ⊢;have hn9:n≤1000000000:=by have:=PL.out;have:=TOT.out;omega
 clear hO1 hPk hpl hPr hb1 en;go_wp2
 go_loopw [3,9] (fun o c wr=>∃(k:Nat) (l':List FV),k≤n∧c=.int .i64 k∧KRow wr w1.heap.size o l'∧RefK l ps NV NA k l'∧Below w1.heap.size w1 wr) (fun _ c _=>n-(intOf c).toNat)
 case atStart=>exact⟨0,[],Nat.zero_le _,rfl,KRow.nil _ _,⟨PartK.zero _ _,VecB.nil _ _⟩,Below.refl _ _⟩
 case round=>
  obtain⟨k,l',hk,rfl,hR,hP,hb⟩:=hrel;have HR:=z7 hR;have HPK:=z7 hP;have HB:=z7 hb;have i0':(0:Int)≤(k:Int):=by omega
  clear hP;by_cases hlt:k<n
  ·have i1:(k:Int)<(n:Int):=by omega
   have Hr:=HP.out.below hb;obtain⟨b,off,rfl,hbl,hc1,hc2⟩:=Hr.cells k hlt;have hw:=Hr.word hlt;obtain⟨lo,elo⟩:∃lo,Lo ps k=lo:=⟨_,rfl⟩;obtain⟨hi,ehi⟩:∃hi,Hi ps k=hi:=⟨_,rfl⟩;have ELO:=z7 elo;have EHI:=z7 ehi;rw[elo]at hc1 hw;rw[ehi]at hc2 hw;have WD:=z7 hw;obtain⟨ao,co,rfl,_⟩:=zl hR.row;obtain⟨m,em⟩:∃m,l'.length=m:=⟨_,rfl⟩;have EM:=z7 em;rw[em]at HR ⊢;clear elo ehi hw Hr hR em;go_wp2_with fail
   obtain⟨wq,ewq⟩:∃wq,wr.alloc (.cells #[.int .u64 lo,.int .u64 hi] 123)=wq:=⟨_,rfl⟩;have BQ:=z7 (show Below w1.heap.size w1 wq from by rw[← ewq];exact hb.alloc hb.size _);have p1:wq.heap[wr.heap.size]?=some (.cells #[.int .u64 lo,.int .u64 hi] 123 (0,0)):=by rw[← ewq];exact ze _ _ rfl
   have RQ:=z7 (show KRow wq w1.heap.size (.slice ao m co) l' from by rw[← ewq];exact HR.out.below (zc (Below.refl _ _) _));have c0:wq.cell? ⟨wr.heap.size,0,none⟩=some (.int .u64 lo):=by simp[World.cell?,p1]
   have c1:wq.cell? ⟨wr.heap.size,1,none⟩=some (.int .u64 hi):=by simp[World.cell?,p1]
   have how:∀x,(Value.slice ao m co).ownBlock=some x→x<wr.heap.size:=fun x hx=>(HR.out.row.lt x hx).2;have nq:¬(Value.slice ao m co).ownBlock=some wr.heap.size:=fun e=>by have:=how _ e;omega
   have KA:=z7 (fun W (hX:Only (fun _=>False) wq W)=>KAT.out W (B1.out.trans ((BQ.out.trans (hX.below (n:=w1.heap.size) BQ.out.size (fun _ h=>h.elim))).mono B1.out.size)) lo);rw[ewq];clear hc1 hc2 hbl hb ewq p1 how;refine wp_region_held_drew (S:=Only (fun b=>(Value.slice ao m co).ownBlock=some b) wq) hmx (Only.refl _ _).drew (fun hS=>?_);refine tkd (i:=0) (d:=some 13) (v:=(.slice ao m co)) (hy:=.inl ⟨by rfl,?_⟩) (h:=?_)
   ·intro X hX;go_simp
   refine tkd (i:=1) (d:=some 14) (v:=(.agg #[.int .u64 lo,.int .u64 hi])) (hy:=.inl ⟨by rfl,?_⟩) (h:=?_)
   ·intro X hX;have x0:=hX.cell nq c0;have x1:=hX.cell nq c1;go_simp
   refine tkd (i:=3) (d:=some 16) (v:=(.slice a l.length cap)) (hy:=.inl ⟨by rfl,?_⟩) (h:=?_)
   ·intro X hX;go_simp
   refine tkd (i:=4) (d:=some 17) (v:=(.pointer (some ⟨wr.heap.size,0,none⟩))) (hy:=.inl ⟨by rfl,?_⟩) (h:=?_)
   ·intro X hX;go_simp
   refine tkd (i:=5) (d:=some 18) (v:=(.int .u64 lo)) (hy:=.inl ⟨by rfl,?_⟩) (h:=?_)
   ·intro X hX;have x0:=hX.cell nq c0;go_simp
   refine wpAnyH_ready (rs:=[2,6]) (by kernel_rfl) (by simp) ?_;refine AllReadyH.cons (o:=_) rfl (fun K hK=>?_) (AllReadyH.cons (o:=_) rfl (fun K hK=>?_) AllReadyH.nil)
   ·have hS:=hS.alloc (.cells #[.int .u64 lo,.int .u64 hi] 123)
    go_simp
    refine hK.out _ _ hS (fun _=>?_);clear hK K;refine wpAnyH_ready (rs:=[6]) (by kernel_rfl) (by simp) ?_;refine AllReadyH.cons (o:=_) rfl (fun K hK=>?_) AllReadyH.nil;go_simp
    refine(KA.out _ (((Only.refl (fun _=>False) wq).drew).alloc (.cells #[.int .u64 lo,.int .u64 hi] 123))).mono ?_;rintro e w7 ⟨vv,lo',rfl,hF,hH,hC,hKn,hl,hh,hb7⟩;have hS:=hS.call hb7;obtain⟨av,cv,rfl,_⟩:=hF.vecAt;have HC7:=z7 (And.intro hC (And.intro hKn (And.intro hl hh)));have HF7:=z7 (hF.base (Nat.zero_le _));have B7:=z7 hb7;obtain⟨nv,env⟩:∃nv,lo'.length=nv:=⟨_,rfl⟩;rw[env]at HF7 ⊢;clear hF hH hC hKn hl hh env hb7;go_simp
    refine hK.out _ _ hS (fun _=>?_);clear hK K;have X8:=z7 (show Only (fun _=>False) wq w7 from(((Only.refl (fun _=>False) wq).drew).alloc (.cells #[.int .u64 lo,.int .u64 hi] 123)).call B7.out);have N8:=z7 (show w7.heap[wq.heap.size]?=some (.cells #[.int .u64 lo,.int .u64 hi] 123 (0,0))from(B7.out.block _ (by simp)).trans (ze _ _ rfl));have F8:=z7 (show RowF w7 0 (.slice av nv cv) lo' from HF7.out);refine tkd (i:=7) (d:=some 20) (v:=(.agg #[.slice (some ⟨wq.heap.size,0,none⟩) 1 1,.slice av nv cv])) (hy:=.inl ⟨by rfl,?_⟩) (h:=?_)
    ·intro X hX;go_simp
    refine wpAnyH_ready (rs:=[8]) (by kernel_rfl) (by simp) ?_;refine AllReadyH.cons (o:=_) rfl (fun K hK=>?_) AllReadyH.nil;have hS:=hS.alloc (.cells #[.slice (some ⟨wq.heap.size,0,none⟩) 1 1,.slice av nv cv] 80);go_simp
    refine hK.out _ _ hS (fun _=>?_);clear hK K;refine wpAnyH_ready (rs:=[9]) (by kernel_rfl) (by simp) ?_;refine AllReadyH.cons (o:=_) rfl (fun K hK=>?_) AllReadyH.nil;have hX9:Only (fun _=>False) wq (w7.alloc (.cells #[.slice (some ⟨wq.heap.size,0,none⟩) 1 1,.slice av nv cv] 80)):=X8.out.alloc _;have g8:FragT w7 ⟨[(lo,hi)],.slice (some ⟨wq.heap.size,0,none⟩) 1 1,lo',.slice av nv cv⟩:=⟨itT_one WD.out.1 WD.out.2 N8.out,F8.out⟩;obtain⟨v',w10,hr,hK10,ho10⟩:=KRow.app (vb:=w7.heap.size) (g:=⟨[(lo,hi)],.slice (some ⟨wq.heap.size,0,none⟩) 1 1,lo',.slice av nv cv⟩) (RQ.out.only hX9 (fun _ h=>h.elim)) (g8.below (zc (Below.refl _ _) _)) (ze _ _ (by simp)) (by have h1:=HPK.out.part.len;have h2:=PL.out;have h3:=TOT.out;omega) (by have h1:=hX9.size;have h2:=BQ.out.size;omega) 23;have hS:=hS.trans ho10;have HK10:=z7 hK10;clear hK10 hX9 g8 ho10;rw[if_pos (by rfl)];refine z1a _ _ _ _ rfl rfl rfl hr ?_;refine hK.out _ _ hS (fun _=>?_);clear hK K hr;simp only[Act.put,List.setIfInBounds_toArray,List.set_cons_zero,List.set_cons_succ];refine tkd (i:=10) (d:=some 3) (v:=(v')) (hy:=.inl ⟨by rfl,?_⟩) (h:=?_)
    ·intro X hX;go_simp
    refine wpAnyH_done (by kernel_rfl) ?_ _;have B10:=z7 (BQ.out.trans ((hS.below (n:=w1.heap.size) BQ.out.size (fun b hb=>(HR.out.row.lt b hb).1)).mono (Nat.le_refl _)));have P10:=z7 (show RefK l ps NV NA (k+1) (l' ++ [⟨[(lo,hi)],.slice (some ⟨wq.heap.size,0,none⟩) 1 1,lo',.slice av nv cv⟩])from⟨HPK.out.part.snoc (by show [(lo,hi)]=_;rw[ELO.out,EHI.out]) (fun r c=>by rw[ELO.out];exact HC7.out.2.1 r c),HPK.out.bnd.snoc HC7.out.1 (Nat.le_trans HC7.out.2.2.1 (MV.out lo)) (fun p hp=>Nat.le_trans (HC7.out.2.2.2 p hp) (MA.out lo))⟩);clear hS c0 c1;go_wp2
    go_roundw
    case rel=>
     have FINAL:∃(k':Nat) (l':List FV),k'≤n∧(.int .i64 ((k:Int)+1):Value)=.int .i64 k'∧KRow w10 w1.heap.size v' l'∧RefK l ps NV NA k' l'∧Below w1.heap.size w1 w10:=⟨k+1,_,by omega,by simp,HK10.out,P10.out,B10.out⟩;first | exact FINAL | ((repeat apply Exists.intro);exact⟨FINAL,rfl⟩)
    case measure=>simp[intOf];omega
   ·go_simp
    refine(KA.out _ ((Only.refl (fun _=>False) wq).drew)).mono ?_;rintro e w7 ⟨vv,lo',rfl,hF,hH,hC,hKn,hl,hh,hb7⟩;have hS:=hS.call hb7;obtain⟨av,cv,rfl,_⟩:=hF.vecAt;have HC7:=z7 (And.intro hC (And.intro hKn (And.intro hl hh)));have HF7:=z7 (hF.base (Nat.zero_le _));have B7:=z7 hb7;obtain⟨nv,env⟩:∃nv,lo'.length=nv:=⟨_,rfl⟩;rw[env]at HF7 ⊢;clear hF hH hC hKn hl hh env hb7;go_simp
    refine hK.out _ _ hS (fun _=>?_);clear hK K;refine wpAnyH_ready (rs:=[2]) (by kernel_rfl) (by simp) ?_;refine AllReadyH.cons (o:=_) rfl (fun K hK=>?_) AllReadyH.nil;have hS:=hS.alloc (.cells #[.int .u64 lo,.int .u64 hi] 123);go_simp
    refine hK.out _ _ hS (fun _=>?_);clear hK K;have X8:=z7 (show Only (fun _=>False) wq (w7.alloc (.cells #[.int .u64 lo,.int .u64 hi] 123))from(((Only.refl (fun _=>False) wq).drew).call B7.out).alloc _);have N8:=z7 (show(w7.alloc (.cells #[.int .u64 lo,.int .u64 hi] 123)).heap[w7.heap.size]?=some (.cells #[.int .u64 lo,.int .u64 hi] 123 (0,0))from ze _ _ rfl);have F8:=z7 (show RowF (w7.alloc (.cells #[.int .u64 lo,.int .u64 hi] 123)) 0 (.slice av nv cv) lo' from HF7.out.below (zc (Below.refl _ _) _));refine tkd (i:=7) (d:=some 20) (v:=(.agg #[.slice (some ⟨w7.heap.size,0,none⟩) 1 1,.slice av nv cv])) (hy:=.inl ⟨by rfl,?_⟩) (h:=?_)
    ·intro X hX;go_simp
    refine wpAnyH_ready (rs:=[8]) (by kernel_rfl) (by simp) ?_;refine AllReadyH.cons (o:=_) rfl (fun K hK=>?_) AllReadyH.nil;have hS:=hS.alloc (.cells #[.slice (some ⟨w7.heap.size,0,none⟩) 1 1,.slice av nv cv] 80);go_simp
    refine hK.out _ _ hS (fun _=>?_);clear hK K;refine wpAnyH_ready (rs:=[9]) (by kernel_rfl) (by simp) ?_;refine AllReadyH.cons (o:=_) rfl (fun K hK=>?_) AllReadyH.nil;have hX9:Only (fun _=>False) wq ((w7.alloc (.cells #[.int .u64 lo,.int .u64 hi] 123)).alloc (.cells #[.slice (some ⟨w7.heap.size,0,none⟩) 1 1,.slice av nv cv] 80)):=X8.out.alloc _;have g8:FragT (w7.alloc (.cells #[.int .u64 lo,.int .u64 hi] 123)) ⟨[(lo,hi)],.slice (some ⟨w7.heap.size,0,none⟩) 1 1,lo',.slice av nv cv⟩:=⟨itT_one WD.out.1 WD.out.2 N8.out,F8.out⟩;obtain⟨v',w10,hr,hK10,ho10⟩:=KRow.app (vb:=(w7.heap.size+1)) (g:=⟨[(lo,hi)],.slice (some ⟨w7.heap.size,0,none⟩) 1 1,lo',.slice av nv cv⟩) (RQ.out.only hX9 (fun _ h=>h.elim)) (g8.below (zc (Below.refl _ _) _)) (ze _ _ (by simp)) (by have h1:=HPK.out.part.len;have h2:=PL.out;have h3:=TOT.out;omega) (by have h1:=hX9.size;have h2:=BQ.out.size;omega) 23;have hS:=hS.trans ho10;have HK10:=z7 hK10;clear hK10 hX9 g8 ho10;rw[if_pos (by rfl)];refine z1a _ _ _ _ rfl rfl rfl hr ?_;refine hK.out _ _ hS (fun _=>?_);clear hK K hr;simp only[Act.put,List.setIfInBounds_toArray,List.set_cons_zero,List.set_cons_succ];refine tkd (i:=10) (d:=some 3) (v:=(v')) (hy:=.inl ⟨by rfl,?_⟩) (h:=?_)
    ·intro X hX;go_simp
    refine wpAnyH_done (by kernel_rfl) ?_ _;have B10:=z7 (BQ.out.trans ((hS.below (n:=w1.heap.size) BQ.out.size (fun b hb=>(HR.out.row.lt b hb).1)).mono (Nat.le_refl _)));have P10:=z7 (show RefK l ps NV NA (k+1) (l' ++ [⟨[(lo,hi)],.slice (some ⟨w7.heap.size,0,none⟩) 1 1,lo',.slice av nv cv⟩])from⟨HPK.out.part.snoc (by show [(lo,hi)]=_;rw[ELO.out,EHI.out]) (fun r c=>by rw[ELO.out];exact HC7.out.2.1 r c),HPK.out.bnd.snoc HC7.out.1 (Nat.le_trans HC7.out.2.2.1 (MV.out lo)) (fun p hp=>Nat.le_trans (HC7.out.2.2.2 p hp) (MA.out lo))⟩);clear hS c0 c1;go_wp2
    go_roundw
    case rel=>
     have FINAL:∃(k':Nat) (l':List FV),k'≤n∧(.int .i64 ((k:Int)+1):Value)=.int .i64 k'∧KRow w10 w1.heap.size v' l'∧RefK l ps NV NA k' l'∧Below w1.heap.size w1 w10:=⟨k+1,_,by omega,by simp,HK10.out,P10.out,B10.out⟩;first | exact FINAL | ((repeat apply Exists.intro);exact⟨FINAL,rfl⟩)
    case measure=>simp[intOf];omega
  ·obtain rfl:n=k:=by omega
   have RE:=z7 (HR.out.base (base':=w.heap.size) B1.out.size);have BE:=z7 (B1.out.trans (HB.out.mono B1.out.size));clear hR hb;go_wp2
   go_ret
   have fin:∃v' ps' l'',(.returned u3:Ending)=.returned v'∧KRow wr w.heap.size v' l''∧PcsOk l ps'∧ps'.length≤1+2 * totI l∧RefK l ps' NV NA ps'.length l''∧Below w.heap.size w wr:=⟨u3,ps,l',rfl,RE.out,PK.out,by rw[EN.out];exact PL.out,by rw[EN.out];exact HPK.out,BE.out⟩;first | exact fin | ((repeat apply Exists.intro);exact fin)
structure CanR (w:World) (K:Int→Int→Int→Prop) (T V A:Nat) (v:Value) (l:List FV) (w':World):Prop where
 row:KRow w' w.heap.size v l
 can:CanL l
 kn:∀x r c,KnK (l.map FV.frag) x r c↔K x r c
 tot:totI l≤T
 len:l.length≤T
 bnd:VecB l V A
 bl:Below w.heap.size w w'
theorem z57{w:World}{v:Value}{l:List FV}(h:KnwAt w v l):∀f∈l,∀x,InL f.items x→Word x:=by
 obtain⟨a,cap,_,hK,_⟩:=h;intro f hf x hx;have:=z20 (hK.frags f hf).items.words hx;exact⟨this.1,this.2⟩
theorem knK_sel{l:List FV}{x r c:Int}(h:KnK (l.map FV.frag) x r c):selI l x l.length≠[]:=by
 rw[← knS_iff]at h;obtain⟨i,hi,_⟩:=h;intro e;rw[e]at hi
 cases hi
theorem canon_any(v:Value)(l:List FV)(I V A N:Nat)(w:World)(hE:KnwAt w v l)(hO:OkK l I V A)(hI:I≤1000000)(htot:totI l≤4000000)(hlen:l.length≤10000000)
  (hV:V≤1000000) (hA:A≤1000000) (hN:∀x,(selI l x l.length).length≤N) (hVl:N * V≤10000) (hAl:N * (A+3)≤40000) :
  Calls Tryz.prog 11 #[v] w fun e w'=>∃v' l',e=.returned v'∧CanR w (KnK (l.map FV.frag)) (1+2 * totI l) (N * V) (N * (A+3)) v' l' w':=by
 have KR:=z7 (refine_any v l I V A N w hE hO hI htot hlen hV hA hN (by rw[Nat.succ_mul];omega) (by rw[Nat.succ_mul];omega));have HW:=z7 (z57 hE);obtain⟨a,cap,rfl,_⟩:=hE;obtain⟨NV,eNV⟩:∃NV,N * V=NV:=⟨_,rfl⟩;obtain⟨NA,eNA⟩:∃NA,N * (A+3)=NA:=⟨_,rfl⟩;rw[eNV]at KR hVl ⊢;rw[eNA]at KR hAl ⊢;have HVL:=z7 hVl;have HAL:=z7 hAl;have TOT:=z7 htot;clear hO hI hN hVl hAl eNV eNA htot hlen;go_enter Tryz.func11,Tryz.ntmps11
 go_wp2_with fail
 refine KR.out.mono ?_;rintro e w1 ⟨v1,ps,l1,rfl,hK,hP,hpl,hR,hb1⟩;have hG:=hR.part.grp hP hK hR.bnd HVL.out HAL.out;have hl1:=hR.part.len;have ht1:totI l1≤ps.length:=by
  have main:∀(m:List FV),(∀f∈m,f.items.length≤1)→totI m≤m.length:=by
   intro m;induction m with
   | nil=>intro _;exact Nat.le_refl _
   | cons f m ih=>
     intro h;have h1:=h f (by simp);have h2:=ih (fun g hg=>h g (by simp[hg]));simp only[totI,List.length_cons];omega
  have:=main l1 (fun f hf=>by
   obtain⟨i,_,_,e⟩:=hR.part.it hf;rw[e];simp)
  omega
 have KG:=z7 (group_any v1 l1 w1 hK.know hG (by have:=TOT.out;omega) (by have:=TOT.out;omega));have B1:=z7 hb1;have HG:=z7 hG;have HP:=z7 hP;have HR:=z7 hR;have HPL:=z7 (And.intro hpl (And.intro hl1 ht1));obtain⟨a1,c1,rfl,_⟩:=zl hK.row;clear hG hP hR hpl hl1 ht1 hb1 hK;go_wp2_with fail
 refine KG.out.mono ?_;rintro e w2 ⟨v2,l2,rfl,hK2,hG2,hb2⟩;have R2:=z7 (hK2.base B1.out.size);have B2:=z7 (zf B1.out hb2);have HG2:=z7 hG2;obtain⟨a2,c2,rfl,_⟩:=zl hK2.row;clear hG2 hK2 hb2;go_wp2
 go_ret
 obtain⟨p1,p2,p3⟩:=HPL.out;have q1:=HG2.out.tot;have q2:=HG2.out.len;rw[List.take_length]at q1;exact⟨_,l2,rfl,R2.out,HG2.out.can,fun x r c=>by
  rw[HG2.out.kn,List.take_length];exact HR.out.part.know HP.out (fun x y h=>knK_same h) (fun x h=>⟨by
   obtain⟨f,hf,h1,_⟩:=h;obtain⟨g,hg,rfl⟩:=zn.1 hf;exact HW.out g hg x h1,knK_sel h⟩) x,by omega,by omega,grp_vecB HG.out HG2.out HR.out.bnd,B2.out⟩
theorem guard_idle(p:Addr)(w:World) :
  CallsD Tryz.prog 76 #[.pointer (some p)] .returning w fun e u' w'=>e=.returned (.tuple #[])∧u'=.returning∧w'=w:=by
 refine callsD_of_wpS Tryz.func76 rfl fun c₀ cs hu=>?_;apply wpS_seq
 apply wpS_region
 simp[wpOpsS,go_sem,recoverD,hu,Tryz.ntmps76,Exit.thenS]
 refine wpS_of_wp ?_;go_wp2
 cases c₀
 simp_all [bodyPostS,results,Tryz.results76]
structure RawK (w:World) (base:Nat) (v:Value) (l:List FV):Prop where
 row:w.ownsRow base 80 2 v l.length (cellsK l)
 frags:∀f∈l,FragAt w f
theorem RawK.know{w:World}{base:Nat}{v:Value}{l:List FV}(h:RawK w base v l):KnwAt w v l:=by
 rcases h.row.2 with⟨hv,hl⟩ | ⟨g,cap,cur,hv,hb,hc,h1,h2,h3,h4⟩
 ·have e:=List.length_eq_zero_iff.1 hl
  subst e;exact⟨none,0,hv,⟨rfl,by simp,fun i hi=>absurd hi (by simp)⟩,Nat.le_refl _⟩
 ·refine⟨_,cap,hv,⟨rfl,fun f hf=>h.frags f hf,fun i hi=>⟨g,0,rfl,zh hc,?_,?_⟩⟩,h1⟩
  ·have h5:(cur.toList.take (l.length * 2))[i * 2]?=(cellsK l)[i * 2]?:=by rw[h4]
   rw[List.getElem?_take_of_lt (by omega),(z34 hi).1]at h5;simp only[World.cell?,hc,Nat.zero_add];simpa using h5
  ·have h5:(cur.toList.take (l.length * 2))[i * 2+1]?=(cellsK l)[i * 2+1]?:=by rw[h4]
   rw[List.getElem?_take_of_lt (by omega),(z34 hi).2]at h5;simp only[World.cell?,hc,Nat.zero_add];simpa using h5
def NilOk (v:Value):Prop:=∀n c,v=.slice none n c→c=0
theorem KRow.nilOk{w:World}{base:Nat}{v:Value}{l:List FV}(h:KRow w base v l):NilOk v:=by
 intro n c e;rcases h.row.2 with⟨hv,_⟩ | ⟨g,cap,cur,hv,_⟩
 ·rw[hv]at e;cases e;rfl
 ·rw[hv]at e;cases e
theorem frag_cells{w:World}{f:FV}(h:FragAt w f):f.iv.oneCell'=true∧f.vv.oneCell'=true:=by
 obtain⟨a,cap,hv,_⟩:=h.items;obtain⟨a',cap',hv',_⟩:=h.vec;rw[hv,hv'];exact⟨rfl,rfl⟩
theorem KnowAt.news{w:World}{b off len:Nat}{l:List FV}(h:KnowAt w (some ⟨b,off,none⟩) len l):∀j u,(cellsK l)[j]?=some u→w.cell? ((⟨b,off,none⟩:Addr).add j)=some u:=by
 intro j u hj;have ea:(⟨b,off,none⟩:Addr).add j=⟨b,off+j,none⟩:=by unfold Addr.add;split<;>simp_all
 rw[ea];have hlt:j<l.length * 2:=by
  have:=(List.getElem?_eq_some_iff.1 hj).1;rw[z5e]at this;exact this
 have hl:=h.length;obtain⟨b',off',e,_,h1,h2⟩:=h.cells (j / 2) (by omega)
 cases e
 obtain⟨c1,c2⟩:=z34 (l:=l) (i:=j / 2) (by omega);rcases Nat.mod_two_eq_zero_or_one j with hm | hm
 ·have ej:j=j / 2 * 2:=by omega
  rw[← ej]at c1 h1;rw[hj]at c1;rw[h1];exact c1.symm
 ·have ej:j=j / 2 * 2+1:=by omega
  rw[← ej]at c2;rw[Nat.add_assoc,← ej]at h2;rw[hj]at c2;rw[h2];exact c2.symm
theorem z3h{ops:Array Oper}{rest:List Oper}{o:Oper}{a:Act}{Q:Exit→Act→World→Prop}{w:World}(hgd:o.guard=none)(s x:Operand)
  (ho:o.op=.call { callee:=.builtin .append,args:=#[s,x],argTypes:=#[23,23] })
  (base:Nat) (v:Value) (xs:List FV) (hs:a.eval s=v) (hown:RawK w base v xs) (v2:Value) (ys:List FV) (hx:a.eval x=v2) (hI:KnwAt w v2 ys) (hn:NilOk v2)
  (hfr:∀(f:FV) (w':World),FragAt w f→Only (fun b=>v.ownBlock=some b) w w'→f∈xs ++ ys→FragAt w' f)
  (h63:xs.length+ys.length≤100000000) (hbase:base≤w.heap.size)
  (h:∀v' w',RawK w' base v' (xs ++ ys)→w.grownBy w' v.ownBlock→wpList Tryz.prog ops Q rest (a.put o.dst v') w'):wpList Tryz.prog ops Q (o :: rest) a w:=by
 obtain⟨i0,hi,hz0,hz1,hz2⟩:=info_parts z1p;obtain⟨a2,c,rfl,hK,_⟩:=hI;have hall:∀f∈xs ++ ys,FragAt w f:=fun f hf=>by
  rcases List.mem_append.1 hf with hf | hf
  ·exact hown.frags f hf
  ·exact hK.frags f hf
 cases a2 with
 | none=>
   obtain rfl:c=0:=hn _ _ rfl;have hl:ys.length=0:=by
    by_cases e:ys.length=0
    ·exact e
    ·obtain⟨b,off,e,_⟩:=hK.cells 0 (by omega);cases e
   obtain rfl:ys=[]:=List.length_eq_zero_iff.1 hl;refine wpList_append_own_none hgd s x 23 ho base 80 i0 2 Tryz.underlying23 hi v xs.length _ hs hown.row hx (h v w ?_ ⟨rfl,rfl,rfl,Nat.le_refl _,fun _ _ _=>rfl⟩);simpa using hown
 | some ad=>
   have hnews:∀j u,(cellsK ys)[j]?=some u→w.cell? (ad.add j)=some u:=by
    by_cases e:ys.length=0
    ·obtain rfl:ys=[]:=List.length_eq_zero_iff.1 e
     intro j u hj;simp[cellsK]at hj
    ·obtain⟨b,off,e,_⟩:=hK.cells 0 (by omega)
     obtain rfl:ad=⟨b,off,none⟩:=by simpa using e
     exact hK.news
   refine wpList_append_own_at w hgd s x 23 ho base 80 i0 (.agg #[.slice none 0 0,.slice none 0 0]) 2 48 Tryz.underlying23 hi hz0 hz1 hz2 rfl (by decide) v xs.length _ hs hown.row ad ys.length c (cellsK ys) hx (by rw[z5e]) hnews (fun u hu=>by
    obtain⟨f,hf,hu⟩:=List.mem_flatMap.1 hu;have:=frag_cells (hK.frags f hf);simp at hu
    rcases hu with rfl | rfl
    ·exact this.1
    ·exact this.2) (by unfold maxLen;omega) (by omega) hbase ?_
   intro v' w' hown' hgrow _ _;have ho':Only (fun b=>v.ownBlock=some b) w w':=⟨hgrow.os,hgrow.tape,hgrow.output,hgrow.size,fun k hk hl=>hgrow.block k hk (fun e=>hl e.symm)⟩;refine h v' w' ⟨?_,fun f hf=>hfr f w' (hall f hf) ho' hf⟩ hgrow;rw[z2p,List.length_append];exact hown'
end Go.Proofs.YtbkkolfpegplgaaGreatDoor
