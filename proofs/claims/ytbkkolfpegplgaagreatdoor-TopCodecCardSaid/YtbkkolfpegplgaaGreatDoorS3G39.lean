/- slices.SortFunc of a list of intervals of the call's own; canon.Find. canon.Find, canon.Segments: the intervals of canonical knowledge by their Lo, and whose they are. wire.Encode: the bytes of the canonical form. wire's Reader: its memory, its states, the plain steps. wire's limited and finish. (Printed by wip/mkwfin.py.) wire's Reader: a number of a vector. (Printed by wip/mkwvec.py.) wire's Reader: the Lo and the Hi of a segment. wire's Reader: segment, in front of a Lo and of a Hi. wire's Reader: a segment is put to its fragment, in memory. frame.Append: the bytes of a frame. -/
import Derived.Test.YtbkkolfpegplgaaGreatDoorS3G38
import Derived.Test.YtbkkolfpegplgaaGreatDoorS3G36
import Derived.Test.YtbkkolfpegplgaaGreatDoorS3G29
import Derived.Test.YtbkkolfpegplgaaGreatDoorS3G28
import Derived.Test.YtbkkolfpegplgaaGreatDoorS3G13
import Derived.Test.YtbkkolfpegplgaaGreatDoorS3G18
import Derived.Test.YtbkkolfpegplgaaGreatDoorS3G15
import Derived.Test.YtbkkolfpegplgaaGreatDoorS3G12
import Derived.Test.YtbkkolfpegplgaaGreatDoorS3G24
import Derived.Test.YtbkkolfpegplgaaGreatDoorS3G42
import Derived.Maps.OwnSet
import Derived.Maps.Views
set_option maxHeartbeats 12800000
set_option maxRecDepth 100000
set_option linter.unusedVariables false
set_option linter.unusedSimpArgs false
namespace Go.Proofs.YtbkkolfpegplgaaGreatDoor
open Go Go.RowKit
theorem heap_putK{w:World}{g n:Nat}{os:Array Obj}{cur:Array Value}{e:TypeId}{fr:Nat×Nat}(d:Array (Int×Int))(hb:w.heap[g]?=some (.cells cur e fr)) :
  (sortWorldK encI 2 w g 0 n d os).heap[g]?=some (.cells (Sort.putCells id 0 (Sort.flatK encI 2 d) cur) e fr):=by
 have hg:g<w.heap.size:=(Array.getElem?_eq_some_iff.1 hb).1;unfold sortWorldK Sort.putRowK;rw[Sort.heap_grow_old _ _ (by simpa using hg)];simp[Sort.putRow,Sort.mapBlock,Sort.ahead,Array.getElem?_modify,hb,Sort.onCells]
theorem only_putK{w:World}{g n:Nat}{os:Array Obj}(d:Array (Int×Int)):Only (fun b=>b=g) w (sortWorldK encI 2 w g 0 n d os):=by
 unfold sortWorldK Sort.putRowK;refine⟨rfl,rfl,rfl,by simp,fun k hk hne=>?_⟩;rw[Sort.heap_grow_old _ _ (by simpa using hk)];have:g≠k:=fun e=>hne e.symm;simp[Sort.putRow,Sort.mapBlock,Sort.ahead,Array.getElem?_modify,this]
theorem take_putK(cur vs:Array Value)(h:vs.size≤cur.size):(Sort.putCells id 0 vs cur).toList.take vs.size=vs.toList:=by
 apply List.ext_getElem?
 intro j;by_cases hj:j<vs.size
 ·rw[List.getElem?_take_of_lt hj,Array.getElem?_toList]
  simp[Sort.putCells,hj,show j<cur.size by omega]
 ·rw[List.getElem?_take_eq_none (by omega),List.getElem?_eq_none (by simp;omega)]
theorem flatK_cells(zs:List Iv):(Sort.flatK encI 2 zs.toArray).toList=cellsL zs:=by
 apply List.ext_getElem?
 intro j;by_cases hj:j<zs.length * 2
 ·have hd:j / 2<zs.length:=by omega
  have e1:zs.toArray[j / 2]! = zs[j / 2]:=by simp[hd]
  have e2:(Lo zs (j / 2),Hi zs (j / 2))=zs[j / 2]:=by unfold Lo Hi;simp[List.getD,List.getElem?_eq_getElem hd]
  have e3:(Sort.flatK encI 2 zs.toArray).toList[j]?=some ((encI (Lo zs (j / 2),Hi zs (j / 2)))[j % 2]!):=by
   simp only[Sort.flatK,Array.getElem?_toList];rw[Array.getElem?_map,Array.getElem?_range];simp[hj,e2,List.getElem?_eq_getElem hd]
  rw[e3];rcases Nat.mod_two_eq_zero_or_one j with hm | hm
  ·have:=z4v zs (j / 2) hd
   rw[show j / 2 * 2=j by omega]at this;rw[this,hm];rfl
  ·have:=z4w zs (j / 2) hd
   rw[show j / 2 * 2+1=j by omega]at this;rw[this,hm];rfl
 ·rw[List.getElem?_eq_none (by simp;omega),List.getElem?_eq_none (by rw[z1e];omega)]
def sortZ (zs:List Iv):List Iv:=zs.mergeSort fun x y=>decide (x.1≤y.1)
theorem z37(zs:List Iv):(sortZ zs).Perm zs:=List.mergeSort_perm zs _
theorem z2e(zs:List Iv):(sortZ zs).length=zs.length:=(z37 zs).length_eq
theorem z31(zs:List Iv)(z:Iv):z∈sortZ zs↔z∈zs:=(z37 zs).mem_iff
def DisLo (zs:List Iv):Prop:=zs.Pairwise (fun a b=>a.1≠b.1)
theorem asc_lo{ys:List Iv}(h1:ys.Pairwise (fun a b=>a.1≤b.1))(h2:DisLo ys):ys.Pairwise (fun a b=>a.1<b.1):=(h1.and h2).imp (fun {a b} h=>by have h3:=h.1;have h4:=h.2;omega)
theorem sortZ_asc{zs:List Iv}(h:DisLo zs):(sortZ zs).Pairwise (fun a b=>a.1<b.1):=by
 have h1:(sortZ zs).Pairwise (fun a b=>decide (a.1≤b.1)=true):=List.pairwise_mergeSort (fun a b c h1 h2=>by simp at *;omega) (fun a b=>by simp;omega) zs;refine asc_lo (h1.imp fun {a b} h=>by simpa using h) ?_;exact((z37 zs).pairwise_iff (fun {a b} h=>fun e=>h e.symm)).2 h
theorem sortZ_unique{zs ys:List Iv}(h:DisLo zs)(hp:ys.Perm zs)(hs:ys.Pairwise (fun a b=>a.1≤b.1)):ys=sortZ zs:=
 z27 (lt:=fun a b:Iv=>a.1<b.1) (fun a=>by omega) (fun {a b c} h1 h2=>by omega) (asc_lo hs ((hp.pairwise_iff (fun {a b} h=>fun e=>h e.symm)).2 h)) (sortZ_asc h) fun z=>by rw[z31,hp.mem_iff]
theorem segsort_own(base g cap:Nat)(zs:List Iv)(w:World)(h:OwnL w base 123 (.slice (some ⟨g,0,none⟩) zs.length cap) zs)(hD:DisLo zs)(hn:zs.length≤1000000000) :
  Calls Tryz.prog 90 #[.slice (some ⟨g,0,none⟩) zs.length cap,.func (.func 91) #[] #[]] w fun e w'=>e=.returned (.tuple #[])∧OwnL w' base 123 (.slice (some ⟨g,0,none⟩) zs.length cap) (sortZ zs)∧Only (fun b=>b=g) w w':=by
 rcases h.row.2 with⟨hv,hl⟩ | ⟨g',cap',cur,hv,hb,hc,h1,h2,h3,h4⟩
 ·cases hv
 ·injection hv with e1 _ e3
  injection e1 with e1
  injection e1 with e1 _ _
  subst e1;subst e3;have hg:=zh hc;have hH:Sort.HoldsK encI 2 w g 0 zs.toArray:=by
   intro j hj;have hj':j<zs.length * 2:=by simpa using hj
   refine⟨?_,by simp[World.frozen?,hc]⟩;have e5:(Sort.flatK encI 2 zs.toArray)[j]?=(cellsL zs)[j]?:=by rw[← flatK_cells,Array.getElem?_toList]
   have h5:(cur.toList.take (zs.length * 2))[j]?=(cellsL zs)[j]?:=by rw[← h4]
   rw[List.getElem?_take_of_lt hj']at h5;simp only[World.cell?,hc,Nat.zero_add];simp only[Option.isSome_none,Bool.false_eq_true,if_false];rw[← Array.getElem?_toList,h5,← e5];simp[hj']
  have K:=segsort_world g cap zs.toArray w hH hg (by simp;omega);simp only[List.size_toArray]at K;refine K.mono ?_;rintro e w' ⟨rfl,d',n,os,hp,hs,rfl⟩;have hsz:d'.size=zs.length:=by simpa using hp.1
  have hperm:d'.toList.Perm zs:=by
   have:=hp.2.2;rw[Array.extract_eq_self_of_le (by omega),Array.extract_eq_self_of_le (by simp)]at this;simpa using this
  have hsorted:d'.toList.Pairwise (fun a b=>a.1≤b.1):=by
   refine List.pairwise_iff_getElem.2 fun i j hi hj hij=>?_;have hi':i<d'.size:=by simpa using hi
   have hj':j<d'.size:=by simpa using hj
   have:=hs i j (Nat.zero_le _) hij (by omega);rw[ltLoI,getElem!_pos d' i hi',getElem!_pos d' j hj']at this;simp only[Array.getElem_toList];simpa using this
  have he:d'.toList=sortZ zs:=sortZ_unique hD hperm hsorted;have hd:d'=(sortZ zs).toArray:=by rw[← he]
  subst hd;have hl:=z2e zs;refine⟨rfl,⟨⟨by rw[z1e],.inr ⟨g,cap,_,by rw[hl],hb,heap_putK _ hc,by rw[hl];exact h1,h2,by simp[Sort.putCells,h3],?_⟩⟩,fun z hz=>h.words z ((z31 zs z).1 hz)⟩,only_putK _⟩;have:=take_putK cur (Sort.flatK encI 2 (sortZ zs).toArray) (by simp;omega);rw[flatK_cells]at this;simpa using this
theorem segsort_none(w:World):Calls Tryz.prog 90 #[.slice none 0 0,.func (.func 91) #[] #[]] w fun e w'=>e=.returned (.tuple #[])∧w'=w:=by
 have hLen:=z7 (fun w=>z3f 0 w (by omega) (by omega));have e0:Lib.bitLen (0:Int).toNat=0:=by decide +kernel
 rw[e0]at hLen;clear e0;go_enter Tryz.func90,Tryz.ntmps90
 go_wp2_with fail
 refine(hLen.out _).mono ?_;rintro e w' ⟨rfl,rfl⟩;have KI:∀w:World,Calls Tryz.prog 200 #[.slice none 0 0,.int .i64 0,.int .i64 0,.func (.func 91) #[] #[]] w fun e w'=>e=.returned (.tuple #[])∧w'=w:=fun w=>by
  go_enter Tryz.func200,Tryz.ntmps200
  go_wp2
  go_loopw [8] (fun c wr=>c=.int .i64 1∧wr=w) (fun _ _=>0)
  case atStart=>exact⟨rfl,rfl⟩
  case round=>
   obtain⟨rfl,rfl⟩:=hrel;go_wp2
   go_end0
   exact⟨rfl,rfl⟩
 have KP:∀w:World,Calls Tryz.prog 148 #[.slice none 0 0,.int .i64 0,.int .i64 0,.int .i64 0,.func (.func 91) #[] #[]] w fun e w'=>e=.returned (.tuple #[])∧w'=w:=fun w=>by
  have KI':=z7 KI;clear KI;go_enter Tryz.func148,Tryz.ntmps148
  go_wp2
  go_loopw [1,2] (fun c b wr=>c=.int .i64 0∧b=.int .i64 0∧wr=w) (fun _ _ _=>0)
  case atStart=>exact⟨rfl,rfl,rfl⟩
  case round=>
   obtain⟨rfl,rfl,rfl⟩:=hrel;go_wp2_with fail
   refine(KI'.out _).mono ?_;rintro e w' ⟨rfl,rfl⟩;go_wp2
   refine bodyPost_ret (results_none rfl _ _ _) rfl ?_;exact⟨rfl,rfl⟩
 have KP':=z7 KP;clear KI KP hLen;go_wp2_with fail
 refine(KP'.out _).mono ?_;rintro e w' ⟨rfl,rfl⟩;go_wp2
 go_end0
 exact⟨rfl,rfl⟩
def findI (l:List FV) (x:Int):Nat:=(selI l x l.length).getD 0 0
theorem findI_eq{l:List FV}{x:Int}{k:Nat}(hk:k<l.length)(h0:selI l x k=[])(h1:InL (l.getD k FV.z).items x):findI l x=k:=by
 have:=(selI_at (m:=l.length) hk h1).1;rw[h0]at this;exact this
theorem findc_any(f:FV)(p:Nat)(x:Int)(w:World)(h:FragAt w f)(hC:Cor f.items)(hn:f.items.length≤100000000)(hp:w.heap[p]?=some (.cells #[.int .u64 x] 57 (0,0))) :
  Calls Tryz.prog 152 #[.agg #[f.iv,f.vv],.pointer (some ⟨p,0,none⟩)] w fun e w'=>e=.returned (.bool (decide (InL f.items x)))∧Below w.heap.size w w':=by
 have K:=z7 (fun W (hW:Below w.heap.size w W)=>rgh_any f.iv f.items x W (h.items.below hW) hC hn);obtain⟨⟨ai,ci,ei,_⟩,⟨av,cv,ev,_⟩⟩:=h;obtain⟨items,iv,vec,vv⟩:=f;simp only at ei ev K ⊢;subst ei;subst ev;obtain⟨w1,ew1⟩:∃w1,w.alloc (.cells #[.slice ai items.length ci,.slice av vec.length cv] 80)=w1:=⟨_,rfl⟩;have b1:Below w.heap.size w w1:=by rw[← ew1];exact zc (Below.refl _ _) _
 have q1:w1.heap[w.heap.size]?=some (.cells #[.slice ai items.length ci,.slice av vec.length cv] 80 (0,0)):=by rw[← ew1];exact ze _ _ rfl
 have q2:=(b1.block _ (zh hp)).trans hp;have c0:w1.cell? ⟨w.heap.size,0,none⟩=some (.slice ai items.length ci):=by simp[World.cell?,q1]
 have c1:w1.cell? ⟨p,0,none⟩=some (.int .u64 x):=by simp[World.cell?,q2]
 have B1:=z7 b1;obtain⟨ni,eni⟩:∃ni,items.length=ni:=⟨_,rfl⟩;obtain⟨nv,env⟩:∃nv,vec.length=nv:=⟨_,rfl⟩;rw[eni]at c0 ew1 K ⊢;rw[env]at ew1 ⊢;obtain⟨bb,ebb⟩:∃bb,decide (InL items x)=bb:=⟨_,rfl⟩;rw[ebb]at K ⊢;clear b1 q1 q2 hp eni env ebb hn hC;go_enter Tryz.func152,Tryz.ntmps152
 go_wp2_with fail
 refine(K.out _ B1.out).mono ?_;rintro e w3 ⟨rfl,hb3⟩;have B3:=z7 (B1.out.trans (hb3.mono B1.out.size));clear hb3;go_wp2
 go_ret
 exact⟨rfl,B3.out⟩
theorem findx_any(p:Nat)(v:Value)(l:List FV)(x:Int)(w:World)(hE:KnwAt w v l)(hC:∀f∈l,Cor f.items)(hn:∀f∈l,f.items.length≤100000000)(hlen:l.length≤1000000000)(hs:selI l x l.length≠[])(hp:w.heap[p]?=some (.cells #[.int .u64 x] 57 (0,0))) :
  Calls Tryz.prog 151 #[v,.func (.func 152) #[] #[.pointer (some ⟨p,0,none⟩)]] w fun e w'=>e=.returned (.int .i64 (findI l x))∧Below w.heap.size w w':=by
 have eg:∀args w,(callFunc 152 args).run Tryz.prog w=.ok (.enter 152 args) w:=fun _ _=>by kernel_rfl
 obtain⟨a,cap,rfl,hK,_⟩:=hE;have H:=z7 hK;have HC:=z7 hC;have HN:=z7 hn;have HS:=z7 hs;have HP:=z7 hp;obtain⟨len,elen⟩:∃len,l.length=len:=⟨_,rfl⟩;have EL:=z7 elen;rw[elen]at H HS hlen ⊢;clear hK hC hn hs hp elen;go_enter Tryz.func151,Tryz.ntmps151
 go_wp2
 go_loopw [8] (fun c wr=>∃k:Nat,k≤len∧c=.int .i64 k∧selI l x k=[]∧Below w.heap.size w wr) (fun c _=>len-(intOf c).toNat)
 case atStart=>exact⟨0,Nat.zero_le _,rfl,rfl,Below.refl _ _⟩
 case round=>
  obtain⟨k,hk,rfl,hno,hb⟩:=hrel;have HNO:=z7 hno;have HB:=z7 hb;have i0:(0:Int)≤(k:Int):=by omega
  clear hno;by_cases hlt:k<len
  ·have i1:(k:Int)<(len:Int):=by omega
   have Hr:=H.out.below hb;obtain⟨b,off,rfl,hbl,hc1,hc2⟩:=Hr.cells k hlt;have hmem:=Hr.mem hlt;have hfr:=Hr.frags _ hmem;have K1:=z7 (findc_any (l.getD k FV.z) p x wr hfr (HC.out _ hmem) (HN.out _ hmem) ((hb.block _ (zh HP.out)).trans HP.out));have KNO:=z7 (fun h:¬InL (l.getD k FV.z).items x=>selI_no (k:=k) h);have KYES:=z7 (fun h:InL (l.getD k FV.z).items x=>findI_eq (by rw[EL.out];exact hlt) HNO.out h);obtain⟨q,ep⟩:∃q,l.getD k FV.z=q:=⟨_,rfl⟩;rw[ep]at hc1 hc2 hfr K1 KNO KYES;obtain⟨⟨ai,ci,ei,_⟩,⟨av,cv,ev,_⟩⟩:=hfr;obtain⟨items,iv,vec,vv⟩:=q;simp only at hc1 hc2 ei ev K1 KNO KYES;subst ei;subst ev;obtain⟨ni,eni⟩:∃ni,items.length=ni:=⟨_,rfl⟩;obtain⟨nv,env⟩:∃nv,vec.length=nv:=⟨_,rfl⟩;rw[eni]at hc1 K1;rw[env]at hc2 K1;clear ep hb hbl Hr hmem eni env;go_wp2_with fail
   refine K1.out.mono ?_;rintro e w3 ⟨rfl,hb3⟩;have B3:=z7 (HB.out.trans (hb3.mono HB.out.size));clear hb3;by_cases hin:InL items x
   ·have e1:=KYES.out hin
    have E1:=z7 e1;rw[decide_eq_true hin];clear e1 hin;go_wp2
    go_ret
    exact⟨by rw[E1.out];rfl,B3.out⟩
   ·have e1:=KNO.out hin
    rw[HNO.out]at e1;have E1:=z7 e1;rw[decide_eq_false hin];clear e1 hin;go_wp2
    go_roundw
    case rel=>exact⟨k+1,by omega,by go_num,E1.out,B3.out⟩
    case measure=>simp[intOf];omega
  ·obtain rfl:len=k:=by omega
   exact absurd HNO.out HS.out
theorem find_any(v:Value)(l:List FV)(x:Int)(w:World)(hE:KnwAt w v l)(hC:∀f∈l,Cor f.items)(hn:∀f∈l,f.items.length≤100000000)(hlen:l.length≤1000000000)(hs:selI l x l.length≠[]) :
  Calls Tryz.prog 93 #[v,.int .u64 x] w fun e w'=>e=.returned (.int .i64 (findI l x))∧Below w.heap.size w w':=by
 have hmf:∀(fn:Fn) (first cap:Array Value) (w:World),(Instr.makeFunc fn first cap).run Tryz.prog w=.ok (.func fn first cap) w:=fun _ _ _ _=>rfl;obtain⟨w1,ew1⟩:∃w1,w.alloc (.cells #[.int .u64 x] 57)=w1:=⟨_,rfl⟩;have b1:Below w.heap.size w w1:=by rw[← ew1];exact zc (Below.refl _ _) _
 have q1:w1.heap[w.heap.size]?=some (.cells #[.int .u64 x] 57 (0,0)):=by rw[← ew1];exact ze _ _ rfl
 have K:=z7 (findx_any w.heap.size v l x w1 (hE.below b1) hC hn hlen hs q1);have B1:=z7 b1;obtain⟨a,cap,rfl,_⟩:=hE;obtain⟨r,er⟩:∃r,findI l x=r:=⟨_,rfl⟩;rw[er]at K ⊢;clear b1 q1 hC hn hs er;go_enter Tryz.func93,Tryz.ntmps93
 go_wp2_with fail
 refine K.out.mono ?_;rintro e w2 ⟨rfl,hb2⟩;have B2:=z7 (B1.out.trans (hb2.mono B1.out.size));clear hb2;go_wp2
 go_ret
 exact⟨rfl,B2.out⟩
/-! ### Segments -/
def flatZ (l:List FV):List Iv:=l.flatMap FV.items
def segZ (l:List FV):List Iv:=sortZ (flatZ l)
def idxZ (l:List FV):List Nat:=(segZ l).map fun z=>findI l z.1
theorem flatZ_take{l:List FV}{k:Nat}(h:k<l.length):flatZ (l.take (k+1))=flatZ (l.take k) ++ (l.getD k FV.z).items:=by
 rw[z2h h];unfold flatZ;rw[List.flatMap_append];simp
theorem z1z(l:List FV):(flatZ l).length=totI l:=by
 induction l with
 | nil=>rfl
 | cons f l ih=>unfold flatZ at ih ⊢;rw[List.flatMap_cons,List.length_append,ih];rfl
theorem cor_dis{zs:List Iv}(h:Cor zs):DisLo zs:=by
 refine List.pairwise_iff_getElem.2 fun i j hi hj hij=>?_;have h1:=z1f h hij hj;have h2:=(h i hi).1;have e1:Lo zs j=(zs[j]).1:=by unfold Lo;simp[List.getD,List.getElem?_eq_getElem hj]
 have e2:Lo zs i=(zs[i]).1:=by unfold Lo;simp[List.getD,List.getElem?_eq_getElem hi]
 rw[e1]at h1;rw[e2]at h2;omega
theorem cor_in{zs:List Iv}(h:Cor zs){z:Iv}(hz:z∈zs):InL zs z.1:=by
 obtain⟨i,hi,e⟩:=List.mem_iff_getElem.1 hz;have h1:=(h i hi).1;have e1:(Lo zs i,Hi zs i)=z:=by unfold Lo Hi;simp[List.getD,List.getElem?_eq_getElem hi,e]
 have e2:Lo zs i=z.1:=congrArg Prod.fst e1;have e3:Hi zs i=z.2:=congrArg Prod.snd e1;exact⟨z,hz,Int.le_refl _,by omega⟩
theorem flat_dis:∀{l:List FV},(∀f∈l,Cor f.items)→l.Pairwise (fun f g=>∀x,¬(InL f.items x∧InL g.items x))→DisLo (flatZ l)
 | [],_,_=>List.Pairwise.nil
 | f :: l,hc,hp=>by
   obtain⟨h1,h2⟩:=List.pairwise_cons.1 hp;unfold flatZ DisLo;rw[List.flatMap_cons];refine List.pairwise_append.2 ⟨cor_dis (hc f (by simp)),flat_dis (fun g hg=>hc g (by simp[hg])) h2,fun a ha b hb e=>?_⟩;obtain⟨g,hg,hb⟩:=List.mem_flatMap.1 hb;exact h1 g hg a.1 ⟨cor_in (hc f (by simp)) ha,by rw[e];exact cor_in (hc g (by simp[hg])) hb⟩
theorem seg_sel{l:List FV}(hc:∀f∈l,Cor f.items){z:Iv}(hz:z∈segZ l):selI l z.1 l.length≠[]:=by
 have h1:=(z31 _ _).1 hz;obtain⟨f,hf,h2⟩:=List.mem_flatMap.1 h1;obtain⟨i,hi,e⟩:=List.mem_iff_getElem.1 hf;intro h0;have:i∈selI l z.1 l.length:=z1j.2 ⟨hi,by rw[List.getD,List.getElem?_eq_getElem hi,Option.getD_some,e];exact cor_in (hc f hf) h2⟩;rw[h0]at this
 cases this
theorem z2n{l:List FV}{i:Nat}(h:i<(segZ l).length):(Lo (segZ l) i,Hi (segZ l) i)∈segZ l:=by
 have e1:(Lo (segZ l) i,Hi (segZ l) i)=(segZ l)[i]:=by unfold Lo Hi;simp[List.getD,List.getElem?_eq_getElem h]
 rw[e1];exact List.getElem_mem h
structure IdxR (w:World) (g n k:Nat) (l:List FV):Prop where
 cells:∃arr:Array Value,w.heap[g]?=some (.cells arr 3 (0,0))∧arr.size=n∧∀i,i<k→arr[i]?=some (.int .i64 (findI l (Lo (segZ l) i):Nat))
theorem IdxR.below{w w':World}{g n k:Nat}{l:List FV}(h:IdxR w g n k l)(hb:Below w.heap.size w w'):IdxR w' g n k l:=by
 obtain⟨arr,h1,h2,h3⟩:=h.cells;exact⟨arr,(hb.block _ (zh h1)).trans h1,h2,h3⟩
theorem IdxR.put{w:World}{g n k:Nat}{l:List FV}(h:IdxR w g n k l)(hk:k<n):IdxR (w.setCell ⟨g,k,none⟩ (.int .i64 (findI l (Lo (segZ l) k):Nat))) g n (k+1) l:=by
 obtain⟨arr,h1,h2,h3⟩:=h.cells;refine⟨_,heap_setCell_same _ _ k _ _ _ h1,by simpa using h2,fun i hi=>?_⟩;by_cases e:i=k
 ·subst e;simp[h2,hk]
 ·rw[Array.getElem?_setIfInBounds_ne (by omega)];exact h3 i (by omega)
theorem IdxR.own{w:World}{g n base:Nat}{l:List FV}(h:IdxR w g n n l)(hn:(segZ l).length=n)(hb:base≤g)(hm:n≤maxLen):OwnJ w base (.slice (some ⟨g,0,none⟩) n n) (idxZ l):=by
 obtain⟨arr,h1,h2,h3⟩:=h.cells;have hl:(idxZ l).length=n:=by unfold idxZ;rw[List.length_map];exact hn
 unfold OwnJ;refine⟨by simp[intsN],.inr ⟨g,n,arr,by rw[hl],hb,h1,by omega,hm,by omega,?_⟩⟩;rw[hl,Nat.mul_one];apply List.ext_getElem?
 intro i;by_cases hi:i<n
 ·rw[List.getElem?_take_of_lt hi,Array.getElem?_toList,h3 i hi]
  have hi2:i<(segZ l).length:=by omega
  simp[intsN,idxZ,List.getElem?_eq_getElem hi2,Lo,List.getD]
 ·rw[List.getElem?_take_eq_none (by omega),List.getElem?_eq_none (by simp[intsN];omega)]
theorem segsort_any(base:Nat)(v:Value)(zs:List Iv)(w:World)(h:OwnL w base 123 v zs)(hD:DisLo zs)(hn:zs.length≤1000000000) :
  Calls Tryz.prog 90 #[v,.func (.func 91) #[] #[]] w fun e w'=>e=.returned (.tuple #[])∧OwnL w' base 123 v (sortZ zs)∧Only (fun b=>v.ownBlock=some b) w w':=by
 rcases h.row.2 with⟨hv,hl⟩ | ⟨g,cap,cur,hv,hb,hc,h1,h2,h3,h4⟩
 ·subst hv
  obtain rfl:zs=[]:=List.length_eq_zero_iff.1 hl;refine(segsort_none w).mono ?_;rintro e w' ⟨rfl,rfl⟩;exact⟨rfl,by rw[show sortZ []=[] from by simp[sortZ]];exact⟨World.ownsRow_nil _ _ _ _,by simp⟩,Only.refl _ _⟩
 ·subst hv
  refine(segsort_own base g cap zs w h hD hn).mono ?_;rintro e w' ⟨rfl,h5,h6⟩;exact⟨rfl,h5,h6.wide (fun b hb=>by rw[hb];rfl)⟩
theorem segs_any(v:Value)(l:List FV)(b0:Nat)(w:World)(hK:KRow w b0 v l)(hC:∀f∈l,Cor f.items)(hA:l.Pairwise (fun f g=>∀x,¬(InL f.items x∧InL g.items x)))(htot:totI l≤10000000)(hlen:l.length≤10000000) :
  Calls Tryz.prog 46 #[v] w fun e w'=>∃vl vi,e=.returned (.tuple #[vl,vi])∧OwnL w' w.heap.size 123 vl (segZ l)∧OwnJ w' w.heap.size vi (idxZ l)∧Below w.heap.size w w':=by
 have hits:∀f∈l,f.items.length≤100000000:=fun f hf=>by have:=totI_mem hf;omega
 have HK:=z7 hK;have KF:=z7 (fun W (hW:Below w.heap.size w W) x hs=>find_any v l x W (hK.know.below hW) hC hits (by omega) hs);have DIS:=z7 (flat_dis hC hA);have SEL:=z7 (fun z hz=>seg_sel hC (z:=z) hz);have SL:=z7 (show(segZ l).length=totI l from by unfold segZ;rw[z2e,z1z]);obtain⟨i0,hi,hz0,hz1,hz2⟩:=info_parts info_int;obtain⟨a,cap,rfl,hKn,_⟩:=hK.know;have H:=z7 hKn;obtain⟨len,elen⟩:∃len,l.length=len:=⟨_,rfl⟩;have EL:=z7 elen;have TOT:=z7 htot;rw[elen]at H HK KF hlen ⊢;clear hK hKn hC hA htot elen hits;go_enter Tryz.func46,Tryz.ntmps46
 go_wp2
 go_loopw [4,12] (fun o c wr=>∃k:Nat,k≤len∧c=.int .i64 k∧OwnL wr w.heap.size 123 o (flatZ (l.take k))∧Below w.heap.size w wr) (fun _ c _=>len-(intOf c).toNat)
 case atStart=>exact⟨0,Nat.zero_le _,rfl,⟨World.ownsRow_nil _ _ _ _,by simp[flatZ]⟩,Below.refl _ _⟩
 case round=>
  obtain⟨k,hk,rfl,hO,hb⟩:=hrel;have HO:=z7 hO;have HB:=z7 hb;have i0':(0:Int)≤(k:Int):=by omega
  by_cases hlt:k<len
  ·have i1:(k:Int)<(len:Int):=by omega
   have Hr:=H.out.below hb;obtain⟨b,off,rfl,hbl,hc1,hc2⟩:=Hr.cells k hlt;have hmem:=Hr.mem hlt;have hfr:=(HK.out.frags _ hmem).below hb;have hft:=z7 (flatZ_take (l:=l) (k:=k) (by rw[EL.out];exact hlt));have hlt1:=z7 (show(flatZ (l.take k)).length+(l.getD k FV.z).items.length≤10000000 from by
    have h1:=totI_le l (k+1);rw[← z1z (l.take (k+1)),hft.out,List.length_append]at h1;have:=TOT.out;omega)
   obtain⟨p,ep⟩:∃p,l.getD k FV.z=p:=⟨_,rfl⟩;rw[ep]at hc1 hc2 hfr hft hlt1;obtain⟨av,cv,ev,_⟩:=hfr.vec.vecAt;obtain⟨ai,ci,ei,hP,_,hn0,_⟩:=hfr.items;obtain⟨items,iv,vec,vv⟩:=p;simp only at hc1 hc2 ei ev hP hft hlt1;subst ei;subst ev;have HPI:=z7 hP;have HN0:=z7 hn0;have n9:(wr.alloc (.cells #[.slice ai items.length ci,.slice av vec.length cv] 80)).heap[wr.heap.size]?=some (.cells #[.slice ai items.length ci,.slice av vec.length cv] 80 (0,0)):=ze _ _ rfl;obtain⟨ao,co,rfl,_⟩:=zl hO.row;have BA:=z7 (zc (Below.refl wr.heap.size wr) (.cells #[.slice ai items.length ci,.slice av vec.length cv] 80));clear hO hbl Hr hmem hfr hP ep hn0 n9;go_wp2_with(at_builtin;go_loud(refine z1s rfl _ _ rfl w.heap.size _ (flatZ (l.take k)) rfl (HO.out.only (may:=fun _=>False) (Only.of_below BA.out) (fun _ h=>h.elim)) ai items.length ci items rfl (HPI.out.below BA.out) HN0.out ?c1 ?c2 ?_))
   case c1=>exact Nat.le_trans hlt1.out (by omega)
   case c2=>have:=HB.out.size;simp;omega
   intro v' w3 hO3 hg3;have O3:=z7 (show OwnL w3 w.heap.size 123 v' (flatZ (l.take (k+1)))from by rw[hft.out];exact hO3);have hvl:∀q,(Value.slice ao (flatZ (l.take k)).length co).ownBlock=some q→w.heap.size≤q:=fun q hq=>(HO.out.row.lt q hq).1;have B3:=z7 ((HB.out.trans (BA.out.mono HB.out.size)).grown hg3 (by have:=HB.out.size;have:=BA.out.size;omega) hvl);clear hO3 hg3 hvl hb;go_wp2
   go_roundw
   case rel=>
    have FINAL:∃k':Nat,k'≤len∧(.int .i64 ((k:Int)+1):Value)=.int .i64 k'∧OwnL w3 w.heap.size 123 v' (flatZ (l.take k'))∧Below w.heap.size w w3:=⟨k+1,by omega,by simp,O3.out,B3.out⟩;first | exact FINAL | ((repeat apply Exists.intro);exact⟨FINAL,rfl⟩)
   case measure=>simp[intOf];omega
  ·obtain rfl:len=k:=by omega
   have etk:l.take len=l:=by rw[← EL.out,List.take_length]
   rw[etk]at hO;have hD:=DIS.out;have hfl:=z1z l;have KS:=z7 (segsort_any w.heap.size _ (flatZ l) wr hO hD (by have:=TOT.out;omega));obtain⟨a4,c4,rfl,_⟩:=zl hO.row;have hvl:=z7 (show ∀q,(Value.slice a4 (flatZ l).length c4).ownBlock=some q→w.heap.size≤q from fun q hq=>(hO.row.lt q hq).1);obtain⟨n,en⟩:∃n,(flatZ l).length=n:=⟨_,rfl⟩;have EN:=z7 en;have hn9:n≤10000000:=by have:=TOT.out;omega
   rw[en]at KS hvl ⊢;clear etk hD hfl hO hb en HO;go_wp2_with fail
   refine KS.out.mono ?_;rintro e w4 ⟨rfl,hO4,ho4⟩;have O4:=z7 (show OwnL w4 w.heap.size 123 (.slice a4 n c4) (segZ l)from hO4);have B4:=z7 (HB.out.trans (ho4.below (n:=w.heap.size) HB.out.size hvl.out));have SN:=z7 (show(segZ l).length=n from by rw[SL.out,← z1z,EN.out]);clear hO4 ho4 KS;go_wp2_with(first
    | (at_make;go_loud(refine wpList_make_full _ rfl _ _ 86 rfl w.heap.size 3 i0 (.int .i64 0) 1 Tryz.underlying86 hi hz0 hz1 .i64 .i64 _ _ n rfl rfl rfl rfl (by rw[hz2];omega) (by unfold maxLen;omega) B4.out.size ?_;intro w5 hown5 hgrow5;have R5:=z7 hown5;have G5:=z7 hgrow5;clear hown5 hgrow5))
    | (fail))
   have o5:Only (fun _=>False) w4 w5:=(Only.refl (fun _=>False) w4).grown G5.out (fun k hk=>by cases hk);have O5:=z7 (O4.out.only o5 (fun _ h=>h.elim));have B5:=z7 (B4.out.trans (o5.below (n:=w.heap.size) B4.out.size (fun _ h=>h.elim)));have I5:=z7 (show IdxR w5 w4.heap.size n 0 l from by
    rcases R5.out.2 with⟨hv,_⟩ | ⟨g,cap',cur,hv,hb,hc,h1,h2,h3,h4⟩
    ·cases hv
    ·injection hv with e1 e2 e3
     injection e1 with e1
     injection e1 with e1 _ _
     subst e1;subst e3;exact⟨_,hc,by omega,fun i hi=>absurd hi (by omega)⟩)
   have G4:=z7 (show ∀q,(Value.slice a4 n c4).ownBlock=some q→q≠w4.heap.size from fun q hq e=>by have:=(O4.out.row.lt q (by rw[SN.out]at *;exact hq)).2;omega);clear o5;go_wp2
   go_loopw [28] (fun c wr=>∃k:Nat,k≤n∧c=.int .i64 k∧OwnL wr w.heap.size 123 (.slice a4 n c4) (segZ l)∧IdxR wr w4.heap.size n k l∧Below w.heap.size w wr) (fun c _=>n-(intOf c).toNat)
   case atStart=>exact⟨0,Nat.zero_le _,rfl,O5.out,I5.out,B5.out⟩
   case round=>
    obtain⟨k,hk,rfl,hO,hI,hb⟩:=hrel;have HO:=z7 hO;have HI:=z7 hI;have HB:=z7 hb;have i0':(0:Int)≤(k:Int):=by omega
    by_cases hlt:k<n
    ·have i1:(k:Int)<(n:Int):=by omega
     obtain⟨a4',c4',e4,hP,_,_⟩:=hO.prs;have hlk:k<(segZ l).length:=by rw[SN.out];exact hlt
     obtain⟨b,off,rfl,hbl,hc1,hc2⟩:=hP.cells k (by rw[SN.out];exact hlt);injection e4 with e4 e41 e42
     subst e4;clear e41 e42;have KFx:=z7 (fun W (hW:Below w.heap.size w W)=>KF.out W hW (Lo (segZ l) k) (by rw[← EL.out];exact SEL.out _ (z2n hlk)));have HPUT:=z7 (fun(W:World) (hW:Below wr.heap.size wr W)=>(HI.out.below hW).put hlt);obtain⟨arr,h1,h2,h3⟩:=hI.cells;obtain⟨lo,elo⟩:∃lo,Lo (segZ l) k=lo:=⟨_,rfl⟩;obtain⟨hi',ehi⟩:∃hi,Hi (segZ l) k=hi:=⟨_,rfl⟩;rw[elo]at hc1 KFx HPUT;rw[ehi]at hc2;have HARR:=z7 h1;have HSZ:=z7 h2;obtain⟨r,er⟩:∃r,findI l lo=r:=⟨_,rfl⟩;rw[er]at KFx HPUT;have n9:(wr.alloc (.cells #[.int .u64 lo,.int .u64 hi'] 123)).heap[wr.heap.size]?=some (.cells #[.int .u64 lo,.int .u64 hi'] 123 (0,0)):=ze _ _ rfl;have BA:=z7 (zc (Below.refl wr.heap.size wr) (.cells #[.int .u64 lo,.int .u64 hi'] 123));have WG:=z7 (show w4.heap.size<wr.heap.size from zh h1);clear hO hI hP hlk h1 h2 h3 elo ehi hbl er n9;go_wp2_with fail
     refine(KFx.out _ (HB.out.trans (BA.out.mono HB.out.size))).mono ?_;rintro e w6 ⟨rfl,hb6⟩;have b6:Below wr.heap.size wr w6:=BA.out.trans (hb6.mono BA.out.size);have h6:=(b6.block _ WG.out).trans HARR.out;have ck:w6.cell? ⟨w4.heap.size,k,none⟩=some (arr[k]'(by rw[HSZ.out];exact hlt)):=by simp[World.cell?,h6]
     have fk:w6.frozen? ⟨w4.heap.size,k,none⟩=false:=frozen_of_row _ _ k _ _ h6;have P6:=z7 (HPUT.out w6 b6);have o6:Only (fun b=>b=w4.heap.size) wr (w6.setCell ⟨w4.heap.size,k,none⟩ (.int .i64 (r:Nat))):=(Only.of_below (may:=fun b=>b=w4.heap.size) b6).setCell (p:=⟨w4.heap.size,k,none⟩) (.inl rfl) _;have O6:=z7 (show OwnL _ w.heap.size 123 (.slice (some ⟨b,off,none⟩) n c4) (segZ l)from⟨zo HO.out.row o6 (fun q hq e=>G4.out q hq e),HO.out.words⟩);have B6:=z7 (HB.out.trans (o6.below (n:=w.heap.size) HB.out.size (fun q hq=>by have:=B4.out.size;omega)));clear hb6 b6 h6 o6 hb;go_wp2
     go_roundw
     case rel=>
      have FINAL:∃k':Nat,k'≤n∧(.int .i64 ((k:Int)+1):Value)=.int .i64 k'∧OwnL (w6.setCell ⟨w4.heap.size,k,none⟩ (.int .i64 (r:Nat))) w.heap.size 123 (.slice (some ⟨b,off,none⟩) n c4) (segZ l)∧IdxR (w6.setCell ⟨w4.heap.size,k,none⟩ (.int .i64 (r:Nat))) w4.heap.size n k' l∧Below w.heap.size w (w6.setCell ⟨w4.heap.size,k,none⟩ (.int .i64 (r:Nat))):=⟨k+1,by omega,by simp,O6.out,P6.out,B6.out⟩;first | exact FINAL | ((repeat apply Exists.intro);exact⟨FINAL,rfl⟩)
     case measure=>simp[intOf];omega
    ·obtain rfl:n=k:=by omega
     have OJ:=z7 (HI.out.own (base:=w.heap.size) SN.out B4.out.size (by unfold maxLen;omega));clear hO hI hb;go_wp2
     go_ret2
     exact⟨_,_,rfl,HO.out,OJ.out,HB.out⟩
def weV (l:List FV):Nat→List Int
 | 0=>[(l.length:Int)]
 | k+1=>weV l k ++ numsV (l.getD k FV.z).es
def segT (l:List FV) (k:Nat):List Int:=[gapD (segZ l) 0 k,Hi (segZ l) k-Lo (segZ l) k,(findI l (Lo (segZ l) k):Nat)]
def weS (l:List FV):Nat→List Int
 | 0=>weV l l.length ++ [((segZ l).length:Int)]
 | k+1=>weS l k ++ segT l k
def weN (l:List FV):List Int:=weS l (segZ l).length
theorem weV_mono(l:List FV)(k:Nat):∀j,(weV l k).length≤(weV l (k+j)).length
 | 0=>Nat.le_refl _
 | j+1=>by
   have:=weV_mono l k j;rw[show weV l (k+(j+1))=weV l (k+j) ++ numsV (l.getD (k+j) FV.z).es from rfl,List.length_append];omega
theorem weS_mono(l:List FV)(k:Nat):∀j,(weS l k).length≤(weS l (k+j)).length
 | 0=>Nat.le_refl _
 | j+1=>by
   have:=weS_mono l k j;rw[show weS l (k+(j+1))=weS l (k+j) ++ segT l (k+j)from rfl,List.length_append];omega
theorem weV_le{l:List FV}{k:Nat}(h:k≤l.length):(weV l k).length+1≤(weN l).length:=by
 have h1:=weV_mono l k (l.length-k);rw[show k+(l.length-k)=l.length by omega]at h1;have h2:=weS_mono l 0 (segZ l).length;rw[Nat.zero_add]at h2;have h3:(weS l 0).length=(weV l l.length).length+1:=by simp[weS]
 unfold weN;omega
theorem weS_le{l:List FV}{k:Nat}(h:k≤(segZ l).length):(weS l k).length≤(weN l).length:=by
 have h1:=weS_mono l k ((segZ l).length-k);rw[show k+((segZ l).length-k)=(segZ l).length by omega]at h1;exact h1
theorem seg_apart:∀{l:List FV},(∀f∈l,Cor f.items)→l.Pairwise (fun f g=>∀x,¬(InL f.items x∧InL g.items x))→(flatZ l).Pairwise (fun a b=>a.2<b.1∨b.2<a.1)
 | [],_,_=>List.Pairwise.nil
 | f :: l,hc,hp=>by
   obtain⟨h1,h2⟩:=List.pairwise_cons.1 hp;unfold flatZ;rw[List.flatMap_cons];have hf:=hc f (by simp);refine List.pairwise_append.2 ⟨List.pairwise_iff_getElem.2 fun i j hi hj hij=>?_,seg_apart (fun g hg=>hc g (by simp[hg])) h2,fun a ha b hb=>?_⟩
   ·have h3:=z1f hf hij hj
    have e1:Lo f.items j=(f.items[j]).1:=by unfold Lo;simp[List.getD,List.getElem?_eq_getElem hj]
    have e2:Hi f.items i=(f.items[i]).2:=by unfold Hi;simp[List.getD,List.getElem?_eq_getElem hi]
    rw[e1,e2]at h3;exact .inl (by omega)
   ·obtain⟨g,hg,hb⟩:=List.mem_flatMap.1 hb
    have hgc:=hc g (by simp[hg]);have n1:=h1 g hg a.1;have n2:=h1 g hg b.1;have i1:=cor_in hf ha;have i2:=cor_in hgc hb;have l1:a.1≤a.2:=cor_le hf ha;have l2:b.1≤b.2:=cor_le hgc hb;rcases Int.lt_or_le a.2 b.1 with t | t
    ·exact .inl t
    ·refine .inr (Int.lt_of_not_ge fun t2=>?_)
     by_cases t3:a.1≤b.1
     ·exact n2 ⟨⟨a,ha,t3,t⟩,i2⟩
     ·exact n1 ⟨i1,⟨b,hb,by omega,t2⟩⟩
where
 cor_le {zs:List Iv} (h:Cor zs) {z:Iv} (hz:z∈zs):z.1≤z.2:=by
  obtain⟨i,hi,e⟩:=List.mem_iff_getElem.1 hz;have h1:=(h i hi).1;have e1:(Lo zs i,Hi zs i)=z:=by unfold Lo Hi;simp[List.getD,List.getElem?_eq_getElem hi,e]
  have e2:Lo zs i=z.1:=congrArg Prod.fst e1;have e3:Hi zs i=z.2:=congrArg Prod.snd e1;omega
theorem seg_le{l:List FV}(hc:∀f∈l,Cor f.items){z:Iv}(hz:z∈segZ l):z.1≤z.2:=by
 obtain⟨f,hf,h2⟩:=List.mem_flatMap.1 ((z31 _ _).1 hz);exact seg_apart.cor_le (hc f hf) h2
theorem seg_apTo{l:List FV}(hc:∀f∈l,Cor f.items)(hp:l.Pairwise (fun f g=>∀x,¬(InL f.items x∧InL g.items x))):ApTo (segZ l) 0 (segZ l).length:=by
 intro i hi;have m1:=z2n hi;have l1:=seg_le hc m1;refine⟨l1,fun h0=>?_⟩;have m2:=z2n (l:=l) (i:=i-1) (by omega);have l2:=seg_le hc m2;have ha:(segZ l).Pairwise (fun a b=>a.2<b.1∨b.2<a.1):=((z37 (flatZ l)).pairwise_iff (fun {a b} h=>h.symm)).2 (seg_apart hc hp);have h1:=List.pairwise_iff_getElem.1 ha (i-1) i (by omega) hi (by omega);have h2:=List.pairwise_iff_getElem.1 (sortZ_asc (flat_dis hc hp)) (i-1) i (by show i-1<(segZ l).length;omega) hi (by omega);have e1:Lo (segZ l) i=((segZ l)[i]).1:=by unfold Lo;simp[List.getD,List.getElem?_eq_getElem hi]
 have e2:Hi (segZ l) (i-1)=((segZ l)[i-1]'(by omega)).2:=by unfold Hi;simp[List.getD,List.getElem?_eq_getElem (show i-1<(segZ l).length by omega)]
 have e3:Hi (segZ l) i=((segZ l)[i]).2:=by unfold Hi;simp[List.getD,List.getElem?_eq_getElem hi]
 have e4:Lo (segZ l) (i-1)=((segZ l)[i-1]'(by omega)).1:=by unfold Lo;simp[List.getD,List.getElem?_eq_getElem (show i-1<(segZ l).length by omega)]
 have h2':((segZ l)[i-1]'(by omega)).1<((segZ l)[i]).1:=h2;simp only at l1 l2;rw[e1,e2];rw[e1,e3]at l1;rw[e2,e4]at l2;rcases h1 with h1 | h1
 ·exact⟨h1,by omega⟩
 ·omega
theorem findI_lt{l:List FV}{x:Int}(h:selI l x l.length≠[]):findI l x<l.length:=by
 unfold findI
 cases hs:selI l x l.length with
 | nil=>exact absurd hs h
 | cons i s=>
   have:i∈selI l x l.length:=by rw[hs];simp
   simpa[List.getD]using (z1j.1 this).1
theorem dif_at(zs:List Iv)(ap:Int):∀(n k:Nat),k<n→(dif zs ap n).getD (2 * k) 0=gapD zs ap k∧(dif zs ap n).getD (2 * k+1) 0=Hi zs k-Lo zs k
 | 0,_,h=>absurd h (by omega)
 | n+1,k,h=>by
   have hl:=z2k zs ap n;rw[show dif zs ap (n+1)=dif zs ap n ++ [gapD zs ap n,Hi zs n-Lo zs n] from rfl];by_cases e:k<n
   ·have ih:=dif_at zs ap n k e
    simp only[List.getD]at ih ⊢;rw[List.getElem?_append_left (by omega),List.getElem?_append_left (by omega)];exact ih
   ·obtain rfl:k=n:=by omega
    simp only[List.getD];rw[List.getElem?_append_right (by omega),List.getElem?_append_right (by omega),hl];simp
theorem idx_at{l:List FV}{k:Nat}(h:k<(segZ l).length):((idxZ l).map (fun(i:Nat)=>(i:Int))).getD k 0=(findI l (Lo (segZ l) k):Nat):=by
 unfold idxZ Lo;simp[List.getD,List.getElem?_eq_getElem h]
theorem keepI{w w':World}{b b':Nat}{v vd:Value}{zs ds:List Int}(hB:OwnB w b v zs)(hD:OwnI w b' vd ds)(ho:Only (fun q=>v.ownBlock=some q) w w'):OwnI w' b' vd ds:=
 hD.only ho (fun k hk hv=>Typed.ne (zj hB.row hv) (zj hD.row hk) (by decide) rfl)
theorem keepJ{w w':World}{b b':Nat}{v vd:Value}{zs:List Int}{ds:List Nat}(hB:OwnB w b v zs)(hD:OwnJ w b' vd ds)(ho:Only (fun q=>v.ownBlock=some q) w w'):OwnJ w' b' vd ds:=
 zo hD ho (fun k hk hv=>Typed.ne (zj hB.row hv) (zj hD hk) (by decide) rfl)
theorem z4u{w:World}{base n cap:Nat}{t:TypeId}{ad:Option Addr}{xs:List Value}(h:w.ownsRow base t 1 (.slice ad n cap) n xs)(h0:0<n):∃g,ad=some ⟨g,0,none⟩∧∀i,i<n→w.cell? ⟨g,i,none⟩=xs[i]?:=by
 rcases h.2 with⟨_,hl⟩ | ⟨g,cap',cur,hv,hb,hc,h1,h2,h3,h4⟩
 ·omega
 ·injection hv with e1 e2 e3
  refine⟨g,e1,fun i hi=>?_⟩;have h5:(cur.toList.take (n * 1))[i]?=xs[i]?:=by rw[h4]
  rw[Nat.mul_one,List.getElem?_take_of_lt hi]at h5;simp only[World.cell?,hc];simpa using h5
theorem rowI_at{w:World}{base n cap g:Nat}{ds:List Int}(h:OwnI w base (.slice (some ⟨g,0,none⟩) n cap) ds)(hl:ds.length=n){i:Nat}(hi:i<n):w.cell? ⟨g,i,none⟩=some (.int .u64 (ds.getD i 0)):=by
 have hr:=h.row;rw[hl]at hr;obtain⟨g',e,hc⟩:=z4u hr (by omega)
 cases e
 rw[hc i hi];simp[List.getD,List.getElem?_eq_getElem (show i<ds.length by omega)]
theorem rowJ_at{w:World}{base n cap g:Nat}{ds:List Nat}(h:OwnJ w base (.slice (some ⟨g,0,none⟩) n cap) ds)(hl:ds.length=n){i:Nat}(hi:i<n):w.cell? ⟨g,i,none⟩=some (.int .i64 ((ds.map (fun(i:Nat)=>(i:Int))).getD i 0)):=by
 have hr:=h;unfold OwnJ at hr;rw[hl]at hr;obtain⟨g',e,hc⟩:=z4u hr (by omega)
 cases e
 rw[hc i hi];simp[intsN,List.getD,List.getElem?_eq_getElem (show i<ds.length by omega)]
structure EncB (l:List FV):Prop where
 num:10 * (weN l).length≤3900000000
 hs:∀f∈l,∀e∈f.es,e.hs.length≤1000000
 seg:(segZ l).length≤1000000
def WEncR (w:World) (k:List FV) (T V A:Nat) (e:Ending) (w':World):Prop:=∃vb l',e=.returned (.tuple #[vb,.nilIface])∧CanL l'∧(∀x r c,KnK (l'.map FV.frag) x r c↔KnK (k.map FV.frag) x r c)∧totI l'≤T∧VecB l' V A∧OwnB w' w.heap.size vb (joinB (weN l'))∧Below w.heap.size w w'
theorem wenc_any(v:Value)(l:List FV)(I V A N:Nat)(w:World)(hE:KnwAt w v l)(hO:OkK l I V A)(hI:I≤1000000)(htot:totI l≤4000000)(hlen:l.length≤10000000)
  (hV:V≤1000000) (hA:A≤1000000) (hN:∀x,(selI l x l.length).length≤N) (hVl:N * V≤10000) (hAl:N * (A+3)≤40000)
  (hbig:∀l',CanL l'→(∀x r c,KnK (l'.map FV.frag) x r c↔KnK (l.map FV.frag) x r c)→totI l'≤1+2 * totI l→VecB l' (N * V) (N * (A+3))→EncB l') :
  Calls Tryz.prog 13 #[v] w fun e w'=>WEncR w l (1+2 * totI l) (N * V) (N * (A+3)) e w':=by
 have KC:=z7 (z4c v l w hE hO.cor hO.right (by omega));have KN:=z7 (fun W (hW:Below w.heap.size w W)=>canon_any v l I V A N W (hE.below hW) hO hI htot hlen hV hA hN hVl hAl);have BIG:=z7 hbig;have TOT:=z7 htot;obtain⟨a,cap,rfl,_⟩:=hE;obtain⟨NV,eNV⟩:∃NV,N * V=NV:=⟨_,rfl⟩;obtain⟨NA,eNA⟩:∃NA,N * (A+3)=NA:=⟨_,rfl⟩;rw[eNV]at KN BIG ⊢;rw[eNA]at KN BIG ⊢;clear hO hI htot hlen hV hA hN hVl hAl hbig eNV eNA;go_enter Tryz.func13,Tryz.ntmps13
 go_wp2_with fail
 refine KC.out.mono ?_;rintro e w1 ⟨rfl,hb1⟩;have B1:=z7 hb1;clear hb1;go_wp2_with fail
 refine(KN.out _ B1.out).mono ?_;rintro e w2 ⟨v2,c,rfl,hR⟩;have BG:=z7 (BIG.out c hR.can hR.kn hR.tot hR.bnd);have HR:=z7 hR;have B2:=z7 (B1.out.trans (hR.bl.mono B1.out.size));obtain⟨a2,c2,rfl,hKn,_⟩:=hR.row.know;have H:=z7 hKn;have hlc:=z7 (show c.length≤390000000 from by
  have h1:=weV_le (l:=c) (k:=0) (Nat.zero_le _);have h2:=BG.out.num;have h3:∀j,j≤(weV c j).length:=fun j=>by
   induction j with
   | zero=>omega
   | succ j ih=>
     have h4:1≤(numsV (c.getD j FV.z).es).length:=by
      have main:∀(es:List Ent) k,1≤(numsTo es k).length:=fun es k=>by
       induction k with
       | zero=>simp[numsTo]
       | succ k ih=>rw[show numsTo es (k+1)=numsTo es k ++ numE (repN es k) (es.getD k Ent.z)from rfl,List.length_append];omega
      exact main _ _
     rw[show weV c (j+1)=weV c j ++ numsV (c.getD j FV.z).es from rfl,List.length_append];omega
  have h5:=h3 c.length;have h6:=weV_le (l:=c) (k:=c.length) (Nat.le_refl _);omega)
 obtain⟨len,elen⟩:∃len,c.length=len:=⟨_,rfl⟩;have EL:=z7 elen;rw[elen]at H hlc ⊢;have w64:IntKind.u64.wrap (len:Int)=len:=z11 ⟨by omega,by have:=hlc.out;omega⟩;have hl9:=hlc.out;clear hR hKn elen;go_wp2_with fail
 refine(append_any w2 _ [] len w2 (OwnB.nil _ _) (Below.refl _ _) ⟨by omega,by omega⟩ (by simp)).mono ?_;rintro e w3 ⟨v3,rfl,hO3,hb3⟩;have O3:=z7 (show OwnB w3 w2.heap.size v3 (joinB (weV c 0))from by
  rw[show weV c 0=[(c.length:Int)] from rfl,EL.out,show joinB [(len:Int)]=vb 10 (len:Int) ++ [] from rfl,List.append_nil];exact hO3)
 have B3:=z7 hb3;clear hO3 hb3;go_wp2
 go_loopw [6,29] (fun o i wr=>∃k:Nat,k≤len∧i=.int .i64 k∧OwnB wr w2.heap.size o (joinB (weV c k))∧Below w2.heap.size w2 wr) (fun _ i _=>len-(intOf i).toNat)
 case atStart=>exact⟨0,Nat.zero_le _,rfl,O3.out,B3.out⟩
 case round=>
  obtain⟨k,hk,rfl,hO,hb⟩:=hrel;have HO:=z7 hO;have HB:=z7 hb;have i0':(0:Int)≤(k:Int):=by omega
  by_cases hlt:k<len
  ·have i1:(k:Int)<(len:Int):=by omega
   have Hr:=H.out.below hb;obtain⟨b,off,rfl,hbl,hc1,hc2⟩:=Hr.cells k hlt;have hmem:=H.out.mem hlt;have hfr:=HR.out.row.frags _ hmem;have hcn:=HR.out.can.at _ hmem;have hbh:=BG.out.hs _ hmem;have hst:=z7 (show weV c (k+1)=weV c k ++ numsV (c.getD k FV.z).es from rfl);have hle:=z7 (weV_le (l:=c) (k:=k+1) (by rw[EL.out];exact hlt));obtain⟨p,ep⟩:∃p,c.getD k FV.z=p:=⟨_,rfl⟩;rw[ep]at hc1 hc2 hfr hcn hbh hst;obtain⟨av,cv,ev,hEn,_⟩:=hfr.vec.vecAt;obtain⟨ai,ci,ei,_⟩:=hfr.items.rg;obtain⟨items,iv,vec,vv⟩:=p;simp only at hc1 hc2 ei ev hEn hcn hbh hst;subst ei;subst ev;have hmost:=z7 (show(joinB (weV c k)).length+10 * (numsV (vec.map (·.1))).length≤3900000000 from by
    have h1:=z12 (weV c k);have h2:=hle.out;have h3:=BG.out.num;rw[hst.out,List.length_append]at h2;have h4:(numsV (FV.mk items (.slice ai items.length ci) vec (.slice av vec.length cv)).es).length=(numsV (vec.map (·.1))).length:=rfl;omega)
   have n9:(wr.alloc (.cells #[.slice ai items.length ci,.slice av vec.length cv] 80)).heap[wr.heap.size]?=some (.cells #[.slice ai items.length ci,.slice av vec.length cv] 80 (0,0)):=ze _ _ rfl;have BA:=z7 (zc (Below.refl wr.heap.size wr) (.cells #[.slice ai items.length ci,.slice av vec.length cv] 80));have KP:=z7 (pappend_any w2 u6 (joinB (weV c k)) av vec.length cv vec _ _ (HO.out.below BA.out) (HB.out.trans (BA.out.mono HB.out.size)) hEn.at' rfl (CanW.v hcn.2.2.1) hbh hmost.out);obtain⟨ni,eni⟩:∃ni,items.length=ni:=⟨_,rfl⟩;obtain⟨nv,env⟩:∃nv,vec.length=nv:=⟨_,rfl⟩;rw[eni]at hc1 KP BA;rw[env]at hc2 KP BA;obtain⟨ao,co,eo,_⟩:=hO.ints (by have:=z12 (weV c k);have:=hmost.out;omega);subst eo;clear hO hbl Hr hmem hfr hcn hbh hEn ep eni env n9;go_wp2_with fail
   refine KP.out.mono ?_;rintro e w5 ⟨v5,rfl,hO5,hb5⟩;have O5:=z7 (show OwnB w5 w2.heap.size v5 (joinB (weV c (k+1)))from by rw[hst.out,zt];exact hO5);have B5:=z7 hb5;clear hO5 hb5 hb;go_wp2
   go_roundw
   case rel=>
    have FINAL:∃k':Nat,k'≤len∧(.int .i64 ((k:Int)+1):Value)=.int .i64 k'∧OwnB w5 w2.heap.size v5 (joinB (weV c k'))∧Below w2.heap.size w2 w5:=⟨k+1,by omega,by simp,O5.out,B5.out⟩;first | exact FINAL | ((repeat apply Exists.intro);exact⟨FINAL,rfl⟩)
   case measure=>simp[intOf];omega
  ·obtain rfl:len=k:=by omega
   obtain⟨wo,hwo⟩:∃wo:World,wo=wr:=⟨_,rfl⟩;subst hwo;have KS:=z7 (segs_any (.slice a2 c.length c2) c w1.heap.size wo (HR.out.row.below hb) (fun f hf=>(HR.out.can.at f hf).1) HR.out.can.apart' (by have:=HR.out.tot;have:=TOT.out;omega) (by have:=HR.out.len;have:=TOT.out;omega));have SAP:=z7 (seg_apTo (l:=c) (fun f hf=>(HR.out.can.at f hf).1) HR.out.can.apart');have FLT:=z7 (fun k (hk:k<(segZ c).length)=>findI_lt (seg_sel (l:=c) (fun f hf=>(HR.out.can.at f hf).1) (z2n hk)));rw[EL.out]at KS;obtain⟨au6,cu6,e6,_⟩:=hO.ints (by have:=z12 (weV c len);have h2:=weV_le (l:=c) (k:=len) (by rw[EL.out];omega);have h3:=BG.out.num;omega);subst e6;clear hO hb;go_wp2_with fail
   refine KS.out.mono ?_;rintro e w5 ⟨vl,vi,rfl,hL,hJ,hb5⟩;have B5:=z7 (HB.out.trans (hb5.mono HB.out.size));have O5:=z7 (HO.out.below hb5);have hsg:=BG.out.seg;obtain⟨al,cl,rfl,hPl,_,_⟩:=hL.prs;obtain⟨ai,ci,rfl,hIi⟩:=hJ.ints (by unfold idxZ;rw[List.length_map];omega) (fun x hx=>by
    unfold idxZ at hx;obtain⟨z,hz,rfl⟩:=List.mem_map.1 hx;have:=findI_lt (seg_sel (l:=c) (fun f hf=>(HR.out.can.at f hf).1) hz);have:=EL.out;omega)
   have hil:(idxZ c).length=(segZ c).length:=by unfold idxZ;rw[List.length_map]
   rw[hil]at hIi ⊢;have PL:=z7 hPl;have II:=z7 hIi;obtain⟨n,en⟩:∃n,(segZ c).length=n:=⟨_,rfl⟩;have EN:=z7 en;rw[en]at PL II hsg SAP FLT ⊢;have KD:=z7 (diffs_any al n cl (segZ c) 0 w5 PL.out ⟨by omega,by omega⟩ hsg);have JJ:=z7 (show OwnJ w5 wo.heap.size (.slice ai n ci) (idxZ c)from by rw[← en,← hil];exact hJ);clear hL hJ hb5 hPl hIi hil en;go_wp2_with fail
   refine KD.out.mono ?_;rintro e w6 ⟨hb6,hor⟩;rcases hor with⟨_,vd,rfl,hD⟩ | ⟨hno,_⟩
   ·have DL:=z7 (z2k (segZ c) 0 n)
    obtain⟨ad,cd,rfl,hId,_⟩:=hD.ints (by rw[DL.out];omega);rw[DL.out]at hId ⊢;have ID:=z7 hId;have DD:=z7 (show OwnI w6 w5.heap.size (.slice ad (2 * n) cd) (dif (segZ c) 0 n)from by have:=hD;rwa [DL.out]at this);have J6:=z7 (show OwnJ w6 wo.heap.size (.slice ai n ci) (idxZ c)from zo JJ.out (Only.of_below (may:=fun _=>False) hb6) (fun _ _ h=>h));have B6:=z7 (B5.out.trans (hb6.mono B5.out.size));have O6:=z7 (O5.out.below hb6);have I6:=z7 (II.out.below hb6);have n64:IntKind.u64.wrap (n:Int)=n:=z11 ⟨by omega,by omega⟩;clear hD hId hb6;go_wp2_with fail
    refine(z1x w2 _ (joinB (weV c len)) n w6 O6.out B6.out ⟨by omega,by omega⟩ (by have:=z12 (weV c len);have h2:=weV_le (l:=c) (k:=len) (by rw[EL.out];omega);have h3:=BG.out.num;omega)).mono ?_;rintro e w7 ⟨v7,rfl,hO7,hb7,hg7⟩;have D7:=z7 (keepI O6.out DD.out hg7.only);have J7:=z7 (keepJ O6.out J6.out hg7.only);have O7:=z7 (show OwnB w7 w2.heap.size v7 (joinB (weS c 0))from by
     rw[show weS c 0=weV c c.length ++ [((segZ c).length:Int)] from rfl,z1m,EL.out,EN.out];exact hO7)
    have B7:=z7 hb7;clear hO7 hb7 hg7;go_wp2
    go_loopw [6,55] (fun o i W=>∃k:Nat,k≤n∧i=.int .i64 k∧OwnB W w2.heap.size o (joinB (weS c k))∧OwnI W w5.heap.size (.slice ad (2 * n) cd) (dif (segZ c) 0 n)∧OwnJ W wo.heap.size (.slice ai n ci) (idxZ c)∧Below w2.heap.size w2 W) (fun _ i _=>n-(intOf i).toNat)
    case atStart=>exact⟨0,Nat.zero_le _,rfl,O7.out,D7.out,J7.out,B7.out⟩
    case round=>
     obtain⟨k,hk,rfl,hO,hD,hJ,hb⟩:=hrel;have P0:=z7 (And.intro hO (And.intro hD (And.intro hJ hb)));have i0':(0:Int)≤(k:Int):=by omega
     by_cases hlt:k<n
     ·have i1:(k:Int)<(n:Int):=by omega
      have hDL:(dif (segZ c) 0 n).length=2 * n:=DL.out;have hJL:(idxZ c).length=n:=by unfold idxZ;rw[List.length_map,EN.out]
      obtain⟨gd,egd,-⟩:=z4u (show wr.ownsRow w5.heap.size 57 1 (.slice ad (2 * n) cd) (2 * n) _ from by have:=hD.row;rw[hDL]at this;exact this) (by omega);obtain⟨gi,egi,-⟩:=z4u (show wr.ownsRow wo.heap.size 3 1 (.slice ai n ci) n _ from by have:=hJ;unfold OwnJ at this;rw[hJL]at this;exact this) (by omega);subst egd;subst egi;obtain⟨da1,da2⟩:=dif_at (segZ c) 0 n k hlt;have ja:=idx_at (l:=c) (k:=k) (by rw[EN.out];exact hlt);have hfl:=FLT.out k hlt;have hgw:=z7 (show ∀i,i<2 * n→Word ((dif (segZ c) 0 n).getD i 0)from fun i hi=>hD.words _ (by rw[List.getD,List.getElem?_eq_getElem (by omega),Option.getD_some];exact List.getElem_mem _));obtain⟨g0,eg0⟩:∃g0,gapD (segZ c) 0 k=g0:=⟨_,rfl⟩;obtain⟨g1,eg1⟩:∃g1,Hi (segZ c) k-Lo (segZ c) k=g1:=⟨_,rfl⟩;obtain⟨g2,eg2⟩:∃g2,findI c (Lo (segZ c) k)=g2:=⟨_,rfl⟩;have HST:=z7 (show weS c (k+1)=weS c k ++ [g0] ++ [g1] ++ [((g2:Nat):Int)] from by
       rw[show weS c (k+1)=weS c k ++ segT c k from rfl];unfold segT;rw[eg0,eg1,eg2];simp)
      have hle:=weS_le (l:=c) (k:=k+1) (by rw[EN.out];exact hlt);rw[HST.out]at hle;have HLE3:=z7 (show(weS c k ++ [g0] ++ [g1]).length≤(weN c).length from by simp at hle ⊢;omega);have HLE2:=z7 (show(weS c k ++ [g0]).length≤(weN c).length from by simp at hle ⊢;omega);have HLE1:=z7 (show(weS c k).length≤(weN c).length from by simp at hle ⊢;omega);have WD1:=z7 (show Word g0 from by have:=hgw.out (2 * k) (by omega);rwa [da1,eg0]at this);have WD2:=z7 (show Word g1 from by have:=hgw.out (2 * k+1) (by omega);rwa [da2,eg1]at this);have hg2:g2≤390000000:=by have h1:=hfl;rw[eg2,EL.out]at h1;omega
      have WD3:=z7 (show Word ((g2:Nat):Int)from⟨by omega,by omega⟩);have CD:=z7 (fun(W:World) (h:OwnI W w5.heap.size (.slice (some ⟨gd,0,none⟩) (2 * n) cd) (dif (segZ c) 0 n))=>And.intro (show W.cell? ⟨gd,2 * k,none⟩=some (.int .u64 g0)from by rw[rowI_at h hDL (by omega),da1,eg0]) (show W.cell? ⟨gd,2 * k+1,none⟩=some (.int .u64 g1)from by rw[rowI_at h hDL (by omega),da2,eg1]));have j0:wr.cell? ⟨gi,k,none⟩=some (.int .i64 ((g2:Nat):Int)):=by rw[rowJ_at hJ hJL hlt,ja,eg2]
      have d0:=(CD.out wr hD).1;have m1:IntKind.i64.wrap (2 * (k:Int))=2 * (k:Int):=IntWalk.i64_in _ (by omega);have m2:IntKind.i64.wrap (2 * (k:Int)+1)=2 * (k:Int)+1:=IntWalk.i64_in _ (by omega);have m3:(2 * (k:Int)).toNat=2 * k:=by omega
      have m4:(2 * (k:Int)+1).toNat=2 * k+1:=by omega
      have m5:(0:Int)≤2 * (k:Int):=by omega
      have m6:2 * (k:Int)<2 * (n:Int):=by omega
      have m7:(0:Int)≤2 * (k:Int)+1:=by omega
      have m8:2 * (k:Int)+1<2 * (n:Int):=by omega
      have m9:IntKind.u64.wrap ((g2:Nat):Int)=((g2:Nat):Int):=z11 WD3.out;obtain⟨aw,cw,ew,-,-⟩:=hO.ints (by have h1:=z12 (weS c k);have h2:=HLE1.out;have h3:=BG.out.num;omega);subst ew;obtain⟨Z0,eZ0⟩:∃Z0,joinB (weS c k)=Z0:=⟨_,rfl⟩;have EZ0:=z7 eZ0;have LZ0:=z7 (show Z0.length≤3900000000 from by rw[← eZ0];have h1:=z12 (weS c k);have h2:=HLE1.out;have h3:=BG.out.num;omega);rw[eZ0]at P0 ⊢;obtain⟨q0,eq0⟩:∃q,Z0.length=q:=⟨_,rfl⟩;rw[eq0]at P0 ⊢;clear hDL hJL da1 da2 ja hfl eg0 eg1 eg2 hle hO hD hJ hb eZ0 eq0;go_wp2_with fail
      refine(z1x w2 _ Z0 g0 wr P0.out.1 P0.out.2.2.2 WD1.out (Nat.le_trans LZ0.out (by omega))).mono ?_;rintro e x1 ⟨y1,rfl,hO7,hb7,hg7⟩;obtain⟨Z1,eZ1⟩:∃Z,Z0 ++ vb 10 g0=Z:=⟨_,rfl⟩;have EZ1:=z7 eZ1;rw[eZ1]at hO7;have P1:=z7 (And.intro hO7 (And.intro (keepI P0.out.1 P0.out.2.1 hg7.only) (And.intro (keepJ P0.out.1 P0.out.2.2.1 hg7.only) hb7)));have LZ1:=z7 (show Z1.length≤3900000000 from by
       have h1:=z12 (weS c k ++ [g0]);rw[z1m,EZ0.out,EZ1.out]at h1;have h2:=HLE2.out;have h3:=BG.out.num;omega)
      obtain⟨aw1,cw1,ew,-,-⟩:=hO7.ints (by have:=LZ1.out;omega);subst ew;obtain⟨q1,eq1⟩:∃q,Z1.length=q:=⟨_,rfl⟩;rw[eq1]at P1 ⊢;have d1:=(CD.out x1 P1.out.2.1).2;clear hO7 hb7 hg7 eZ1 eq1;go_wp2_with fail
      refine(z1x w2 _ Z1 g1 x1 P1.out.1 P1.out.2.2.2 WD2.out (Nat.le_trans LZ1.out (by omega))).mono ?_;rintro e x2 ⟨y2,rfl,hO7,hb7,hg7⟩;obtain⟨Z2,eZ2⟩:∃Z,Z1 ++ vb 10 g1=Z:=⟨_,rfl⟩;have EZ2:=z7 eZ2;rw[eZ2]at hO7;have P2:=z7 (And.intro hO7 (And.intro (keepI P1.out.1 P1.out.2.1 hg7.only) (And.intro (keepJ P1.out.1 P1.out.2.2.1 hg7.only) hb7)));have LZ2:=z7 (show Z2.length≤3900000000 from by
       have h1:=z12 (weS c k ++ [g0] ++ [g1]);rw[z1m,z1m,EZ0.out,EZ1.out,EZ2.out]at h1;have h2:=HLE3.out;have h3:=BG.out.num;omega)
      obtain⟨aw2,cw2,ew,-,-⟩:=hO7.ints (by have:=LZ2.out;omega);subst ew;obtain⟨q2,eq2⟩:∃q,Z2.length=q:=⟨_,rfl⟩;rw[eq2]at P2 ⊢;clear hO7 hb7 hg7 eZ2 eq2;go_wp2_with fail
      refine(z1x w2 _ Z2 ((g2:Nat):Int) x2 P2.out.1 P2.out.2.2.2 WD3.out (Nat.le_trans LZ2.out (by omega))).mono ?_;rintro e x3 ⟨y3,rfl,hO7,hb7,hg7⟩;obtain⟨Z3,eZ3⟩:∃Z,Z2 ++ vb 10 ((g2:Nat):Int)=Z:=⟨_,rfl⟩;have EZ3:=z7 eZ3;rw[eZ3]at hO7;have P3:=z7 (And.intro hO7 (And.intro (keepI P2.out.1 P2.out.2.1 hg7.only) (And.intro (keepJ P2.out.1 P2.out.2.2.1 hg7.only) hb7)));have O9:=z7 (show OwnB x3 w2.heap.size y3 (joinB (weS c (k+1)))from by rw[HST.out,z1m,z1m,z1m,EZ0.out,EZ1.out,EZ2.out,EZ3.out];exact hO7);clear hO7 hb7 hg7 eZ3;clear m1 m2 m3 m4 m5 m6 m7 m8 m9;go_wp2
      go_roundw
      case rel=>
       have FINAL:∃k':Nat,k'≤n∧(.int .i64 ((k:Int)+1):Value)=.int .i64 k'∧OwnB x3 w2.heap.size y3 (joinB (weS c k'))∧OwnI x3 w5.heap.size (.slice (some ⟨gd,0,none⟩) (2 * n) cd) (dif (segZ c) 0 n)∧OwnJ x3 wo.heap.size (.slice (some ⟨gi,0,none⟩) n ci) (idxZ c)∧Below w2.heap.size w2 x3:=⟨k+1,by omega,by simp,O9.out,P3.out.2.1,P3.out.2.2.1,P3.out.2.2.2⟩;first | exact FINAL | ((repeat apply Exists.intro);exact⟨FINAL,rfl⟩)
      case measure=>simp[intOf];omega
     ·obtain rfl:n=k:=by omega
      have OE:=z7 (show OwnB wr w.heap.size u6 (joinB (weN c))from by unfold weN;rw[EN.out];exact hO.lower B2.out.size);have BE:=z7 (B2.out.trans (hb.mono B2.out.size));clear hO hD hJ hb;go_wp2
      go_ret2
      exact⟨u6,c,rfl,HR.out.can,HR.out.kn,HR.out.tot,HR.out.bnd,OE.out,BE.out⟩
   ·exact absurd SAP.out hno
/-! ### The plain steps -/
inductive Pt where
 | start
 | vecs (left from':Int) (inner:Option St)
 | mid
 | segs (left turn last:Int) (touch:Bool)
 | fin
structure WS where
 pt:Pt
 k:List Frag
 us:List Nat
 last:Option Iv
 op:Option Int
def WS0:WS:=⟨.start,[],[],none,none⟩
def Pt.isFin:Pt→Bool
 | .fin=>true
 | _=>false
def loC (last:Option Iv) (x:Int):Option Int:=
 match last with
 | none=>some x
 | some z=>if z.2+1+0+x<18446744073709551616 then some (z.2+1+0+x)else none
def hiC (l x:Int):Option Iv:=if l+x<18446744073709551616 then some (l,l+x)else none
def addU (us:List Nat) (i:Nat):List Nat:=if i∈us then us else us ++ [i]
def Frag.z:Frag:=⟨[],[]⟩
def putI (k:List Frag) (i:Nat) (z:Iv):List Frag:=k.set i ⟨(k.getD i Frag.z).items ++ [z],(k.getD i Frag.z).vec⟩
def finishS (s:WS) (next rest:Int):Except (Int×Int) WS:=
 if s.us.length<s.k.length then .error (10,next)else if 0<rest then .error (11,next)else .ok { s with pt:=.fin }
def sizeV (x:Int):Int:=((vb 10 x).length:Nat)
def vecS (lm:Lim) (s:WS) (left fr:Int) (st:St) (x at' rest:Int):Except (Int×Int) WS:=
 match stepS lm st x rest with
 | .error c=>.error (c,at')
 | .ok st'=>
   if st'.ph.isFin=true then
    if s.k≠[]∧0≤cmpL (absV (s.k.getD (s.k.length-1) Frag.z).vec) (absV st'.es)then .error (3,fr)
    else .ok { s with k:=s.k ++ [⟨[],st'.es⟩],pt:=if left-1=0 then .mid else .vecs (left-1) (-1) none }
   else .ok { s with pt:=.vecs left fr (some st') }
def segS (s:WS) (left turn last:Int) (touch:Bool) (x at' rest:Int):Except (Int×Int) WS:=
 if turn=0 then
  match loC s.last x with
  | none=>.error (8,at')
  | some l=>.ok { s with op:=some l,pt:=.segs left 1 last (s.last.isSome && decide (x=0)) }
 else if turn=1 then
  match hiC (s.op.getD 0) x with
  | none=>.error (8,at')
  | some z=>.ok { s with op:=none,last:=some z,pt:=.segs left 2 last touch }
 else if(s.k.length:Int)≤x then .error (8,at')
 else if touch=true∧x=last then .error (10,at')
 else
  let s':WS:={ s with k:=putI s.k x.toNat (s.last.getD (0,0)),us:=addU s.us x.toNat }
  if left-1=0 then finishS s' (at'+sizeV x) rest else .ok { s' with pt:=.segs (left-1) 0 x touch }
def stepW (lm:Lim) (s:WS) (x at' rest:Int):Except (Int×Int) WS:=
 match s.pt with
 | .start=>if limitC x lm.ve rest≠0 then .error (limitC x lm.ve rest,at')else .ok { s with pt:=if x=0 then .mid else .vecs x (-1) none }
 | .vecs left fr none=>vecS lm s left at' St0 x at' rest
 | .vecs left fr (some st)=>vecS lm s left fr st x at' rest
 | .mid=>if limitC x lm.se rest≠0 then .error (limitC x lm.se rest,at')else if x=0 then finishS s (at'+sizeV x) rest else .ok { s with pt:=.segs x 0 0 false }
 | .segs left turn last touch=>segS s left turn last touch x at' rest
 | .fin=>.ok s
/-! ### The memory -/
def RdW (w:World) (r:Nat) (lm:Lim) (pv kv:Value) (m c:Nat) (er:Value):Prop:=
 w.heap[r]?=some (.cells #[.int .i64 lm.f,.int .i64 lm.ve,.int .i64 lm.en,.int .i64 lm.ho,.int .i64 lm.se,pv,kv,.map (some m),.pointer (some ⟨c,0,none⟩),er] 162 (0,0))
section
variable {w w':World} {r:Nat} {lm:Lim} {pv kv er:Value} {m c:Nat}
theorem RdW.lt(h:RdW w r lm pv kv m c er):r<w.heap.size:=zh h
theorem RdW.typed(h:RdW w r lm pv kv m c er):Typed w 162 r:=⟨_,h⟩
theorem RdW.only{may:Nat→Prop}(h:RdW w r lm pv kv m c er)(ho:Only may w w')(hm:¬may r):RdW w' r lm pv kv m c er:=ho.obj hm h
theorem RdW.c1(h:RdW w r lm pv kv m c er):w.cell? ⟨r,1,none⟩=some (.int .i64 lm.ve):=by simp[World.cell?,show w.heap[r]?=_ from h]
theorem RdW.c4(h:RdW w r lm pv kv m c er):w.cell? ⟨r,4,none⟩=some (.int .i64 lm.se):=by simp[World.cell?,show w.heap[r]?=_ from h]
theorem RdW.c5(h:RdW w r lm pv kv m c er):w.cell? ⟨r,5,none⟩=some pv:=by simp[World.cell?,show w.heap[r]?=_ from h]
theorem RdW.c6(h:RdW w r lm pv kv m c er):w.cell? ⟨r,6,none⟩=some kv:=by simp[World.cell?,show w.heap[r]?=_ from h]
theorem RdW.c7(h:RdW w r lm pv kv m c er):w.cell? ⟨r,7,none⟩=some (.map (some m)):=by simp[World.cell?,show w.heap[r]?=_ from h]
theorem RdW.c8(h:RdW w r lm pv kv m c er):w.cell? ⟨r,8,none⟩=some (.pointer (some ⟨c,0,none⟩)):=by simp[World.cell?,show w.heap[r]?=_ from h]
theorem RdW.c9(h:RdW w r lm pv kv m c er):w.cell? ⟨r,9,none⟩=some er:=by simp[World.cell?,show w.heap[r]?=_ from h]
theorem RdW.free(h:RdW w r lm pv kv m c er):∀j,w.frozen? ⟨r,j,none⟩=false:=by intro j;simp[World.frozen?,show w.heap[r]?=_ from h]
theorem RdW.s5(h:RdW w r lm pv kv m c er)(x:Value):RdW (w.setCell ⟨r,5,none⟩ x) r lm x kv m c er:=heap_setCell_same _ _ 5 _ _ _ h
theorem RdW.s6(h:RdW w r lm pv kv m c er)(x:Value):RdW (w.setCell ⟨r,6,none⟩ x) r lm pv x m c er:=heap_setCell_same _ _ 6 _ _ _ h
theorem RdW.s9(h:RdW w r lm pv kv m c er)(x:Value):RdW (w.setCell ⟨r,9,none⟩ x) r lm pv kv m c x:=heap_setCell_same _ _ 9 _ _ _ h
end
theorem key_int:Maps.Keyed Tryz.prog 3:=Maps.int_keyed (q:=.i64) Tryz.underlying3
theorem keyi_of{i:Nat}(h:i≤4000000000):keyOf Tryz.prog 3 (.int .i64 (i:Int))=some (.int .i64 i):=Maps.keyOf_int_mk Tryz.underlying3 (by simp[Lit.wf,IntKind.min,IntKind.max,IntKind.signed,IntKind.bits];omega)
theorem lit_nei{x y:Int}(h:x≠y):Lit.int .i64 x≠Lit.int .i64 y:=fun e=>h (by cases e;rfl)
structure UsedR (w:World) (m:Nat) (us:List Nat):Prop where
 own:∃D,w.ownsMap Tryz.prog 3 Rv m us.length D∧Maps.Tidy D∧(∀i,i≤4000000000→Maps.has D (.int .i64 (i:Nat))=decide (i∈us))∧Maps.size D=us.length
theorem UsedR.made(w:World):UsedR (w.alloc (.map #[] 0)) w.heap.size []:=⟨.map [],World.ownsMap_made _ _ _ _,Maps.tidy_empty,fun _ _=>rfl,rfl⟩
theorem UsedR.lt{w:World}{m:Nat}{us:List Nat}(h:UsedR w m us):m<w.heap.size:=by obtain⟨D,h,_⟩:=h.own;exact h.lt
theorem UsedR.at{w w':World}{m:Nat}{us:List Nat}(h:UsedR w m us)(e:w'.heap[m]?=w.heap[m]?):UsedR w' m us:=by
 obtain⟨D,h,r⟩:=h.own;exact⟨D,ownsMap_at h e,r⟩
theorem UsedR.notCells{w:World}{m:Nat}{us:List Nat}(h:UsedR w m us){t:TypeId}:¬Typed w t m:=by
 obtain⟨D,⟨es,clock,hb,_⟩,_⟩:=h.own;rintro⟨cs,hc⟩;rw[hb]at hc
 cases hc
theorem UsedR.only{w w':World}{m:Nat}{us:List Nat}{may:Nat→Prop}(h:UsedR w m us)(ho:Only may w w')(hm:∀k,may k→∃t,Typed w t k):UsedR w' m us:=
 h.at (ho.block m h.lt (fun hk=>by obtain⟨t,ht⟩:=hm m hk;exact h.notCells ht))
theorem owns_size{w:World}{m n:Nat}{D:DataW Value}(h:w.ownsMap Tryz.prog 3 Rv m n D):w.ownsMap Tryz.prog 3 Rv m (Maps.size D) D:=by
 obtain⟨es,clock,hb,F,hs,hD⟩:=h;refine⟨es,clock,hb,F,?_,hD⟩;rw[hD];exact Nat.le_of_eq (length_read es).symm
def CurW (w:World) (c:Nat) (last:Option Iv) (op:Option Int):Prop:=∃lo llo lhi f,CurAt w c 0 lo llo lhi last.isSome op.isSome f∧(∀l,op=some l→lo=l∧Word l)∧(last=none→f=153) ∧
 (∀z,last=some z→f=245∧llo=z.1∧lhi=z.2∧Word z.1∧Word z.2)
theorem CurW.typed{w:World}{c:Nat}{last:Option Iv}{op:Option Int}(h:CurW w c last op):Typed w 234 c:=by
 obtain⟨_,_,_,_,h,_⟩:=h;exact⟨_,h⟩
theorem CurW.only{w w':World}{c:Nat}{last:Option Iv}{op:Option Int}{may:Nat→Prop}(h:CurW w c last op)(ho:Only may w w')(hm:¬may c):CurW w' c last op:=by
 obtain⟨lo,llo,lhi,f,h,r⟩:=h;exact⟨lo,llo,lhi,f,ho.obj hm h,r⟩
def Oth (w:World) (may:Nat→Prop):Prop:=∀k,may k→∃t,Typed w t k∧t≠162∧t≠80∧t≠96∧t≠123∧t≠234
theorem Oth.none(w:World):Oth w (fun _=>False):=fun _ h=>h.elim
theorem Oth.one{w:World}{b:Nat}{t:TypeId}(h:Typed w t b)(h1:t≠162∧t≠80∧t≠96∧t≠123∧t≠234):Oth w (fun k=>k=b):=fun k hk=>⟨t,by rw[hk];exact h,h1⟩
structure OutW (w:World) (base r:Nat) (lm:Lim) (er:Value) (s:WS) (pv kv:Value) (m c:Nat) (l:List FV):Prop where
 br:base≤r
 rd:RdW w r lm pv kv m c er
 row:KRow w base kv l
 frags:l.map FV.frag=s.k
 used:UsedR w m s.us
 cur:CurW w c s.last s.op
 bm:base≤m
 bc:base≤c
theorem OutW.only{w w':World}{base r:Nat}{lm:Lim}{er:Value}{s:WS}{pv kv:Value}{m c:Nat}{l:List FV}{may:Nat→Prop}(h:OutW w base r lm er s pv kv m c l)(ho:Only may w w')(hm:Oth w may):OutW w' base r lm er s pv kv m c l:=
 ⟨h.br,h.rd.only ho (fun hk=>by obtain⟨t,ht,h1,_⟩:=hm r hk;exact ht.ne h.rd.typed h1 rfl),h.row.only ho (fun k hk=>by
  obtain⟨t,ht,_,h2,h3,h4,_⟩:=hm k hk;exact⟨ht.not h2,ht.not h3,ht.not h4⟩),h.frags,h.used.only ho (fun k hk=>by obtain⟨t,ht,_⟩:=hm k hk;exact⟨t,ht⟩),h.cur.only ho (fun hk=>by obtain⟨t,ht,_,_,_,_,h5⟩:=hm c hk;exact ht.ne h.cur.typed h5 rfl),h.bm,h.bc⟩
theorem OutW.below{w w':World}{base r:Nat}{lm:Lim}{er:Value}{s:WS}{pv kv:Value}{m c:Nat}{l:List FV}(h:OutW w base r lm er s pv kv m c l)(hb:Below w.heap.size w w'):OutW w' base r lm er s pv kv m c l:=h.only (may:=fun _=>False) (Only.of_below hb) (Oth.none w)
def ptrV (t:TypeId) (p:Nat):Value:=.iface t (.pointer (some ⟨p,0,none⟩))
def unitV (t:TypeId):Value:=.iface t (.agg #[])
def PtM (w:World) (base:Nat) (pt:Pt) (pv:Value):Prop:=
 match pt with
 | .start=>pv=unitV 155
 | .vecs left _ none=>(Word left∧0<left)∧∃p ip,pv=ptrV 237 p∧base≤p∧w.heap[p]?=some (.cells #[.int .u64 left,.int .i64 (-1),.pointer ip] 240 (0,0))
 | .vecs _ _ (some _)=>False
 | .mid=>pv=unitV 241
 | .segs left turn last touch=>(Word left∧0<left)∧∃p,pv=ptrV 243 p∧base≤p∧w.heap[p]?=some (.cells #[.int .u64 left,.int .i64 turn,.int .i64 last,.bool touch] 245 (0,0))
 | .fin=>pv=unitV 168
def NoItems (l:List FV):Prop:=∀f∈l,f.iv=.slice none 0 0∧f.items=[]
structure SegX (w:World) (l:List FV) (ws:World):Prop where
 vec:∀f∈l,RowF ws 0 f.vv f.vec
 only:Only (fun b=>¬Typed ws 96 b∧¬Typed ws 123 b) ws w
 own:∀f∈l,OwnL w ws.heap.size 123 f.iv f.items
 dis:l.Pairwise (fun f g=>∀b,f.iv.ownBlock=some b→¬g.iv.ownBlock=some b)
theorem SegX.start{w:World}{base:Nat}{v:Value}{l:List FV}(h:KRow w base v l)(hn:NoItems l):SegX w l w:=
 ⟨fun f hf=>(h.frags f hf).vec,Only.refl _ _,fun f hf=>by rw[(hn f hf).1,(hn f hf).2];exact⟨World.ownsRow_nil _ _ _ _,by simp⟩,by
  refine List.pairwise_iff_getElem.2 fun i j hi hj _ b hb=>?_;rw[(hn _ (List.getElem_mem hi)).1]at hb
  cases hb⟩
theorem only_un{ws w w':World}{may:Nat→Prop}(h:Only (fun b=>¬Typed ws 96 b∧¬Typed ws 123 b) ws w)(ho:Only may w w')(hm:∀k,may k→ws.heap.size≤k∨(∃t,Typed w t k∧t≠96∧t≠123)):Only (fun b=>¬Typed ws 96 b∧¬Typed ws 123 b) ws w':=by
 refine⟨ho.os.trans h.os,ho.tape.trans h.tape,ho.output.trans h.output,Nat.le_trans h.size ho.size,fun k hk hl=>?_⟩;refine(ho.block k (Nat.lt_of_lt_of_le hk h.size) (fun hmk=>?_)).trans (h.block k hk hl);rcases hm k hmk with h1 | ⟨t,ht,h1,h2⟩
 ·omega
 ·have hb:=h.block k hk hl
  refine hl ⟨fun hE=>?_,fun hI=>?_⟩
  ·obtain⟨cs,hc⟩:=hE
   exact ht.ne (⟨cs,hb.trans hc⟩:Typed w _ k) h1 rfl
  ·obtain⟨cs,hc⟩:=hI
   exact ht.ne (⟨cs,hb.trans hc⟩:Typed w _ k) h2 rfl
theorem SegX.keep{w w' ws:World}{l:List FV}{may:Nat→Prop}(h:SegX w l ws)(ho:Only may w w')(hm:∀k,may k→∃t,Typed w t k∧t≠96∧t≠123):SegX w' l ws:=
 ⟨h.vec,only_un h.only ho (fun k hk=>.inr (hm k hk)),fun f hf=>⟨zo (h.own f hf).row ho (fun k hk hv=>by
  obtain⟨t,ht,_,h2⟩:=hm k hv;exact ht.ne (zj (h.own f hf).row hk) h2 rfl),(h.own f hf).words⟩,h.dis⟩
theorem SegX.below{w w' ws:World}{l:List FV}(h:SegX w l ws)(hb:Below w.heap.size w w'):SegX w' l ws:=h.keep (may:=fun _=>False) (Only.of_below hb) (fun _ h=>h.elim)
theorem SegX.one{w w' ws:World}{l:List FV}{b:Nat}{t:TypeId}(h:SegX w l ws)(ho:Only (fun k=>k=b) w w')(ht:Typed w t b)(h1:t≠96∧t≠123):SegX w' l ws:=h.keep ho (fun k hk=>⟨t,by rw[hk];exact ht,h1⟩)
def ExtraM (w:World) (base:Nat) (pt:Pt) (l:List FV):Prop:=
 match pt with
 | .segs _ _ _ _=>∃ws,SegX w l ws∧base≤ws.heap.size
 | .fin=>True
 | _=>NoItems l
structure VecM (w:World) (base r:Nat) (lm:Lim) (er:Value) (s:WS) (left fr:Int) (st:St) (wb:World) (p ri:Nat) (kv:Value) (m c:Nat) (l:List FV):Prop where
 out:OutW wb base r lm er s (ptrV 237 p) kv m c l
 bp:base≤p
 tp:Typed wb 240 p
 only:Only (fun b=>b=p) wb w
 cell:w.heap[p]?=some (.cells #[.int .u64 left,.int .i64 fr,.pointer (some ⟨ri,0,none⟩)] 240 (0,0))
 wl:Word left∧0<left
 fr0:0≤fr
 inner:MemF w wb.heap.size ri lm (st.ph.fn ri) .nilIface st
 bw:base≤wb.heap.size
 ni:NoItems l
def MemW (w:World) (base r:Nat) (lm:Lim) (er:Value) (s:WS):Prop:=
 match s.pt with
 | .vecs left fr (some st)=>∃wb p ri kv m c l,VecM w base r lm er s left fr st wb p ri kv m c l
 | pt=>∃pv kv m c l,OutW w base r lm er s pv kv m c l∧PtM w base pt pv∧ExtraM w base pt l
structure TakeP (lm:Lim) (base r:Nat) (o:Except (Int×Int) WS) (w:World) (e:Ending) (w':World):Prop where
 below:Below base w w'
 bad:∀c a,o=.error (c,a)→e=.returned (.iface 107 (.agg #[.int .i64 c,.int .i64 a]))∧∃pv kv m c',RdW w' r lm pv kv m c' .nilIface
 good:∀s',o=.ok s'→e=.returned .nilIface∧MemW w' base r lm .nilIface s'
def errI (c:Int):Value:=.int .i64 c
theorem wlimited_any(x limit rest:Int)(w:World)(hx:Word x)(hl:-9223372036854775808≤limit∧limit≤9223372036854775807)(hr:-9223372036854775808≤rest∧rest≤9223372036854775807) :
  Calls Tryz.prog 154 #[.int .u64 x,.int .i64 limit,.int .i64 rest] w fun e w'=>e=.returned (errI (limitC x limit rest))∧w=w':=by
 have e7:errI 7=.int .i64 7:=rfl;have e5:errI 5=.int .i64 5:=rfl;have e0:errI 0=.int .i64 0:=rfl;obtain⟨hx0,hx1⟩:=hx;obtain⟨hl0,hl1⟩:=hl;obtain⟨hr0,hr1⟩:=hr;unfold limitC;by_cases a1:0≤limit
 ·rw[show max limit 0=limit by omega]
  have m1:=w64 a1 hl1;have a2:¬limit<0:=by omega
  by_cases h1:limit<x
  ·rw[if_pos h1,e7]
   clear hx0 hx1 hr0 hr1 e7 e5 e0;go_enter Tryz.func154,Tryz.ntmps154
   go_wp2
   all_goals go_ret
   all_goals exact⟨rfl,rfl⟩
  ·rw[if_neg h1]
   by_cases b1:0≤rest
   ·rw[show max rest 0=rest by omega]
    have n1:=w64 b1 hr1;have b2:¬rest<0:=by omega
    by_cases h2:rest<x
    ·rw[if_pos h2,e5]
     clear hx0 hx1 e7 e5 e0;go_enter Tryz.func154,Tryz.ntmps154
     go_wp2
     all_goals go_ret
     all_goals exact⟨rfl,rfl⟩
    ·rw[if_neg h2,e0]
     clear hx0 hx1 e7 e5 e0;go_enter Tryz.func154,Tryz.ntmps154
     go_wp2
     all_goals go_ret
     all_goals exact⟨rfl,rfl⟩
   ·rw[show max rest 0=0 by omega]
    have b2:rest<0:=by omega
    have n1:IntKind.u64.wrap 0=0:=by decide
    by_cases h2:0<x
    ·rw[if_pos h2,e5]
     clear hx0 hx1 e7 e5 e0;go_enter Tryz.func154,Tryz.ntmps154
     go_wp2
     all_goals go_ret
     all_goals exact⟨rfl,rfl⟩
    ·rw[if_neg h2,e0]
     clear hx0 hx1 e7 e5 e0;go_enter Tryz.func154,Tryz.ntmps154
     go_wp2
     all_goals go_ret
     all_goals exact⟨rfl,rfl⟩
 ·rw[show max limit 0=0 by omega]
  have a2:limit<0:=by omega
  have m1:IntKind.u64.wrap 0=0:=by decide
  by_cases h1:0<x
  ·rw[if_pos h1,e7]
   clear hx0 hx1 hr0 hr1 e7 e5 e0;go_enter Tryz.func154,Tryz.ntmps154
   go_wp2
   all_goals go_ret
   all_goals exact⟨rfl,rfl⟩
  ·rw[if_neg h1]
   by_cases b1:0≤rest
   ·rw[show max rest 0=rest by omega]
    have n1:=w64 b1 hr1;have b2:¬rest<0:=by omega
    by_cases h2:rest<x
    ·rw[if_pos h2,e5]
     clear hx0 hx1 e7 e5 e0;go_enter Tryz.func154,Tryz.ntmps154
     go_wp2
     all_goals go_ret
     all_goals exact⟨rfl,rfl⟩
    ·rw[if_neg h2,e0]
     clear hx0 hx1 e7 e5 e0;go_enter Tryz.func154,Tryz.ntmps154
     go_wp2
     all_goals go_ret
     all_goals exact⟨rfl,rfl⟩
   ·rw[show max rest 0=0 by omega]
    have b2:rest<0:=by omega
    have n1:IntKind.u64.wrap 0=0:=by decide
    by_cases h2:0<x
    ·rw[if_pos h2,e5]
     clear hx0 hx1 e7 e5 e0;exact absurd h2 h1
    ·rw[if_neg h2,e0]
     clear hx0 hx1 e7 e5 e0;go_enter Tryz.func154,Tryz.ntmps154
     go_wp2
     all_goals go_ret
     all_goals exact⟨rfl,rfl⟩
theorem UsedR.len{w:World}{m:Nat}{us:List Nat}(h:UsedR w m us)(ty:TypeId):(Builtin.len_ #[156] ty #[.map (some m)]).run Tryz.prog w=.ok (.int .i64 (us.length:Nat)) w:=by
 obtain⟨D,h,_,_,hs⟩:=h.own;rw[h.len Tryz.underlying156 ty,hs]
theorem pt_fin{w:World}{base r:Nat}{lm:Lim}{er:Value}{s:WS}{pv kv:Value}{m c:Nat}{l:List FV}(h:OutW w base r lm er s pv kv m c l)(hpv:pv=unitV 168):MemW w base r lm er { s with pt:=.fin }:=
 ⟨pv,kv,m,c,l,⟨h.br,h.rd,h.row,h.frags,h.used,h.cur,h.bm,h.bc⟩,hpv,trivial⟩
theorem wfin_any(lm:Lim)(base r:Nat)(s:WS)(pv kv:Value)(m c:Nat)(l:List FV)(next rest:Int)(w:World)(h:OutW w base r lm .nilIface s pv kv m c l) :
  Calls Tryz.prog 156 #[.pointer (some ⟨r,0,none⟩),.int .i64 next,.int .i64 rest] w fun e w'=>TakeP lm base r (finishS s next rest) w e w':=by
 have hmx:Tryz.prog.follows .mixedOrders=true:=by kernel_rfl
 obtain⟨ak,ck,ekv,_⟩:=zl h.row.row;subst ekv;have hlk:s.k.length=l.length:=by rw[← h.frags,List.length_map]
 obtain⟨w1,ew1⟩:∃w1,w.setCell ⟨r,5,none⟩ (unitV 168)=w1:=⟨_,rfl⟩;have h1:OutW w1 base r lm .nilIface s (unitV 168) (.slice ak l.length ck) m c l:=by
  rw[← ew1];have ho:Only (fun b=>b=r) w (w.setCell ⟨r,5,none⟩ (unitV 168)):=(Only.refl (fun b=>b=r) w).setCell (p:=⟨r,5,none⟩) (.inl rfl) _;have ht:=h.rd.typed;refine⟨h.br,h.rd.s5 _,h.row.only ho (fun k hk=>by rw[hk];exact⟨ht.not (by decide),ht.not (by decide),ht.not (by decide)⟩),h.frags,h.used.only ho (fun k hk=>by subst hk;exact⟨_,ht⟩),h.cur.only ho (fun e=>?_),h.bm,h.bc⟩;have hc:=h.cur.typed;rw[e]at hc;exact hc.ne ht (by decide) rfl
 have B1:=z7 (show Below base w w1 from by
  rw[← ew1];exact((Only.refl (fun b=>b=r) w).setCell (p:=⟨r,5,none⟩) (.inl rfl) _).below (n:=base) (by have:=h.rd.lt;have:=h.br;omega) (fun b hb=>by have:=h.br;omega))
 have BS:=z7 (show base≤w1.heap.size from by have h1:=h.rd.lt;have h2:=h.br;have h3:=B1.out.size;omega);have H1:=z7 h1;have c5:=h.rd.c5;have f5:=h.rd.free 5;have c6:=h1.rd.c6;have c7:=h1.rd.c7;have LEN:=z7 (fun X (hX:Only (fun _=>False) w1 X)=>(h1.used.only hX (fun _ h=>h.elim)).len 3);obtain⟨us,eus⟩:∃us,s.us.length=us:=⟨_,rfl⟩;obtain⟨nk,enk⟩:∃nk,l.length=nk:=⟨_,rfl⟩;have EUS:=z7 eus;have ENK:=z7 (hlk.trans enk);rw[eus]at LEN;rw[enk]at c6;clear h h1 hlk eus enk;unfold unitV at ew1;go_enter Tryz.func156,Tryz.ntmps156
 go_wp2_with fail
 refine wp_region_held_drew (S:=Only (fun _=>False) w1) hmx (Only.refl _ _).drew (fun hS=>?_);refine tkd (i:=0) (d:=some 12) (v:=(.pointer (some ⟨r,0,none⟩))) (hy:=.inl ⟨by rfl,?_⟩) (h:=?_)
 ·intro X hX;go_simp
 refine tkd (i:=1) (d:=some 13) (v:=(.pointer (some ⟨r,0,none⟩))) (hy:=.inl ⟨by rfl,?_⟩) (h:=?_)
 ·intro X hX;go_simp
 refine tkd (i:=2) (d:=some 14) (v:=(.pointer (some ⟨r,7,none⟩))) (hy:=.inl ⟨by rfl,?_⟩) (h:=?_)
 ·intro X hX;go_simp
 refine tkd (i:=3) (d:=some 15) (v:=(.map (some m))) (hy:=.inl ⟨by rfl,?_⟩) (h:=?_)
 ·intro X hX;have x0:=hX.cell (fun h=>h) c7;go_simp
 refine tkd (i:=4) (d:=some 16) (v:=(.int .i64 (us:Nat))) (hy:=.inl ⟨by rfl,?_⟩) (h:=?_)
 ·intro X hX;have x1:=LEN.out X hX;go_simp
 refine tkd (i:=5) (d:=some 17) (v:=(.pointer (some ⟨r,0,none⟩))) (hy:=.inl ⟨by rfl,?_⟩) (h:=?_)
 ·intro X hX;go_simp
 refine tkd (i:=6) (d:=some 18) (v:=(.pointer (some ⟨r,0,none⟩))) (hy:=.inl ⟨by rfl,?_⟩) (h:=?_)
 ·intro X hX;go_simp
 refine tkd (i:=7) (d:=some 19) (v:=(.pointer (some ⟨r,6,none⟩))) (hy:=.inl ⟨by rfl,?_⟩) (h:=?_)
 ·intro X hX;go_simp
 refine tkd (i:=8) (d:=some 20) (v:=(.slice ak nk ck)) (hy:=.inl ⟨by rfl,?_⟩) (h:=?_)
 ·intro X hX;have x0:=hX.cell (fun h=>h) c6;go_simp
 refine tkd (i:=9) (d:=some 21) (v:=(.int .i64 (nk:Nat))) (hy:=.inl ⟨by rfl,?_⟩) (h:=?_)
 ·intro X hX;go_simp
 refine tkd (i:=10) (d:=some 22) (v:=(.bool (decide ((us:Int)<(nk:Int))))) (hy:=.inl ⟨by rfl,?_⟩) (h:=?_)
 ·intro X hX;go_simp
 refine wpAnyH_done (by kernel_rfl) ?_ _;have B2:=z7 (B1.out.trans (hS.below (n:=base) BS.out (fun _ h=>h.elim)));have H2:=z7 (H1.out.only hS (Oth.none _));clear hS;by_cases g1:(us:Int)<(nk:Int)
 ·have E1:=z7 (show finishS s next rest=.error (10,next)from by unfold finishS;rw[if_pos (by rw[EUS.out,ENK.out];omega)])
  have KF:=z7 (fun W=>z17 10 next (by decide) W);rw[decide_eq_true g1];go_wp2_with fail
  refine(KF.out _).mono ?_;rintro e w2 ⟨rfl,rfl⟩;go_wp2
  go_ret
  rw[E1.out];exact⟨B2.out,fun c a hc=>(by cases hc;exact⟨rfl,_,_,_,_,H2.out.rd⟩),fun s' hs=>(by cases hs)⟩
 ·rw[decide_eq_false g1]
  by_cases g2:0<rest
  ·have E1:=z7 (show finishS s next rest=.error (11,next)from by unfold finishS;rw[if_neg (by rw[EUS.out,ENK.out];omega),if_pos g2])
   have KF:=z7 (fun W=>z17 11 next (by decide) W);go_wp2_with fail
   refine(KF.out _).mono ?_;rintro e w2 ⟨rfl,rfl⟩;go_wp2
   go_ret
   rw[E1.out];exact⟨B2.out,fun c a hc=>(by cases hc;exact⟨rfl,_,_,_,_,H2.out.rd⟩),fun s' hs=>(by cases hs)⟩
  ·have E1:=z7 (show finishS s next rest=.ok { s with pt:=.fin } from by unfold finishS;rw[if_neg (by rw[EUS.out,ENK.out];omega),if_neg g2])
   go_wp2
   go_ret
   rw[E1.out];exact⟨B2.out,fun c a hc=>(by cases hc),fun s' hs=>(by cases hs;exact⟨rfl,pt_fin H2.out rfl⟩)⟩
theorem Laid.bel{base:Nat}{w w':World}(h:Laid w)(h0:0<base)(hb:Below base w w'):Laid w':=(hb.cell (p:=⟨0,0,none⟩) h0).trans h
theorem Only.belowN{may:Nat→Prop}{A B C:World}(h:Only may A B)(hb:Below A.heap.size B C):Only may A C:=
 ⟨hb.os.trans h.os,hb.tape.trans h.tape,hb.output.trans h.output,Nat.le_trans h.size hb.size,fun k hk hl=>(hb.block k hk).trans (h.block k hk hl)⟩
theorem MemF.only{w w':World}{b ri:Nat}{lm:Lim}{fn er:Value}{st:St}{may:Nat→Prop}(h:MemF w b ri lm fn er st)(ho:Only may w w')(hm:∀k,may k→∃t,Typed w t k∧t≠343∧t≠96∧t≠123∧t≠234):MemF w' b ri lm fn er st:=by
 obtain⟨h0,v,cp,h1,h2⟩:=h;exact⟨h0,v,cp,h1.only ho (fun hk=>by obtain⟨t,ht,h3,_⟩:=hm ri hk;exact ht.ne h1.typed h3 rfl),h2.only ho (fun k hk=>by
  obtain⟨t,ht,_,h4,h5,h6⟩:=hm k hk;exact⟨ht.not h4,ht.not h5,ht.not h6⟩)⟩
theorem z3x{w:World}{p:Nat}(h:Typed w 240 p):Oth w (fun b=>b=p):=Oth.one h (by decide)
theorem itT_nil(w:World):ItT w (.slice none 0 0) []:=⟨none,0,rfl,⟨rfl,by simp,by simp,fun i hi=>absurd hi (by simp)⟩,Nat.le_refl _,fun _=>rfl,fun ad e=>by cases e⟩
structure WsB (s:WS):Prop where
 k:s.k.length≤4000000000
 vec:∀f∈s.k,f.vec.length≤1000000000∧(∀e∈f.vec,e.hs.length≤1000000000)∧(absV f.vec).length≤1000000000
def okV (es:List Ent):Prop:=es.length≤1000000000∧(∀e∈es,e.hs.length≤1000000000)∧(absV es).length≤1000000000
theorem frag_last{l:List FV}{k:List Frag}(h:l.map FV.frag=k)(h0:l≠[]):(k.getD (k.length-1) Frag.z).vec=(l.getD (l.length-1) FV.z).vec.map (·.1)∧l.getD (l.length-1) FV.z∈l:=by
 have hl:k.length=l.length:=by rw[← h,List.length_map]
 have hp:l.length-1<l.length:=by have:=List.length_pos_iff.2 h0;omega
 rw[hl,← h];simp only[List.getD,List.getElem?_map,List.getElem?_eq_getElem hp,Option.map_some,Option.getD_some];exact⟨rfl,List.getElem_mem _⟩
theorem zz{P:Program}{ops:Array Oper}{rest:List Oper}{o:Oper}{a:Act}{Q:Exit→Act→World→Prop}{w:World}(hgd:o.guard=none)(s x:Operand)(t t':TypeId)
  (ho:o.op=.call { callee:=.builtin .append,args:=#[s,x],argTypes:=#[t,t'] }) {v xv v':Value} {w':World} (hs:a.eval s=v) (hx:a.eval x=xv)
  (hr:(Builtin.append_ #[t,t'] o.type #[v,xv]).run P w=.ok v' w') (h:wpList P ops Q rest (a.put o.dst v') w'):wpList P ops Q (o :: rest) a w:=
 wpList_plain hgd fun K hK=>z1a s x t t' ho hs hx hr (hK _ _ h)
theorem out_k{w:World}{base r:Nat}{lm:Lim}{er:Value}{s:WS}{pv kv v':Value}{m c:Nat}{l':List FV}(br:base≤r)(rd:RdW w r lm pv kv m c er)(row:KRow w base v' l')(fr:l'.map FV.frag=s.k)(us:UsedR w m s.us)(cu:CurW w c s.last s.op)(bm:base≤m)(bc:base≤c) :
  OutW (w.setCell ⟨r,6,none⟩ v') base r lm er s pv v' m c l':=by
 have ho:Only (fun b=>b=r) w (w.setCell ⟨r,6,none⟩ v'):=(Only.refl (fun b=>b=r) w).setCell (p:=⟨r,6,none⟩) (.inl rfl) _;have ht:=rd.typed;refine⟨br,rd.s6 _,row.only ho (fun k hk=>by rw[hk];exact⟨ht.not (by decide),ht.not (by decide),ht.not (by decide)⟩),fr,us.only ho (fun k hk=>by subst hk;exact⟨_,ht⟩),cu.only ho (fun e=>?_),bm,bc⟩;have hc:=cu.typed;rw[e]at hc;exact hc.ne ht (by decide) rfl
theorem OutW.part{w:World}{base r:Nat}{lm:Lim}{er:Value}{s:WS}{pv kv:Value}{m c:Nat}{l:List FV}(h:OutW w base r lm er s pv kv m c l)(pv':Value):OutW (w.setCell ⟨r,5,none⟩ pv') base r lm er s pv' kv m c l:=by
 have ho:Only (fun b=>b=r) w (w.setCell ⟨r,5,none⟩ pv'):=(Only.refl (fun b=>b=r) w).setCell (p:=⟨r,5,none⟩) (.inl rfl) _;have ht:=h.rd.typed;refine⟨h.br,h.rd.s5 _,h.row.only ho (fun k hk=>by rw[hk];exact⟨ht.not (by decide),ht.not (by decide),ht.not (by decide)⟩),h.frags,h.used.only ho (fun k hk=>by subst hk;exact⟨_,ht⟩),h.cur.only ho (fun e=>?_),h.bm,h.bc⟩;have hc:=h.cur.typed;rw[e]at hc;exact hc.ne ht (by decide) rfl
theorem OutW.toS{w:World}{base r:Nat}{lm:Lim}{er:Value}{s s':WS}{pv kv:Value}{m c:Nat}{l:List FV}(h:OutW w base r lm er s pv kv m c l)(h1:s'.k=s.k)(h2:s'.us=s.us)(h3:s'.last=s.last)(h4:s'.op=s.op):OutW w base r lm er s' pv kv m c l:=
 ⟨h.br,h.rd,h.row,by rw[h1];exact h.frags,by rw[h2];exact h.used,by rw[h3,h4];exact h.cur,h.bm,h.bc⟩
theorem OutW.ne{w:World}{base r:Nat}{lm:Lim}{er:Value}{s:WS}{pv kv:Value}{m c:Nat}{l:List FV}(h:OutW w base r lm er s pv kv m c l){p:Nat}{t:TypeId}(ht:Typed w t p)(hn:t≠162):¬r=p:=fun e=>ht.ne h.rd.typed hn e.symm
theorem wvec_mid(lm:Lim)(hlm:LimW lm)(base r:Nat)(s:WS)(left fr:Int)(st:St)(x at' rest:Int)(w wb:World)(p ri:Nat)(kv:Value)(m c:Nat)(l:List FV)(hv:VecM w base r lm .nilIface s left fr st wb p ri kv m c l)
  (hI:StI st at') (ha:at'≤4000000000) (hx:Word x) (hr:-9223372036854775808≤rest∧rest≤9223372036854775807) (hg:Laid w) (hb0:0<base) (hB:WsB s) (hok:∀st',stepS lm st x rest=.ok st'→okV st'.es) :
  Calls Tryz.prog 155 #[.pointer (some ⟨r,0,none⟩),.pointer (some ⟨p,0,none⟩),.int .u64 x,.int .i64 at',.int .i64 rest] w fun e w'=>TakeP lm base r (vecS lm s left fr st x at' rest) w e w':=by
 have hmx:Tryz.prog.follows .mixedOrders=true:=by kernel_rfl
 obtain⟨ak,ck,ekv,_⟩:=zl hv.out.row.row;subst ekv;have KP:=z7 (rput_any lm hlm wb.heap.size ri st x rest at' w hv.inner hI ha hx hr);have hout:=hv.out.only hv.only (z3x hv.tp);have p1:w.cell? ⟨p,1,none⟩=some (.int .i64 fr):=by simp[World.cell?,hv.cell]
 have p2:w.cell? ⟨p,2,none⟩=some (.pointer (some ⟨ri,0,none⟩)):=by simp[World.cell?,hv.cell]
 have n1:¬fr<0:=by have:=hv.fr0;omega
 have HG:=z7 hg;have HV:=z7 hv;have HB:=z7 hB;have HOK:=z7 hok;clear hI hx hr hg hv hB hok hout;go_enter Tryz.func155,Tryz.ntmps155
 go_wp2_with fail
 refine KP.out.mono ?_;rintro e w3 hP;have hb3:Below base w w3:=hP.below.mono HV.out.bw;have B3:=z7 hb3;have B3i:=z7 hP.below;have G3:=z7 (HG.out.bel hb0 hb3);have ONL:=z7 (HV.out.only.belowN hP.below);have O3:=z7 (HV.out.out.only (HV.out.only.belowN hP.below) (z3x HV.out.tp));have C3:=z7 ((hP.below.block p (by obtain⟨cs,hc⟩:=HV.out.tp;exact zh hc)).trans HV.out.cell)
 cases hst:stepS lm st x rest with
 | error cc=>
   rw[hst]at hP;obtain⟨rfl,_⟩:=hP.bad cc rfl;have E1:=z7 (show vecS lm s left fr st x at' rest=.error (cc,at')from by unfold vecS;rw[hst]);have hcc:cc≠0:=by have:=step_err hst;omega
   have KC:=z7 (code_E cc w3 G3.out);have KF:=z7 (fun W=>z17 cc at' hcc W);clear hP hst hcc hb3 p1 p2;go_wp2_with fail
   refine KC.out.mono ?_;rintro e w4 ⟨rfl,hb4⟩;have B4:=z7 hb4;clear hb4;go_wp2_with fail
   refine(KF.out _).mono ?_;rintro e w5 ⟨rfl,rfl⟩;go_wp2
   go_ret
   rw[E1.out];exact⟨B3.out.trans (zq B4.out (by have:=B3.out.size;have:=O3.out.rd.lt;have:=O3.out.br;omega)),fun c a hc=>(by cases hc;exact⟨rfl,_,_,_,_,(O3.out.below B4.out).rd⟩),fun s' hs=>(by cases hs)⟩
 | ok st'=>
   rw[hst]at hP;obtain⟨rfl,hM⟩:=hP.good st' rfl;have M3:=z7 hM
   cases hf:st'.ph.isFin with
   | false=>
     have E1:=z7 (show vecS lm s left fr st x at' rest=.ok { s with pt:=.vecs left fr (some st') } from by unfold vecS;rw[hst];simp[hf]);clear hP hM hst hf hb3 p1 p2;go_wp2
     go_ret
     rw[E1.out];refine⟨B3.out,fun c a hc=>(by cases hc),fun s' hs=>(by cases hs;exact⟨rfl,wb,p,ri,_,m,c,l,⟨⟨HV.out.out.br,HV.out.out.rd,HV.out.out.row,HV.out.out.frags,HV.out.out.used,HV.out.out.cur,HV.out.out.bm,HV.out.out.bc⟩,HV.out.bp,HV.out.tp,ONL.out,C3.out,HV.out.wl,HV.out.fr0,M3.out,HV.out.bw,HV.out.ni⟩⟩)⟩
   | true=>
     obtain⟨hbr,vv,cp,hR,hPa⟩:=hM;have hph:=fin_is hf;rw[fn_fin ri hf]at hR;have KV:=z7 (vector_fin lm ri vv cp _ _ w3 hR);unfold Parts at hPa;rw[hph]at hPa;obtain⟨lv,elv,hRow⟩:=hPa;have OKV:=z7 (HOK.out st' hst);have HST:=z7 hst;have HF:=z7 hf;have ELV:=z7 elv;have HRW:=z7 hRow;have q2:w3.cell? ⟨p,2,none⟩=some (.pointer (some ⟨ri,0,none⟩)):=by simp[World.cell?,C3.out]
     obtain⟨av,cv,evv,_⟩:=hRow.vecAt;subst evv;clear hP hR hRow hst hf hb3 p1 p2 hph;go_wp2_with fail
     refine KV.out.mono ?_;rintro e w4 ⟨rfl,hb4⟩;have B4:=z7 (B3.out.trans (zq hb4 (by have:=B3.out.size;have:=O3.out.rd.lt;have:=O3.out.br;omega)));have O4:=z7 (O3.out.below hb4);have C4:=z7 ((hb4.block p (zh C3.out)).trans C3.out);have R4:=z7 ((HRW.out.only (may:=fun _=>False) (Only.of_below hb4) (fun _ h=>h.elim)));have c6:=O4.out.rd.c6;have hlk:=z7 (show s.k.length=l.length from by rw[← O4.out.frags,List.length_map]);obtain⟨nk,enk⟩:∃nk,l.length=nk:=⟨_,rfl⟩;have ENK:=z7 enk;obtain⟨nv,env⟩:∃nv,lv.length=nv:=⟨_,rfl⟩;have ENV:=z7 env;rw[enk]at c6;rw[env]at R4 ⊢;clear hb4 q2 enk env;by_cases hk0:nk=0
     ·subst hk0
      have E1:=z7 (show vecS lm s left fr st x at' rest=.ok { s with k:=s.k ++ [⟨[],st'.es⟩],pt:=if left-1=0 then .mid else .vecs (left-1) (-1) none } from by
       unfold vecS;rw[HST.out];have:s.k=[]:=List.length_eq_zero_iff.1 (by rw[hlk.out,ENK.out]);simp[HF.out,this])
      have g8:FragT w4 ⟨[],.slice none 0 0,lv,.slice av nv cv⟩:=⟨itT_nil _,R4.out.base (Nat.zero_le _)⟩;have KA:=KRow.app (vb:=w4.heap.size) (g:=⟨[],.slice none 0 0,lv,.slice av nv cv⟩) (O4.out.row.below (zc (Below.refl w4.heap.size w4) (.cells #[.slice none 0 0,.slice av nv cv] 80))) (g8.below (zc (Below.refl _ _) _)) (ze _ _ rfl) (by rw[← hlk.out];have:=HB.out.k;omega) (by have:=O4.out.rd.lt;have:=O4.out.br;simp;omega) 23;rw[ENK.out]at KA;obtain⟨v',w7,hrun,hK7,ho7⟩:=KA;obtain⟨a7,c7,e7,_⟩:=zl hK7.row;subst e7;obtain⟨n7,en7⟩:∃n7,(l ++ [(⟨[],.slice none 0 0,lv,.slice av nv cv⟩:FV)]).length=n7:=⟨_,rfl⟩;rw[en7]at hK7 hrun;have HK7:=z7 hK7;have hoA:=(Only.refl (fun b=>(Value.slice ak 0 ck).ownBlock=some b) w4).alloc (.cells #[.slice none 0 0,.slice av nv cv] 80) |>.trans (ho7.wide (fun b hb=>hb));have hmay:∀k,(Value.slice ak 0 ck).ownBlock=some k→Typed w4 80 k:=fun k hk=>zj O4.out.row.row (by rw[ENK.out];exact hk);have rd7:RdW w7 r lm (ptrV 237 p) (.slice ak 0 ck) m c .nilIface:=by
       have:=O4.out.rd;rw[ENK.out]at this;exact this.only hoA (fun hk=>(hmay _ hk).ne O4.out.rd.typed (by decide) rfl)
      have us7:=O4.out.used.only hoA (fun k hk=>⟨_,hmay k hk⟩);have cu7:=O4.out.cur.only hoA (fun hk=>(hmay _ hk).ne O4.out.cur.typed (by decide) rfl);have cp7:=hoA.obj (fun hk=>(hmay _ hk).ne (show Typed w4 240 p from⟨_,C4.out⟩) (by decide) rfl) C4.out;have hbW:base≤w4.heap.size:=by have:=O4.out.rd.lt;have:=O4.out.br;omega
      have B7:=z7 (B4.out.trans (hoA.below (n:=base) hbW (fun k hk=>(O4.out.row.row.lt k (by rw[ENK.out];exact hk)).1)));have RD7:=z7 rd7;have US7:=z7 us7;have CU7:=z7 cu7;have CP7:=z7 cp7;have nrp:¬r=p:=O4.out.ne (show Typed w4 240 p from⟨_,C4.out⟩) (by decide);have npr:¬p=r:=fun e=>nrp e.symm;have k6:=rd7.c6;have k5:=rd7.c5;have z6:=rd7.free 6;have z5:=rd7.free 5;have y0:w7.cell? ⟨p,0,none⟩=some (.int .u64 left):=by simp[World.cell?,cp7]
      have y1:w7.cell? ⟨p,1,none⟩=some (.int .i64 fr):=by simp[World.cell?,cp7]
      have x0:w7.frozen? ⟨p,0,none⟩=false:=frozen_of_row _ _ 0 _ _ cp7;have x1:w7.frozen? ⟨p,1,none⟩=false:=frozen_of_row _ _ 1 _ _ cp7;have S7:=z7 (show base≤w7.heap.size from by have:=rd7.lt;have:=O4.out.br;omega);clear en7 g8 hK7 ho7 hoA hmay rd7 us7 cu7 cp7;have hwl:=HV.out.wl;have HL2:=z7 (show({ s with k:=s.k ++ [⟨[],st'.es⟩] }:WS).k=(l ++ [(⟨[],.slice none 0 0,lv,.slice av nv cv⟩:FV)]).map FV.frag from by
       show s.k ++ [⟨[],st'.es⟩]=_
       rw[List.map_append,O4.out.frags,← ELV.out];rfl)
      have ni7:=z7 (show NoItems (l ++ [(⟨[],.slice none 0 0,lv,.slice av nv cv⟩:FV)])from fun f hf=>(List.mem_append.1 hf).elim (fun h=>HV.out.ni f h) (fun h=>by
       obtain rfl:f=⟨[],.slice none 0 0,lv,.slice av nv cv⟩:=by simpa using h
       exact⟨rfl,rfl⟩))
      have hty7:=z7 (show Typed w7 240 p from⟨_,CP7.out⟩);have W8:=z7 (out_k (s:={ s with k:=s.k ++ [⟨[],st'.es⟩] }) O4.out.br RD7.out HK7.out HL2.out.symm US7.out CU7.out O4.out.bm O4.out.bc);have o8:Only (fun b=>b=r) w7 (w7.setCell ⟨r,6,none⟩ (.slice a7 n7 c7)):=(Only.refl (fun b=>b=r) w7).setCell (p:=⟨r,6,none⟩) (.inl rfl) _;have CP8:=z7 (o8.obj npr CP7.out);have B8:=z7 (B7.out.trans (o8.below (n:=base) S7.out (fun b hb=>by rw[hb];exact O4.out.br)));have bs8:base≤(w7.setCell ⟨r,6,none⟩ (.slice a7 n7 c7)).heap.size:=Nat.le_trans S7.out o8.size;have o9:Only (fun b=>b=p) (w7.setCell ⟨r,6,none⟩ (.slice a7 n7 c7)) (((w7.setCell ⟨r,6,none⟩ (.slice a7 n7 c7)).setCell ⟨p,1,none⟩ (.int .i64 (-1))).setCell ⟨p,0,none⟩ (.int .u64 (left-1))):=((Only.refl (fun b=>b=p) _).setCell (p:=⟨p,1,none⟩) (.inl rfl) _).setCell (p:=⟨p,0,none⟩) (.inl rfl) _;have W9:=z7 (W8.out.only o9 (z3x ⟨_,CP8.out⟩));have CP9:=z7 (heap_setCell_same _ _ 0 _ _ (.int .u64 (left-1)) (heap_setCell_same _ _ 1 _ _ (.int .i64 (-1)) CP8.out));have B9:=z7 (B8.out.trans (o9.below (n:=base) bs8 (fun b hb=>by rw[hb];exact HV.out.bp)));have bs9:=z7 (Nat.le_trans bs8 o9.size);clear o8 o9 bs8;by_cases hl1:left-1=0
      ·obtain rfl:left=1:=by omega
       have E2:=z7 (show vecS lm s 1 fr st x at' rest=.ok { s with k:=s.k ++ [⟨[],st'.es⟩],pt:=.mid } from by rw[E1.out];rfl);have wl0:IntKind.u64.wrap (1-1)=0:=by decide
       have W9':=W9.out;have B9':=B9.out;have bs9':=bs9.out;simp only[show(1:Int)-1=0 from rfl]at W9' B9' bs9';have W10:=z7 ((W9'.part (unitV 241)).toS (s':={ s with k:=s.k ++ [⟨[],st'.es⟩],pt:=.mid }) rfl rfl rfl rfl);have B10:=z7 (B9'.trans (((Only.refl (fun b=>b=r) _).setCell (p:=⟨r,5,none⟩) (.inl rfl) (unitV 241)).below (n:=base) bs9' (fun b hb=>by rw[hb];exact O4.out.br)));clear W9' B9' bs9';go_wp2_with(at_builtin;go_loud(refine zz rfl _ _ _ _ rfl rfl rfl hrun ?_))
       go_ret
       rw[E2.out];exact⟨B10.out,fun c a hc=>(by cases hc),fun s' hs=>(by cases hs;exact⟨rfl,_,_,_,_,_,W10.out,rfl,ni7.out⟩)⟩
      ·have E2:=z7 (show vecS lm s left fr st x at' rest=.ok { s with k:=s.k ++ [⟨[],st'.es⟩],pt:=.vecs (left-1) (-1) none } from by rw[E1.out,if_neg hl1])
       have wl1:IntKind.u64.wrap (left-1)=left-1:=z11 ⟨by have:=hwl.2;omega,by have:=hwl.1.2;omega⟩;have nl1:((left-1) == 0)=false:=by simpa using hl1
       have W10:=z7 (W9.out.toS (s':={ s with k:=s.k ++ [⟨[],st'.es⟩],pt:=.vecs (left-1) (-1) none }) rfl rfl rfl rfl);go_wp2_with(at_builtin;go_loud(refine zz rfl _ _ _ _ rfl rfl rfl hrun ?_))
       go_ret
       rw[E2.out];exact⟨B9.out,fun c a hc=>(by cases hc),fun s' hs=>(by cases hs;exact⟨rfl,_,_,_,_,_,W10.out,⟨⟨⟨by have:=hwl.2;omega,by have:=hwl.1.2;omega⟩,by have:=hwl.2;omega⟩,p,_,rfl,HV.out.bp,CP9.out⟩,ni7.out⟩)⟩
     ·have hkl:l≠[]:=fun e=>hk0 (by rw[← ENK.out,e];rfl)
      obtain⟨hlv,hlm⟩:=frag_last O4.out.frags hkl;have hkn:=O4.out.row.know;obtain⟨ak',ck',eak,hKn,_⟩:=hkn;injection eak with e1 e2 e3
      subst e1;clear e2 e3;obtain⟨g,goff,eg,hgl,hg1,hg2⟩:=hKn.cells (l.length-1) (by rw[ENK.out];omega);subst eg;have hfa:=hKn.frags _ hlm;rw[ENK.out]at hg2 hlv hfa;have hbq:=HB.out.vec (s.k.getD (s.k.length-1) Frag.z) (by
       rw[← O4.out.frags];have hp:l.length-1<l.length:=by have:=List.length_pos_iff.2 hkl;omega
       rw[List.length_map,List.getD,List.getElem?_map,List.getElem?_eq_getElem hp,Option.map_some,Option.getD_some];exact List.mem_map.2 ⟨_,List.getElem_mem _,rfl⟩)
      have HLV:=z7 hlv;rw[hlv]at hbq;obtain⟨q,eq⟩:∃q,l.getD (nk-1) FV.z=q:=⟨_,rfl⟩;rw[eq]at hg2 hfa hbq hlv;obtain⟨qa,qc,qv,hqE,_⟩:=hfa.vec;rw[qv]at hg2;obtain⟨av2,cv2,eav,hE4,_⟩:=R4.out.vecAt;injection eav with e1 e2 e3
      subst e1;clear e2 e3;have KCM:=z7 (z3z qa av q.vec.length qc lv.length cv q.vec lv w4 hqE.at' hE4.at' (fun p hp=>hbq.2.1 _ (List.mem_map.2 ⟨p,hp,rfl⟩)) (fun p hp=>OKV.out.2.1 _ (by rw[← ELV.out];exact List.mem_map.2 ⟨p,hp,rfl⟩)) (by have:=hbq.1;rw[List.length_map]at this;exact this) (by have:=OKV.out.1;rw[← ELV.out,List.length_map]at this;exact this) hbq.2.2 (by rw[ELV.out];exact OKV.out.2.2));rw[ENV.out,ELV.out,hlv.symm]at KCM;obtain⟨qn,eqn⟩:∃qn,q.vec.length=qn:=⟨_,rfl⟩;rw[eqn]at hg2 KCM;obtain⟨cm,ecm⟩:∃cm,cmpL (absV (s.k.getD (s.k.length-1) Frag.z).vec) (absV st'.es)=cm:=⟨_,rfl⟩;have ECM:=z7 ecm;rw[ecm]at KCM;have q3:IntKind.i64.wrap ((nk:Int)-1)=(nk:Int)-1:=IntWalk.i64_in _ (by have:=hlk.out;have:=HB.out.k;have:=ENK.out;omega);have q4:((nk:Int)-1).toNat=nk-1:=by omega
      have q5:(0:Int)≤(nk:Int)-1:=by omega
      have q6:(nk:Int)-1<(nk:Int):=by omega
      have q7:(0:Int)<(nk:Int):=by omega
      have hkne:=z7 (show s.k≠[] from fun e=>hk0 (by rw[← ENK.out,← hlk.out,e];rfl));clear hkl hlv hlm hKn hgl hg1 hfa hbq eq hqE hE4 eqn ecm;go_wp2_with fail
      refine KCM.out.mono ?_;rintro e w5 ⟨rfl,hb5⟩;have B5:=z7 (B4.out.trans (zq hb5 (by have:=O4.out.rd.lt;have:=O4.out.br;omega)));have O5:=z7 (O4.out.below hb5);have C5:=z7 ((hb5.block p (zh C4.out)).trans C4.out);have R5:=z7 ((R4.out.only (may:=fun _=>False) (Only.of_below hb5) (fun _ h=>h.elim)));have c6':=O5.out.rd.c6;rw[ENK.out]at c6';have y1:w5.cell? ⟨p,1,none⟩=some (.int .i64 fr):=by simp[World.cell?,C5.out]
      clear hb5 q3 q4 q5 q6 hg2 c6;by_cases hc:0≤cm
      ·have E1:=z7 (show vecS lm s left fr st x at' rest=.error (3,fr)from by
        unfold vecS;rw[HST.out];simp only[HF.out,if_true];rw[if_pos ⟨hkne.out,by rw[ECM.out];exact hc⟩])
       have KF:=z7 (fun W=>z17 3 fr (by decide) W);have dc:decide (0≤cm)=true:=decide_eq_true hc;go_wp2_with fail
       refine(KF.out _).mono ?_;rintro e w6 ⟨rfl,rfl⟩;go_wp2
       go_ret
       rw[E1.out];exact⟨B5.out,fun c a hc=>(by cases hc;exact⟨rfl,_,_,_,_,O5.out.rd⟩),fun s' hs=>(by cases hs)⟩
      ·have E1:=z7 (show vecS lm s left fr st x at' rest=.ok { s with k:=s.k ++ [⟨[],st'.es⟩],pt:=if left-1=0 then .mid else .vecs (left-1) (-1) none } from by
        unfold vecS;rw[HST.out];simp only[HF.out,if_true];rw[if_neg (fun h=>hc (by have:=h.2;rw[ECM.out]at this;exact this))])
       have dc:decide (0≤cm)=false:=decide_eq_false hc;clear y1;have g8:FragT w5 ⟨[],.slice none 0 0,lv,.slice av nv cv⟩:=⟨itT_nil _,R5.out.base (Nat.zero_le _)⟩;have KA:=KRow.app (vb:=w5.heap.size) (g:=⟨[],.slice none 0 0,lv,.slice av nv cv⟩) (O5.out.row.below (zc (Below.refl w5.heap.size w5) (.cells #[.slice none 0 0,.slice av nv cv] 80))) (g8.below (zc (Below.refl _ _) _)) (ze _ _ rfl) (by rw[← hlk.out];have:=HB.out.k;omega) (by have:=O5.out.rd.lt;have:=O5.out.br;simp;omega) 23;rw[ENK.out]at KA;obtain⟨v',w7,hrun,hK7,ho7⟩:=KA;obtain⟨a7,c7,e7,_⟩:=zl hK7.row;subst e7;obtain⟨n7,en7⟩:∃n7,(l ++ [(⟨[],.slice none 0 0,lv,.slice av nv cv⟩:FV)]).length=n7:=⟨_,rfl⟩;rw[en7]at hK7 hrun;have HK7:=z7 hK7;have hoA:=(Only.refl (fun b=>(Value.slice (some ⟨g,goff,none⟩) nk ck).ownBlock=some b) w5).alloc (.cells #[.slice none 0 0,.slice av nv cv] 80) |>.trans (ho7.wide (fun b hb=>hb));have hmay:∀k,(Value.slice (some ⟨g,goff,none⟩) nk ck).ownBlock=some k→Typed w5 80 k:=fun k hk=>zj O5.out.row.row (by rw[ENK.out];exact hk);have rd7:RdW w7 r lm (ptrV 237 p) (.slice (some ⟨g,goff,none⟩) nk ck) m c .nilIface:=by
        have:=O5.out.rd;rw[ENK.out]at this;exact this.only hoA (fun hk=>(hmay _ hk).ne O5.out.rd.typed (by decide) rfl)
       have us7:=O5.out.used.only hoA (fun k hk=>⟨_,hmay k hk⟩);have cu7:=O5.out.cur.only hoA (fun hk=>(hmay _ hk).ne O5.out.cur.typed (by decide) rfl);have cp7:=hoA.obj (fun hk=>(hmay _ hk).ne (show Typed w5 240 p from⟨_,C5.out⟩) (by decide) rfl) C5.out;have hbW:base≤w5.heap.size:=by have:=O5.out.rd.lt;have:=O5.out.br;omega
       have B7:=z7 (B5.out.trans (hoA.below (n:=base) hbW (fun k hk=>(O5.out.row.row.lt k (by rw[ENK.out];exact hk)).1)));have RD7:=z7 rd7;have US7:=z7 us7;have CU7:=z7 cu7;have CP7:=z7 cp7;have nrp:¬r=p:=O5.out.ne (show Typed w5 240 p from⟨_,C5.out⟩) (by decide);have npr:¬p=r:=fun e=>nrp e.symm;have k6:=rd7.c6;have k5:=rd7.c5;have z6:=rd7.free 6;have z5:=rd7.free 5;have y0:w7.cell? ⟨p,0,none⟩=some (.int .u64 left):=by simp[World.cell?,cp7]
       have y1:w7.cell? ⟨p,1,none⟩=some (.int .i64 fr):=by simp[World.cell?,cp7]
       have x0:w7.frozen? ⟨p,0,none⟩=false:=frozen_of_row _ _ 0 _ _ cp7;have x1:w7.frozen? ⟨p,1,none⟩=false:=frozen_of_row _ _ 1 _ _ cp7;have S7:=z7 (show base≤w7.heap.size from by have:=rd7.lt;have:=O5.out.br;omega);clear en7 g8 hK7 ho7 hoA hmay rd7 us7 cu7 cp7;have hwl:=HV.out.wl;have HL2:=z7 (show({ s with k:=s.k ++ [⟨[],st'.es⟩] }:WS).k=(l ++ [(⟨[],.slice none 0 0,lv,.slice av nv cv⟩:FV)]).map FV.frag from by
        show s.k ++ [⟨[],st'.es⟩]=_
        rw[List.map_append,O5.out.frags,← ELV.out];rfl)
       have ni7:=z7 (show NoItems (l ++ [(⟨[],.slice none 0 0,lv,.slice av nv cv⟩:FV)])from fun f hf=>(List.mem_append.1 hf).elim (fun h=>HV.out.ni f h) (fun h=>by
        obtain rfl:f=⟨[],.slice none 0 0,lv,.slice av nv cv⟩:=by simpa using h
        exact⟨rfl,rfl⟩))
       have hty7:=z7 (show Typed w7 240 p from⟨_,CP7.out⟩);have W8:=z7 (out_k (s:={ s with k:=s.k ++ [⟨[],st'.es⟩] }) O5.out.br RD7.out HK7.out HL2.out.symm US7.out CU7.out O5.out.bm O5.out.bc);have o8:Only (fun b=>b=r) w7 (w7.setCell ⟨r,6,none⟩ (.slice a7 n7 c7)):=(Only.refl (fun b=>b=r) w7).setCell (p:=⟨r,6,none⟩) (.inl rfl) _;have CP8:=z7 (o8.obj npr CP7.out);have B8:=z7 (B7.out.trans (o8.below (n:=base) S7.out (fun b hb=>by rw[hb];exact O5.out.br)));have bs8:base≤(w7.setCell ⟨r,6,none⟩ (.slice a7 n7 c7)).heap.size:=Nat.le_trans S7.out o8.size;have o9:Only (fun b=>b=p) (w7.setCell ⟨r,6,none⟩ (.slice a7 n7 c7)) (((w7.setCell ⟨r,6,none⟩ (.slice a7 n7 c7)).setCell ⟨p,1,none⟩ (.int .i64 (-1))).setCell ⟨p,0,none⟩ (.int .u64 (left-1))):=((Only.refl (fun b=>b=p) _).setCell (p:=⟨p,1,none⟩) (.inl rfl) _).setCell (p:=⟨p,0,none⟩) (.inl rfl) _;have W9:=z7 (W8.out.only o9 (z3x ⟨_,CP8.out⟩));have CP9:=z7 (heap_setCell_same _ _ 0 _ _ (.int .u64 (left-1)) (heap_setCell_same _ _ 1 _ _ (.int .i64 (-1)) CP8.out));have B9:=z7 (B8.out.trans (o9.below (n:=base) bs8 (fun b hb=>by rw[hb];exact HV.out.bp)));have bs9:=z7 (Nat.le_trans bs8 o9.size);clear o8 o9 bs8;by_cases hl1:left-1=0
       ·obtain rfl:left=1:=by omega
        have E2:=z7 (show vecS lm s 1 fr st x at' rest=.ok { s with k:=s.k ++ [⟨[],st'.es⟩],pt:=.mid } from by rw[E1.out];rfl);have wl0:IntKind.u64.wrap (1-1)=0:=by decide
        have W9':=W9.out;have B9':=B9.out;have bs9':=bs9.out;simp only[show(1:Int)-1=0 from rfl]at W9' B9' bs9';have W10:=z7 ((W9'.part (unitV 241)).toS (s':={ s with k:=s.k ++ [⟨[],st'.es⟩],pt:=.mid }) rfl rfl rfl rfl);have B10:=z7 (B9'.trans (((Only.refl (fun b=>b=r) _).setCell (p:=⟨r,5,none⟩) (.inl rfl) (unitV 241)).below (n:=base) bs9' (fun b hb=>by rw[hb];exact O5.out.br)));clear W9' B9' bs9';go_wp2_with(at_builtin;go_loud(refine zz rfl _ _ _ _ rfl rfl rfl hrun ?_))
        go_ret
        rw[E2.out];exact⟨B10.out,fun c a hc=>(by cases hc),fun s' hs=>(by cases hs;exact⟨rfl,_,_,_,_,_,W10.out,rfl,ni7.out⟩)⟩
       ·have E2:=z7 (show vecS lm s left fr st x at' rest=.ok { s with k:=s.k ++ [⟨[],st'.es⟩],pt:=.vecs (left-1) (-1) none } from by rw[E1.out,if_neg hl1])
        have wl1:IntKind.u64.wrap (left-1)=left-1:=z11 ⟨by have:=hwl.2;omega,by have:=hwl.1.2;omega⟩;have nl1:((left-1) == 0)=false:=by simpa using hl1
        have W10:=z7 (W9.out.toS (s':={ s with k:=s.k ++ [⟨[],st'.es⟩],pt:=.vecs (left-1) (-1) none }) rfl rfl rfl rfl);go_wp2_with(at_builtin;go_loud(refine zz rfl _ _ _ _ rfl rfl rfl hrun ?_))
        go_ret
        rw[E2.out];exact⟨B9.out,fun c a hc=>(by cases hc),fun s' hs=>(by cases hs;exact⟨rfl,_,_,_,_,_,W10.out,⟨⟨⟨by have:=hwl.2;omega,by have:=hwl.1.2;omega⟩,by have:=hwl.2;omega⟩,p,_,rfl,HV.out.bp,CP9.out⟩,ni7.out⟩)⟩
theorem wvec_start(lm:Lim)(hlm:LimW lm)(base r:Nat)(s:WS)(left x at' rest:Int)(w:World)(p:Nat)(ip:Option Addr)(kv:Value)(m c:Nat)(l:List FV)(hv:OutW w base r lm .nilIface s (ptrV 237 p) kv m c l)(bp:base≤p)(wl:Word left∧0<left)(hni:NoItems l)
  (hp:w.heap[p]?=some (.cells #[.int .u64 left,.int .i64 (-1),.pointer ip] 240 (0,0)))
  (h0:0≤at') (ha:at'≤4000000000) (hx:Word x) (hr:-9223372036854775808≤rest∧rest≤9223372036854775807) (hg:Laid w) (hb0:0<base) (hB:WsB s) (hok:∀st',stepS lm St0 x rest=.ok st'→okV st'.es) :
  Calls Tryz.prog 155 #[.pointer (some ⟨r,0,none⟩),.pointer (some ⟨p,0,none⟩),.int .u64 x,.int .i64 at',.int .i64 rest] w fun e w'=>TakeP lm base r (vecS lm s left at' St0 x at' rest) w e w':=by
 have hmx:Tryz.prog.follows .mixedOrders=true:=by kernel_rfl
 obtain⟨ak,ck,ekv,_⟩:=zl hv.row.row;subst ekv;have KBG:=z7 (begin_any lm w.heap.size w (Nat.le_refl _));have p0:w.cell? ⟨p,0,none⟩=some (.int .u64 left):=by simp[World.cell?,hp]
 have p1:w.cell? ⟨p,1,none⟩=some (.int .i64 (-1)):=by simp[World.cell?,hp]
 have d0:w.cell? ⟨r,0,none⟩=some (.int .i64 lm.f):=by simp[World.cell?,show w.heap[r]?=_ from hv.rd]
 have d1:=hv.rd.c1;have d2:w.cell? ⟨r,2,none⟩=some (.int .i64 lm.en):=by simp[World.cell?,show w.heap[r]?=_ from hv.rd]
 have d3:w.cell? ⟨r,3,none⟩=some (.int .i64 lm.ho):=by simp[World.cell?,show w.heap[r]?=_ from hv.rd]
 have d4:=hv.rd.c4;have HG:=z7 hg;have HOV:=z7 hv;have HPC:=z7 hp;have HB:=z7 hB;have HOK:=z7 hok;have HX:=z7 (And.intro h0 (And.intro ha (And.intro hx hr)));clear hr hg hv hB hok hp h0 ha hx;go_enter Tryz.func155,Tryz.ntmps155
 go_wp2_with fail
 refine KBG.out.mono ?_;rintro e w1 ⟨ri,rfl,hri,hM1,hb1⟩;have q1:=(hb1.block p (zh HPC.out)).trans HPC.out;have p0':w1.cell? ⟨p,0,none⟩=some (.int .u64 left):=by simp[World.cell?,q1]
 have p1':w1.cell? ⟨p,1,none⟩=some (.int .i64 (-1)):=by simp[World.cell?,q1]
 have p2':w1.cell? ⟨p,2,none⟩=some (.pointer ip):=by simp[World.cell?,q1]
 have z1:w1.frozen? ⟨p,1,none⟩=false:=frozen_of_row _ _ 1 _ _ q1;have z2:w1.frozen? ⟨p,2,none⟩=false:=frozen_of_row _ _ 2 _ _ q1;obtain⟨w2,ew2⟩:∃w2,(w1.setCell ⟨p,1,none⟩ (.int .i64 at')).setCell ⟨p,2,none⟩ (.pointer (some ⟨ri,0,none⟩))=w2:=⟨_,rfl⟩;have q2:w2.heap[p]?=some (.cells #[.int .u64 left,.int .i64 at',.pointer (some ⟨ri,0,none⟩)] 240 (0,0)):=by
  rw[← ew2];exact heap_setCell_same _ _ 2 _ _ _ (heap_setCell_same _ _ 1 _ _ _ q1)
 have o12:Only (fun b=>b=p) w1 w2:=by
  rw[← ew2];exact((Only.refl (fun b=>b=p) w1).setCell (p:=⟨p,1,none⟩) (.inl rfl) _).setCell (p:=⟨p,2,none⟩) (.inl rfl) _
 have ow2:Only (fun b=>b=p) w w2:=(Only.of_below hb1).trans o12;have typ:Typed w 240 p:=⟨_,HPC.out⟩;have hbw:base≤w.heap.size:=by have:=HOV.out.rd.lt;have:=HOV.out.br;omega
 have hv:VecM w2 base r lm .nilIface s left at' St0 w p ri (.slice ak l.length ck) m c l:=⟨HOV.out,bp,typ,ow2,q2,wl,HX.out.1,hM1.only o12 (fun k hk=>⟨240,by rw[hk];exact⟨_,q1⟩,by decide,by decide,by decide,by decide⟩),hbw,hni⟩;have B2:=z7 (show Below base w w2 from ow2.below hbw (fun b hb=>by rw[hb];exact bp));have KP:=z7 (rput_any lm hlm w.heap.size ri St0 x rest at' w2 hv.inner (stI_0 at' HX.out.1) HX.out.2.1 HX.out.2.2.1 HX.out.2.2.2);have p2:w2.cell? ⟨p,2,none⟩=some (.pointer (some ⟨ri,0,none⟩)):=by simp[World.cell?,q2]
 have HV:=z7 hv;clear hv q2 o12 ow2 typ q1 hM1 hb1 hri p0 p1 d0 d1 d2 d3 d4 hbw;go_wp2_with fail
 clear ew2 p0' p1' p2' z1 z2;refine KP.out.mono ?_;rintro e w3 hP;have hb3:Below base w w3:=B2.out.trans (hP.below.mono HV.out.bw);have B3:=z7 hb3;have B3i:=z7 hP.below;have G3:=z7 (HG.out.bel hb0 hb3);have ONL:=z7 (HV.out.only.belowN hP.below);have O3:=z7 (HV.out.out.only (HV.out.only.belowN hP.below) (z3x HV.out.tp));have C3:=z7 ((hP.below.block p (by obtain⟨cs,hc⟩:=HV.out.tp;exact zh hc)).trans HV.out.cell)
 cases hst:stepS lm St0 x rest with
 | error cc=>
   rw[hst]at hP;obtain⟨rfl,_⟩:=hP.bad cc rfl;have E1:=z7 (show vecS lm s left at' St0 x at' rest=.error (cc,at')from by unfold vecS;rw[hst]);have hcc:cc≠0:=by have:=step_err hst;omega
   have KC:=z7 (code_E cc w3 G3.out);have KF:=z7 (fun W=>z17 cc at' hcc W);clear hP hst hcc hb3 p2;go_wp2_with fail
   refine KC.out.mono ?_;rintro e w4 ⟨rfl,hb4⟩;have B4:=z7 hb4;clear hb4;go_wp2_with fail
   refine(KF.out _).mono ?_;rintro e w5 ⟨rfl,rfl⟩;go_wp2
   go_ret
   rw[E1.out];exact⟨B3.out.trans (zq B4.out (by have:=B3.out.size;have:=O3.out.rd.lt;have:=O3.out.br;omega)),fun c a hc=>(by cases hc;exact⟨rfl,_,_,_,_,(O3.out.below B4.out).rd⟩),fun s' hs=>(by cases hs)⟩
 | ok st'=>
   rw[hst]at hP;obtain⟨rfl,hM⟩:=hP.good st' rfl;have M3:=z7 hM
   cases hf:st'.ph.isFin with
   | false=>
     have E1:=z7 (show vecS lm s left at' St0 x at' rest=.ok { s with pt:=.vecs left at' (some st') } from by unfold vecS;rw[hst];simp[hf]);clear hP hM hst hf hb3 p2;go_wp2
     go_ret
     rw[E1.out];refine⟨B3.out,fun c a hc=>(by cases hc),fun s' hs=>(by cases hs;exact⟨rfl,w,p,ri,_,m,c,l,⟨⟨HV.out.out.br,HV.out.out.rd,HV.out.out.row,HV.out.out.frags,HV.out.out.used,HV.out.out.cur,HV.out.out.bm,HV.out.out.bc⟩,HV.out.bp,HV.out.tp,ONL.out,C3.out,HV.out.wl,HV.out.fr0,M3.out,HV.out.bw,HV.out.ni⟩⟩)⟩
   | true=>
     obtain⟨hbr,vv,cp,hR,hPa⟩:=hM;have hph:=fin_is hf;rw[fn_fin ri hf]at hR;have KV:=z7 (vector_fin lm ri vv cp _ _ w3 hR);unfold Parts at hPa;rw[hph]at hPa;obtain⟨lv,elv,hRow⟩:=hPa;have OKV:=z7 (HOK.out st' hst);have HST:=z7 hst;have HF:=z7 hf;have ELV:=z7 elv;have HRW:=z7 hRow;have q2:w3.cell? ⟨p,2,none⟩=some (.pointer (some ⟨ri,0,none⟩)):=by simp[World.cell?,C3.out]
     obtain⟨av,cv,evv,_⟩:=hRow.vecAt;subst evv;clear hP hR hRow hst hf hb3 p2 hph;go_wp2_with fail
     refine KV.out.mono ?_;rintro e w4 ⟨rfl,hb4⟩;have B4:=z7 (B3.out.trans (zq hb4 (by have:=B3.out.size;have:=O3.out.rd.lt;have:=O3.out.br;omega)));have O4:=z7 (O3.out.below hb4);have C4:=z7 ((hb4.block p (zh C3.out)).trans C3.out);have R4:=z7 ((HRW.out.only (may:=fun _=>False) (Only.of_below hb4) (fun _ h=>h.elim)));have c6:=O4.out.rd.c6;have hlk:=z7 (show s.k.length=l.length from by rw[← O4.out.frags,List.length_map]);obtain⟨nk,enk⟩:∃nk,l.length=nk:=⟨_,rfl⟩;have ENK:=z7 enk;obtain⟨nv,env⟩:∃nv,lv.length=nv:=⟨_,rfl⟩;have ENV:=z7 env;rw[enk]at c6;rw[env]at R4 ⊢;clear hb4 q2 enk env;by_cases hk0:nk=0
     ·subst hk0
      have E1:=z7 (show vecS lm s left at' St0 x at' rest=.ok { s with k:=s.k ++ [⟨[],st'.es⟩],pt:=if left-1=0 then .mid else .vecs (left-1) (-1) none } from by
       unfold vecS;rw[HST.out];have:s.k=[]:=List.length_eq_zero_iff.1 (by rw[hlk.out,ENK.out]);simp[HF.out,this])
      have g8:FragT w4 ⟨[],.slice none 0 0,lv,.slice av nv cv⟩:=⟨itT_nil _,R4.out.base (Nat.zero_le _)⟩;have KA:=KRow.app (vb:=w4.heap.size) (g:=⟨[],.slice none 0 0,lv,.slice av nv cv⟩) (O4.out.row.below (zc (Below.refl w4.heap.size w4) (.cells #[.slice none 0 0,.slice av nv cv] 80))) (g8.below (zc (Below.refl _ _) _)) (ze _ _ rfl) (by rw[← hlk.out];have:=HB.out.k;omega) (by have:=O4.out.rd.lt;have:=O4.out.br;simp;omega) 23;rw[ENK.out]at KA;obtain⟨v',w7,hrun,hK7,ho7⟩:=KA;obtain⟨a7,c7,e7,_⟩:=zl hK7.row;subst e7;obtain⟨n7,en7⟩:∃n7,(l ++ [(⟨[],.slice none 0 0,lv,.slice av nv cv⟩:FV)]).length=n7:=⟨_,rfl⟩;rw[en7]at hK7 hrun;have HK7:=z7 hK7;have hoA:=(Only.refl (fun b=>(Value.slice ak 0 ck).ownBlock=some b) w4).alloc (.cells #[.slice none 0 0,.slice av nv cv] 80) |>.trans (ho7.wide (fun b hb=>hb));have hmay:∀k,(Value.slice ak 0 ck).ownBlock=some k→Typed w4 80 k:=fun k hk=>zj O4.out.row.row (by rw[ENK.out];exact hk);have rd7:RdW w7 r lm (ptrV 237 p) (.slice ak 0 ck) m c .nilIface:=by
       have:=O4.out.rd;rw[ENK.out]at this;exact this.only hoA (fun hk=>(hmay _ hk).ne O4.out.rd.typed (by decide) rfl)
      have us7:=O4.out.used.only hoA (fun k hk=>⟨_,hmay k hk⟩);have cu7:=O4.out.cur.only hoA (fun hk=>(hmay _ hk).ne O4.out.cur.typed (by decide) rfl);have cp7:=hoA.obj (fun hk=>(hmay _ hk).ne (show Typed w4 240 p from⟨_,C4.out⟩) (by decide) rfl) C4.out;have hbW:base≤w4.heap.size:=by have:=O4.out.rd.lt;have:=O4.out.br;omega
      have B7:=z7 (B4.out.trans (hoA.below (n:=base) hbW (fun k hk=>(O4.out.row.row.lt k (by rw[ENK.out];exact hk)).1)));have RD7:=z7 rd7;have US7:=z7 us7;have CU7:=z7 cu7;have CP7:=z7 cp7;have nrp:¬r=p:=O4.out.ne (show Typed w4 240 p from⟨_,C4.out⟩) (by decide);have npr:¬p=r:=fun e=>nrp e.symm;have k6:=rd7.c6;have k5:=rd7.c5;have z6:=rd7.free 6;have z5:=rd7.free 5;have y0:w7.cell? ⟨p,0,none⟩=some (.int .u64 left):=by simp[World.cell?,cp7]
      have y1:w7.cell? ⟨p,1,none⟩=some (.int .i64 at'):=by simp[World.cell?,cp7]
      have x0:w7.frozen? ⟨p,0,none⟩=false:=frozen_of_row _ _ 0 _ _ cp7;have x1:w7.frozen? ⟨p,1,none⟩=false:=frozen_of_row _ _ 1 _ _ cp7;have S7:=z7 (show base≤w7.heap.size from by have:=rd7.lt;have:=O4.out.br;omega);clear en7 g8 hK7 ho7 hoA hmay rd7 us7 cu7 cp7;have hwl:=HV.out.wl;have HL2:=z7 (show({ s with k:=s.k ++ [⟨[],st'.es⟩] }:WS).k=(l ++ [(⟨[],.slice none 0 0,lv,.slice av nv cv⟩:FV)]).map FV.frag from by
       show s.k ++ [⟨[],st'.es⟩]=_
       rw[List.map_append,O4.out.frags,← ELV.out];rfl)
      have ni7:=z7 (show NoItems (l ++ [(⟨[],.slice none 0 0,lv,.slice av nv cv⟩:FV)])from fun f hf=>(List.mem_append.1 hf).elim (fun h=>HV.out.ni f h) (fun h=>by
       obtain rfl:f=⟨[],.slice none 0 0,lv,.slice av nv cv⟩:=by simpa using h
       exact⟨rfl,rfl⟩))
      have hty7:=z7 (show Typed w7 240 p from⟨_,CP7.out⟩);have W8:=z7 (out_k (s:={ s with k:=s.k ++ [⟨[],st'.es⟩] }) O4.out.br RD7.out HK7.out HL2.out.symm US7.out CU7.out O4.out.bm O4.out.bc);have o8:Only (fun b=>b=r) w7 (w7.setCell ⟨r,6,none⟩ (.slice a7 n7 c7)):=(Only.refl (fun b=>b=r) w7).setCell (p:=⟨r,6,none⟩) (.inl rfl) _;have CP8:=z7 (o8.obj npr CP7.out);have B8:=z7 (B7.out.trans (o8.below (n:=base) S7.out (fun b hb=>by rw[hb];exact O4.out.br)));have bs8:base≤(w7.setCell ⟨r,6,none⟩ (.slice a7 n7 c7)).heap.size:=Nat.le_trans S7.out o8.size;have o9:Only (fun b=>b=p) (w7.setCell ⟨r,6,none⟩ (.slice a7 n7 c7)) (((w7.setCell ⟨r,6,none⟩ (.slice a7 n7 c7)).setCell ⟨p,1,none⟩ (.int .i64 (-1))).setCell ⟨p,0,none⟩ (.int .u64 (left-1))):=((Only.refl (fun b=>b=p) _).setCell (p:=⟨p,1,none⟩) (.inl rfl) _).setCell (p:=⟨p,0,none⟩) (.inl rfl) _;have W9:=z7 (W8.out.only o9 (z3x ⟨_,CP8.out⟩));have CP9:=z7 (heap_setCell_same _ _ 0 _ _ (.int .u64 (left-1)) (heap_setCell_same _ _ 1 _ _ (.int .i64 (-1)) CP8.out));have B9:=z7 (B8.out.trans (o9.below (n:=base) bs8 (fun b hb=>by rw[hb];exact HV.out.bp)));have bs9:=z7 (Nat.le_trans bs8 o9.size);clear o8 o9 bs8;by_cases hl1:left-1=0
      ·obtain rfl:left=1:=by omega
       have E2:=z7 (show vecS lm s 1 at' St0 x at' rest=.ok { s with k:=s.k ++ [⟨[],st'.es⟩],pt:=.mid } from by rw[E1.out];rfl);have wl0:IntKind.u64.wrap (1-1)=0:=by decide
       have W9':=W9.out;have B9':=B9.out;have bs9':=bs9.out;simp only[show(1:Int)-1=0 from rfl]at W9' B9' bs9';have W10:=z7 ((W9'.part (unitV 241)).toS (s':={ s with k:=s.k ++ [⟨[],st'.es⟩],pt:=.mid }) rfl rfl rfl rfl);have B10:=z7 (B9'.trans (((Only.refl (fun b=>b=r) _).setCell (p:=⟨r,5,none⟩) (.inl rfl) (unitV 241)).below (n:=base) bs9' (fun b hb=>by rw[hb];exact O4.out.br)));clear W9' B9' bs9';go_wp2_with(at_builtin;go_loud(refine zz rfl _ _ _ _ rfl rfl rfl hrun ?_))
       go_ret
       rw[E2.out];exact⟨B10.out,fun c a hc=>(by cases hc),fun s' hs=>(by cases hs;exact⟨rfl,_,_,_,_,_,W10.out,rfl,ni7.out⟩)⟩
      ·have E2:=z7 (show vecS lm s left at' St0 x at' rest=.ok { s with k:=s.k ++ [⟨[],st'.es⟩],pt:=.vecs (left-1) (-1) none } from by rw[E1.out,if_neg hl1])
       have wl1:IntKind.u64.wrap (left-1)=left-1:=z11 ⟨by have:=hwl.2;omega,by have:=hwl.1.2;omega⟩;have nl1:((left-1) == 0)=false:=by simpa using hl1
       have W10:=z7 (W9.out.toS (s':={ s with k:=s.k ++ [⟨[],st'.es⟩],pt:=.vecs (left-1) (-1) none }) rfl rfl rfl rfl);go_wp2_with(at_builtin;go_loud(refine zz rfl _ _ _ _ rfl rfl rfl hrun ?_))
       go_ret
       rw[E2.out];exact⟨B9.out,fun c a hc=>(by cases hc),fun s' hs=>(by cases hs;exact⟨rfl,_,_,_,_,_,W10.out,⟨⟨⟨by have:=hwl.2;omega,by have:=hwl.1.2;omega⟩,by have:=hwl.2;omega⟩,p,_,rfl,HV.out.bp,CP9.out⟩,ni7.out⟩)⟩
     ·have hkl:l≠[]:=fun e=>hk0 (by rw[← ENK.out,e];rfl)
      obtain⟨hlv,hlm⟩:=frag_last O4.out.frags hkl;have hkn:=O4.out.row.know;obtain⟨ak',ck',eak,hKn,_⟩:=hkn;injection eak with e1 e2 e3
      subst e1;clear e2 e3;obtain⟨g,goff,eg,hgl,hg1,hg2⟩:=hKn.cells (l.length-1) (by rw[ENK.out];omega);subst eg;have hfa:=hKn.frags _ hlm;rw[ENK.out]at hg2 hlv hfa;have hbq:=HB.out.vec (s.k.getD (s.k.length-1) Frag.z) (by
       rw[← O4.out.frags];have hp:l.length-1<l.length:=by have:=List.length_pos_iff.2 hkl;omega
       rw[List.length_map,List.getD,List.getElem?_map,List.getElem?_eq_getElem hp,Option.map_some,Option.getD_some];exact List.mem_map.2 ⟨_,List.getElem_mem _,rfl⟩)
      have HLV:=z7 hlv;rw[hlv]at hbq;obtain⟨q,eq⟩:∃q,l.getD (nk-1) FV.z=q:=⟨_,rfl⟩;rw[eq]at hg2 hfa hbq hlv;obtain⟨qa,qc,qv,hqE,_⟩:=hfa.vec;rw[qv]at hg2;obtain⟨av2,cv2,eav,hE4,_⟩:=R4.out.vecAt;injection eav with e1 e2 e3
      subst e1;clear e2 e3;have KCM:=z7 (z3z qa av q.vec.length qc lv.length cv q.vec lv w4 hqE.at' hE4.at' (fun p hp=>hbq.2.1 _ (List.mem_map.2 ⟨p,hp,rfl⟩)) (fun p hp=>OKV.out.2.1 _ (by rw[← ELV.out];exact List.mem_map.2 ⟨p,hp,rfl⟩)) (by have:=hbq.1;rw[List.length_map]at this;exact this) (by have:=OKV.out.1;rw[← ELV.out,List.length_map]at this;exact this) hbq.2.2 (by rw[ELV.out];exact OKV.out.2.2));rw[ENV.out,ELV.out,hlv.symm]at KCM;obtain⟨qn,eqn⟩:∃qn,q.vec.length=qn:=⟨_,rfl⟩;rw[eqn]at hg2 KCM;obtain⟨cm,ecm⟩:∃cm,cmpL (absV (s.k.getD (s.k.length-1) Frag.z).vec) (absV st'.es)=cm:=⟨_,rfl⟩;have ECM:=z7 ecm;rw[ecm]at KCM;have q3:IntKind.i64.wrap ((nk:Int)-1)=(nk:Int)-1:=IntWalk.i64_in _ (by have:=hlk.out;have:=HB.out.k;have:=ENK.out;omega);have q4:((nk:Int)-1).toNat=nk-1:=by omega
      have q5:(0:Int)≤(nk:Int)-1:=by omega
      have q6:(nk:Int)-1<(nk:Int):=by omega
      have q7:(0:Int)<(nk:Int):=by omega
      have hkne:=z7 (show s.k≠[] from fun e=>hk0 (by rw[← ENK.out,← hlk.out,e];rfl));clear hkl hlv hlm hKn hgl hg1 hfa hbq eq hqE hE4 eqn ecm;go_wp2_with fail
      refine KCM.out.mono ?_;rintro e w5 ⟨rfl,hb5⟩;have B5:=z7 (B4.out.trans (zq hb5 (by have:=O4.out.rd.lt;have:=O4.out.br;omega)));have O5:=z7 (O4.out.below hb5);have C5:=z7 ((hb5.block p (zh C4.out)).trans C4.out);have R5:=z7 ((R4.out.only (may:=fun _=>False) (Only.of_below hb5) (fun _ h=>h.elim)));have c6':=O5.out.rd.c6;rw[ENK.out]at c6';have y1:w5.cell? ⟨p,1,none⟩=some (.int .i64 at'):=by simp[World.cell?,C5.out]
      clear hb5 q3 q4 q5 q6 hg2 c6;by_cases hc:0≤cm
      ·have E1:=z7 (show vecS lm s left at' St0 x at' rest=.error (3,at')from by
        unfold vecS;rw[HST.out];simp only[HF.out,if_true];rw[if_pos ⟨hkne.out,by rw[ECM.out];exact hc⟩])
       have KF:=z7 (fun W=>z17 3 at' (by decide) W);have dc:decide (0≤cm)=true:=decide_eq_true hc;go_wp2_with fail
       refine(KF.out _).mono ?_;rintro e w6 ⟨rfl,rfl⟩;go_wp2
       go_ret
       rw[E1.out];exact⟨B5.out,fun c a hc=>(by cases hc;exact⟨rfl,_,_,_,_,O5.out.rd⟩),fun s' hs=>(by cases hs)⟩
      ·have E1:=z7 (show vecS lm s left at' St0 x at' rest=.ok { s with k:=s.k ++ [⟨[],st'.es⟩],pt:=if left-1=0 then .mid else .vecs (left-1) (-1) none } from by
        unfold vecS;rw[HST.out];simp only[HF.out,if_true];rw[if_neg (fun h=>hc (by have:=h.2;rw[ECM.out]at this;exact this))])
       have dc:decide (0≤cm)=false:=decide_eq_false hc;clear y1;have g8:FragT w5 ⟨[],.slice none 0 0,lv,.slice av nv cv⟩:=⟨itT_nil _,R5.out.base (Nat.zero_le _)⟩;have KA:=KRow.app (vb:=w5.heap.size) (g:=⟨[],.slice none 0 0,lv,.slice av nv cv⟩) (O5.out.row.below (zc (Below.refl w5.heap.size w5) (.cells #[.slice none 0 0,.slice av nv cv] 80))) (g8.below (zc (Below.refl _ _) _)) (ze _ _ rfl) (by rw[← hlk.out];have:=HB.out.k;omega) (by have:=O5.out.rd.lt;have:=O5.out.br;simp;omega) 23;rw[ENK.out]at KA;obtain⟨v',w7,hrun,hK7,ho7⟩:=KA;obtain⟨a7,c7,e7,_⟩:=zl hK7.row;subst e7;obtain⟨n7,en7⟩:∃n7,(l ++ [(⟨[],.slice none 0 0,lv,.slice av nv cv⟩:FV)]).length=n7:=⟨_,rfl⟩;rw[en7]at hK7 hrun;have HK7:=z7 hK7;have hoA:=(Only.refl (fun b=>(Value.slice (some ⟨g,goff,none⟩) nk ck).ownBlock=some b) w5).alloc (.cells #[.slice none 0 0,.slice av nv cv] 80) |>.trans (ho7.wide (fun b hb=>hb));have hmay:∀k,(Value.slice (some ⟨g,goff,none⟩) nk ck).ownBlock=some k→Typed w5 80 k:=fun k hk=>zj O5.out.row.row (by rw[ENK.out];exact hk);have rd7:RdW w7 r lm (ptrV 237 p) (.slice (some ⟨g,goff,none⟩) nk ck) m c .nilIface:=by
        have:=O5.out.rd;rw[ENK.out]at this;exact this.only hoA (fun hk=>(hmay _ hk).ne O5.out.rd.typed (by decide) rfl)
       have us7:=O5.out.used.only hoA (fun k hk=>⟨_,hmay k hk⟩);have cu7:=O5.out.cur.only hoA (fun hk=>(hmay _ hk).ne O5.out.cur.typed (by decide) rfl);have cp7:=hoA.obj (fun hk=>(hmay _ hk).ne (show Typed w5 240 p from⟨_,C5.out⟩) (by decide) rfl) C5.out;have hbW:base≤w5.heap.size:=by have:=O5.out.rd.lt;have:=O5.out.br;omega
       have B7:=z7 (B5.out.trans (hoA.below (n:=base) hbW (fun k hk=>(O5.out.row.row.lt k (by rw[ENK.out];exact hk)).1)));have RD7:=z7 rd7;have US7:=z7 us7;have CU7:=z7 cu7;have CP7:=z7 cp7;have nrp:¬r=p:=O5.out.ne (show Typed w5 240 p from⟨_,C5.out⟩) (by decide);have npr:¬p=r:=fun e=>nrp e.symm;have k6:=rd7.c6;have k5:=rd7.c5;have z6:=rd7.free 6;have z5:=rd7.free 5;have y0:w7.cell? ⟨p,0,none⟩=some (.int .u64 left):=by simp[World.cell?,cp7]
       have y1:w7.cell? ⟨p,1,none⟩=some (.int .i64 at'):=by simp[World.cell?,cp7]
       have x0:w7.frozen? ⟨p,0,none⟩=false:=frozen_of_row _ _ 0 _ _ cp7;have x1:w7.frozen? ⟨p,1,none⟩=false:=frozen_of_row _ _ 1 _ _ cp7;have S7:=z7 (show base≤w7.heap.size from by have:=rd7.lt;have:=O5.out.br;omega);clear en7 g8 hK7 ho7 hoA hmay rd7 us7 cu7 cp7;have hwl:=HV.out.wl;have HL2:=z7 (show({ s with k:=s.k ++ [⟨[],st'.es⟩] }:WS).k=(l ++ [(⟨[],.slice none 0 0,lv,.slice av nv cv⟩:FV)]).map FV.frag from by
        show s.k ++ [⟨[],st'.es⟩]=_
        rw[List.map_append,O5.out.frags,← ELV.out];rfl)
       have ni7:=z7 (show NoItems (l ++ [(⟨[],.slice none 0 0,lv,.slice av nv cv⟩:FV)])from fun f hf=>(List.mem_append.1 hf).elim (fun h=>HV.out.ni f h) (fun h=>by
        obtain rfl:f=⟨[],.slice none 0 0,lv,.slice av nv cv⟩:=by simpa using h
        exact⟨rfl,rfl⟩))
       have hty7:=z7 (show Typed w7 240 p from⟨_,CP7.out⟩);have W8:=z7 (out_k (s:={ s with k:=s.k ++ [⟨[],st'.es⟩] }) O5.out.br RD7.out HK7.out HL2.out.symm US7.out CU7.out O5.out.bm O5.out.bc);have o8:Only (fun b=>b=r) w7 (w7.setCell ⟨r,6,none⟩ (.slice a7 n7 c7)):=(Only.refl (fun b=>b=r) w7).setCell (p:=⟨r,6,none⟩) (.inl rfl) _;have CP8:=z7 (o8.obj npr CP7.out);have B8:=z7 (B7.out.trans (o8.below (n:=base) S7.out (fun b hb=>by rw[hb];exact O5.out.br)));have bs8:base≤(w7.setCell ⟨r,6,none⟩ (.slice a7 n7 c7)).heap.size:=Nat.le_trans S7.out o8.size;have o9:Only (fun b=>b=p) (w7.setCell ⟨r,6,none⟩ (.slice a7 n7 c7)) (((w7.setCell ⟨r,6,none⟩ (.slice a7 n7 c7)).setCell ⟨p,1,none⟩ (.int .i64 (-1))).setCell ⟨p,0,none⟩ (.int .u64 (left-1))):=((Only.refl (fun b=>b=p) _).setCell (p:=⟨p,1,none⟩) (.inl rfl) _).setCell (p:=⟨p,0,none⟩) (.inl rfl) _;have W9:=z7 (W8.out.only o9 (z3x ⟨_,CP8.out⟩));have CP9:=z7 (heap_setCell_same _ _ 0 _ _ (.int .u64 (left-1)) (heap_setCell_same _ _ 1 _ _ (.int .i64 (-1)) CP8.out));have B9:=z7 (B8.out.trans (o9.below (n:=base) bs8 (fun b hb=>by rw[hb];exact HV.out.bp)));have bs9:=z7 (Nat.le_trans bs8 o9.size);clear o8 o9 bs8;by_cases hl1:left-1=0
       ·obtain rfl:left=1:=by omega
        have E2:=z7 (show vecS lm s 1 at' St0 x at' rest=.ok { s with k:=s.k ++ [⟨[],st'.es⟩],pt:=.mid } from by rw[E1.out];rfl);have wl0:IntKind.u64.wrap (1-1)=0:=by decide
        have W9':=W9.out;have B9':=B9.out;have bs9':=bs9.out;simp only[show(1:Int)-1=0 from rfl]at W9' B9' bs9';have W10:=z7 ((W9'.part (unitV 241)).toS (s':={ s with k:=s.k ++ [⟨[],st'.es⟩],pt:=.mid }) rfl rfl rfl rfl);have B10:=z7 (B9'.trans (((Only.refl (fun b=>b=r) _).setCell (p:=⟨r,5,none⟩) (.inl rfl) (unitV 241)).below (n:=base) bs9' (fun b hb=>by rw[hb];exact O5.out.br)));clear W9' B9' bs9';go_wp2_with(at_builtin;go_loud(refine zz rfl _ _ _ _ rfl rfl rfl hrun ?_))
        go_ret
        rw[E2.out];exact⟨B10.out,fun c a hc=>(by cases hc),fun s' hs=>(by cases hs;exact⟨rfl,_,_,_,_,_,W10.out,rfl,ni7.out⟩)⟩
       ·have E2:=z7 (show vecS lm s left at' St0 x at' rest=.ok { s with k:=s.k ++ [⟨[],st'.es⟩],pt:=.vecs (left-1) (-1) none } from by rw[E1.out,if_neg hl1])
        have wl1:IntKind.u64.wrap (left-1)=left-1:=z11 ⟨by have:=hwl.2;omega,by have:=hwl.1.2;omega⟩;have nl1:((left-1) == 0)=false:=by simpa using hl1
        have W10:=z7 (W9.out.toS (s':={ s with k:=s.k ++ [⟨[],st'.es⟩],pt:=.vecs (left-1) (-1) none }) rfl rfl rfl rfl);go_wp2_with(at_builtin;go_loud(refine zz rfl _ _ _ _ rfl rfl rfl hrun ?_))
        go_ret
        rw[E2.out];exact⟨B9.out,fun c a hc=>(by cases hc),fun s' hs=>(by cases hs;exact⟨rfl,_,_,_,_,_,W10.out,⟨⟨⟨by have:=hwl.2;omega,by have:=hwl.1.2;omega⟩,by have:=hwl.2;omega⟩,p,_,rfl,HV.out.bp,CP9.out⟩,ni7.out⟩)⟩
theorem seg_oth{w:World}{p:Nat}(h:Typed w 245 p):Oth w (fun b=>b=p):=Oth.one h (by decide)
theorem OutW.cursor{w w':World}{base r:Nat}{lm:Lim}{er:Value}{s s':WS}{pv kv:Value}{m c:Nat}{l:List FV}(h:OutW w base r lm er s pv kv m c l)(ho:Only (fun b=>b=c) w w')(h1:s'.k=s.k)(h2:s'.us=s.us)(hc:CurW w' c s'.last s'.op):OutW w' base r lm er s' pv kv m c l:=by
 have ht:=h.cur.typed;refine⟨h.br,h.rd.only ho (fun e=>?_),h.row.only ho (fun k hk=>by rw[hk];exact⟨ht.not (by decide),ht.not (by decide),ht.not (by decide)⟩),by rw[h1];exact h.frags,by rw[h2];exact h.used.only ho (fun k hk=>by subst hk;exact⟨_,ht⟩),hc,h.bm,h.bc⟩;have hr:=h.rd.typed;rw[e]at hr;exact hr.ne ht (by decide) rfl
def SgC (w:World) (p:Nat) (left turn last:Int) (touch:Bool):Prop:=w.heap[p]?=some (.cells #[.int .u64 left,.int .i64 turn,.int .i64 last,.bool touch] 245 (0,0))
section
variable {w w':World} {p:Nat} {left turn last:Int} {touch:Bool}
theorem SgC.typed(h:SgC w p left turn last touch):Typed w 245 p:=⟨_,h⟩
theorem SgC.below(h:SgC w p left turn last touch)(hb:Below w.heap.size w w'):SgC w' p left turn last touch:=(hb.block p (zh h)).trans h
theorem SgC.only{may:Nat→Prop}(h:SgC w p left turn last touch)(ho:Only may w w')(hm:¬may p):SgC w' p left turn last touch:=ho.obj hm h
theorem SgC.c0(h:SgC w p left turn last touch):w.cell? ⟨p,0,none⟩=some (.int .u64 left):=by simp[World.cell?,show w.heap[p]?=_ from h]
theorem SgC.c1(h:SgC w p left turn last touch):w.cell? ⟨p,1,none⟩=some (.int .i64 turn):=by simp[World.cell?,show w.heap[p]?=_ from h]
theorem SgC.c2(h:SgC w p left turn last touch):w.cell? ⟨p,2,none⟩=some (.int .i64 last):=by simp[World.cell?,show w.heap[p]?=_ from h]
theorem SgC.c3(h:SgC w p left turn last touch):w.cell? ⟨p,3,none⟩=some (.bool touch):=by simp[World.cell?,show w.heap[p]?=_ from h]
theorem SgC.fz(h:SgC w p left turn last touch)(j:Nat):w.frozen? ⟨p,j,none⟩=false:=frozen_of_row _ _ j _ _ h
theorem SgC.s0(h:SgC w p left turn last touch)(x:Int):SgC (w.setCell ⟨p,0,none⟩ (.int .u64 x)) p x turn last touch:=heap_setCell_same _ _ 0 _ _ _ h
theorem SgC.s1(h:SgC w p left turn last touch)(x:Int):SgC (w.setCell ⟨p,1,none⟩ (.int .i64 x)) p left x last touch:=heap_setCell_same _ _ 1 _ _ _ h
theorem SgC.s2(h:SgC w p left turn last touch)(x:Int):SgC (w.setCell ⟨p,2,none⟩ (.int .i64 x)) p left turn x touch:=heap_setCell_same _ _ 2 _ _ _ h
theorem SgC.s3(h:SgC w p left turn last touch)(x:Bool):SgC (w.setCell ⟨p,3,none⟩ (.bool x)) p left turn last x:=heap_setCell_same _ _ 3 _ _ _ h
theorem SgC.keep(h:SgC w p left turn last touch)(i:Nat)(v:Value):Only (fun b=>b=p) w (w.setCell ⟨p,i,none⟩ v):=(Only.refl (fun b=>b=p) w).setCell (p:=⟨p,i,none⟩) (.inl rfl) _
end
theorem OutW.seg{w:World}{base r:Nat}{lm:Lim}{er:Value}{s:WS}{pv kv:Value}{m c p:Nat}{l:List FV}{left turn last:Int}{touch:Bool}(h:OutW w base r lm er s pv kv m c l)(hs:SgC w p left turn last touch)(i:Nat)(v:Value):OutW (w.setCell ⟨p,i,none⟩ v) base r lm er s pv kv m c l:=h.only (hs.keep i v) (seg_oth hs.typed)
theorem zw{w:World}{base r:Nat}{lm:Lim}{er:Value}{s:WS}{pv kv:Value}{m c:Nat}{l:List FV}(h:OutW w base r lm er s pv kv m c l):base≤w.heap.size:=by
 have h1:=h.rd.lt;have h2:=h.br;omega
def LoP (w:World) (c:Nat) (last:Option Iv) (x:Int) (e:Ending) (w':World):Prop:=
 match loC last x with
 | some l=>e=.returned (.tuple #[.int .u64 l,.bool true])∧CurW w' c last (some l)∧Only (fun b=>b=c) w w'
 | none=>e=.returned (.tuple #[.int .u64 0,.bool false])∧Below w.heap.size w w'
theorem lo_cur(c:Nat)(last:Option Iv)(x:Int)(w:World)(h:CurW w c last none)(hx:Word x) :
  Calls Tryz.prog 213 #[.pointer (some ⟨c,0,none⟩),.int .u64 x] w fun e w'=>LoP w c last x e w':=by
 obtain⟨lo,llo,lhi,f,hC,h1,h2,h3⟩:=h;unfold LoP
 cases last with
 | none=>
   obtain rfl:=h2 rfl;refine(lo_first c x 0 lo llo lhi w hC).mono ?_;rintro e w' ⟨rfl,hC',ho⟩;exact⟨rfl,⟨x,llo,lhi,_,hC',(fun l hl=>by cases hl;exact⟨rfl,hx⟩),fun _=>rfl,fun z hz=>by cases hz⟩,ho⟩
 | some z=>
   obtain⟨rfl,rfl,rfl,hw1,hw2⟩:=h3 z rfl;unfold loC;simp only;by_cases hs:z.2+1+0+x<18446744073709551616
   ·rw[if_pos hs]
    refine(lo_later c x 0 lo z.1 z.2 true w hC ⟨by omega,by omega⟩ hw2 hx hs).mono ?_;rintro e w' ⟨rfl,hC',ho⟩;exact⟨rfl,⟨_,z.1,z.2,_,hC',(fun l hl=>by cases hl;exact⟨rfl,by have:=hw2.1;have:=hx.1;omega,hs⟩),fun h=>(by cases h),fun z' hz=>by cases hz;exact⟨rfl,rfl,rfl,hw1,hw2⟩⟩,ho⟩
   ·rw[if_neg hs]
    refine(lo_later_no c x 0 lo z.1 z.2 true w hC ⟨by omega,by omega⟩ hw2 hx hs).mono ?_;rintro e w' ⟨rfl,hb⟩;exact⟨rfl,hb⟩
def HiP (w:World) (c:Nat) (l x:Int) (e:Ending) (w':World):Prop:=
 match hiC l x with
 | some z=>e=.returned (.tuple #[.agg #[.int .u64 z.1,.int .u64 z.2],.bool true])∧CurW w' c (some z) none∧Only (fun b=>b=c) w w'
 | none=>e=.returned (.tuple #[.agg #[.int .u64 0,.int .u64 0],.bool false])∧Below w.heap.size w w'
theorem hi_cur(c:Nat)(last:Option Iv)(l x:Int)(w:World)(h:CurW w c last (some l))(hx:Word x) :
  Calls Tryz.prog 214 #[.pointer (some ⟨c,0,none⟩),.int .u64 x] w fun e w'=>HiP w c l x e w':=by
 obtain⟨lo,llo,lhi,f,hC,h1,h2,h3⟩:=h;obtain⟨rfl,hl⟩:=h1 l rfl;unfold HiP hiC;by_cases hs:lo+x<18446744073709551616
 ·rw[if_pos hs]
  refine(hi_yes c x 0 lo llo lhi _ f w hC hl hx hs).mono ?_;rintro e w' ⟨rfl,hC',ho⟩;exact⟨rfl,⟨lo,lo,lo+x,_,hC',(fun l hl=>by cases hl),(fun h=>by cases h),fun z hz=>by cases hz;exact⟨rfl,rfl,rfl,hl,by have:=hl.1;have:=hx.1;omega,hs⟩⟩,ho⟩
 ·rw[if_neg hs]
  refine(hi_no c x 0 lo llo lhi _ f w hC hl hx hs).mono ?_;rintro e w' ⟨rfl,hb⟩;exact⟨rfl,hb⟩
theorem last_cur(c:Nat)(last:Option Iv)(op:Option Int)(w:World)(h:CurW w c last op) :
  Calls Tryz.prog 212 #[.pointer (some ⟨c,0,none⟩)] w fun e w'=>(∃a b,e=.returned (.tuple #[.agg #[.int .u64 a,.int .u64 b],.bool last.isSome])∧(∀z,last=some z→a=z.1∧b=z.2))∧Below w.heap.size w w':=by
 obtain⟨lo,llo,lhi,f,hC,h1,h2,h3⟩:=h;refine(last_any c 0 lo llo lhi _ _ f w hC).mono ?_;rintro e w' ⟨rfl,hb⟩;exact⟨⟨llo,lhi,rfl,fun z hz=>by obtain⟨_,h4,h5,_⟩:=h3 z hz;exact⟨h4,h5⟩⟩,hb⟩
theorem wseg_lo(lm:Lim)(base r:Nat)(s:WS)(left last:Int)(touch:Bool)(x at' rest:Int)(w:World)(p:Nat)(kv:Value)(m c:Nat)(l:List FV)(hv:OutW w base r lm .nilIface s (ptrV 243 p) kv m c l)(bp:base≤p)(wl:Word left∧0<left)
  (hp:SgC w p left 0 last touch) (hop:s.op=none) (hx:Word x) (ws:World) (hsx:SegX w l ws) (hbs:base≤ws.heap.size) :
  Calls Tryz.prog 157 #[.pointer (some ⟨r,0,none⟩),.pointer (some ⟨p,0,none⟩),.int .u64 x,.int .i64 at',.int .i64 rest] w fun e w'=>TakeP lm base r (segS s left 0 last touch x at' rest) w e w':=by
 have hcu:=hv.cur;rw[hop]at hcu;have KL:=z7 (last_cur c s.last none w hcu);have KLO:=z7 (fun W (h:CurW W c s.last none)=>lo_cur c s.last x W h hx);have d8:=hv.rd.c8;have y1:=hp.c1;have HV:=z7 hv;have HP:=z7 hp;have HOP:=z7 hop;have BS:=z7 (zw hv);have HSX:=z7 hsx;clear hv hp hcu hop hx hsx;go_enter Tryz.func157,Tryz.ntmps157
 go_wp2_with fail
 refine KL.out.mono ?_;rintro e w1 ⟨⟨za,zb,rfl,_⟩,hb1⟩;obtain⟨tb,etb⟩:∃tb,s.last.isSome=tb:=⟨_,rfl⟩;have ETB:=z7 etb;rw[etb];obtain⟨w2,ew2⟩:∃w2,w1.alloc (.cells #[.int .u64 za,.int .u64 zb] 123)=w2:=⟨_,rfl⟩;have b2:Below w.heap.size w w2:=by rw[← ew2];exact zc hb1 _
 have V2:=z7 (HV.out.below b2);have P2:=z7 (HP.out.below b2);have X2:=z7 (HSX.out.below b2);have y1':=P2.out.c1;have y3:=P2.out.c3;have z3:=P2.out.fz 3;have d8':=V2.out.rd.c8;have B2:=z7 (show Below base w w2 from zq b2 BS.out);clear etb hb1 b2 y1;obtain⟨tc,etc⟩:∃tc,(tb && decide (x=0))=tc:=⟨_,rfl⟩;have ETC:=z7 etc;have V3:=z7 (V2.out.seg P2.out 3 (.bool tc));have X3:=z7 (X2.out.one (P2.out.keep 3 (.bool tc)) P2.out.typed (by decide));have P3:=z7 (P2.out.s3 tc);have o3:=P2.out.keep 3 (.bool tc);have B3:=z7 (B2.out.trans (o3.below (n:=base) (zw V2.out) (fun b hb=>by rw[hb];exact bp)));have d8'':=V3.out.rd.c8;have hcu3:=V3.out.cur;rw[HOP.out]at hcu3;have KLX:=z7 (KLO.out _ hcu3);clear hcu3 o3;have hnp:¬r=p:=HV.out.ne HP.out.typed (by decide);have hpn:¬p=r:=fun e=>hnp e.symm;obtain⟨w3,ew3⟩:∃w3,w2.setCell ⟨p,3,none⟩ (.bool tc)=w3:=⟨_,rfl⟩;rw[ew3]at V3 P3 B3 d8'' KLX X3;have MAIN:Hid (Calls Tryz.prog 213 #[.pointer (some ⟨c,0,none⟩),.int .u64 x] w3 fun e w'=>LoP w3 c s.last x e w'):=KLX;clear KLX;have tcases:((tb=true∧(x == 0)=true)∧tc=true)∨((tb=true∧(x == 0)=false)∧tc=false)∨(tb=false∧tc=false):=by
  rw[← etc]
  cases tb
  ·right;right;exact⟨rfl,rfl⟩
  ·by_cases h:x=0
   ·left;simp[h]
   ·right;left;simp[h]
 rcases tcases with⟨⟨ht,hx0⟩,htc⟩ | ⟨⟨ht,hx0⟩,htc⟩ | ⟨ht,htc⟩
 all_goals
  subst ht;subst htc;clear etc;go_wp2_with fail
  refine MAIN.out.mono ?_;intro e w4 hLP;unfold LoP at hLP
  cases hl:loC s.last x with
  | none=>
    rw[hl]at hLP;obtain⟨rfl,hb4⟩:=hLP;have E1:=z7 (show segS s left 0 last touch x at' rest=.error (8,at')from by unfold segS;rw[if_pos rfl,hl]);have KF:=z7 (fun W=>z17 8 at' (by decide) W);have B4:=z7 (B3.out.trans (zq hb4 (zw V3.out)));have V4:=z7 (V3.out.below hb4);clear hl hb4;go_wp2_with fail
    refine(KF.out _).mono ?_;rintro e w5 ⟨rfl,rfl⟩;go_wp2
    go_ret
    rw[E1.out];exact⟨B4.out,fun c a hc=>(by cases hc;exact⟨rfl,_,_,_,_,V4.out.rd⟩),fun s' hs=>(by cases hs)⟩
  | some l1=>
    rw[hl]at hLP;obtain⟨rfl,hc4,ho4⟩:=hLP;have E1:=z7 (show segS s left 0 last touch x at' rest=.ok { s with op:=some l1,pt:=.segs left 1 last (s.last.isSome && decide (x=0)) } from by unfold segS;rw[if_pos rfl,hl]);rw[ETB.out,ETC.out]at E1;have hpc:¬p=c:=fun e=>by
     have h1:=V3.out.cur.typed;rw[← e]at h1;exact P3.out.typed.ne h1 (by decide) rfl
    have P4:=z7 (P3.out.only ho4 hpc);have V4:=z7 (V3.out.cursor (s':={ s with op:=some l1 }) ho4 rfl rfl hc4);have B4:=z7 (B3.out.trans (ho4.below (n:=base) (zw V3.out) (fun b hb=>by rw[hb];exact HV.out.bc)));have V5:=z7 (V4.out.seg P4.out 1 (.int .i64 1));have X5:=z7 (((X3.out.one ho4 V3.out.cur.typed (by decide)).one (P4.out.keep 1 (.int .i64 1)) P4.out.typed (by decide)));have P5:=z7 (P4.out.s1 1);have B5:=z7 (B4.out.trans ((P4.out.keep 1 (.int .i64 1)).below (n:=base) (zw V4.out) (fun b hb=>by rw[hb];exact bp)));have y14:=P4.out.c1;have z14:=P4.out.fz 1;clear hl hc4 ho4 hpc;go_wp2
    go_ret
    rw[E1.out];exact⟨B5.out,fun c a hc=>(by cases hc),fun s' hs=>(by cases hs;exact⟨rfl,_,_,_,_,_,V5.out.toS rfl rfl rfl rfl,⟨wl,p,rfl,bp,P5.out⟩,ws,X5.out,hbs⟩)⟩
theorem wseg_hi(lm:Lim)(base r:Nat)(s:WS)(left last:Int)(touch:Bool)(x at' rest l0:Int)(w:World)(p:Nat)(kv:Value)(m c:Nat)(l:List FV)(hv:OutW w base r lm .nilIface s (ptrV 243 p) kv m c l)(bp:base≤p)(wl:Word left∧0<left)
  (hp:SgC w p left 1 last touch) (hop:s.op=some l0) (hx:Word x) (ws:World) (hsx:SegX w l ws) (hbs:base≤ws.heap.size) :
  Calls Tryz.prog 157 #[.pointer (some ⟨r,0,none⟩),.pointer (some ⟨p,0,none⟩),.int .u64 x,.int .i64 at',.int .i64 rest] w fun e w'=>TakeP lm base r (segS s left 1 last touch x at' rest) w e w':=by
 have hcu:=hv.cur;rw[hop]at hcu;have KH:=z7 (hi_cur c s.last l0 x w hcu hx);have d8:=hv.rd.c8;have y1:=hp.c1;have HV:=z7 hv;have HP:=z7 hp;have HOP:=z7 hop;have BS:=z7 (zw hv);have HSX:=z7 hsx;clear hv hp hcu hop hx hsx;go_enter Tryz.func157,Tryz.ntmps157
 go_wp2_with fail
 refine KH.out.mono ?_;intro e w1 hHP;unfold HiP at hHP
 cases hl:hiC l0 x with
 | none=>
   rw[hl]at hHP;obtain⟨rfl,hb1⟩:=hHP;have E1:=z7 (show segS s left 1 last touch x at' rest=.error (8,at')from by unfold segS;rw[if_neg (by decide),if_pos rfl,HOP.out];simp only[Option.getD_some];rw[hl]);have KF:=z7 (fun W=>z17 8 at' (by decide) W);have HB1:=z7 hb1;clear hl hb1;go_wp2_with fail
   refine(KF.out _).mono ?_;rintro e w5 ⟨rfl,rfl⟩;go_wp2
   go_ret
   rw[E1.out];exact⟨zq (zc HB1.out _) BS.out,fun c a hc=>(by cases hc;exact⟨rfl,_,_,_,_,(HV.out.below (zc HB1.out _)).rd⟩),fun s' hs=>(by cases hs)⟩
 | some z=>
   rw[hl]at hHP;obtain⟨rfl,hc1,ho1⟩:=hHP;obtain⟨z1,z2⟩:=z;have E1:=z7 (show segS s left 1 last touch x at' rest=.ok { s with op:=none,last:=some (z1,z2),pt:=.segs left 2 last touch } from by unfold segS;rw[if_neg (by decide),if_pos rfl,HOP.out];simp only[Option.getD_some];rw[hl]);have hpc:¬p=c:=fun e=>by
    have h1:=HV.out.cur.typed;rw[← e]at h1;exact HP.out.typed.ne h1 (by decide) rfl
   have V1:=z7 (HV.out.cursor (s':={ s with op:=none,last:=some (z1,z2) }) ho1 rfl rfl hc1);have P1:=z7 (HP.out.only ho1 hpc);have B1:=z7 (ho1.below (n:=base) BS.out (fun b hb=>by rw[hb];exact HV.out.bc));obtain⟨w2,ew2⟩:∃w2,w1.alloc (.cells #[.int .u64 z1,.int .u64 z2] 123)=w2:=⟨_,rfl⟩;have b2:Below w1.heap.size w1 w2:=by rw[← ew2];exact zc (Below.refl _ _) _
   have V2:=z7 (V1.out.below b2);have P2:=z7 (P1.out.below b2);have X5:=z7 ((((HSX.out.one ho1 HV.out.cur.typed (by decide)).below b2).one (P2.out.keep 1 (.int .i64 2)) P2.out.typed (by decide)));have B2:=z7 (B1.out.trans (zq b2 (zw V1.out)));have V5:=z7 ((V2.out.seg P2.out 1 (.int .i64 2)).toS (s':={ s with op:=none,last:=some (z1,z2),pt:=.segs left 2 last touch }) rfl rfl rfl rfl);have P5:=z7 (P2.out.s1 2);have B5:=z7 (B2.out.trans ((P2.out.keep 1 (.int .i64 2)).below (n:=base) (zw V2.out) (fun b hb=>by rw[hb];exact bp)));have y14:=P2.out.c1;have z14:=P2.out.fz 1;clear hl hc1 ho1 hpc b2;go_wp2
   go_ret
   rw[E1.out];exact⟨B5.out,fun c a hc=>(by cases hc),fun s' hs=>(by cases hs;exact⟨rfl,_,_,_,_,_,V5.out,⟨wl,p,rfl,bp,P5.out⟩,ws,X5.out,hbs⟩)⟩
theorem row_setK{w:World}{base gb n cap:Nat}{l:List FV}{us:List Iv}{u:Value}{k:Nat}(h:w.ownsRow base 80 2 (.slice (some ⟨gb,0,none⟩) n cap) l.length (cellsK l))(hk:k<l.length) :
  (w.setCell ⟨gb,k * 2,none⟩ u).ownsRow base 80 2 (.slice (some ⟨gb,0,none⟩) n cap) (setL l k us u).length (cellsK (setL l k us u)):=by
 rw[z3g,cellsK_set hk];rcases h.2 with⟨hv,hl⟩ | ⟨g',cap',cur,hv,hb,hc,h1,h2,h3,h4⟩
 ·cases hv
 ·injection hv with e1 e2 e3
  injection e1 with e1
  injection e1 with e1 _ _
  subst e1;subst e3;refine⟨by rw[List.length_set];exact h.1,.inr ⟨gb,cap,_,by rw[e2],hb,heap_setCell_same _ _ (k * 2) _ _ _ hc,h1,h2,by simpa using h3,?_⟩⟩;rw[Array.toList_setIfInBounds,List.take_set,h4]
theorem ivs_app{w:World}{base:Nat}{v:Value}{zs:List Iv}{z:Iv}{vb:Nat}(h:OwnL w base 123 v zs)(hz:Word z.1∧Word z.2)(hb:w.heap[vb]?=some (.cells #[.int .u64 z.1,.int .u64 z.2] 123 (0,0)))(hn:zs.length≤4000000000)(hbase:base≤w.heap.size)(ty:TypeId) :
  ∃v' w',(Builtin.append_ #[56,56] ty #[v,.slice (some ⟨vb,0,none⟩) 1 1]).run Tryz.prog w=.ok v' w'∧OwnL w' base 123 v' (zs ++ [z])∧Only (fun b=>v.ownBlock=some b) w w'∧(v'.ownBlock=v.ownBlock∨v'.ownBlock=some w.heap.size):=by
 obtain⟨i0,hi,hz0,hz1,hz2⟩:=info_parts info_iv;obtain⟨v',w',hr,hown,hgrow,_,hblk⟩:=run_append_own_at (P:=Tryz.prog) w base 56 ty 123 i0 (.agg #[.int .u64 0,.int .u64 0]) 2 16 Tryz.underlying56 hi hz0 hz1 hz2 rfl (by decide) v zs.length (cellsL zs) h.row ⟨vb,0,none⟩ 1 1 [.int .u64 z.1,.int .u64 z.2] rfl (z10 hb) (fun u hu=>by
  simp at hu
  rcases hu with rfl | rfl<;>rfl) (by unfold maxLen;omega) (by omega) hbase
 refine⟨v',w',hr,⟨?_,fun y hy=>?_⟩,⟨hgrow.os,hgrow.tape,hgrow.output,hgrow.size,fun k hk hl=>hgrow.block k hk (fun e=>hl e.symm)⟩,hblk⟩
 ·rw[z26,List.length_append]
  exact hown
 ·rcases List.mem_append.1 hy with hy | hy
  ·exact h.words y hy
  ·obtain rfl:y=z:=by simpa using hy
   exact hz
theorem putI_frag{l:List FV}{i:Nat}{z:Iv}{v':Value}(hi:i<l.length):(setL l i ((l.getD i FV.z).items ++ [z]) v').map FV.frag=putI (l.map FV.frag) i z:=by
 unfold setL putI;rw[List.map_set];congr 1
 have e:(l.map FV.frag).getD i Frag.z=(l.getD i FV.z).frag:=by
  simp only[List.getD,List.getElem?_map,List.getElem?_eq_getElem hi,Option.map_some,Option.getD_some]
 rw[e];rfl
theorem seg_put{wq w' ws:World}{base r g n cap m c i:Nat}{lm:Lim}{er pv v':Value}{s:WS}{l:List FV}{z:Iv}(hO:OutW wq base r lm er s pv (.slice (some ⟨g,0,none⟩) n cap) m c l)(hX:SegX wq l ws)(hi:i<l.length)(hbs:base≤ws.heap.size)
  (ho:Only (fun b=>(l.getD i FV.z).iv.ownBlock=some b) wq w') (hown:OwnL w' ws.heap.size 123 v' ((l.getD i FV.z).items ++ [z])) (hblk:v'.ownBlock=(l.getD i FV.z).iv.ownBlock∨∃b,v'.ownBlock=some b∧wq.heap.size≤b) :
  OutW (w'.setCell ⟨g,i * 2,none⟩ v') base r lm er { s with k:=putI s.k i z } pv (.slice (some ⟨g,0,none⟩) n cap) m c (setL l i ((l.getD i FV.z).items ++ [z]) v') ∧
  SegX (w'.setCell ⟨g,i * 2,none⟩ v') (setL l i ((l.getD i FV.z).items ++ [z]) v') ws∧Only (fun b=>b=g∨(l.getD i FV.z).iv.ownBlock=some b) wq (w'.setCell ⟨g,i * 2,none⟩ v'):=by
 have hmem:l.getD i FV.z∈l:=by rw[List.getD,List.getElem?_eq_getElem hi,Option.getD_some];exact List.getElem_mem hi
 have hTi:∀b,(l.getD i FV.z).iv.ownBlock=some b→Typed wq 123 b∧ws.heap.size≤b:=fun b hb=>⟨zj (hX.own _ hmem).row hb,((hX.own _ hmem).row.lt b hb).1⟩;have htg:Typed wq 80 g:=zj hO.row.row (k:=g) rfl;have hgw:Typed w' 80 g:=by
  obtain⟨cs,hc⟩:=htg;exact⟨cs,ho.obj (fun hb=>(hTi g hb).1.ne ⟨cs,hc⟩ (by decide) rfl) hc⟩
 have og:Only (fun b=>b=g) w' (w'.setCell ⟨g,i * 2,none⟩ v'):=(Only.refl (fun b=>b=g) w').setCell (p:=⟨g,i * 2,none⟩) (.inl rfl) _;have o2:Only (fun b=>b=g∨(l.getD i FV.z).iv.ownBlock=some b) wq (w'.setCell ⟨g,i * 2,none⟩ v'):=(ho.wide (fun b hb=>.inr hb)).trans (og.wide (fun b hb=>.inl hb));have hl:=z3g l i ((l.getD i FV.z).items ++ [z]) v';have hvec:∀f∈setL l i ((l.getD i FV.z).items ++ [z]) v',RowF ws 0 f.vv f.vec:=fun f hf=>by
  rcases List.mem_or_eq_of_mem_set hf with hf | rfl
  ·exact hX.vec f hf
  ·exact(show RowF ws 0 (l.getD i FV.z).vv (l.getD i FV.z).vec from hX.vec _ hmem)
 have hun:Only (fun b=>¬Typed ws 96 b∧¬Typed ws 123 b) ws (w'.setCell ⟨g,i * 2,none⟩ v'):=only_un hX.only o2 (fun k hk=>by
  rcases hk with rfl | hk
  ·exact .inr ⟨_,htg,by decide,by decide⟩
  ·exact .inl (hTi k hk).2)
 have hne:∀j (hj:j<l.length),j≠i→∀b,(l[j]).iv.ownBlock=some b→¬(l.getD i FV.z).iv.ownBlock=some b:=fun j hj hji b hb=>by
  have ei:l.getD i FV.z=l[i]:=by simp[List.getD,List.getElem?_eq_getElem hi]
  rw[ei];rcases Nat.lt_or_ge j i with h | h
  ·exact List.pairwise_iff_getElem.1 hX.dis j i hj hi h b hb
  ·intro hb2
   exact List.pairwise_iff_getElem.1 hX.dis i j hi hj (by omega) b hb2 hb
 have hownA:∀f∈setL l i ((l.getD i FV.z).items ++ [z]) v',OwnL (w'.setCell ⟨g,i * 2,none⟩ v') ws.heap.size 123 f.iv f.items:=fun f hf=>by
  obtain⟨j,hj,rfl⟩:=List.mem_iff_getElem.1 hf;have hj':j<l.length:=by rw[← hl];exact hj
  by_cases e:j=i
  ·subst e
   have:(setL l j ((l.getD j FV.z).items ++ [z]) v')[j]=⟨(l.getD j FV.z).items ++ [z],v',(l.getD j FV.z).vec,(l.getD j FV.z).vv⟩:=by simp[setL]
   rw[this];exact⟨zo hown.row og (fun k hk hkg=>by rw[hkg]at hk;exact Typed.ne (zj hown.row hk) hgw (by decide) rfl),hown.words⟩
  ·have:(setL l i ((l.getD i FV.z).items ++ [z]) v')[j]=l[j]:=by simp[setL,List.getElem_set_ne (Ne.symm e)]
   rw[this];have hoj:=hX.own _ (List.getElem_mem hj');refine⟨zo hoj.row o2 (fun k hk hkk=>?_),hoj.words⟩;rcases hkk with rfl | hkk
   ·exact Typed.ne (zj hoj.row hk) htg (by decide) rfl
   ·exact hne j hj' e k hk hkk
 refine⟨⟨hO.br,hO.rd.only o2 (fun hk=>?_),⟨?_,fun f hf=>⟨(hownA f hf).itT,?_⟩⟩,?_,hO.used.only o2 (fun k hk=>?_),hO.cur.only o2 (fun hk=>?_),hO.bm,hO.bc⟩,⟨hvec,hun,hownA,?_⟩,o2⟩
 ·rcases hk with hk | hk
  ·rw[← hk]at htg;exact htg.ne hO.rd.typed (by decide) rfl
  ·exact(hTi r hk).1.ne hO.rd.typed (by decide) rfl
 ·exact row_setK (zo hO.row.row ho (fun k hk hkk=>(hTi k hkk).1.ne (zj hO.row.row hk) (by decide) rfl)) hi
 ·exact(hvec f hf).only hun (fun k hk=>hk)
 ·rw[putI_frag hi,hO.frags]
 ·rcases hk with rfl | hk
  ·exact⟨_,htg⟩
  ·exact⟨_,(hTi k hk).1⟩
 ·rcases hk with hk | hk
  ·rw[← hk]at htg;exact htg.ne hO.cur.typed (by decide) rfl
  ·exact(hTi c hk).1.ne hO.cur.typed (by decide) rfl
 ·refine List.pairwise_iff_getElem.2 fun a b ha hb hab q hq=>?_
  have ha':a<l.length:=by rw[← hl];exact ha
  have hb':b<l.length:=by rw[← hl];exact hb
  have hnew:∀q,v'.ownBlock=some q→∀j (hj:j<l.length),j≠i→¬(l[j]).iv.ownBlock=some q:=fun q hq j hj hji h2=>by
   rcases hblk with e | ⟨b2,e,h3⟩
   ·rw[e]at hq;exact hne j hj hji q h2 hq
   ·rw[e]at hq
    injection hq with hq
    have:=((hX.own _ (List.getElem_mem hj)).row.lt q h2).2;omega
  simp only[setL,List.getElem_set]at hq ⊢;split at hq
  ·rename_i e1
   split
   ·omega
   ·rename_i e2
    exact hnew q hq b hb' (fun e=>e2 e.symm)
  ·rename_i e1
   split
   ·rename_i e2
    intro h3;exact hnew q h3 a ha' (fun e=>e1 e.symm) hq
   ·exact List.pairwise_iff_getElem.1 hX.dis a b ha' hb' hab q hq
def magicV:Value:=.agg #[.int .u8 75,.int .u8 78,.int .u8 87,.int .u8 76]
theorem magic_any(w:World):Calls Tryz.prog 124 #[] w fun e w'=>e=.returned magicV∧Below w.heap.size w w':=by
 go_enter Tryz.func124,Tryz.ntmps124
 go_wp2
 refine bodyPost_ret (v:=magicV) ?_ rfl ⟨rfl,zc (Below.refl _ _) _⟩;simp[results,Tryz.results124,go_sem,magicV]
def headB:List Int:=[75,78,87,76]
theorem ints4b{w:World}{b:Nat}{x y z u:Int}{t:TypeId}(hx:0≤x∧x≤255)(hy:0≤y∧y≤255)(hz:0≤z∧z≤255)(hu:0≤u∧u≤255)(h:w.heap[b]?=some (.cells #[.int .u8 x,.int .u8 y,.int .u8 z,.int .u8 u] t (0,0))):Ints .u8 w (some ⟨b,0,none⟩) 4 [x,y,z,u]:=
 ⟨rfl,by decide,fun q hq=>by
  simp at hq
  rcases hq with rfl | rfl | rfl | rfl<;>(refine wf_of_byte ?_;assumption),fun i hi=>⟨b,0,rfl,zh h,by
  match i,hi with
  | 0,_=>simp[World.cell?,h]
  | 1,_=>simp[World.cell?,h]
  | 2,_=>simp[World.cell?,h]
  | 3,_=>simp[World.cell?,h]⟩⟩
theorem ints1b{w:World}{b:Nat}{x:Int}{t:TypeId}(hx:0≤x∧x≤255)(h:w.heap[b]?=some (.cells #[.int .u8 x] t (0,0))):Ints .u8 w (some ⟨b,0,none⟩) 1 [x]:=
 ⟨rfl,by decide,fun q hq=>by
  obtain rfl:q=x:=by simpa using hq
  exact wf_of_byte hx,fun i hi=>⟨b,0,rfl,zh h,by
  match i,hi with
  | 0,_=>simp[World.cell?,h]⟩⟩
def frameB (zs ps:List Int):List Int:=zs ++ headB ++ [1] ++ vb 10 (ps.length:Int) ++ ps ++ sum4 (crcX ps)
theorem fapp_any(w0:World)(v:Value)(zs ps:List Int)(ap:Option Addr)(np cp:Nat)(w:World)(h:OwnB w w0.heap.size v zs)(h0:Below w0.heap.size w0 w)(hP:Ints .u8 w0 ap np ps)(hn:ap=none→cp=0)(hz:zs.length≤900000)(hnp:np≤900000)(hsum:zs.length+np≤900000) :
  Calls Tryz.prog 74 #[v,.slice ap np cp] w fun e w'=>∃v',e=.returned v'∧OwnB w' w0.heap.size v' (frameB zs ps)∧Below w0.heap.size w0 w':=by
 obtain⟨a,cap,rfl,_⟩:=h.ints (by omega);have H:=z7 h;have B0:=z7 h0;have PP:=z7 hP;have HL:=z7 hP.length;obtain⟨n,en⟩:∃n,zs.length=n:=⟨_,rfl⟩;have EN:=z7 en;rw[en]at H hz hsum ⊢;clear h h0 hP en;go_enter Tryz.func74,Tryz.ntmps74
 go_wp2_with fail
 refine(magic_any _).mono ?_;rintro e w1 ⟨rfl,hb1⟩;unfold magicV;obtain⟨w2,ew2⟩:∃w2,w1.alloc (.cells #[.int .u8 75,.int .u8 78,.int .u8 87,.int .u8 76] 194)=w2:=⟨_,rfl⟩;have b2:Below w.heap.size w w2:=by rw[← ew2];exact zc hb1 _
 have q2:w2.heap[w1.heap.size]?=some (.cells #[.int .u8 75,.int .u8 78,.int .u8 87,.int .u8 76] 194 (0,0)):=by rw[← ew2];exact ze _ _ rfl
 have I2:=z7 (ints4b (by omega) (by omega) (by omega) (by omega) q2);have H2:=z7 (H.out.below b2);have B2:=z7 (B0.out.trans (b2.mono B0.out.size));clear hb1 b2 q2;go_wp2_with(first
  | (at_builtin;refine z18 rfl _ _ rfl w0.heap.size _ zs rfl H2.out (some ⟨w1.heap.size,0,none⟩) 4 4 headB rfl I2.out (fun e=>(by cases e)) (by rw[EN.out];omega) B2.out.size ?_;intro v3 w3 hO3 hg3;have O3:=z7 hO3;have B3:=z7 (B2.out.grown hg3 B2.out.size (fun q hq=>(H2.out.row.lt q hq).1));clear hO3 hg3)
  | (at_builtin;refine z18 rfl _ _ rfl w0.heap.size _ (zs ++ headB) rfl (O3.out.below (zc (Below.refl _ _) _)) (some ⟨w3.heap.size,0,none⟩) 1 1 [1] rfl (ints1b (by omega) (ze _ _ rfl)) (fun e=>(by cases e)) (by rw[List.length_append,EN.out];simp[headB];omega) (by have:=B3.out.size;simp;omega) ?_;intro v4 w4 hO4 hg4;have O4:=z7 hO4;have B4:=z7 ((zc B3.out _).grown hg4 (by have:=B3.out.size;simp;omega) (fun q hq=>(O3.out.row.lt q hq).1));clear hO4 hg4)
  | (fail))
 have hl5:(zs ++ headB ++ [1]).length=n+5:=by rw[List.length_append,List.length_append,EN.out];rfl
 have hnw:np≤900000:=hnp;refine(append_any w0 v4 (zs ++ headB ++ [1]) np w4 O4.out B4.out ⟨by omega,by omega⟩ (by rw[hl5];omega)).mono ?_;rintro e w5 ⟨v5,rfl,hO5,hb5⟩;have O5:=z7 hO5;have B5:=z7 hb5;have hv10:=z4a 10 (np:Int);have hl6:(zs ++ headB ++ [1] ++ vb 10 (np:Int)).length≤n+15:=by rw[List.length_append,hl5];omega
 obtain⟨a5,c5,e5,-,-⟩:=hO5.ints (by omega);subst e5;obtain⟨Z5,eZ5⟩:∃Z,zs ++ headB ++ [1] ++ vb 10 (np:Int)=Z:=⟨_,rfl⟩;have EZ5:=z7 eZ5;rw[eZ5]at O5 hl6 ⊢;have L6:=z7 hl6;obtain⟨q5,eq5⟩:∃q,Z5.length=q:=⟨_,rfl⟩;rw[eq5]at O5 ⊢;clear hO5 hb5 hl5 hl6 hv10 eZ5 eq5;go_wp2_with(first
  | (at_builtin;go_loud(refine z18 rfl _ _ rfl w0.heap.size _ Z5 rfl O5.out ap np cp ps rfl (PP.out.below B5.out) hn (by have:=L6.out;omega) B5.out.size ?_;intro v6 w6 hO6 hg6;have O6:=z7 hO6;have B6:=z7 (B5.out.grown hg6 B5.out.size (fun q hq=>(O5.out.row.lt q hq).1));clear hO6 hg6))
  | (fail))
 refine(crcsum_any ap np cp ps w6 (PP.out.below B6.out)).mono ?_;rintro e w7 ⟨rfl,hb7⟩;have O7:=z7 (O6.out.below hb7);have B7:=z7 (B6.out.trans (hb7.mono B6.out.size));obtain⟨s,es⟩:∃s,crcX ps=s:=⟨_,rfl⟩;have ES:=z7 es;rw[es];clear hb7 es;go_wp2_with fail
 refine(crcapp_any w0 v6 _ s w7 O7.out B7.out (by rw[List.length_append,HL.out];have:=L6.out;omega)).mono ?_;rintro e w8 ⟨v8,rfl,hO8,hb8⟩;have O8:=z7 hO8;have B8:=z7 hb8;clear hO8 hb8;go_wp2
 go_ret
 exact⟨v8,rfl,by unfold frameB;rw[HL.out,ES.out,EZ5.out];exact O8.out,B8.out⟩
end Go.Proofs.YtbkkolfpegplgaaGreatDoor
