/- slices.Insert of one element into a row of the call's own. (Printed by wip/mkins.py; after the library's own proof of slices.Insert at one-cell elements.) -/
import Derived.Test.YtbkkolfpegplgaaGreatDoorS3G21
import Derived.Laws.CopyRow
import Derived.Lib.AppendZerosOnto
import Derived.Lib.Overlaps
import Derived.Laws.Externs
import Derived.Laws.NewBlocks
import Derived.Shelf.RegionOpenPlain
set_option maxHeartbeats 6400000
set_option maxRecDepth 100000
set_option linter.unusedVariables false
set_option linter.unusedSimpArgs false
namespace Go.Proofs.YtbkkolfpegplgaaGreatDoor
open Go Go.RowKit
theorem z13{P:Program}(w:World)(dT sT ty elem:TypeId)(g o dLen dCap:Nat)(a:Addr)(sLen sCap:Nat)(cur:Array Value)(t:TypeId)(cs:List Value)(k m:Nat)
  (hu:P.underlying dT=some (.slice elem)) (hs:(P.info? elem).map (·.size)=some k)
  (hg:w.heap[g]?=some (.cells cur t (0,0))) (hm:m=Nat.min sLen dLen) (hn:cs.length=m * k)
  (hsrc:∀j v,cs[j]?=some v→w.cell? (a.add j)=some v) (hfit:o+cs.length≤cur.size) (h1:∀v∈cs,v.oneCell'=true) :
  (Builtin.copy_ #[dT,sT] ty #[.slice (some ⟨g,o,none⟩) dLen dCap,.slice (some a) sLen sCap]).run P w =
    .ok (goInt m) (w.setRow g (cur.toList.take o ++ cs ++ cur.toList.drop (o+cs.length)).toArray):=by
 have hl:=run_loadCells_list (P:=P) w a cs hsrc;have hst:=run_storeCells_at P g o t cs 0 cur w hg (by simpa using hfit) h1
 cases hq:P.info? elem with
 | none=>simp[hq]at hs
 | some i=>
   have hi:i.size=k:=by simpa[hq]using hs
   simp[Builtin.copy_,run_underlying hu,Builtin.lenOf,Builtin.firstCells,sizeOf,typeInfo,hq,hi,← hm,← hn,hl,hst]
theorem z2i{P:Program}{ops:Array Oper}{o:Oper}{a:Act}{w:World}{K:Act→World→Prop}{Q:Exit→Act→World→Prop}{E:Prop}
  (hg:o.guard=none) (d x:Operand) (dT sT:TypeId) (hop:o.op=Op.call { callee:=Callee.builtin Builtin.copy,args:=#[d,x],argTypes:=#[dT,sT] })
  (v u:Value) (hd:a.eval d=v) (hx:a.eval x=u) {v':Value} {w':World} (hr:(Builtin.copy_ #[dT,sT] o.type #[v,u]).run P w=.ok v' w') (hK:K (a.put o.dst v') w') :
  if Region.wanted o (yielded ops a.tmps)=true then Oper.wp P o a w K Q else E:=by
 have hw:Region.wanted o (yielded ops a.tmps)=true:=by simp[Region.wanted,hg]
 rw[if_pos hw];unfold Oper.wp;simp[execOp,hop,resolve,invoke,builtin,hd,hx,hr,Result.andThen]
 exact hK
theorem Only.setRow{may:Nat→Prop}{A B:World}(h:Only may A B){g:Nat}(hg:may g∨A.heap.size≤g)(cs:Array Value):Only may A (B.setRow g cs):=
 ⟨h.os,h.tape,h.output,by simpa using h.size,fun i hi hl=>(setRow_other B g i cs (by rintro rfl;rcases hg with hg | hg<;>first | exact hl hg | omega)).trans (h.block i hi hl)⟩
theorem z10{w:World}{b:Nat}{ys:List Value}{t:TypeId}{f:Nat×Nat}(h:w.heap[b]?=some (.cells ys.toArray t f)):∀j v,ys[j]?=some v→w.cell? ((⟨b,0,none⟩:Addr).add j)=some v:=by
 intro j v hj;have ea:(⟨b,0,none⟩:Addr).add j=⟨b,0+j,none⟩:=by unfold Addr.add;split<;>simp_all
 rw[ea];simp[World.cell?,h,hj]
theorem z2y{α:Type}(l:List α){a b:Nat}(h:a≤b):(l.take b).take a=l.take a:=by rw[List.take_take];congr 1;omega
theorem insert_cells(cur ys:List Value)(p k n:Nat)(hp:p≤n)(hk:ys.length=k)(hc:n+k≤cur.length) :
  ((((cur.take (p+k) ++ (cur.take n).drop p ++ cur.drop (p+k+(n-p))).take p ++ ys ++ (cur.take (p+k) ++ (cur.take n).drop p ++ cur.drop (p+k+(n-p))).drop (p+k))).take (n+k))=(cur.take n).take p ++ ys ++ (cur.take n).drop p:=by
 have e1:(cur.take (p+k) ++ (cur.take n).drop p ++ cur.drop (p+k+(n-p))).take p=(cur.take n).take p:=by
  rw[List.append_assoc,List.take_append_of_le_length (by rw[List.length_take];omega),z2y _ (by omega),z2y _ hp]
 have e2:(cur.take (p+k) ++ (cur.take n).drop p ++ cur.drop (p+k+(n-p))).drop (p+k)=(cur.take n).drop p ++ cur.drop (p+k+(n-p)):=by
  rw[List.append_assoc];exact List.drop_left' (by rw[List.length_take];omega)
 rw[e1,e2,← List.append_assoc];exact List.take_left' (by simp only[List.length_append,List.length_take,List.length_drop,hk];omega)
theorem run_append_types{P:Program}(w:World)(t t' ty e e':TypeId)(ht:P.underlying t=some (.slice e))(ht':P.underlying t'=some (.slice e'))(v x:Value) :
  (Builtin.append_ #[t,t'] ty #[v,x]).run P w=(Builtin.append_ #[t,t] ty #[v,x]).run P w:=by
 unfold Builtin.append_
 cases v<;>simp[run_underlying ht,run_underlying ht']
theorem zy{P:Program}(w:World){ops:Array Oper}{rest:List Oper}{o:Oper}{a:Act}{Q:Exit→Act→World→Prop}(hgd:o.guard=none)(s x:Operand)(t t':TypeId)
  (ho:o.op=.call { callee:=.builtin .append,args:=#[s,x],argTypes:=#[t,t'] })
  (base:Nat) (e e':TypeId) (i:TypeInfo) (z:Value) (size bytes:Nat) (ht:P.underlying t=some (.slice e)) (ht':P.underlying t'=some (.slice e')) (hi:P.info? e=some i) (hz:i.zero=some z)
  (hsize:i.size=size) (hby:i.bytes=bytes) (hzs:z.cells.size=size) (hsz:0<size)
  (v:Value) (n:Nat) (xs:List Value) (hs:a.eval s=v) (hown:w.ownsRow base e size v n xs)
  (ad:Addr) (m c:Nat) (news:List Value) (hx:a.eval x=.slice (some ad) m c) (hl:news.length=m * size) (hnews:∀j u,news[j]?=some u→w.cell? (ad.add j)=some u) (h1:∀u∈news,u.oneCell'=true)
  (h63:n+m≤maxLen) (hbytes:(n+m) * bytes≤140737488355328) (hbase:base≤w.heap.size)
  (h:∀v' w',w'.ownsRow base e size v' (n+m) (xs ++ news)→w.grownBy w' v.ownBlock→(v'=.slice none 0 0↔v=.slice none 0 0∧m=0)→(v'.ownBlock=v.ownBlock∨v'.ownBlock=some w.heap.size)→wpList P ops Q rest (a.put o.dst v') w') :
  wpList P ops Q (o :: rest) a w:=by
 refine wpList_plain hgd fun K hK=>?_;obtain⟨v',w',hr,h2,h3,h4,h5⟩:=run_append_own_at (P:=P) w base t o.type e i z size bytes ht hi hz hsize hby hzs hsz v n xs hown ad m c news hl hnews h1 h63 hbytes hbase;rw[← run_append_types w t t' o.type e e' ht ht']at hr;unfold Oper.wp execOp;simp only[ho,resolve,invoke,builtin,Sem.run_bind,Sem.run_pure,Result.andThen_ok,List.map_toArray,List.map_cons,List.map_nil,hs,hx,hr];exact hK _ _ (h v' w' h2 h3 h4 h5)
theorem z4d:(Tryz.prog.info? 57).map (fun i=>(i.zero,i.size,i.bytes))=some (some (.int .u64 0),1,8):=by kernel_rfl
theorem ins_u64_end(base n:Nat)(v:Value)(xs:List Value)(vb:Nat)(ys:List Value)(w:World)(h:w.ownsRow base 57 1 v n xs)(hn:n≤1000000000)(hbase:base≤w.heap.size)(hy1:∀u∈ys,u.oneCell'=true)(hyl:ys.length=1)
  (hys:w.heap[vb]?=some (.cells ys.toArray 57 (0,0))) :
  Calls Tryz.prog 192 #[v,.int .i64 n,.slice (some ⟨vb,0,none⟩) 1 1] w fun e w'=>∃v',e=.returned v'∧w'.ownsRow base 57 1 v' (n+1) (xs ++ ys)∧w.grownBy w' v.ownBlock:=by
 obtain⟨i0,hi,hz0,hz1,hz2⟩:=info_parts z4d;have H:=z7 h;have HYL:=z7 hyl;have HYS:=z7 (z10 hys);have HY1:=z7 hy1;clear hys hyl hy1;rcases h.2 with⟨rfl,rfl⟩ | ⟨g,cap,cur,rfl,hg,hcells,hnc,hcm,hsz,htk⟩
 ·clear h
  go_enter Tryz.func192,Tryz.ntmps192
  go_wp2_with(at_builtin;go_loud(refine zy _ rfl _ _ 89 89 rfl base 57 57 i0 (.int .u64 0) 1 8 Tryz.underlying89 Tryz.underlying89 hi hz0 hz1 hz2 rfl (by decide) _ _ _ rfl H.out ⟨vb,0,none⟩ 1 1 ys rfl HYL.out HYS.out HY1.out (by decide) (by decide) hbase ?_);intro v' w1 hown hgrow _ _;have HO:=z7 hown;have HG:=z7 hgrow;clear hown hgrow)
  go_ret
  exact⟨_,rfl,HO.out,HG.out⟩
 ·clear h htk hcells hsz
  have hcm':cap≤9223372036854775807:=by unfold maxLen at hcm;omega
  have HC:=z7 hcm;have c1:n+1≤maxLen:=by unfold maxLen;omega
  have c2:(n+1) * 8≤140737488355328:=by omega
  clear hcm;by_cases e:cap=n
  ·subst e
   go_enter Tryz.func192,Tryz.ntmps192
   go_wp2_with(at_builtin;go_loud(refine zy _ rfl _ _ 89 89 rfl base 57 57 i0 (.int .u64 0) 1 8 Tryz.underlying89 Tryz.underlying89 hi hz0 hz1 hz2 rfl (by decide) _ _ _ rfl H.out ⟨vb,0,none⟩ 1 1 ys rfl HYL.out HYS.out HY1.out c1 c2 hbase ?_);intro v' w1 hown hgrow _ _;have HO:=z7 hown;have HG:=z7 hgrow;clear hown hgrow)
   go_ret
   exact⟨_,rfl,HO.out,HG.out⟩
  ·have e':n<cap:=by omega
   go_enter Tryz.func192,Tryz.ntmps192
   go_wp2_with(at_builtin;go_loud(refine zy _ rfl _ _ 89 89 rfl base 57 57 i0 (.int .u64 0) 1 8 Tryz.underlying89 Tryz.underlying89 hi hz0 hz1 hz2 rfl (by decide) _ _ _ rfl H.out ⟨vb,0,none⟩ 1 1 ys rfl HYL.out HYS.out HY1.out c1 c2 hbase ?_);intro v' w1 hown hgrow _ _;have HO:=z7 hown;have HG:=z7 hgrow;clear hown hgrow)
   go_ret
   exact⟨_,rfl,HO.out,HG.out⟩
theorem ins_u64_shift(g cap n i:Nat)(cur:Array Value)(vb:Nat)(ys:List Value)(w:World)(hi:i<n)(hroom:n+1≤cap)(hcm:cap≤9223372036854775807)(hg:w.heap[g]?=some (.cells cur 57 (0,0)))(hsz:cur.size=cap * 1)
  (h1:∀u∈cur.toList.take (n * 1),u.oneCell'=true) (hy1:∀u∈ys,u.oneCell'=true) (hyl:ys.length=1) (hys:w.heap[vb]?=some (.cells ys.toArray 57 (0,0))) (hvb:vb≠g) :
  Calls Tryz.prog 192 #[.slice (some ⟨g,0,none⟩) n cap,.int .i64 i,.slice (some ⟨vb,0,none⟩) 1 1] w fun e w'=>e=.returned (.slice (some ⟨g,0,none⟩) (n+1) cap)∧∃cur':Array Value,w'.heap[g]?=some (.cells cur' 57 (0,0))∧cur'.size=cap * 1 ∧
   cur'.toList.take ((n+1) * 1)=(cur.toList.take (n * 1)).take (i * 1) ++ ys ++ (cur.toList.take (n * 1)).drop (i * 1)∧Only (fun b=>b=g) w w':=by
 have mixed:Tryz.prog.follows .mixedOrders=true:=by kernel_rfl
 have hz1:((1:Int) == 0)=false:=by decide
 have hz2:¬((i:Int)=(n:Int)):=by omega
 have hlc:cur.toList.length=cap * 1:=by simpa using hsz
 obtain⟨i0,hi0,hz0,hzs,hzb⟩:=info_parts z4d;have hszk:(Tryz.prog.info? 57).map (·.size)=some 1:=by rw[hi0];simp[hzs]
 have hsa:w.shape? vb=some (57,1):=by simp[World.shape?,hys,hyl]
 have hsb:w.shape? g=some (57,cap * 1):=by simp[World.shape?,hg,hsz]
 have hov:∀o lb cb,(callFunc 231 #[.slice (some ⟨vb,0,none⟩) 1 1,.slice (some ⟨g,o,none⟩) lb cb]).run Tryz.prog w=.ok (.value (.bool false)) w:=fun o lb cb=>by
  rw[run_callFunc_extern Tryz.func231 (by kernel_rfl) (by kernel_rfl) (by kernel_rfl) (e:=Extern.SlicesOverlaps.overlaps #[89,89] #[4]) (by kernel_rfl),
   Lib.run_overlaps_apart w 89 4 57 Tryz.underlying89 1 (fun w=>by simp[Go.sizeOf,typeInfo,hi0,hzs]) ⟨vb,0,none⟩ ⟨g,o,none⟩ 1 1 lb cb hvb 57 57 1 (cap * 1) hsa hsb (by omega) (by simp[World.frozen?,hys]) (by simp[World.frozen?,hys])]
  rfl
 obtain⟨cs,ecs⟩:∃cs,cs=(cur.toList.take (n * 1)).drop (i * 1):=⟨_,rfl⟩;have hcl:cs.length=(n-i) * 1:=by rw[ecs,List.length_drop,List.length_take,hlc];omega
 have hc1:∀u∈cs,u.oneCell'=true:=fun u hu=>h1 u (by rw[ecs]at hu;exact List.mem_of_mem_drop hu);have hcc:∀j u,cs[j]?=some u→cur[i+j]?=some u:=fun j u hj=>by
  rw[ecs,List.getElem?_drop,List.getElem?_take]at hj;split at hj
  ·simpa[Nat.mul_one]using hj
  ·cases hj
 obtain⟨cur1,e1⟩:∃cur1,cur1=(cur.toList.take (i+1) ++ cs ++ cur.toList.drop (i+1+cs.length)).toArray:=⟨_,rfl⟩;have hl1:cur1.size=cap * 1:=by rw[e1];simp only[List.size_toArray,List.length_append,List.length_take,List.length_drop,hlc,hcl];omega
 obtain⟨cur2,e2⟩:∃cur2,cur2=(cur1.toList.take (i) ++ ys ++ cur1.toList.drop (i+ys.length)).toArray:=⟨_,rfl⟩;have hl2:cur2.size=cap * 1:=by rw[e2];simp only[List.size_toArray,List.length_append,List.length_take,List.length_drop,Array.length_toList,hl1,hyl];omega
 have fin:cur2.toList.take ((n+1) * 1)=(cur.toList.take (n * 1)).take (i * 1) ++ ys ++ (cur.toList.take (n * 1)).drop (i * 1):=by
  rw[e2,e1,hcl,hyl,ecs];have:=insert_cells cur.toList ys (i) 1 (n * 1) (by omega) hyl (by rw[hlc];omega);rw[show n * 1-(i)=(n-i) * 1 by omega,show i+1=i+1 by omega]at this;rw[show i * 1=i by omega,show i+1=i+1 by omega];rw[show(n+1) * 1=n * 1+1 by omega];exact this
 have FIN:=z7 fin;have HL2:=z7 hl2;have hcp1:∀(W:World),W.heap=w.heap→∀ty dc sc,(Builtin.copy_ #[89,89] ty #[.slice (some ⟨g,i+1,none⟩) (n-i) dc,.slice (some ⟨g,i,none⟩) (n+1-i) sc]).run Tryz.prog W=.ok (goInt (n-i:Nat)) (W.setRow g cur1):=fun W hW ty dc sc=>by
  rw[z13 W 89 89 ty 57 g (i+1) (n-i) dc ⟨g,i,none⟩ (n+1-i) sc cur 57 cs 1 (n-i) Tryz.underlying89 hszk (by rw[hW];exact hg) (by simp only[Nat.min_def];split<;>omega) hcl
   (fun j u hj=>by
     have ea:(⟨g,i,none⟩:Addr).add j=⟨g,i+j,none⟩:=by unfold Addr.add;split<;>simp_all
     have:=hcc j u hj;rw[ea];simp[World.cell?,hW,hg,this]) (by rw[hcl,hsz];omega) hc1,e1]
 have hg1:∀(W:World),W.heap=w.heap→(W.setRow g cur1).heap[g]?=some (.cells cur1 57 (0,0)):=fun W hW=>setRow_heap W g cur cur1 57 (0,0) (by rw[hW];exact hg);have hv1:∀(W:World),W.heap=w.heap→(W.setRow g cur1).heap[vb]?=some (.cells ys.toArray 57 (0,0)):=fun W hW=>(setRow_other W g vb cur1 hvb).trans (by rw[hW];exact hys);have hcp2:∀(W W0:World),W0.heap=w.heap→W.heap=(W0.setRow g cur1).heap→∀ty dc,(Builtin.copy_ #[89,89] ty #[.slice (some ⟨g,i,none⟩) (n+1-i) dc,.slice (some ⟨vb,0,none⟩) 1 1]).run Tryz.prog W=.ok (goInt (1:Nat)) (W.setRow g cur2):=fun W W0 hW0 hW ty dc=>by
  rw[z13 W 89 89 ty 57 g (i) (n+1-i) dc ⟨vb,0,none⟩ 1 1 cur1 57 ys 1 1 Tryz.underlying89 hszk (by rw[hW];exact hg1 W0 hW0) (by simp only[Nat.min_def];split<;>omega) (by rw[hyl])
   (z10 (by rw[hW];exact hv1 W0 hW0)) (by rw[hl1,hyl];omega) hy1,e2]
 have hcq:=hcp2 (w.drew.setRow g cur1) w.drew rfl rfl;have hw1:IntKind.i64.wrap ((i:Int)+1)=(i:Int)+1:=by rw[IntKind.wrap_i64];omega
 have hw2:IntKind.i64.wrap ((n:Int)+1)=(n:Int)+1:=by rw[IntKind.wrap_i64];omega
 have hb1:(0:Int)≤(i:Int)+1:=by omega
 have hin:i≤n:=by omega
 have htn:((i:Int)+1).toNat=i+1:=by omega
 have htm:((n:Int)+1).toNat=n+1:=by omega
 have hb2:¬(cap=i+1):=by omega
 have hb3:(i:Int)≤(n:Int)+1:=by omega
 have hb4:¬(cap=i):=by omega
 have HG:=z7 hg;have HG1:=z7 hg1;clear e1 e2 fin hl2 hcc hc1 h1 hcl ecs hl1 hlc hsz hg hys hsa hsb hv1 hg1;go_enter Tryz.func192,Tryz.ntmps192
 go_wp2_with(simp only[hov])
 go_region_law_o (refine z2i rfl _ _ 89 89 rfl (.slice (some ⟨g,i+1,none⟩) (n-i) (cap-(i+1))) (.slice (some ⟨g,i,none⟩) (n+1-i) (cap-i)) (by simp[Act.eval,Act.put]) (by simp[Act.eval,Act.put]) (hcp1 w.drew rfl 3 (cap-(i+1)) (cap-i)) ?_)
 go_wp2
 go_ret
 refine⟨rfl,cur2,setRow_heap _ g cur1 cur2 _ _ (HG1.out _ rfl),HL2.out,FIN.out,?_⟩;exact(((Only.refl (fun b=>b=g) w).drew.setRow (.inl rfl) cur1)).setRow (.inl rfl) cur2
theorem ins_u64_grow(g n i:Nat)(cur:Array Value)(vb:Nat)(ys:List Value)(w:World)(hi:i<n)(hn:n≤1000000000)(hg:w.heap[g]?=some (.cells cur 57 (0,0)))(hsz:cur.size=n * 1)
  (h1:∀u∈cur.toList,u.oneCell'=true) (hy1:∀u∈ys,u.oneCell'=true) (hyl:ys.length=1) (hys:w.heap[vb]?=some (.cells ys.toArray 57 (0,0))) :
  Calls Tryz.prog 192 #[.slice (some ⟨g,0,none⟩) n n,.int .i64 i,.slice (some ⟨vb,0,none⟩) 1 1] w fun e w'=>∃(G:Nat) (cur':Array Value),e=.returned (.slice (some ⟨w.heap.size,0,none⟩) (n+1) G)∧w'.heap[w.heap.size]?=some (.cells cur' 57 (0,0))∧n+1≤G∧G≤maxLen∧cur'.size=G * 1 ∧
   cur'.toList.take ((n+1) * 1)=cur.toList.take (i * 1) ++ ys ++ cur.toList.drop (i * 1)∧Below w.heap.size w w':=by
 have mixed:Tryz.prog.follows .mixedOrders=true:=by kernel_rfl
 have hz1:((1:Int) == 0)=false:=by decide
 have hz2:¬((i:Int)=(n:Int)):=by omega
 have hz3:(n:Int)<(n:Int)+1:=by omega
 have hlc:cur.toList.length=n * 1:=by simpa using hsz
 obtain⟨i0,hi0,hz0,hzs,hzb⟩:=info_parts z4d;have hszk:(Tryz.prog.info? 57).map (·.size)=some 1:=by rw[hi0];simp[hzs]
 have hbw:=zh hg;have hvw:=zh hys;have hkk:(n:Int)+1-(i:Int)=((n+1-i:Nat):Int):=by omega
 have hik:i+(n+1-i)=n+1:=by omega
 have hold:(Builtin.firstCells i0.size i (.slice (some ⟨g,0,none⟩) i n)).run Tryz.prog w.drew=.ok (cur.toList.take (i)).toArray w.drew:=by
  rw[hzs];exact run_firstCells_some w.drew 1 i ⟨g,0,none⟩ i n (cur.toList.take (i)) (by rw[List.length_take,hlc];omega) (fun j u hj=>by
   have ea:(⟨g,0,none⟩:Addr).add j=⟨g,0+j,none⟩:=by unfold Addr.add;split<;>simp_all
   rw[ea];rw[List.getElem?_take]at hj;split at hj
   ·have hgd:w.drew.heap[g]?=some (.cells cur 57 (0,0)):=hg
    simpa[World.cell?,hgd]using hj
   ·cases hj)
 have hrz:∀ty,(Builtin.append_ #[89,3] ty #[.slice (some ⟨g,0,none⟩) i n,.int .i64 ((n:Int)+1-(i:Int))]).run Tryz.prog w =
   .ok (.slice (some ⟨w.heap.size,0,none⟩) (n+1) (grownCap w (n+1) n 57)) (w.drew.alloc (.cells ((cur.toList.take (i)).toArray ++ Builtin.zeroCells (Value.int .u64 0).cells (n+1-i) ++ Builtin.zeroCells (Value.int .u64 0).cells (grownCap w (n+1) n 57-(n+1))) 57)):=fun ty=>by
  have h:=Lib.run_append_grow_zeros w 89 3 ty 57 i0 _ .i64 .i64 Tryz.underlying89 Tryz.underlying3 hi0 hz0 (some ⟨g,0,none⟩) i n (cur.toList.take (i)) hold (n+1-i) (by omega) (by omega) (by omega) (by omega) (by rw[hzb];omega) (by rw[hzb,hik];exact growslice_fits (by omega) (by omega));rw[hik]at h;rw[hkk];exact h
 obtain⟨G,hG⟩:∃G,G=grownCap w (n+1) n 57:=⟨_,rfl⟩;obtain⟨ROW,hROW⟩:∃ROW:Array Value,ROW=(cur.toList.take (i)).toArray ++ Builtin.zeroCells (Value.int .u64 0).cells (n+1-i) ++ Builtin.zeroCells (Value.int .u64 0).cells (G-(n+1)):=⟨_,rfl⟩;rw[← hG]at hrz;rw[← hROW]at hrz;have hGn:n+1≤G:=by rw[hG];exact grownCap_ge w _ _ _
 have hGm:G≤maxLen:=by
  rw[hG];exact grownCap_le_maxLen w (n+1) n 57 (by unfold maxLen;omega)
 have hG63:G≤9223372036854775807:=by unfold maxLen at hGm;omega
 have hRl:ROW.size=G * 1:=by
  rw[hROW];simp[Builtin.zeroCells,Value.cells,hsz]
  omega
 have hRt:ROW.toList.take (i)=cur.toList.take (i):=by
  rw[hROW,Array.toList_append,Array.toList_append,List.append_assoc,List.take_append_of_le_length (by simp[hsz];omega)];exact z2y _ (Nat.le_refl _)
 obtain⟨rowA,eA⟩:∃rowA,rowA=(ROW.toList.take (i) ++ ys ++ ROW.toList.drop (i+ys.length)).toArray:=⟨_,rfl⟩;have hlA:rowA.size=G * 1:=by rw[eA];simp only[List.size_toArray,List.length_append,List.length_take,List.length_drop,Array.length_toList,hRl,hyl];omega
 obtain⟨cs,ecs⟩:∃cs,cs=cur.toList.drop (i):=⟨_,rfl⟩;have hcl:cs.length=(n-i) * 1:=by rw[ecs,List.length_drop,hlc];omega
 have hc1:∀u∈cs,u.oneCell'=true:=fun u hu=>h1 u (by rw[ecs]at hu;exact List.mem_of_mem_drop hu);have hcc:∀j u,cs[j]?=some u→cur[i+j]?=some u:=fun j u hj=>by
  rw[ecs,List.getElem?_drop]at hj;simpa using hj
 obtain⟨rowB,eB⟩:∃rowB,rowB=(rowA.toList.take (i+1) ++ cs ++ rowA.toList.drop (i+1+cs.length)).toArray:=⟨_,rfl⟩;have hlB:rowB.size=G * 1:=by rw[eB];simp only[List.size_toArray,List.length_append,List.length_take,List.length_drop,Array.length_toList,hlA,hcl];omega
 have fin:rowB.toList.take ((n+1) * 1)=cur.toList.take (i * 1) ++ ys ++ cur.toList.drop (i * 1):=by
  have e1:rowA.toList.take (i+1)=cur.toList.take (i) ++ ys:=by
   rw[eA,← hRt];exact List.take_left' (by simp only[List.length_append,List.length_take,Array.length_toList,hRl,hyl];omega)
  rw[eB,e1,show i * 1=i by omega,← ecs];exact List.take_left' (by simp only[List.length_append,List.length_take,hlc,hyl,hcl];omega)
 have FIN:=z7 fin;have HLB:=z7 hlB;obtain⟨N,eN⟩:∃N,N=w.heap.size:=⟨_,rfl⟩;have hN0:(w.alloc (.cells ROW 57)).heap[w.heap.size]?=some (.cells ROW 57 (0,0)):=ze _ _ rfl;have hg0:(w.alloc (.cells ROW 57)).heap[g]?=some (.cells cur 57 (0,0)):=zk _ _ hbw hg;have hv0:(w.alloc (.cells ROW 57)).heap[vb]?=some (.cells ys.toArray 57 (0,0)):=zk _ _ hvw hys;have hcpA:∀(W:World),W.heap=(w.alloc (.cells ROW 57)).heap→∀ty dc,(Builtin.copy_ #[89,89] ty #[.slice (some ⟨w.heap.size,i,none⟩) (n+1-i) dc,.slice (some ⟨vb,0,none⟩) 1 1]).run Tryz.prog W=.ok (goInt (1:Nat)) (W.setRow w.heap.size rowA):=fun W hW ty dc=>by
  rw[z13 W 89 89 ty 57 w.heap.size (i) (n+1-i) dc ⟨vb,0,none⟩ 1 1 ROW 57 ys 1 1 Tryz.underlying89 hszk (by rw[hW];exact hN0) (by simp only[Nat.min_def];split<;>omega) (by rw[hyl])
   (z10 (by rw[hW];exact hv0)) (by rw[hRl,hyl];omega) hy1,eA]
 have hNA:∀(W:World),W.heap=(w.alloc (.cells ROW 57)).heap→(W.setRow w.heap.size rowA).heap[w.heap.size]?=some (.cells rowA 57 (0,0)):=fun W hW=>setRow_heap W _ ROW rowA 57 (0,0) (by rw[hW];exact hN0);have hgA:∀(W:World),W.heap=(w.alloc (.cells ROW 57)).heap→(W.setRow w.heap.size rowA).heap[g]?=some (.cells cur 57 (0,0)):=fun W hW=>(setRow_other W _ g rowA (by omega)).trans (by rw[hW];exact hg0);have hcpB:∀(W W0:World),W0.heap=(w.alloc (.cells ROW 57)).heap→W.heap=(W0.setRow w.heap.size rowA).heap→∀ty dc sc,(Builtin.copy_ #[89,89] ty #[.slice (some ⟨w.heap.size,i+1,none⟩) (n-i) dc,.slice (some ⟨g,i,none⟩) (n-i) sc]).run Tryz.prog W=.ok (goInt (n-i:Nat)) (W.setRow w.heap.size rowB):=fun W W0 hW0 hW ty dc sc=>by
  rw[z13 W 89 89 ty 57 w.heap.size (i+1) (n-i) dc ⟨g,i,none⟩ (n-i) sc rowA 57 cs 1 (n-i) Tryz.underlying89 hszk (by rw[hW];exact hNA W0 hW0) (by simp only[Nat.min_def];split<;>omega) hcl
   (fun j u hj=>by
     have ea:(⟨g,i,none⟩:Addr).add j=⟨g,i+j,none⟩:=by unfold Addr.add;split<;>simp_all
     have:=hcc j u hj;have hgg:=hgA W0 hW0;rw[← hW]at hgg;rw[ea];simp[World.cell?,hgg,this]) (by rw[hcl,hlA];omega) hc1,eB]
 have hcq:=hcpA ((w.alloc (.cells ROW 57)).drew) rfl;have hcr:=hcpB ((((w.alloc (.cells ROW 57)).drew.setRow w.heap.size rowA)).drew) ((w.alloc (.cells ROW 57)).drew) rfl rfl;have hw1:IntKind.i64.wrap ((i:Int)+1)=(i:Int)+1:=by rw[IntKind.wrap_i64];omega
 have hw2:IntKind.i64.wrap ((n:Int)+1)=(n:Int)+1:=by rw[IntKind.wrap_i64];omega
 have hw3:IntKind.i64.wrap ((n:Int)+1-i)=(n:Int)+1-i:=by rw[IntKind.wrap_i64];omega
 have hb1:(0:Int)≤(i:Int)+1:=by omega
 have hin:i≤n:=by omega
 have htn:((i:Int)+1).toNat=i+1:=by omega
 have hGi:¬(G=i):=by omega
 have hGim:¬(G=i+1):=by omega
 have hci:¬(n=i):=by omega
 have hb3:(i:Int)≤(n:Int):=by omega
 have HG:=z7 hGn;have HGM:=z7 hGm;have HNA:=z7 hNA;clear hkk hik hold hROW hG hRl eN hRt eA hlA ecs hcl hc1 hcc eB hlB fin hN0 hg0 hv0 hNA hgA hGm hcpA hcpB h1 hlc hsz hg hys;go_enter Tryz.func192,Tryz.ntmps192
 go_wp2_with(at_builtin;refine Lib.wpList_append_run _ rfl _ _ _ _ rfl _ _ rfl rfl _ _ (hrz _) ?_)
 go_region_law_o (refine z2i rfl _ _ 89 89 rfl (.slice (some ⟨w.heap.size,i+1,none⟩) (n-i) (G-(i+1))) (.slice (some ⟨g,i,none⟩) (n-i) (n-i)) (by simp[Act.eval,Act.put]) (by simp[Act.eval,Act.put]) (hcr 3 (G-(i+1)) (n-i)) ?_)
 go_wp2
 go_ret
 refine⟨G,rowB,rfl,setRow_heap _ _ rowA rowB _ _ (HNA.out ((w.alloc (.cells ROW 57)).drew) rfl),HG.out,HGM.out,HLB.out,FIN.out,?_⟩;exact(((((Only.refl (fun b=>b=w.heap.size) w).alloc (.cells ROW 57)).drew.setRow (.inl rfl) rowA).drew).setRow (.inl rfl) rowB).below (n:=w.heap.size) (Nat.le_refl _) (fun k hk=>by omega)
theorem ins_u64_any(base n i:Nat)(v:Value)(xs:List Value)(vb:Nat)(ys:List Value)(w:World)(h:w.ownsRow base 57 1 v n xs)(hi:i≤n)(hn:n≤1000000000)(hbase:base≤w.heap.size)(h1:∀u∈xs,u.oneCell'=true)(hy1:∀u∈ys,u.oneCell'=true)(hyl:ys.length=1)
  (hys:w.heap[vb]?=some (.cells ys.toArray 57 (0,0))) (hvb:v.ownBlock≠some vb) :
  Calls Tryz.prog 192 #[v,.int .i64 i,.slice (some ⟨vb,0,none⟩) 1 1] w fun e w'=>∃v',e=.returned v'∧w'.ownsRow base 57 1 v' (n+1) (xs.take (i * 1) ++ ys ++ xs.drop (i * 1))∧Only (fun b=>v.ownBlock=some b) w w':=by
 have hxl:=h.1;by_cases e:i=n
 ·subst e
  refine(ins_u64_end base i v xs vb ys w h hn hbase hy1 hyl hys).mono ?_;rintro e w' ⟨v',rfl,hO,hg⟩;rw[List.take_of_length_le (by omega),List.drop_of_length_le (by omega),List.append_nil];exact⟨v',rfl,hO,⟨hg.os,hg.tape,hg.output,hg.size,fun k hk hl=>hg.block k hk (fun e=>hl e.symm)⟩⟩
 ·rcases h.2 with⟨rfl,rfl⟩ | ⟨g,cap,cur,rfl,hgb,hcells,hnc,hcm,hsz,htk⟩
  ·omega
  ·have hgv:vb≠g:=fun e=>hvb (by rw[e];rfl)
   by_cases hr:n+1≤cap
   ·refine(ins_u64_shift g cap n i cur vb ys w (by omega) hr (by unfold maxLen at hcm;omega) hcells hsz (by rw[htk];exact h1) hy1 hyl hys hgv).mono ?_
    rintro e w' ⟨rfl,cur',hc',hs',ht',ho⟩;rw[htk]at ht';refine⟨_,rfl,⟨?_,.inr ⟨g,cap,cur',rfl,hgb,hc',hr,hcm,hs',ht'⟩⟩,ho.wide fun k hk=>by rw[hk];rfl⟩;simp only[List.length_append,List.length_take,List.length_drop,hyl,hxl];omega
   ·obtain rfl:cap=n:=by omega
    rw[List.take_of_length_le (by simp[hsz])]at htk;refine(ins_u64_grow g cap i cur vb ys w (by omega) hn hcells hsz (by rw[htk];exact h1) hy1 hyl hys).mono ?_;rintro e w' ⟨G,cur',rfl,hc',hG,hGm,hs',ht',hb⟩;rw[htk]at ht';refine⟨_,rfl,⟨?_,.inr ⟨w.heap.size,G,cur',rfl,hbase,hc',hG,hGm,hs',ht'⟩⟩,Only.of_below hb⟩;simp only[List.length_append,List.length_take,List.length_drop,hyl,hxl];omega
theorem z1p:(Tryz.prog.info? 80).map (fun i=>(i.zero,i.size,i.bytes))=some (some (.agg #[.slice none 0 0,.slice none 0 0]),2,48):=by kernel_rfl
theorem ins_frag_end(base n:Nat)(v:Value)(xs:List Value)(vb:Nat)(ys:List Value)(w:World)(h:w.ownsRow base 80 2 v n xs)(hn:n≤1000000000)(hbase:base≤w.heap.size)(hy1:∀u∈ys,u.oneCell'=true)(hyl:ys.length=2)
  (hys:w.heap[vb]?=some (.cells ys.toArray 80 (0,0))) :
  Calls Tryz.prog 140 #[v,.int .i64 n,.slice (some ⟨vb,0,none⟩) 1 1] w fun e w'=>∃v',e=.returned v'∧w'.ownsRow base 80 2 v' (n+1) (xs ++ ys)∧w.grownBy w' v.ownBlock:=by
 obtain⟨i0,hi,hz0,hz1,hz2⟩:=info_parts z1p;have H:=z7 h;have HYL:=z7 hyl;have HYS:=z7 (z10 hys);have HY1:=z7 hy1;clear hys hyl hy1;rcases h.2 with⟨rfl,rfl⟩ | ⟨g,cap,cur,rfl,hg,hcells,hnc,hcm,hsz,htk⟩
 ·clear h
  go_enter Tryz.func140,Tryz.ntmps140
  go_wp2_with(at_builtin;go_loud(refine zy _ rfl _ _ 23 22 rfl base 80 80 i0 (.agg #[.slice none 0 0,.slice none 0 0]) 2 48 Tryz.underlying23 Tryz.underlying22 hi hz0 hz1 hz2 rfl (by decide) _ _ _ rfl H.out ⟨vb,0,none⟩ 1 1 ys rfl HYL.out HYS.out HY1.out (by decide) (by decide) hbase ?_);intro v' w1 hown hgrow _ _;have HO:=z7 hown;have HG:=z7 hgrow;clear hown hgrow)
  go_ret
  exact⟨_,rfl,HO.out,HG.out⟩
 ·clear h htk hcells hsz
  have hcm':cap≤9223372036854775807:=by unfold maxLen at hcm;omega
  have HC:=z7 hcm;have c1:n+1≤maxLen:=by unfold maxLen;omega
  have c2:(n+1) * 48≤140737488355328:=by omega
  clear hcm;by_cases e:cap=n
  ·subst e
   go_enter Tryz.func140,Tryz.ntmps140
   go_wp2_with(at_builtin;go_loud(refine zy _ rfl _ _ 23 22 rfl base 80 80 i0 (.agg #[.slice none 0 0,.slice none 0 0]) 2 48 Tryz.underlying23 Tryz.underlying22 hi hz0 hz1 hz2 rfl (by decide) _ _ _ rfl H.out ⟨vb,0,none⟩ 1 1 ys rfl HYL.out HYS.out HY1.out c1 c2 hbase ?_);intro v' w1 hown hgrow _ _;have HO:=z7 hown;have HG:=z7 hgrow;clear hown hgrow)
   go_ret
   exact⟨_,rfl,HO.out,HG.out⟩
  ·have e':n<cap:=by omega
   go_enter Tryz.func140,Tryz.ntmps140
   go_wp2_with(at_builtin;go_loud(refine zy _ rfl _ _ 23 22 rfl base 80 80 i0 (.agg #[.slice none 0 0,.slice none 0 0]) 2 48 Tryz.underlying23 Tryz.underlying22 hi hz0 hz1 hz2 rfl (by decide) _ _ _ rfl H.out ⟨vb,0,none⟩ 1 1 ys rfl HYL.out HYS.out HY1.out c1 c2 hbase ?_);intro v' w1 hown hgrow _ _;have HO:=z7 hown;have HG:=z7 hgrow;clear hown hgrow)
   go_ret
   exact⟨_,rfl,HO.out,HG.out⟩
theorem ins_frag_shift(g cap n i:Nat)(cur:Array Value)(vb:Nat)(ys:List Value)(w:World)(hi:i<n)(hroom:n+1≤cap)(hcm:cap≤9223372036854775807)(hg:w.heap[g]?=some (.cells cur 80 (0,0)))(hsz:cur.size=cap * 2)
  (h1:∀u∈cur.toList.take (n * 2),u.oneCell'=true) (hy1:∀u∈ys,u.oneCell'=true) (hyl:ys.length=2) (hys:w.heap[vb]?=some (.cells ys.toArray 80 (0,0))) (hvb:vb≠g) :
  Calls Tryz.prog 140 #[.slice (some ⟨g,0,none⟩) n cap,.int .i64 i,.slice (some ⟨vb,0,none⟩) 1 1] w fun e w'=>e=.returned (.slice (some ⟨g,0,none⟩) (n+1) cap)∧∃cur':Array Value,w'.heap[g]?=some (.cells cur' 80 (0,0))∧cur'.size=cap * 2 ∧
   cur'.toList.take ((n+1) * 2)=(cur.toList.take (n * 2)).take (i * 2) ++ ys ++ (cur.toList.take (n * 2)).drop (i * 2)∧Only (fun b=>b=g) w w':=by
 have mixed:Tryz.prog.follows .mixedOrders=true:=by kernel_rfl
 have hz1:((1:Int) == 0)=false:=by decide
 have hz2:¬((i:Int)=(n:Int)):=by omega
 have hlc:cur.toList.length=cap * 2:=by simpa using hsz
 obtain⟨i0,hi0,hz0,hzs,hzb⟩:=info_parts z1p;have hszk:(Tryz.prog.info? 80).map (·.size)=some 2:=by rw[hi0];simp[hzs]
 have hsa:w.shape? vb=some (80,2):=by simp[World.shape?,hys,hyl]
 have hsb:w.shape? g=some (80,cap * 2):=by simp[World.shape?,hg,hsz]
 have hov:∀o lb cb,(callFunc 196 #[.slice (some ⟨vb,0,none⟩) 1 1,.slice (some ⟨g,o,none⟩) lb cb]).run Tryz.prog w=.ok (.value (.bool false)) w:=fun o lb cb=>by
  rw[run_callFunc_extern Tryz.func196 (by kernel_rfl) (by kernel_rfl) (by kernel_rfl) (e:=Extern.SlicesOverlaps.overlaps #[22,22] #[4]) (by kernel_rfl),
   Lib.run_overlaps_apart w 22 4 80 Tryz.underlying22 2 (fun w=>by simp[Go.sizeOf,typeInfo,hi0,hzs]) ⟨vb,0,none⟩ ⟨g,o,none⟩ 1 1 lb cb hvb 80 80 2 (cap * 2) hsa hsb (by omega) (by simp[World.frozen?,hys]) (by simp[World.frozen?,hys])]
  rfl
 obtain⟨cs,ecs⟩:∃cs,cs=(cur.toList.take (n * 2)).drop (i * 2):=⟨_,rfl⟩;have hcl:cs.length=(n-i) * 2:=by rw[ecs,List.length_drop,List.length_take,hlc];omega
 have hc1:∀u∈cs,u.oneCell'=true:=fun u hu=>h1 u (by rw[ecs]at hu;exact List.mem_of_mem_drop hu);have hcc:∀j u,cs[j]?=some u→cur[i * 2+j]?=some u:=fun j u hj=>by
  rw[ecs,List.getElem?_drop,List.getElem?_take]at hj;split at hj
  ·simpa[Nat.mul_one]using hj
  ·cases hj
 obtain⟨cur1,e1⟩:∃cur1,cur1=(cur.toList.take ((i+1) * 2) ++ cs ++ cur.toList.drop ((i+1) * 2+cs.length)).toArray:=⟨_,rfl⟩;have hl1:cur1.size=cap * 2:=by rw[e1];simp only[List.size_toArray,List.length_append,List.length_take,List.length_drop,hlc,hcl];omega
 obtain⟨cur2,e2⟩:∃cur2,cur2=(cur1.toList.take (i * 2) ++ ys ++ cur1.toList.drop (i * 2+ys.length)).toArray:=⟨_,rfl⟩;have hl2:cur2.size=cap * 2:=by rw[e2];simp only[List.size_toArray,List.length_append,List.length_take,List.length_drop,Array.length_toList,hl1,hyl];omega
 have fin:cur2.toList.take ((n+1) * 2)=(cur.toList.take (n * 2)).take (i * 2) ++ ys ++ (cur.toList.take (n * 2)).drop (i * 2):=by
  rw[e2,e1,hcl,hyl,ecs];have:=insert_cells cur.toList ys (i * 2) 2 (n * 2) (by omega) hyl (by rw[hlc];omega);rw[show n * 2-(i * 2)=(n-i) * 2 by omega,show i * 2+2=(i+1) * 2 by omega]at this;rw[show i * 2=i * 2 by omega,show i * 2+2=(i+1) * 2 by omega];rw[show(n+1) * 2=n * 2+2 by omega];exact this
 have FIN:=z7 fin;have HL2:=z7 hl2;have hcp1:∀(W:World),W.heap=w.heap→∀ty dc sc,(Builtin.copy_ #[23,23] ty #[.slice (some ⟨g,(i+1) * 2,none⟩) (n-i) dc,.slice (some ⟨g,i * 2,none⟩) (n+1-i) sc]).run Tryz.prog W=.ok (goInt (n-i:Nat)) (W.setRow g cur1):=fun W hW ty dc sc=>by
  rw[z13 W 23 23 ty 80 g ((i+1) * 2) (n-i) dc ⟨g,i * 2,none⟩ (n+1-i) sc cur 80 cs 2 (n-i) Tryz.underlying23 hszk (by rw[hW];exact hg) (by simp only[Nat.min_def];split<;>omega) hcl
   (fun j u hj=>by
     have ea:(⟨g,i * 2,none⟩:Addr).add j=⟨g,i * 2+j,none⟩:=by unfold Addr.add;split<;>simp_all
     have:=hcc j u hj;rw[ea];simp[World.cell?,hW,hg,this]) (by rw[hcl,hsz];omega) hc1,e1]
 have hg1:∀(W:World),W.heap=w.heap→(W.setRow g cur1).heap[g]?=some (.cells cur1 80 (0,0)):=fun W hW=>setRow_heap W g cur cur1 80 (0,0) (by rw[hW];exact hg);have hv1:∀(W:World),W.heap=w.heap→(W.setRow g cur1).heap[vb]?=some (.cells ys.toArray 80 (0,0)):=fun W hW=>(setRow_other W g vb cur1 hvb).trans (by rw[hW];exact hys);have hcp2:∀(W W0:World),W0.heap=w.heap→W.heap=(W0.setRow g cur1).heap→∀ty dc,(Builtin.copy_ #[23,22] ty #[.slice (some ⟨g,i * 2,none⟩) (n+1-i) dc,.slice (some ⟨vb,0,none⟩) 1 1]).run Tryz.prog W=.ok (goInt (1:Nat)) (W.setRow g cur2):=fun W W0 hW0 hW ty dc=>by
  rw[z13 W 23 22 ty 80 g (i * 2) (n+1-i) dc ⟨vb,0,none⟩ 1 1 cur1 80 ys 2 1 Tryz.underlying23 hszk (by rw[hW];exact hg1 W0 hW0) (by simp only[Nat.min_def];split<;>omega) (by rw[hyl])
   (z10 (by rw[hW];exact hv1 W0 hW0)) (by rw[hl1,hyl];omega) hy1,e2]
 have hcq:=hcp2 (w.drew.setRow g cur1) w.drew rfl rfl;have hw1:IntKind.i64.wrap ((i:Int)+1)=(i:Int)+1:=by rw[IntKind.wrap_i64];omega
 have hw2:IntKind.i64.wrap ((n:Int)+1)=(n:Int)+1:=by rw[IntKind.wrap_i64];omega
 have hb1:(0:Int)≤(i:Int)+1:=by omega
 have hin:i≤n:=by omega
 have htn:((i:Int)+1).toNat=i+1:=by omega
 have htm:((n:Int)+1).toNat=n+1:=by omega
 have hb2:¬(cap=i+1):=by omega
 have hb3:(i:Int)≤(n:Int)+1:=by omega
 have hb4:¬(cap=i):=by omega
 have HG:=z7 hg;have HG1:=z7 hg1;clear e1 e2 fin hl2 hcc hc1 h1 hcl ecs hl1 hlc hsz hg hys hsa hsb hv1 hg1;go_enter Tryz.func140,Tryz.ntmps140
 go_wp2_with(simp only[hov])
 go_region_law_o (refine z2i rfl _ _ 23 23 rfl (.slice (some ⟨g,(i+1) * 2,none⟩) (n-i) (cap-(i+1))) (.slice (some ⟨g,i * 2,none⟩) (n+1-i) (cap-i)) (by simp[Act.eval,Act.put]) (by simp[Act.eval,Act.put]) (hcp1 w.drew rfl 3 (cap-(i+1)) (cap-i)) ?_)
 go_wp2
 go_ret
 refine⟨rfl,cur2,setRow_heap _ g cur1 cur2 _ _ (HG1.out _ rfl),HL2.out,FIN.out,?_⟩;exact(((Only.refl (fun b=>b=g) w).drew.setRow (.inl rfl) cur1)).setRow (.inl rfl) cur2
theorem ins_frag_grow(g n i:Nat)(cur:Array Value)(vb:Nat)(ys:List Value)(w:World)(hi:i<n)(hn:n≤1000000000)(hg:w.heap[g]?=some (.cells cur 80 (0,0)))(hsz:cur.size=n * 2)
  (h1:∀u∈cur.toList,u.oneCell'=true) (hy1:∀u∈ys,u.oneCell'=true) (hyl:ys.length=2) (hys:w.heap[vb]?=some (.cells ys.toArray 80 (0,0))) :
  Calls Tryz.prog 140 #[.slice (some ⟨g,0,none⟩) n n,.int .i64 i,.slice (some ⟨vb,0,none⟩) 1 1] w fun e w'=>∃(G:Nat) (cur':Array Value),e=.returned (.slice (some ⟨w.heap.size,0,none⟩) (n+1) G)∧w'.heap[w.heap.size]?=some (.cells cur' 80 (0,0))∧n+1≤G∧G≤maxLen∧cur'.size=G * 2 ∧
   cur'.toList.take ((n+1) * 2)=cur.toList.take (i * 2) ++ ys ++ cur.toList.drop (i * 2)∧Below w.heap.size w w':=by
 have mixed:Tryz.prog.follows .mixedOrders=true:=by kernel_rfl
 have hz1:((1:Int) == 0)=false:=by decide
 have hz2:¬((i:Int)=(n:Int)):=by omega
 have hz3:(n:Int)<(n:Int)+1:=by omega
 have hlc:cur.toList.length=n * 2:=by simpa using hsz
 obtain⟨i0,hi0,hz0,hzs,hzb⟩:=info_parts z1p;have hszk:(Tryz.prog.info? 80).map (·.size)=some 2:=by rw[hi0];simp[hzs]
 have hbw:=zh hg;have hvw:=zh hys;have hkk:(n:Int)+1-(i:Int)=((n+1-i:Nat):Int):=by omega
 have hik:i+(n+1-i)=n+1:=by omega
 have hold:(Builtin.firstCells i0.size i (.slice (some ⟨g,0,none⟩) i n)).run Tryz.prog w.drew=.ok (cur.toList.take (i * 2)).toArray w.drew:=by
  rw[hzs];exact run_firstCells_some w.drew 2 i ⟨g,0,none⟩ i n (cur.toList.take (i * 2)) (by rw[List.length_take,hlc];omega) (fun j u hj=>by
   have ea:(⟨g,0,none⟩:Addr).add j=⟨g,0+j,none⟩:=by unfold Addr.add;split<;>simp_all
   rw[ea];rw[List.getElem?_take]at hj;split at hj
   ·have hgd:w.drew.heap[g]?=some (.cells cur 80 (0,0)):=hg
    simpa[World.cell?,hgd]using hj
   ·cases hj)
 have hrz:∀ty,(Builtin.append_ #[23,3] ty #[.slice (some ⟨g,0,none⟩) i n,.int .i64 ((n:Int)+1-(i:Int))]).run Tryz.prog w =
   .ok (.slice (some ⟨w.heap.size,0,none⟩) (n+1) (grownCap w (n+1) n 80)) (w.drew.alloc (.cells ((cur.toList.take (i * 2)).toArray ++ Builtin.zeroCells (Value.agg #[.slice none 0 0,.slice none 0 0]).cells (n+1-i) ++ Builtin.zeroCells (Value.agg #[.slice none 0 0,.slice none 0 0]).cells (grownCap w (n+1) n 80-(n+1))) 80)):=fun ty=>by
  have h:=Lib.run_append_grow_zeros w 23 3 ty 80 i0 _ .i64 .i64 Tryz.underlying23 Tryz.underlying3 hi0 hz0 (some ⟨g,0,none⟩) i n (cur.toList.take (i * 2)) hold (n+1-i) (by omega) (by omega) (by omega) (by omega) (by rw[hzb];omega) (by rw[hzb,hik];exact growslice_fits (by omega) (by omega));rw[hik]at h;rw[hkk];exact h
 obtain⟨G,hG⟩:∃G,G=grownCap w (n+1) n 80:=⟨_,rfl⟩;obtain⟨ROW,hROW⟩:∃ROW:Array Value,ROW=(cur.toList.take (i * 2)).toArray ++ Builtin.zeroCells (Value.agg #[.slice none 0 0,.slice none 0 0]).cells (n+1-i) ++ Builtin.zeroCells (Value.agg #[.slice none 0 0,.slice none 0 0]).cells (G-(n+1)):=⟨_,rfl⟩;rw[← hG]at hrz;rw[← hROW]at hrz;have hGn:n+1≤G:=by rw[hG];exact grownCap_ge w _ _ _
 have hGm:G≤maxLen:=by
  rw[hG];exact grownCap_le_maxLen w (n+1) n 80 (by unfold maxLen;omega)
 have hG63:G≤9223372036854775807:=by unfold maxLen at hGm;omega
 have hRl:ROW.size=G * 2:=by
  rw[hROW];simp[Builtin.zeroCells,Value.cells,hsz]
  omega
 have hRt:ROW.toList.take (i * 2)=cur.toList.take (i * 2):=by
  rw[hROW,Array.toList_append,Array.toList_append,List.append_assoc,List.take_append_of_le_length (by simp[hsz];omega)];exact z2y _ (Nat.le_refl _)
 obtain⟨rowA,eA⟩:∃rowA,rowA=(ROW.toList.take (i * 2) ++ ys ++ ROW.toList.drop (i * 2+ys.length)).toArray:=⟨_,rfl⟩;have hlA:rowA.size=G * 2:=by rw[eA];simp only[List.size_toArray,List.length_append,List.length_take,List.length_drop,Array.length_toList,hRl,hyl];omega
 obtain⟨cs,ecs⟩:∃cs,cs=cur.toList.drop (i * 2):=⟨_,rfl⟩;have hcl:cs.length=(n-i) * 2:=by rw[ecs,List.length_drop,hlc];omega
 have hc1:∀u∈cs,u.oneCell'=true:=fun u hu=>h1 u (by rw[ecs]at hu;exact List.mem_of_mem_drop hu);have hcc:∀j u,cs[j]?=some u→cur[i * 2+j]?=some u:=fun j u hj=>by
  rw[ecs,List.getElem?_drop]at hj;simpa using hj
 obtain⟨rowB,eB⟩:∃rowB,rowB=(rowA.toList.take ((i+1) * 2) ++ cs ++ rowA.toList.drop ((i+1) * 2+cs.length)).toArray:=⟨_,rfl⟩;have hlB:rowB.size=G * 2:=by rw[eB];simp only[List.size_toArray,List.length_append,List.length_take,List.length_drop,Array.length_toList,hlA,hcl];omega
 have fin:rowB.toList.take ((n+1) * 2)=cur.toList.take (i * 2) ++ ys ++ cur.toList.drop (i * 2):=by
  have e1:rowA.toList.take ((i+1) * 2)=cur.toList.take (i * 2) ++ ys:=by
   rw[eA,← hRt];exact List.take_left' (by simp only[List.length_append,List.length_take,Array.length_toList,hRl,hyl];omega)
  rw[eB,e1,show i * 2=i * 2 by omega,← ecs];exact List.take_left' (by simp only[List.length_append,List.length_take,hlc,hyl,hcl];omega)
 have FIN:=z7 fin;have HLB:=z7 hlB;obtain⟨N,eN⟩:∃N,N=w.heap.size:=⟨_,rfl⟩;have hN0:(w.alloc (.cells ROW 80)).heap[w.heap.size]?=some (.cells ROW 80 (0,0)):=ze _ _ rfl;have hg0:(w.alloc (.cells ROW 80)).heap[g]?=some (.cells cur 80 (0,0)):=zk _ _ hbw hg;have hv0:(w.alloc (.cells ROW 80)).heap[vb]?=some (.cells ys.toArray 80 (0,0)):=zk _ _ hvw hys;have hcpA:∀(W:World),W.heap=(w.alloc (.cells ROW 80)).heap→∀ty dc,(Builtin.copy_ #[23,22] ty #[.slice (some ⟨w.heap.size,i * 2,none⟩) (n+1-i) dc,.slice (some ⟨vb,0,none⟩) 1 1]).run Tryz.prog W=.ok (goInt (1:Nat)) (W.setRow w.heap.size rowA):=fun W hW ty dc=>by
  rw[z13 W 23 22 ty 80 w.heap.size (i * 2) (n+1-i) dc ⟨vb,0,none⟩ 1 1 ROW 80 ys 2 1 Tryz.underlying23 hszk (by rw[hW];exact hN0) (by simp only[Nat.min_def];split<;>omega) (by rw[hyl])
   (z10 (by rw[hW];exact hv0)) (by rw[hRl,hyl];omega) hy1,eA]
 have hNA:∀(W:World),W.heap=(w.alloc (.cells ROW 80)).heap→(W.setRow w.heap.size rowA).heap[w.heap.size]?=some (.cells rowA 80 (0,0)):=fun W hW=>setRow_heap W _ ROW rowA 80 (0,0) (by rw[hW];exact hN0);have hgA:∀(W:World),W.heap=(w.alloc (.cells ROW 80)).heap→(W.setRow w.heap.size rowA).heap[g]?=some (.cells cur 80 (0,0)):=fun W hW=>(setRow_other W _ g rowA (by omega)).trans (by rw[hW];exact hg0);have hcpB:∀(W W0:World),W0.heap=(w.alloc (.cells ROW 80)).heap→W.heap=(W0.setRow w.heap.size rowA).heap→∀ty dc sc,(Builtin.copy_ #[23,23] ty #[.slice (some ⟨w.heap.size,(i+1) * 2,none⟩) (n-i) dc,.slice (some ⟨g,i * 2,none⟩) (n-i) sc]).run Tryz.prog W=.ok (goInt (n-i:Nat)) (W.setRow w.heap.size rowB):=fun W W0 hW0 hW ty dc sc=>by
  rw[z13 W 23 23 ty 80 w.heap.size ((i+1) * 2) (n-i) dc ⟨g,i * 2,none⟩ (n-i) sc rowA 80 cs 2 (n-i) Tryz.underlying23 hszk (by rw[hW];exact hNA W0 hW0) (by simp only[Nat.min_def];split<;>omega) hcl
   (fun j u hj=>by
     have ea:(⟨g,i * 2,none⟩:Addr).add j=⟨g,i * 2+j,none⟩:=by unfold Addr.add;split<;>simp_all
     have:=hcc j u hj;have hgg:=hgA W0 hW0;rw[← hW]at hgg;rw[ea];simp[World.cell?,hgg,this]) (by rw[hcl,hlA];omega) hc1,eB]
 have hcq:=hcpA ((w.alloc (.cells ROW 80)).drew) rfl;have hcr:=hcpB ((((w.alloc (.cells ROW 80)).drew.setRow w.heap.size rowA)).drew) ((w.alloc (.cells ROW 80)).drew) rfl rfl;have hw1:IntKind.i64.wrap ((i:Int)+1)=(i:Int)+1:=by rw[IntKind.wrap_i64];omega
 have hw2:IntKind.i64.wrap ((n:Int)+1)=(n:Int)+1:=by rw[IntKind.wrap_i64];omega
 have hw3:IntKind.i64.wrap ((n:Int)+1-i)=(n:Int)+1-i:=by rw[IntKind.wrap_i64];omega
 have hb1:(0:Int)≤(i:Int)+1:=by omega
 have hin:i≤n:=by omega
 have htn:((i:Int)+1).toNat=i+1:=by omega
 have hGi:¬(G=i):=by omega
 have hGim:¬(G=i+1):=by omega
 have hci:¬(n=i):=by omega
 have hb3:(i:Int)≤(n:Int):=by omega
 have HG:=z7 hGn;have HGM:=z7 hGm;have HNA:=z7 hNA;clear hkk hik hold hROW hG hRl eN hRt eA hlA ecs hcl hc1 hcc eB hlB fin hN0 hg0 hv0 hNA hgA hGm hcpA hcpB h1 hlc hsz hg hys;go_enter Tryz.func140,Tryz.ntmps140
 go_wp2_with(at_builtin;refine Lib.wpList_append_run _ rfl _ _ _ _ rfl _ _ rfl rfl _ _ (hrz _) ?_)
 go_region_law_o (refine z2i rfl _ _ 23 23 rfl (.slice (some ⟨w.heap.size,(i+1) * 2,none⟩) (n-i) (G-(i+1))) (.slice (some ⟨g,i * 2,none⟩) (n-i) (n-i)) (by simp[Act.eval,Act.put]) (by simp[Act.eval,Act.put]) (hcr 3 (G-(i+1)) (n-i)) ?_)
 go_wp2
 go_ret
 refine⟨G,rowB,rfl,setRow_heap _ _ rowA rowB _ _ (HNA.out ((w.alloc (.cells ROW 80)).drew) rfl),HG.out,HGM.out,HLB.out,FIN.out,?_⟩;exact(((((Only.refl (fun b=>b=w.heap.size) w).alloc (.cells ROW 80)).drew.setRow (.inl rfl) rowA).drew).setRow (.inl rfl) rowB).below (n:=w.heap.size) (Nat.le_refl _) (fun k hk=>by omega)
theorem z4e(base n i:Nat)(v:Value)(xs:List Value)(vb:Nat)(ys:List Value)(w:World)(h:w.ownsRow base 80 2 v n xs)(hi:i≤n)(hn:n≤1000000000)(hbase:base≤w.heap.size)(h1:∀u∈xs,u.oneCell'=true)(hy1:∀u∈ys,u.oneCell'=true)(hyl:ys.length=2)
  (hys:w.heap[vb]?=some (.cells ys.toArray 80 (0,0))) (hvb:v.ownBlock≠some vb) :
  Calls Tryz.prog 140 #[v,.int .i64 i,.slice (some ⟨vb,0,none⟩) 1 1] w fun e w'=>∃v',e=.returned v'∧w'.ownsRow base 80 2 v' (n+1) (xs.take (i * 2) ++ ys ++ xs.drop (i * 2))∧Only (fun b=>v.ownBlock=some b) w w':=by
 have hxl:=h.1;by_cases e:i=n
 ·subst e
  refine(ins_frag_end base i v xs vb ys w h hn hbase hy1 hyl hys).mono ?_;rintro e w' ⟨v',rfl,hO,hg⟩;rw[List.take_of_length_le (by omega),List.drop_of_length_le (by omega),List.append_nil];exact⟨v',rfl,hO,⟨hg.os,hg.tape,hg.output,hg.size,fun k hk hl=>hg.block k hk (fun e=>hl e.symm)⟩⟩
 ·rcases h.2 with⟨rfl,rfl⟩ | ⟨g,cap,cur,rfl,hgb,hcells,hnc,hcm,hsz,htk⟩
  ·omega
  ·have hgv:vb≠g:=fun e=>hvb (by rw[e];rfl)
   by_cases hr:n+1≤cap
   ·refine(ins_frag_shift g cap n i cur vb ys w (by omega) hr (by unfold maxLen at hcm;omega) hcells hsz (by rw[htk];exact h1) hy1 hyl hys hgv).mono ?_
    rintro e w' ⟨rfl,cur',hc',hs',ht',ho⟩;rw[htk]at ht';refine⟨_,rfl,⟨?_,.inr ⟨g,cap,cur',rfl,hgb,hc',hr,hcm,hs',ht'⟩⟩,ho.wide fun k hk=>by rw[hk];rfl⟩;simp only[List.length_append,List.length_take,List.length_drop,hyl,hxl];omega
   ·obtain rfl:cap=n:=by omega
    rw[List.take_of_length_le (by simp[hsz])]at htk;refine(ins_frag_grow g cap i cur vb ys w (by omega) hn hcells hsz (by rw[htk];exact h1) hy1 hyl hys).mono ?_;rintro e w' ⟨G,cur',rfl,hc',hG,hGm,hs',ht',hb⟩;rw[htk]at ht';refine⟨_,rfl,⟨?_,.inr ⟨w.heap.size,G,cur',rfl,hbase,hc',hG,hGm,hs',ht'⟩⟩,Only.of_below hb⟩;simp only[List.length_append,List.length_take,List.length_drop,hyl,hxl];omega
end Go.Proofs.YtbkkolfpegplgaaGreatDoor
