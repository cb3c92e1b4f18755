/- Where what is known changes; canonical knowledge has no more intervals than that. (Plain lists.) entry.Has; vector.Find, vector.Has of a correct vector. scope.Has of correct knowledge. The reference's Has: of an entry, a vector, knowledge. -/
import Derived.Test.YtbkkolfpegplgaaGreatDoorS2G37
import Derived.Test.YtbkkolfpegplgaaGreatDoorS2G39
import Derived.Test.YtbkkolfpegplgaaGreatDoorS2G24
import Derived.Test.YtbkkolfpegplgaaGreatDoorS2G29
import Derived.Test.YtbkkolfpegplgaaGreatDoorS2G38
set_option maxHeartbeats 8000000
set_option maxRecDepth 100000
set_option linter.unusedVariables false
set_option linter.unusedSimpArgs false
namespace Go.Proofs.YtbkkolfpegplgaaGreatDoor
open Go Go.RowKit
def ChgP (K:Int→Int→Int→Prop) (S:List Int):Prop:=∀x,0<x→x ∉ S→∀r c,K x r c↔K (x-1) r c
def endsL (zs:List Iv):List Int:=zs.flatMap fun z=>[z.1,z.2+1]
theorem endsL_len(zs:List Iv):(endsL zs).length=2 * zs.length:=by
 induction zs with
 | nil=>rfl
 | cons z zs ih=>simp only[endsL,List.flatMap_cons,List.length_append,List.length_cons,List.length_nil]at ih ⊢;omega
theorem inL_chg{zs:List Iv}{x:Int}(h:x ∉ endsL zs):InL zs x↔InL zs (x-1):=by
 have hz:∀z∈zs,x≠z.1∧x≠z.2+1:=fun z hz=>⟨fun e=>h (List.mem_flatMap.2 ⟨z,hz,by simp[e]⟩),fun e=>h (List.mem_flatMap.2 ⟨z,hz,by simp[e]⟩)⟩;constructor
 ·rintro⟨z,hm,h1,h2⟩
  have:=hz z hm;exact⟨z,hm,by omega,by omega⟩
 ·rintro⟨z,hm,h1,h2⟩
  have:=hz z hm;exact⟨z,hm,by omega,by omega⟩
def endsK (l:List FV):List Int:=l.flatMap fun f=>endsL f.items
theorem endsK_len(l:List FV):(endsK l).length=2 * totI l:=by
 induction l with
 | nil=>rfl
 | cons f l ih=>
   have:=endsL_len f.items;simp only[endsK,List.flatMap_cons,List.length_append,totI]at ih ⊢;omega
theorem chg_know(l:List FV):ChgP (KnK (l.map FV.frag)) (endsK l):=fun x _ hx r c=>by
 have hf:∀f∈l,InL f.items x↔InL f.items (x-1):=fun f hf=>inL_chg fun h=>hx (List.mem_flatMap.2 ⟨f,hf,h⟩);constructor
 ·rintro⟨g,hg,h1,h2⟩
  obtain⟨f,hm,rfl⟩:=List.mem_map.1 hg;exact⟨_,hg,(hf f hm).1 h1,h2⟩
 ·rintro⟨g,hg,h1,h2⟩
  obtain⟨f,hm,rfl⟩:=List.mem_map.1 hg;exact⟨_,hg,(hf f hm).2 h1,h2⟩
theorem ChgP.same{K K':Int→Int→Int→Prop}{S:List Int}(h:ChgP K S)(e:∀x r c,K' x r c↔K x r c):ChgP K' S:=fun x h0 hx r c=>by rw[e,e];exact h x h0 hx r c
theorem nodup_le:∀{L M:List Int},L.Nodup→(∀x∈L,x∈M)→L.length≤M.length
 | [],M,_,_=>Nat.zero_le _
 | x :: L,M,hn,hm=>by
   obtain⟨A,B,rfl⟩:=List.append_of_mem (hm x (by simp));have hn':=List.nodup_cons.1 hn;have:=nodup_le (L:=L) (M:=A ++ B) hn'.2 (fun y hy=>by
    have h1:=hm y (by simp[hy]);have h2:y≠x:=fun e=>hn'.1 (e ▸ hy);simp only[List.mem_append,List.mem_cons]at h1 ⊢;rcases h1 with h1 | h1 | h1
    ·exact .inl h1
    ·exact absurd h1 h2
    ·exact .inr h1)
   simp only[List.length_append,List.length_cons]at this ⊢;omega
theorem lo_start{zs:List Iv}(h:Cor zs){z:Iv}(hz:z∈zs):¬InL zs (z.1-1):=by
 intro hx;obtain⟨j,hj,h1,h2⟩:=z28.1 hx;obtain⟨i,hi,e⟩:=List.mem_iff_getElem.1 hz;have eL:Lo zs i=z.1:=by unfold Lo;simp[List.getD,List.getElem?_eq_getElem hi,e]
 have hle:=(h i hi).1;rcases Nat.lt_trichotomy i j with g | g | g
 ·have:=z1d h g hj;omega
 ·subst g;omega
 ·have:=z1d h g hi;omega
theorem can_tot{l:List FV}{S:List Int}(h:CanL l)(hw:∀f∈l,∀z∈f.items,0≤z.1)(hs:ChgP (KnK (l.map FV.frag)) S):totI l≤S.length+1:=by
 have hd:DisLo (flatZ l):=flat_dis (fun f hf=>(h.at f hf).1) h.apart';have hn:((flatZ l).map (·.1)).Nodup:=List.pairwise_map.2 hd;have:=nodup_le (M:=0 :: S) hn (fun x hx=>by
  obtain⟨z,hz,rfl⟩:=List.mem_map.1 hx;obtain⟨f,hf,hzf⟩:=List.mem_flatMap.1 hz;by_cases h0:z.1=0
  ·simp[h0]
  ·refine List.mem_cons_of_mem _ (Classical.byContradiction fun hns=>?_)
   have hpos:0<z.1:=by have:=hw f hf z hzf;omega
   have hch:=hs z.1 hpos hns;obtain⟨hc,_,hv,hvn⟩:=h.at f hf;have hin:InL f.items z.1:=by
    obtain⟨i,hi,e⟩:=List.mem_iff_getElem.1 hzf;have e1:Lo f.items i=z.1:=by unfold Lo;simp[List.getD,List.getElem?_eq_getElem hi,e]
    have e2:Hi f.items i=z.2:=by unfold Hi;simp[List.getD,List.getElem?_eq_getElem hi,e]
    have:=(hc i hi).1;exact⟨z,hzf,Int.le_refl _,by omega⟩
   have hK:∀r c,KnK (l.map FV.frag) z.1 r c↔KnV f.es r c:=fun r c=>CanK.at h (List.mem_map.2 ⟨f,hf,rfl⟩) hin r c;obtain⟨r,c,hrc⟩:=hv.ne_nil hvn;obtain⟨g',hg',h1,h2⟩:=(hch r c).1 ((hK r c).2 hrc);obtain⟨g,hg,rfl⟩:=List.mem_map.1 hg';have hG:∀r c,KnK (l.map FV.frag) (z.1-1) r c↔KnV g.es r c:=fun r c=>CanK.at h hg' h1 r c;have he:f.es=g.es:=vec_unique hv (h.at g hg).2.2.1 (fun r c=>by rw[← hK,← hG];exact hch r c);have hin2:InL f.items (z.1-1):=by
    obtain⟨i,hi,ei⟩:=List.mem_iff_getElem.1 hf;obtain⟨j,hj,ej⟩:=List.mem_iff_getElem.1 hg;have hp:=List.pairwise_iff_getElem.1 h.asc';rcases Nat.lt_trichotomy i j with q | q | q
    ·have:=hp i j hi hj q
     rw[ei,ej,he]at this;exact absurd this (vlt_irr _)
    ·subst q
     have:f=g:=by rw[← ei,← ej]
     rw[this];exact h1
    ·have:=hp j i hj hi q
     rw[ei,ej,he]at this;exact absurd this (vlt_irr _)
   exact lo_start hc hzf hin2)
 rw[List.length_map,z2b]at this;simpa using this
theorem can_len{l:List FV}(h:CanL l):l.length≤totI l:=by
 have main:∀(m:List FV),(∀f∈m,f.items≠[])→m.length≤totI m:=by
  intro m;induction m with
  | nil=>intro _;exact Nat.le_refl _
  | cons f m ih=>
    intro hm;have h1:=List.length_pos_iff.2 (hm f (by simp));have h2:=ih (fun g hg=>hm g (by simp[hg]));simp only[totI,List.length_cons];omega
 exact main l fun f hf=>(h.at f hf).2.1
instance (e:Ent) (c:Int):Decidable (KnE e c):=by unfold KnE;infer_instance
instance (es:List Ent) (r c:Int):Decidable (KnV es r c):=by unfold KnV;infer_instance
theorem ehas_any(p:EV)(c:Int)(w:World)(h:HolesAt w p)(hC:Cor p.1.hs)(hn:p.1.hs.length≤100000000)(hc:0≤c) :
  Calls Tryz.prog 121 #[aggE p,.int .u64 c] w fun e w'=>e=.returned (.bool (decide (KnE p.1 c)))∧Below w.heap.size w w':=by
 obtain⟨⟨x,y,z⟩,hv⟩:=p;obtain⟨a,cap,e1,h1,h2⟩:=h.at';simp only at e1 h1 h2 hn hC;subst e1;have K:=z7 (fun W (hb:Below w.heap.size w W)=>rgh_any (.slice a z.length cap) z c W ⟨a,cap,rfl,h1.below hb,h2⟩ hC hn);have D:=z7 (show decide (KnE ⟨x,y,z⟩ c)=(decide (c≤y) && !decide (InL z c))from by
  by_cases q1:c≤y<;>by_cases q2:InL z c<;>simp[KnE,q1,q2,hc])
 unfold aggE;simp only;obtain⟨n,en⟩:∃n,z.length=n:=⟨_,rfl⟩;obtain⟨bb,ebb⟩:∃bb,decide (InL z c)=bb:=⟨_,rfl⟩;rw[en]at K ⊢;rw[ebb]at K D;clear h h1 h2 hC en hn ebb;by_cases hcy:c≤y
 ·have d1:decide (c≤y)=true:=decide_eq_true hcy
  go_enter Tryz.func121,Tryz.ntmps121
  go_wp2_with fail
  refine(K.out _ (zc (Below.refl _ _) _)).mono ?_;rintro e w1 ⟨rfl,hb⟩;have B:=z7 (zf (zc (Below.refl w.heap.size w) _) hb);clear hb;go_wp2
  go_ret
  exact⟨by rw[D.out,d1];rfl,B.out⟩
 ·have d1:decide (c≤y)=false:=decide_eq_false hcy
  go_enter Tryz.func121,Tryz.ntmps121
  go_wp2
  go_ret
  exact⟨by rw[D.out,d1];rfl,zc (Below.refl _ _) _⟩
theorem key_any(q x y:Int)(hv:Value)(hh:∃a n c,hv=.slice a n c)(w:World):Calls Tryz.prog 146 #[.int .u64 q,.agg #[.int .u64 x,.int .u64 y,hv]] w fun e w'=>e=.returned (.int .i64 (cmpLo x q))∧Below w.heap.size w w':=by
 obtain⟨a,n,c,rfl⟩:=hh;have K:=z7 (fun W=>cmp_any x q W);obtain⟨r,er⟩:∃r,cmpLo x q=r:=⟨_,rfl⟩;rw[er]at K ⊢;clear er;go_enter Tryz.func146,Tryz.ntmps146
 go_wp2_with fail
 refine(K.out _).mono ?_;rintro e w1 ⟨rfl,rfl⟩;go_wp2
 go_ret
 exact⟨rfl,zc (Below.refl _ _) _⟩
theorem vfind1_any(q x y:Int)(a:Option Addr)(n c:Nat)(B:Nat)(w:World)(hB:w.heap[B]?=some (.cells #[.func (.func 146) #[] #[]] 268 (0,0))) :
  Calls Tryz.prog 174 #[.agg #[.int .u64 x,.int .u64 y,.slice a n c],.int .u64 q,.pointer (some ⟨B,0,none⟩)] w fun e w'=>e=.returned (.int .i64 (cmpLo x q))∧Below w.heap.size w w':=by
 have K:=z7 (fun W=>key_any q x y (.slice a n c) ⟨_,_,_,rfl⟩ W);have hE:∀args W,(callFunc 146 args).run Tryz.prog W=.ok (.enter 146 args) W:=fun _ _=>by kernel_rfl
 obtain⟨w1,ew1⟩:∃w1,w.alloc (.cells #[.int .u64 x,.int .u64 y,.slice a n c] 96)=w1:=⟨_,rfl⟩;have b1:Below w.heap.size w w1:=by rw[← ew1];exact zc (Below.refl _ _) _
 have q1:=(b1.block _ (zh hB)).trans hB;have c1:w1.cell? ⟨B,0,none⟩=some (.func (.func 146) #[] #[]):=by simp[World.cell?,q1]
 have q2:w1.heap[w.heap.size]?=some (.cells #[.int .u64 x,.int .u64 y,.slice a n c] 96 (0,0)):=by rw[← ew1];exact ze _ _ rfl
 have c2:w1.cell? ⟨w.heap.size,0,none⟩=some (.int .u64 x):=by simp[World.cell?,q2]
 have c3:w1.cell? ⟨w.heap.size,1,none⟩=some (.int .u64 y):=by simp[World.cell?,q2]
 have c4:w1.cell? ⟨w.heap.size,2,none⟩=some (.slice a n c):=by simp[World.cell?,q2]
 have B1:=z7 b1;obtain⟨r,er⟩:∃r,cmpLo x q=r:=⟨_,rfl⟩;rw[er]at K ⊢;clear b1 q1 q2 hB er;go_enter Tryz.func174,Tryz.ntmps174
 go_wp2_with fail
 refine(K.out _).mono ?_;rintro e w2 ⟨rfl,hb⟩;have B2:=z7 (B1.out.trans (hb.mono B1.out.size));clear hb;go_wp2
 go_ret
 exact⟨rfl,B2.out⟩
def rpE (l:List EV) (i:Nat):Int:=(l.getD i EV.z).1.rep
theorem rp_lt{l:List EV}(h:RightV (l.map (·.1))){i j:Nat}(hij:i<j)(hj:j<l.length):rpE l i<rpE l j:=by
 have step:∀k,0<k→k<l.length→rpE l (k-1)<rpE l k:=fun k h0 hk=>by
  have:=h.2 k h0 (by rw[List.length_map];exact hk);rw[z12,z12]at this;exact this
 induction j with
 | zero=>omega
 | succ j ih=>
   have h1:=step (j+1) (by omega) hj;rw[Nat.add_sub_cancel]at h1;rcases Nat.lt_or_ge i j with g | g
   ·have:=ih g (by omega)
    omega
   ·obtain rfl:i=j:=by omega
    exact h1
def InV (l:List EV) (x:Int):Prop:=∃i,i<l.length∧rpE l i=x
instance (l:List EV) (x:Int):Decidable (InV l x):=by unfold InV;infer_instance
theorem bsearchV_any(a:Option Addr)(n cap:Nat)(l:List EV)(x:Int)(B:Nat)(w:World)(h:EntsAt w a n l)(hC:RightV (l.map (·.1)))(hn:n≤100000000)(hB:w.heap[B]?=some (.cells #[.func (.func 146) #[] #[]] 268 (0,0))) :
  Calls Tryz.prog 173 #[.slice a n cap,.int .u64 x,.func (.func 174) #[] #[.pointer (some ⟨B,0,none⟩)]] w fun e w'=>∃k:Nat,e=.returned (.tuple #[.int .i64 k,.bool (decide (InV l x))])∧k≤n∧(InV l x→k<n∧rpE l k=x)∧Below w.heap.size w w':=by
 have H:=z7 h;have HC:=z7 hC;have HL:=z7 h.length;have HB0:=z7 hB;have hE:∀args W,(callFunc 174 args).run Tryz.prog W=.ok (.enter 174 args) W:=fun _ _=>by kernel_rfl
 clear h hC hB;go_enter Tryz.func173,Tryz.ntmps173
 go_wp2
 go_loopw [9,10] (fun i j wr=>∃k m:Nat,k≤m∧m≤n∧i=.int .i64 k∧j=.int .i64 m∧(∀i,i<k→rpE l i<x)∧(∀i,m≤i→i<n→x≤rpE l i)∧Below w.heap.size w wr) (fun i j _=>(intOf j).toNat-(intOf i).toNat)
 case atStart=>exact⟨0,n,Nat.zero_le _,Nat.le_refl _,rfl,rfl,fun i h=>absurd h (by omega),fun i h h'=>absurd h (by omega),Below.refl _ _⟩
 case round=>
  obtain⟨k,m,hkm,hmn,rfl,rfl,hlo,hhi,hb⟩:=hrel;have HB:=z7 hb;have HLO:=z7 hlo;have HHI:=z7 hhi;clear hlo hhi;have i0:(0:Int)≤(k:Int):=by omega
  by_cases hlt:k<m
  ·obtain⟨d,em⟩:∃d,(k+m) / 2=d:=⟨_,rfl⟩
   have hm:d<m:=by omega
   have hkd:k≤d:=by omega
   have Hr:=H.out.below hb;obtain⟨b,off,rfl,hbl,hc1,hc2,hc3⟩:=Hr.cells d (by omega);have hmem:l.getD d EV.z∈l:=by
    have:=HL.out;rw[List.getD,List.getElem?_eq_getElem (by omega),Option.getD_some];exact List.getElem_mem (by omega)
   obtain⟨ah,ch,eh,_⟩:=Hr.holes _ hmem;obtain⟨p,ep⟩:∃p,l.getD d EV.z=p:=⟨_,rfl⟩;have EY:=z7 (show rpE l d=p.1.rep from by unfold rpE;rw[ep]);rw[ep]at hc1 hc2 hc3 eh;obtain⟨⟨rp,mx,hs⟩,hv⟩:=p;simp only at hc1 hc2 hc3 eh EY;subst eh;obtain⟨nh,enh⟩:∃nh,hs.length=nh:=⟨_,rfl⟩;rw[enh]at hc3;have i1:(k:Int)<(m:Int):=by omega
   have q0:IntKind.i64.wrap ((k:Int)+m)=(k:Int)+m:=IntWalk.i64_in _ (by omega);have q1:IntKind.u64.wrap ((k:Int)+m)=(k:Int)+m:=by rw[IntKind.wrap_u64];omega
   have q2:((k:Int)+m) / 2=d:=by omega
   have q3:IntKind.u64.wrap (d:Int)=d:=by rw[IntKind.wrap_u64];omega
   have q4:IntKind.i64.wrap (d:Int)=d:=IntWalk.i64_in _ (by omega);have q5:(0:Int)≤(d:Int):=by omega
   have q6:(d:Int)<(n:Int):=by omega
   have q7:IntKind.i64.wrap ((d:Int)+1)=(d:Int)+1:=IntWalk.i64_in _ (by omega);have K:=z7 (vfind1_any x rp mx ah nh ch B wr ((hb.block _ (zh HB0.out)).trans HB0.out));obtain⟨f,ef⟩:∃f,cmpLo rp x=f:=⟨_,rfl⟩;rw[ef]at K;have EF:=z7 ef;clear hb em ef ep hmem Hr enh;go_wp2_with fail
   refine K.out.mono ?_;rintro e w1 ⟨rfl,hb1⟩;have B1:=z7 (zf HB.out hb1);clear hb1;by_cases hyx:rp<x
   ·have hf:f<0:=by have:=EF.out;unfold cmpLo at this;rw[if_pos hyx]at this;omega
    have L2:=z7 (show ∀i,i<d+1→rpE l i<x from fun i hi'=>by
     rcases Nat.lt_or_ge i d with g | g
     ·have:=rp_lt HC.out g (by rw[HL.out];omega)
      have:=EY.out;omega
     ·obtain rfl:i=d:=by omega
      have:=EY.out;omega)
    go_wp2
    go_roundw
    case rel=>exact⟨d+1,m,by omega,hmn,by go_num,rfl,L2.out,HHI.out,B1.out⟩
    case measure=>simp[intOf];omega
   ·have hf:¬f<0:=by have:=EF.out;unfold cmpLo at this;rw[if_neg hyx]at this;split at this<;>omega
    have L2:=z7 (show ∀i,d≤i→i<n→x≤rpE l i from fun i hi' hin=>by
     rcases Nat.lt_or_ge d i with g | g
     ·have:=rp_lt HC.out g (by rw[HL.out];omega)
      have:=EY.out;omega
     ·obtain rfl:i=d:=by omega
      have:=EY.out;omega)
    go_wp2
    go_roundw
    case rel=>exact⟨k,d,hkd,by omega,rfl,rfl,HLO.out,L2.out,B1.out⟩
    case measure=>simp[intOf];omega
  ·obtain rfl:k=m:=by omega
   have MEM:=z7 (show InV l x↔k<n∧rpE l k=x from by
    constructor
    ·rintro⟨i,hi,e⟩
     have hl:=HL.out;rcases Nat.lt_or_ge i k with g | g
     ·have:=HLO.out i g;omega
     ·rcases Nat.lt_or_ge k i with g' | g'
      ·have h3:=rp_lt HC.out g' hi
       have h4:=HHI.out k (Nat.le_refl _) (by omega);omega
      ·obtain rfl:i=k:=by omega
       exact⟨by omega,e⟩
    ·rintro⟨h1,h2⟩
     have hl:=HL.out;exact⟨k,by omega,h2⟩)
   by_cases hkn:k<n
   ·have Hr:=H.out.below hb
    obtain⟨b,off,rfl,hbl,hc1,hc2,hc3⟩:=Hr.cells k hkn;have hmem:l.getD k EV.z∈l:=by
     have:=HL.out;rw[List.getD,List.getElem?_eq_getElem (by omega),Option.getD_some];exact List.getElem_mem (by omega)
    obtain⟨ah,ch,eh,_⟩:=Hr.holes _ hmem;obtain⟨p,ep⟩:∃p,l.getD k EV.z=p:=⟨_,rfl⟩;have EY:=z7 (show rpE l k=p.1.rep from by unfold rpE;rw[ep]);rw[ep]at hc1 hc2 hc3 eh;obtain⟨⟨rp,mx,hs⟩,hv⟩:=p;simp only at hc1 hc2 hc3 eh EY;subst eh;obtain⟨nh,enh⟩:∃nh,hs.length=nh:=⟨_,rfl⟩;rw[enh]at hc3;have i1:(k:Int)<(n:Int):=by omega
    have K:=z7 (vfind1_any x rp mx ah nh ch B wr ((hb.block _ (zh HB0.out)).trans HB0.out));obtain⟨f,ef⟩:∃f,cmpLo rp x=f:=⟨_,rfl⟩;have DM:=z7 (show decide (InV l x)=(f == 0)from by
     have hle:=HHI.out k (Nat.le_refl _) hkn;have ey:=EY.out;have M:=MEM.out;rw[ey]at M hle;rw[← ef];unfold cmpLo;rw[if_neg (by omega)];by_cases q:x<rp
     ·rw[if_pos q]
      have:¬InV l x:=fun h=>by have:=(M.1 h).2;omega
      simp[this]
     ·rw[if_neg q]
      have:InV l x:=M.2 ⟨hkn,by omega⟩;simp[this])
    rw[ef]at K;clear hb ef ep hmem Hr enh;go_wp2_with fail
    refine K.out.mono ?_;rintro e w1 ⟨rfl,hb1⟩;have B1:=z7 (zf HB.out hb1);clear hb1;go_wp2
    go_ret2
    exact⟨k,(by rw[DM.out];rfl),hmn,MEM.out.1,B1.out⟩
   ·obtain rfl:k=n:=by omega
    have DM:=z7 (show decide (InV l x)=false from by have M:=MEM.out;simp[M]);clear hb;go_wp2
    go_ret2
    exact⟨k,(by rw[DM.out];rfl),hmn,MEM.out.1,HB.out⟩
theorem vfind_any(a:Option Addr)(n cap:Nat)(l:List EV)(x:Int)(w:World)(h:EntsAt w a n l)(hC:RightV (l.map (·.1)))(hn:n≤100000000) :
  Calls Tryz.prog 120 #[.slice a n cap,.int .u64 x] w fun e w'=>((∃k:Nat,k<n∧rpE l k=x∧e=.returned (.int .i64 k))∨(¬InV l x∧e=.returned (.int .i64 (-1))))∧Below w.heap.size w w':=by
 obtain⟨w1,ew1⟩:∃w1,w.alloc (.cells #[.func (.func 146) #[] #[]] 268)=w1:=⟨_,rfl⟩;have b1:Below w.heap.size w w1:=by rw[← ew1];exact zc (Below.refl _ _) _
 have q1:w1.heap[w.heap.size]?=some (.cells #[.func (.func 146) #[] #[]] 268 (0,0)):=by rw[← ew1];exact ze _ _ rfl
 have K:=z7 (bsearchV_any a n cap l x w.heap.size w1 (h.below b1) hC hn q1);have B1:=z7 b1;clear h hC b1 q1;go_enter Tryz.func120,Tryz.ntmps120
 go_wp2_with fail
 refine K.out.mono ?_;rintro e w2 ⟨k,rfl,hk,hf,hb⟩;have B2:=z7 (B1.out.trans (hb.mono B1.out.size));clear hb;by_cases hm:InV l x
 ·obtain⟨h1,h2⟩:=hf hm
  rw[decide_eq_true hm];go_wp2
  go_ret
  exact⟨.inl ⟨k,h1,h2,rfl⟩,B2.out⟩
 ·rw[decide_eq_false hm]
  go_wp2
  go_ret
  exact⟨.inr ⟨hm,rfl⟩,B2.out⟩
theorem knV_at{l:List EV}(h:RightV (l.map (·.1))){k:Nat}(hk:k<l.length){r c:Int}(e:rpE l k=r):KnV (l.map (·.1)) r c↔KnE (l.getD k EV.z).1 c:=by
 have hg:(l.getD k EV.z)∈l:=by
  rw[List.getD,List.getElem?_eq_getElem hk,Option.getD_some];exact List.getElem_mem hk
 constructor
 ·rintro⟨e',he,h1,h2⟩
  obtain⟨p,hp,rfl⟩:=List.mem_map.1 he;obtain⟨i,hi,e2⟩:=List.mem_iff_getElem.1 hp;have e3:l.getD i EV.z=p:=by simp[List.getD,List.getElem?_eq_getElem hi,e2]
  have e4:rpE l i=r:=by unfold rpE;rw[e3];exact h1
  rcases Nat.lt_trichotomy i k with g | g | g
  ·have:=rp_lt h g hk;omega
  ·subst g;rw[e3];exact h2
  ·have:=rp_lt h g hi;omega
 ·intro hh
  exact⟨(l.getD k EV.z).1,List.mem_map.2 ⟨_,hg,rfl⟩,e,hh⟩
theorem knV_no{l:List EV}{r c:Int}(h:¬InV l r):¬KnV (l.map (·.1)) r c:=by
 rintro⟨e,he,h1,_⟩;obtain⟨p,hp,rfl⟩:=List.mem_map.1 he;obtain⟨i,hi,e2⟩:=List.mem_iff_getElem.1 hp;exact h ⟨i,hi,by unfold rpE;simp[List.getD,List.getElem?_eq_getElem hi,e2,h1]⟩
theorem ents_mem{w:World}{a:Option Addr}{len:Nat}{l:List EV}(h:EntsAt w a len l){k:Nat}(hk:k<len):l.getD k EV.z∈l:=by
 have:=h.length;rw[List.getD,List.getElem?_eq_getElem (by omega),Option.getD_some];exact List.getElem_mem (by omega)
theorem vhas_any(v:Value)(l:List EV)(r c:Int)(w:World)(h:VecAt w v l)(hR:RightV (l.map (·.1)))(hn:l.length≤100000000)(hs:∀p∈l,p.1.hs.length≤100000000)(hc:0≤c) :
  Calls Tryz.prog 69 #[v,.int .u64 r,.int .u64 c] w fun e w'=>e=.returned (.bool (decide (KnV (l.map (·.1)) r c)))∧Below w.heap.size w w':=by
 obtain⟨a,cap,rfl,hE,_⟩:=h;obtain⟨len,el⟩:∃len,l.length=len:=⟨_,rfl⟩;rw[el]at hE hn ⊢;have EL:=z7 el;obtain⟨bb,ebb⟩:∃bb,decide (KnV (l.map (·.1)) r c)=bb:=⟨_,rfl⟩;have EB:=z7 ebb;rw[ebb];have KF:=z7 (vfind_any a len cap l r w hE.at' hR hn);have H:=z7 hE.at';have HR:=z7 hR;have HS:=z7 hs;clear ebb hE el hR hs;go_enter Tryz.func69,Tryz.ntmps69
 go_wp2_with fail
 refine KF.out.mono ?_;rintro e w1 ⟨(⟨k,hk,hr,rfl⟩ | ⟨hn,rfl⟩),hb⟩
 ·have Hr:=H.out.below hb
  obtain⟨b,off,rfl,hbl,hc1,hc2,hc3⟩:=Hr.cells k hk;have KV:=z7 (knV_at (c:=c) HR.out (by rw[EL.out];exact hk) hr);have hho:=Hr.holes _ (ents_mem Hr hk);have hhs:=HS.out _ (ents_mem Hr hk);have hcr:Cor (l.getD k EV.z).1.hs:=by
   have:=(HR.out.1 k (by rw[List.length_map,EL.out];exact hk)).1;rw[z12]at this;exact this
  obtain⟨p,ep⟩:∃p,l.getD k EV.z=p:=⟨_,rfl⟩;rw[ep]at hc1 hc2 hc3 KV hho hhs hcr;have K7:=z7 (ehas_any p c w1 hho hcr hhs hc);rw[show decide (KnE p.1 c)=decide (KnV (l.map (·.1)) r c)from decide_eq_decide.2 KV.out.symm]at K7;obtain⟨ah,ch,eh,_⟩:=hho;obtain⟨⟨rp,mx,hs⟩,hv⟩:=p;simp only at hc1 hc2 hc3 eh;subst eh;unfold aggE at K7;simp only at K7;obtain⟨nh,enh⟩:∃nh,hs.length=nh:=⟨_,rfl⟩;rw[EB.out]at K7;rw[enh]at hc3 K7;have i0:(0:Int)≤(k:Int):=by omega
  have i1:(k:Int)<(len:Int):=by omega
  have B1:=z7 hb;clear hb ep enh Hr hbl hr hhs hcr;go_wp2_with fail
  refine K7.out.mono ?_;rintro e w2 ⟨rfl,hb⟩;have B2:=z7 (zf B1.out hb);clear hb;go_wp2
  go_ret
  exact⟨rfl,B2.out⟩
 ·have HN:=z7 hn
  clear hn;go_wp2
  go_ret
  exact⟨by rw[← EB.out,decide_eq_false (knV_no HN.out)];rfl,hb⟩
attribute [local go_sem] Oper.semAt_some
structure OutH (w:World) (l:List FV) (s:List Nat) (r c:Int) (k:Nat) (W:World):Prop where
 cr:W.heap[w.heap.size]?=some (.cells #[.int .u64 r] 57 (0,0))
 cc:W.heap[w.heap.size+1]?=some (.cells #[.int .u64 c] 57 (0,0))
 res:∃b,W.heap[w.heap.size+2]?=some (.cells #[.bool b] 4 (0,0))
 no:∀i,i<k→¬KnV (l.getD (s.getD i 0) FV.z).es r c
 bl:Below w.heap.size w W
theorem OutH.only{w W W':World}{l:List FV}{s:List Nat}{r c:Int}{k:Nat}{may:Nat→Prop}(h:OutH w l s r c k W)(ho:Only may W W')(hm:∀q,may q→w.heap.size+3≤q):OutH w l s r c k W':=
 ⟨ho.obj (fun hk=>by have:=hm _ hk;omega) h.cr,ho.obj (fun hk=>by have:=hm _ hk;omega) h.cc,by obtain⟨b,hb⟩:=h.res;exact⟨b,ho.obj (fun hk=>by have:=hm _ hk;omega) hb⟩,h.no,h.bl.trans (ho.below (n:=w.heap.size) h.bl.size (fun q hq=>by have:=hm _ hq;omega))⟩
theorem shas_any(v:Value)(l:List FV)(x r c:Int)(w:World)(hE:KnwAt w v l)(hcor:∀f∈l,Cor f.items)(hR:∀f∈l,RightV (f.vec.map (·.1)))(hI:∀f∈l,f.items.length≤100000000)(hV:∀f∈l,f.vec.length≤100000000)(hs:∀f∈l,∀p∈f.vec,p.1.hs.length≤100000000)(hlen:l.length≤100000000)(hc:0≤c) :
  Calls Tryz.prog 26 #[v,.int .u64 x,.int .u64 r,.int .u64 c] w fun e w'=>e=.returned (.bool (decide (KnK (l.map FV.frag) x r c)))∧Below w.heap.size w w':=by
 obtain⟨a,cap,rfl,hK,_⟩:=hE;obtain⟨len,elen⟩:∃len,l.length=len:=⟨_,rfl⟩;have EL:=z7 elen;rw[elen]at hK hlen ⊢;have SQ:=z7 (fun(B1 B2:Nat) (V1:World) (bel:Below w.heap.size w V1) (hz:w.heap.size+2<V1.heap.size) h1 h2 n1 n2=>with1_typ 5 (by omega) B1 B2 a len cap l x w V1 hK bel h1 h2 (fun b=>b=w.heap.size+2) (fun k hk=>by omega) n1 n2 hcor hI hlen 3 (by decide) (by decide));have HE:=z7 hK;have HR:=z7 hR;have HV:=z7 hV;have HS:=z7 hs;clear hK hcor hR hI hV hs elen;refine(callsIn_wide (n:=6)).1 ?_;refine callsIn_of_wp_marks Tryz.func26 rfl trivial ?_ rfl;simp only[Tryz.ntmps26,List.size_toArray,List.length_cons,List.length_nil,Nat.reduceAdd,Nat.reduceSub,Array.replicate_succ,Array.replicate_zero,List.push_toArray,List.append_toArray,List.nil_append,List.cons_append];gi_wp2
 obtain⟨V0,hV0⟩:∃V0,((w.alloc (.cells #[.int .u64 r] 57)).alloc (.cells #[.int .u64 c] 57)).alloc (.cells #[.bool false] 4)=V0:=⟨_,rfl⟩;have s0:V0.heap.size=w.heap.size+3:=by rw[← hV0];simp
 have b0:Below w.heap.size w V0:=by rw[← hV0];exact zc (zc (zc (Below.refl _ _) _) _) _
 have p1:V0.heap[w.heap.size]?=some (.cells #[.int .u64 r] 57 (0,0)):=by rw[← hV0];exact zk _ _ (by simp;omega) (zk _ _ (by simp) (ze _ _ rfl))
 have p2:V0.heap[w.heap.size+1]?=some (.cells #[.int .u64 c] 57 (0,0)):=by rw[← hV0];exact zk _ _ (by simp) (ze _ _ (by simp))
 have p3:V0.heap[w.heap.size+2]?=some (.cells #[.bool false] 4 (0,0)):=by rw[← hV0];exact ze _ _ (by simp)
 rw[hV0];clear hV0;refine⟨trivial,(callsIn_wide.2 (with_any _ x a len cap rfl V0)).mono ?_⟩;rintro e V1 ⟨rfl,hV1⟩;have hB:V1.heap.size=w.heap.size+5:=by rw[hV1];simp;omega
 have b1:Below V0.heap.size V0 V1:=by rw[hV1];exact zc (zc (Below.refl _ _) _) _
 have q1:V1.heap[V0.heap.size]?=some (.cells #[.slice a len cap] 23 (0,0)):=by rw[hV1];exact zk _ _ (by simp) (ze _ _ rfl)
 have q2:V1.heap[V0.heap.size+1]?=some (.cells #[.int .u64 x] 57 (0,0)):=by rw[hV1];exact ze _ _ (by simp)
 have bel:=b0.trans (b1.mono b0.size);have p1':=(b1.block _ (zh p1)).trans p1;have p2':=(b1.block _ (zh p2)).trans p2;have p3':=(b1.block _ (zh p3)).trans p3;have SEQ:=z7 (SQ.out V0.heap.size (V0.heap.size+1) V1 bel (by omega) q1 q2 (by omega) (by omega));have BEL:=z7 bel;have P1:=z7 p1';have P2:=z7 p2';have P3:=z7 p3';rw[s0]at SEQ ⊢;clear hV1 b0 b1 p1 p2 p3 q1 q2 bel p1' p2' p3' s0;gi_wp2
 obtain⟨s,es⟩:∃s,selI l x len=s:=⟨_,rfl⟩;have ES:=z7 es;have SM:=z7 (show ∀i∈s,i<len from fun i hi=>(z1e.1 (es ▸ hi)).1);rw[es]at SEQ;clear es;refine z1l (gf:=118) (lb:=#[.pointer (some ⟨w.heap.size+3,0,none⟩),.pointer (some ⟨w.heap.size+3+1,0,none⟩)]) rfl (by omega) rfl trivial (enters_of Tryz.func118 (by kernel_rfl) rfl)
  SEQ.out (Below.refl _ _) (fun _=>rfl) (fun k hk=>by omega)
  (fun k W=>OutH w l s r c k W)
  (fun cd k W=>cd=.ret∧W.heap[w.heap.size+2]?=some (.cells #[.bool true] 4 (0,0))∧(∃i,i<s.length∧KnV (l.getD (s.getD i 0) FV.z).es r c)∧Below w.heap.size w W) ?hI ?hIx ⟨P1.out,P2.out,⟨_,P3.out⟩,fun i hi=>absurd hi (by omega),BEL.out⟩
  (fun k a₁ W=>OutH w l s r c k W∧∃by',V1.heap.size+2≤by'∧W.heap[by']?=some (.cells #[(l.getD (s.getD k 0) FV.z).iv,(l.getD (s.getD k 0) FV.z).vv] 80 (0,0)) ∧
    a₁={ tmps:=#[.slice a len cap,.int .u64 x,.int .u64 r,.int .u64 c,undef,undef,.pointer (some ⟨w.heap.size,0,none⟩),.pointer (some ⟨w.heap.size+1,0,none⟩),.pointer (some ⟨w.heap.size+1+1,0,none⟩),undef,.pointer (some ⟨by',0,none⟩),.slice a len cap,.int .u64 x,.func (.func 118) #[] #[.pointer (some ⟨w.heap.size+3,0,none⟩),.pointer (some ⟨w.heap.size+3+1,0,none⟩)],.int .i64 (s.getD k 0:Nat),.agg #[(l.getD (s.getD k 0) FV.z).iv,(l.getD (s.getD k 0) FV.z).vv],undef,undef,undef,undef,undef],defers:=[] })
  ?hAx ?assign ?body ?done ?stop
 case hI=>
  intro k X Y h ho;exact h.only ho (fun q hq=>by omega)
 case hIx=>
  rintro cd k X Y ⟨h0,h1,h2,h3⟩ ho;exact⟨h0,ho.obj (fun hk=>by omega) h1,h2,h3.trans (ho.below (n:=w.heap.size) h3.size (fun q hq=>by omega))⟩
 case hAx=>
  rintro k a₁ X Y ⟨h,by',hb,hq,e⟩ ho;exact⟨h.only ho (fun q hq=>by omega),by',hb,ho.obj (fun hk=>by omega) hq,e⟩
 case assign=>
  rintro ll k W hlt h hk;have hm:=HE.out.mem (SM.out (s.getD k 0) (by simp only[List.getD,List.getElem?_eq_getElem hk,Option.getD_some];exact List.getElem_mem hk));obtain⟨⟨ai,ci,ei,_⟩,⟨av,cv,ev,_⟩⟩:=HE.out.frags _ hm;simp only[encW];obtain⟨p,ep⟩:∃p,l.getD (s.getD k 0) FV.z=p:=⟨_,rfl⟩;rw[ep]at ei ev ⊢;obtain⟨i,eii⟩:∃i,s.getD k 0=i:=⟨_,rfl⟩;rw[eii];obtain⟨items,iv,vec,vv⟩:=p;simp only at ei ev ⊢;subst ei;subst ev;have HH:=z7 h;clear h hm ep eii;gi_wp2
  exact⟨(Only.refl _ W).alloc _,HH.out.only (may:=fun _=>False) ((Only.refl _ W).alloc _) (fun _ h=>h.elim),W.heap.size,by omega,ze _ _ rfl,rfl⟩
 case body=>
  rintro ll k a₁ W hlt ⟨h,by',hby,hq,rfl⟩ hk;have hil:s.getD k 0∈s:=by simp only[List.getD,List.getElem?_eq_getElem hk,Option.getD_some];exact List.getElem_mem hk
  have hm:=HE.out.mem (SM.out _ hil);have hfr:=(HE.out.frags _ hm).below h.bl;have hri:=HR.out _ hm;have hvl:=HV.out _ hm;have hha:=HS.out _ hm;obtain⟨p,ep⟩:∃p,l.getD (s.getD k 0) FV.z=p:=⟨_,rfl⟩;have EP:=z7 ep;rw[ep]at hq hfr hri hvl hha ⊢;have KA:=z7 (fun W' (hb:Below W.heap.size W W')=>vhas_any p.vv p.vec r c W' (hfr.vec.below hb) hri hvl hha hc);obtain⟨i,eii⟩:∃i,s.getD k 0=i:=⟨_,rfl⟩;rw[eii];obtain⟨⟨ai,ci,ei,_⟩,⟨av,cv,ev,_⟩⟩:=hfr;obtain⟨bb,ebb⟩:∃bb,decide (KnV (p.vec.map (·.1)) r c)=bb:=⟨_,rfl⟩;have EBB:=z7 ebb;rw[ebb]at KA;obtain⟨items,iv,vec,vv⟩:=p;simp only at ei ev hq KA;subst ei;subst ev;have v0:W.cell? ⟨w.heap.size,0,none⟩=some (.int .u64 r):=by simp[World.cell?,h.cr]
  have v1:W.cell? ⟨w.heap.size+1,0,none⟩=some (.int .u64 c):=by simp[World.cell?,h.cc]
  have v2:W.cell? ⟨by',0,none⟩=some (.slice ai items.length ci):=by simp[World.cell?,hq]
  have v3:W.cell? ⟨by',1,none⟩=some (.slice av vec.length cv):=by simp[World.cell?,hq]
  have HH:=z7 h;clear h hq hri hvl hha hm hil ep ebb eii;gi_wp2
  refine⟨trivial,?_⟩;gi_at_call 69
  refine(callsIn_wide.2 (KA.out _ (Below.refl _ _))).mono ?_;rintro e W4 ⟨rfl,hb⟩;have oB:=z7 (Only.of_below (may:=fun _=>False) hb);have H4:=z7 (HH.out.only oB.out (fun _ h=>h.elim));clear hb v0 v1 v2 v3
  cases bb with
  | false=>
    have HS2:=z7 (show ∀i,i<k+1→¬KnV (l.getD (s.getD i 0) FV.z).es r c from fun i hi=>by
     by_cases e:i<k
     ·exact HH.out.no i e
     ·obtain rfl:i=k:=by omega
      rw[EP.out];exact of_decide_eq_false EBB.out)
    gi_wp2
    exact⟨oB.out.wide (fun _ h=>h.elim),H4.out.cr,H4.out.cc,H4.out.res,HS2.out,H4.out.bl⟩
  | true=>
    obtain⟨bz,hz⟩:=H4.out.res;have z0:=frozen_of_row _ _ 0 _ _ hz;have z1:W4.cell? ⟨w.heap.size+1+1,0,none⟩=some (.bool bz):=by simp[World.cell?,hz]
    have HZ:=z7 hz;clear hz;gi_wp2
    have o2:Only (fun b=>b=w.heap.size+2) W4 (W4.setCell ⟨w.heap.size+1+1,0,none⟩ (.bool true)):=(Only.refl (fun b=>b=w.heap.size+2) W4).setCell (p:=⟨w.heap.size+1+1,0,none⟩) (.inl rfl) _;exact⟨((oB.out.wide (fun _ h=>h.elim)).trans o2).wide (fun _ h=>.inl h),rfl,heap_setCell_same _ _ 0 _ _ _ HZ.out,⟨k,hk,by rw[EP.out];exact of_decide_eq_true EBB.out⟩,H4.out.bl.trans (o2.below (n:=w.heap.size) H4.out.bl.size (fun b hb=>by omega))⟩
 case done=>
  rintro D W hD h hK;obtain⟨bz,hz⟩:=h.res;have z0:=frozen_of_row _ _ 0 _ _ hz;have z1:W.cell? ⟨w.heap.size+1+1,0,none⟩=some (.bool bz):=by simp[World.cell?,hz]
  have HZ:=z7 hz;have HH:=z7 h;clear hz h;gi_wp2
  have o2:Only (fun b=>b=w.heap.size+2) W (W.setCell ⟨w.heap.size+1+1,0,none⟩ (.bool false)):=(Only.refl (fun b=>b=w.heap.size+2) W).setCell (p:=⟨w.heap.size+1+1,0,none⟩) (.inl rfl) _;have hK2:=o2.obj (fun h=>by omega) hK;have q2:=heap_setCell_same _ _ 0 _ _ (.bool false) HZ.out;refine⟨by simp,.inl ⟨_,_,rfl,run_takeDeferred hK2,?_⟩⟩;have oD:=Only.putObj (may:=fun x=>x=D) (W.setCell ⟨w.heap.size+1+1,0,none⟩ (.bool false)) D (.deferred none) rfl;have q3:((W.setCell ⟨w.heap.size+1+1,0,none⟩ (.bool false)).putObj D (.deferred none)).heap[w.heap.size+1+1]?=some (.cells #[.bool false] 4 (0,0)):=oD.obj (fun h=>by omega) q2;refine⟨.bool false,?_,?_,HH.out.bl.trans ((o2.below (n:=w.heap.size) HH.out.bl.size (fun b hb=>by omega)).trans (oD.below (n:=w.heap.size) (by have:=o2.size;have:=HH.out.bl.size;omega) (fun k (hk:k=D)=>by omega)))⟩
  ·simp[results,Tryz.results26,go_sem,World.cell?,q3]
  ·rw[decide_eq_false]
   rw[← knS_iff,EL.out,ES.out];rintro⟨i,hi,h⟩;obtain⟨j,hj,e⟩:=List.mem_iff_getElem.1 hi;exact HH.out.no j hj (by rw[show s.getD j 0=i from by simp[List.getD,List.getElem?_eq_getElem hj,e]];exact h)
 case stop=>
  rintro D cd k W hD hk ⟨rfl,h1,h2,h3⟩ hK;have z1:W.cell? ⟨w.heap.size+1+1,0,none⟩=some (.bool true):=by simp[World.cell?,h1]
  gi_wp2
  refine⟨by simp,.inl ⟨_,_,rfl,run_takeDeferred hK,?_⟩⟩;have oD:=Only.putObj (may:=fun x=>x=D) W D (.deferred none) rfl;have q3:(W.putObj D (.deferred none)).heap[w.heap.size+1+1]?=some (.cells #[.bool true] 4 (0,0)):=oD.obj (fun h=>by omega) h1;refine⟨.bool true,?_,?_,h3.trans (oD.below (n:=w.heap.size) h3.size (fun k (hk:k=D)=>by omega))⟩
  ·simp[results,Tryz.results26,go_sem,World.cell?,q3]
  ·rw[decide_eq_true]
   rw[← knS_iff,EL.out,ES.out];obtain⟨i,hi,h⟩:=h2;exact⟨s.getD i 0,by simp only[List.getD,List.getElem?_eq_getElem hi,Option.getD_some];exact List.getElem_mem hi,h⟩
end Go.Proofs.YtbkkolfpegplgaaGreatDoor
namespace Go.Proofs.YtbkkolfpegplgaaGreatDoor
open Go Go.RowKit
theorem hasL_inL(zs:List Iv)(x:Int):hasL zs x=decide (InL zs x):=by
 rw[Bool.eq_iff_iff,decide_eq_true_iff];unfold hasL InL;rw[List.any_eq_true];constructor
 ·rintro⟨z,hz,h⟩
  exact⟨z,hz,by simpa[hasI]using h⟩
 ·rintro⟨z,hz,h⟩
  exact⟨z,hz,by simpa[hasI]using h⟩
theorem r7has_any(p:EV)(c:Int)(w:World)(h:HolesAt w p)(hc:Word c) :
  Calls Tryz.prog 117 #[aggE p,.int .u64 c] w fun e w'=>e=.returned (.bool (decide (KnE p.1 c)))∧Below w.heap.size w w':=by
 obtain⟨⟨x,y,z⟩,hv⟩:=p;obtain⟨a,cap,e1,h1,h2⟩:=h.at';simp only at e1 h1 h2;subst e1;have K:=z7 (fun W (hb:Below w.heap.size w W)=>hasL_any a z.length cap z c W (h1.below hb) hc);have D:=z7 (show decide (KnE ⟨x,y,z⟩ c)=(decide (c≤y) && !hasL z c)from by
  rw[hasL_inL];have:=hc.1;by_cases q1:c≤y<;>by_cases q2:InL z c<;>simp[KnE,q1,q2,this])
 unfold aggE;simp only;obtain⟨n,en⟩:∃n,z.length=n:=⟨_,rfl⟩;obtain⟨bb,ebb⟩:∃bb,hasL z c=bb:=⟨_,rfl⟩;rw[en]at K ⊢;rw[ebb]at K D;clear h h1 h2 en ebb;by_cases hcy:c≤y
 ·have d1:decide (c≤y)=true:=decide_eq_true hcy
  go_enter Tryz.func117,Tryz.ntmps117
  go_wp2_with fail
  refine(K.out _ (zc (Below.refl _ _) _)).mono ?_;rintro e w1 ⟨rfl,hb⟩;have B:=z7 (zf (zc (Below.refl w.heap.size w) _) hb);clear hb;go_wp2
  go_ret
  exact⟨by rw[D.out,d1];rfl,B.out⟩
 ·have d1:decide (c≤y)=false:=decide_eq_false hcy
  go_enter Tryz.func117,Tryz.ntmps117
  go_wp2
  go_ret
  exact⟨by rw[D.out,d1];rfl,zc (Below.refl _ _) _⟩
theorem r9find_any(a:Option Addr)(len cap:Nat)(l:List EV)(x:Int)(w:World)(h:EntsAt w a len l) :
  Calls Tryz.prog 116 #[.slice a len cap,.int .u64 x] w fun e w'=>((∃k:Nat,k<len∧rpE l k=x∧e=.returned (.int .i64 k))∨(¬InV l x∧e=.returned (.int .i64 (-1))))∧Below w.heap.size w w':=by
 have H:=z7 h;have HL:=z7 h.length;have hm:=h.most;clear h;go_enter Tryz.func116,Tryz.ntmps116
 go_wp2
 go_loopw [5] (fun c wr=>∃k:Nat,k≤len∧c=.int .i64 k∧(∀i,i<k→rpE l i≠x)∧Below w.heap.size w wr)
  (fun c _=>len-(intOf c).toNat)
 case atStart=>exact⟨0,Nat.zero_le _,rfl,fun i hi=>absurd hi (by omega),Below.refl _ _⟩
 case round=>
  obtain⟨k,hk,rfl,hno,hb⟩:=hrel;have HN:=z7 hno;have HB:=z7 hb;clear hno;have i0:(0:Int)≤(k:Int):=by omega
  by_cases hlt:k<len
  ·have i1:(k:Int)<(len:Int):=by omega
   have Hr:=H.out.below hb;obtain⟨b,off,rfl,hbl,hc1,_,_⟩:=Hr.cells k hlt;obtain⟨p,ep⟩:∃p,l.getD k EV.z=p:=⟨_,rfl⟩;obtain⟨rp,erp⟩:∃rp,p.1.rep=rp:=⟨_,rfl⟩;have EY:=z7 (show rpE l k=rp from by unfold rpE;rw[ep,erp]);rw[ep,erp]at hc1;clear hb ep erp Hr hbl;by_cases hx:rp=x
   ·subst hx
    go_wp2
    go_ret
    exact⟨.inl ⟨k,hlt,EY.out,rfl⟩,HB.out⟩
   ·have HS:=z7 (show ∀i,i<k+1→rpE l i≠x from fun i hi=>by
     by_cases e:i<k
     ·exact HN.out i e
     ·obtain rfl:i=k:=by omega
      rw[EY.out];exact hx)
    go_wp2
    go_roundw
    case rel=>exact⟨k+1,by omega,by go_num,HS.out,HB.out⟩
    case measure=>simp[intOf];omega
  ·obtain rfl:len=k:=by omega
   go_wp2
   go_ret
   exact⟨.inr ⟨fun⟨i,hi,e⟩=>HN.out i (by have:=HL.out;omega) e,rfl⟩,HB.out⟩
theorem r9has_any(v:Value)(l:List EV)(r c:Int)(w:World)(h:VecAt w v l)(hR:RightV (l.map (·.1)))(hc:Word c) :
  Calls Tryz.prog 67 #[v,.int .u64 r,.int .u64 c] w fun e w'=>e=.returned (.bool (decide (KnV (l.map (·.1)) r c)))∧Below w.heap.size w w':=by
 obtain⟨a,cap,rfl,hE,_⟩:=h;obtain⟨len,el⟩:∃len,l.length=len:=⟨_,rfl⟩;rw[el]at hE ⊢;have EL:=z7 el;obtain⟨bb,ebb⟩:∃bb,decide (KnV (l.map (·.1)) r c)=bb:=⟨_,rfl⟩;have EB:=z7 ebb;rw[ebb];have KF:=z7 (r9find_any a len cap l r w hE.at');have H:=z7 hE.at';have HR:=z7 hR;have HC:=z7 hc;clear ebb hE el hR hc;go_enter Tryz.func67,Tryz.ntmps67
 go_wp2_with fail
 refine KF.out.mono ?_;rintro e w1 ⟨(⟨k,hk,hr,rfl⟩ | ⟨hn,rfl⟩),hb⟩
 ·have Hr:=H.out.below hb
  obtain⟨b,off,rfl,hbl,hc1,hc2,hc3⟩:=Hr.cells k hk;have KV:=z7 (knV_at (c:=c) HR.out (by rw[EL.out];exact hk) hr);have hho:=Hr.holes _ (ents_mem Hr hk);obtain⟨p,ep⟩:∃p,l.getD k EV.z=p:=⟨_,rfl⟩;rw[ep]at hc1 hc2 hc3 KV hho;have K7:=z7 (r7has_any p c w1 hho HC.out);rw[show decide (KnE p.1 c)=decide (KnV (l.map (·.1)) r c)from decide_eq_decide.2 KV.out.symm]at K7;obtain⟨ah,ch,eh,_⟩:=hho;obtain⟨⟨rp,mx,hs⟩,hv⟩:=p;simp only at hc1 hc2 hc3 eh;subst eh;unfold aggE at K7;simp only at K7;obtain⟨nh,enh⟩:∃nh,hs.length=nh:=⟨_,rfl⟩;rw[EB.out]at K7;rw[enh]at hc3 K7;have i0:(0:Int)≤(k:Int):=by omega
  have i1:(k:Int)<(len:Int):=by omega
  have B1:=z7 hb;clear hb ep enh Hr hbl hr;go_wp2_with fail
  refine K7.out.mono ?_;rintro e w2 ⟨rfl,hb⟩;have B2:=z7 (zf B1.out hb);clear hb;go_wp2
  go_ret
  exact⟨rfl,B2.out⟩
 ·have HN:=z7 hn
  clear hn;go_wp2
  go_ret
  exact⟨by rw[← EB.out,decide_eq_false (knV_no HN.out)];rfl,hb⟩
theorem r11has_any(v:Value)(l:List FV)(x r c:Int)(w:World)(hE:KnwAt w v l)(hR:∀f∈l,RightV (f.vec.map (·.1)))(hlen:l.length≤9223372036854775807)(hx:Word x)(hc:Word c) :
  Calls Tryz.prog 24 #[v,.int .u64 x,.int .u64 r,.int .u64 c] w fun e w'=>e=.returned (.bool (decide (KnK (l.map FV.frag) x r c)))∧Below w.heap.size w w':=by
 obtain⟨a,cap,rfl,hK,_⟩:=hE;have H:=z7 hK;have HR:=z7 hR;have HX:=z7 (And.intro hx hc);obtain⟨len,elen⟩:∃len,l.length=len:=⟨_,rfl⟩;have EL:=z7 elen;rw[elen]at H hlen ⊢;clear hK elen hR hx hc;go_enter Tryz.func24,Tryz.ntmps24
 go_wp2
 go_loopw [9] (fun c' wr=>∃k:Nat,k≤len∧c'=.int .i64 k∧(∀i,i<k→¬(InL (l.getD i FV.z).items x∧KnV (l.getD i FV.z).es r c))∧Below w.heap.size w wr)
  (fun c' _=>len-(intOf c').toNat)
 case atStart=>exact⟨0,Nat.zero_le _,rfl,fun i hi=>absurd hi (by omega),Below.refl _ _⟩
 case round=>
  obtain⟨k,hk,rfl,hno,hb⟩:=hrel;have HN:=z7 hno;have HB:=z7 hb;clear hno;have i0:(0:Int)≤(k:Int):=by omega
  by_cases hlt:k<len
  ·have i1:(k:Int)<(len:Int):=by omega
   have Hr:=H.out.below hb;obtain⟨b,off,rfl,hbl,hc1,hc2⟩:=Hr.cells k hlt;have hmem:=Hr.mem hlt;have hfr:=Hr.frags _ hmem;have hri:=HR.out _ hmem;obtain⟨p,ep⟩:∃p,l.getD k FV.z=p:=⟨_,rfl⟩;have EP:=z7 ep;rw[ep]at hc1 hc2 hfr hri;have KV:=z7 (fun W (hW:Below wr.heap.size wr W)=>r9has_any p.vv p.vec r c W (hfr.vec.below hW) hri HX.out.2);obtain⟨⟨ai,ci,ei,hP,_⟩,⟨av,cv,ev,hEn,_⟩⟩:=hfr;have KI:=z7 (hasL_any ai p.items.length ci p.items x wr hP HX.out.1);rw[hasL_inL]at KI;obtain⟨b1,eb1⟩:∃b1,decide (InL p.items x)=b1:=⟨_,rfl⟩;obtain⟨b2,eb2⟩:∃b2,decide (KnV (p.vec.map (·.1)) r c)=b2:=⟨_,rfl⟩;have EB1:=z7 eb1;have EB2:=z7 eb2;rw[eb1]at KI;rw[eb2]at KV;obtain⟨items,iv,vec,vv⟩:=p;simp only at hc1 hc2 ei ev hP hEn KI KV;subst ei;subst ev;obtain⟨ni,eni⟩:∃ni,items.length=ni:=⟨_,rfl⟩;obtain⟨nv,env⟩:∃nv,vec.length=nv:=⟨_,rfl⟩;rw[eni]at hc1 KI;rw[env]at hc2 KV;clear ep hb hbl Hr hmem hP hEn eni env eb1 eb2 hri;go_wp2_with fail
   refine KI.out.mono ?_;rintro e w3 ⟨rfl,hb3⟩
   cases b1 with
   | false=>
     have B3:=z7 (zf HB.out hb3);have HS:=z7 (show ∀i,i<k+1→¬(InL (l.getD i FV.z).items x∧KnV (l.getD i FV.z).es r c)from fun i hi=>by
      by_cases e:i<k
      ·exact HN.out i e
      ·obtain rfl:i=k:=by omega
       rw[EP.out];exact fun h=>absurd h.1 (of_decide_eq_false EB1.out))
     clear hb3;go_wp2
     go_roundw
     case rel=>exact⟨k+1,by omega,by go_num,HS.out,B3.out⟩
     case measure=>simp[intOf];omega
   | true=>
     have d1:w3.cell? ⟨b,off+k * 2+1,none⟩=some (.slice av nv cv):=zg hb3 (block_lt_of_cell hc2) hc2;have B3:=z7 hb3;clear hb3;go_wp2_with fail
     refine(KV.out _ B3.out).mono ?_;rintro e w4 ⟨rfl,hb4⟩;have B4:=z7 (zf HB.out (zf B3.out hb4));clear hb4
     cases b2 with
     | false=>
       have HS:=z7 (show ∀i,i<k+1→¬(InL (l.getD i FV.z).items x∧KnV (l.getD i FV.z).es r c)from fun i hi=>by
        by_cases e:i<k
        ·exact HN.out i e
        ·obtain rfl:i=k:=by omega
         rw[EP.out];exact fun h=>absurd h.2 (of_decide_eq_false EB2.out))
       go_wp2
       go_roundw
       case rel=>exact⟨k+1,by omega,by go_num,HS.out,B4.out⟩
       case measure=>simp[intOf];omega
     | true=>
       have OK:=z7 (show decide (KnK (l.map FV.frag) x r c)=true from decide_eq_true ⟨(l.getD k FV.z).frag,List.mem_map.2 ⟨_,H.out.mem hlt,rfl⟩,by
        show InL (l.getD k FV.z).items x
        rw[EP.out];exact of_decide_eq_true EB1.out,by
        show KnV (l.getD k FV.z).es r c
        rw[EP.out];exact of_decide_eq_true EB2.out⟩)
       go_wp2
       go_ret
       exact⟨by rw[OK.out];rfl,B4.out⟩
  ·obtain rfl:len=k:=by omega
   have NO:=z7 (show decide (KnK (l.map FV.frag) x r c)=false from decide_eq_false (by
    rintro⟨f,hf,h1,h2⟩;obtain⟨g,hg,rfl⟩:=List.mem_map.1 hf;obtain⟨i,hi,e⟩:=List.mem_iff_getElem.1 hg;have e2:l.getD i FV.z=g:=by simp[List.getD,List.getElem?_eq_getElem hi,e]
    exact HN.out i (by have:=EL.out;omega) (by rw[e2];exact⟨h1,h2⟩)))
   go_wp2
   go_ret
   exact⟨by rw[NO.out];rfl,HB.out⟩
end Go.Proofs.YtbkkolfpegplgaaGreatDoor
