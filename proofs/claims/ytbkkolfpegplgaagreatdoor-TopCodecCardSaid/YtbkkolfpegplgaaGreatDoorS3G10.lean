/- varint.Append, the reference's Bytes: the bytes of a number in a row of the call's own; slices.Equal over bytes. The reference's Bytes; slices.Equal over bytes. -/
import Derived.Test.YtbkkolfpegplgaaGreatDoorS3G1
import Derived.Test.YtbkkolfpegplgaaGreatDoorS3G9
import Derived.Deep.AppendLies
import Derived.ArgAppend
import Derived.Maps.AppendAt
import Derived.BigQuiet
import Derived.Deep.QuietTactic
set_option maxHeartbeats 800000
namespace Go.Proofs.YtbkkolfpegplgaaGreatDoor
open Go.RowKit
theorem info_parts{t:TypeId}{z:Value}{n b:Nat}(h:(Tryz.prog.info? t).map (fun i=>(i.zero,i.size,i.bytes))=some (some z,n,b)):∃i0,Tryz.prog.info? t=some i0∧i0.zero=some z∧i0.size=n∧i0.bytes=b:=by
 obtain⟨i0,hi,he⟩:=Option.map_eq_some_iff.1 h;simp only[Prod.mk.injEq]at he;exact⟨i0,hi,he.1,he.2.1,he.2.2⟩
theorem info_u8:(Tryz.prog.info? 5).map (fun i=>(i.zero,i.size,i.bytes))=some (some (.int .u8 0),1,1):=by kernel_rfl
structure OwnB (w:World) (base:Nat) (v:Value) (zs:List Int):Prop where
 row:w.ownsRow base 5 1 v zs.length (zs.map (Value.int .u8))
 bytes:∀z∈zs,0≤z∧z≤255
theorem wf_of_byte{x:Int}(h:0≤x∧x≤255):(Lit.int .u8 x).wf=true:=by
 simp[Lit.wf,IntKind.min,IntKind.max,IntKind.signed,IntKind.bits];omega
theorem byte_of_wf{x:Int}(h:(Lit.int .u8 x).wf=true):0≤x∧x≤255:=by
 simp[Lit.wf,IntKind.min,IntKind.max,IntKind.signed,IntKind.bits]at h;omega
theorem OwnB.nil(w:World)(base:Nat):OwnB w base (.slice none 0 0) []:=⟨World.ownsRow_nil _ _ _ _,by simp⟩
theorem OwnB.ints{w:World}{base:Nat}{v:Value}{zs:List Int}(h:OwnB w base v zs)(hm:zs.length≤9223372036854775807):∃a cap,v=.slice a zs.length cap∧Ints .u8 w a zs.length zs∧zs.length≤cap:=by
 obtain⟨a,cap,hv,h1,_,h3⟩:=z4i h.row hm (fun z hz=>wf_of_byte (h.bytes z hz));exact⟨a,cap,hv,h3,h1⟩
theorem irow_below{w w':World}{base n:Nat}{t:TypeId}{v:Value}{xs:List Value}(h:w.ownsRow base t 1 v n xs)(hb:Below w.heap.size w w'):w'.ownsRow base t 1 v n xs:=by
 refine⟨h.1,?_⟩;rcases h.2 with hn | ⟨g,cap,cur,hv,hg,hc,rest⟩
 ·exact .inl hn
 ·exact .inr ⟨g,cap,cur,hv,hg,(hb.block g (Array.getElem?_eq_some_iff.1 hc).1).trans hc,rest⟩
theorem OwnB.below{w w':World}{base:Nat}{v:Value}{zs:List Int}(h:OwnB w base v zs)(hb:Below w.heap.size w w'):OwnB w' base v zs:=⟨irow_below h.row hb,h.bytes⟩
theorem OwnB.lower{w:World}{base base':Nat}{v:Value}{zs:List Int}(h:OwnB w base v zs)(hb:base'≤base):OwnB w base' v zs:=
 ⟨⟨h.row.1,h.row.2.imp id (fun⟨g,cap,cur,hv,hg,rest⟩=>⟨g,cap,cur,hv,Nat.le_trans hb hg,rest⟩)⟩,h.bytes⟩
theorem one_new(w:World){b:Nat}{x:Value}{t:TypeId}(h:w.heap[b]?=some (.cells #[x] t (0,0))):∀j u,[x][j]?=some u→w.cell? ((⟨b,0,none⟩:Addr).add j)=some u:=by
 intro j u hj;match j,hj with
 | 0,hj=>simp at hj;subst hj;simp[World.cell?,h,Addr.add]
theorem or128(x:Int)(h0:0≤x)(h1:x<256):bits .or .u8 x 128=x % 128+128:=by
 have all:∀n:Fin 256,bits .or .u8 (n.val:Int) 128=(n.val:Int) % 128+128:=by decide +kernel
 have:=all ⟨x.toNat,by omega⟩;simpa only [Int.toNat_of_nonneg h0]using this
structure GrowV (w:World) (v:Value) (w':World) (v':Value):Prop where
 only:Only (fun b=>v.ownBlock=some b) w w'
 blk:∀b,v'.ownBlock=some b→v.ownBlock=some b∨w.heap.size≤b
theorem GrowV.refl(w:World)(v:Value):GrowV w v w v:=⟨Only.refl _ _,fun _ h=>.inl h⟩
theorem only_newer{w w' w3:World}{may may':Nat→Prop}(h:Only may w w')(k:Only may' w' w3)(hm:∀b,may' b→may b∨w.heap.size≤b):Only may w w3:=
 ⟨k.os.trans h.os,k.tape.trans h.tape,k.output.trans h.output,Nat.le_trans h.size k.size,fun i hi hl=>(k.block i (Nat.lt_of_lt_of_le hi h.size) (fun hk=>(hm i hk).elim hl (fun h3=>by omega))).trans (h.block i hi hl)⟩
theorem GrowV.step{w w1 w3:World}{v o v':Value}{x:Obj}(h:GrowV w v w1 o)(hg:(w1.alloc x).grownBy w3 o.ownBlock)(hb:v'.ownBlock=o.ownBlock∨v'.ownBlock=some (w1.heap.size+1)):GrowV w v w3 v':=by
 refine⟨only_newer (h.only.alloc x) (⟨hg.os,hg.tape,hg.output,hg.size,fun k hk hm=>hg.block k hk (fun e=>hm e.symm)⟩:Only (fun b=>o.ownBlock=some b) (w1.alloc x) w3) (fun b hb'=>h.blk b hb'),fun b hb'=>?_⟩;rcases hb with e | e
 ·exact h.blk b (by rw[← e];exact hb')
 ·rw[e]at hb'
  have:=h.only.size;obtain rfl:w1.heap.size+1=b:=by simpa using hb'
  exact .inr (by omega)
theorem z1x(w0:World)(v:Value)(zs:List Int)(x:Int)(w:World)(h:OwnB w w0.heap.size v zs)(h0:Below w0.heap.size w0 w)(hx:Word x)(hn:zs.length≤4000000000) :
  Calls Tryz.prog 44 #[v,.int .u64 x] w fun e w'=>∃v',e=.returned v'∧OwnB w' w0.heap.size v' (zs ++ vb 10 x)∧Below w0.heap.size w0 w'∧GrowV w v w' v':=by
 obtain⟨i0,hi,hz0,hz1,hz2⟩:=info_parts info_u8;have H:=z7 h;have H0:=z7 h0;have HX:=z7 hx;have K:=z7 (fun W=>size_any x W hx);have hl1:=vb_len 10 x (by omega);have hl2:=z4a 10 x;obtain⟨n,en⟩:∃n,(vb 10 x).length=n:=⟨_,rfl⟩;rw[en]at K hl1 hl2;have EN:=z7 en;clear h h0 hx en;go_enter Tryz.func44,Tryz.ntmps44
 go_wp2_with fail
 refine(K.out _).mono ?_;rintro e w1 ⟨rfl,rfl⟩;clear K;go_wp2
 go_loopw [0,1,8] (fun o xx c wr=>∃(k f:Nat) (y:Int) (pre:List Int),c=.int .i64 k∧xx=.int .u64 y∧Word y∧y<128 ^ f∧OwnB wr w0.heap.size o (zs ++ pre)∧pre ++ vb f y=vb 10 x∧k+(vb f y).length=n∧0<f∧Below w0.heap.size w0 wr∧GrowV w v wr o)
  (fun _ _ c _=>n-(intOf c).toNat)
 case atStart=>exact⟨0,10,x,[],rfl,rfl,HX.out,(by have:=HX.out.2;omega),by simpa using H.out,rfl,by rw[EN.out];omega,by omega,H0.out,GrowV.refl w v⟩
 case round=>
  obtain⟨k,f,y,pre,rfl,rfl,hy,hyf,ho,hp,hk,hf,hb,hgv⟩:=hrel;have HGV:=z7 hgv;clear hgv;obtain⟨g,rfl⟩:∃g,f=g+1:=⟨f-1,by omega⟩;have HO:=z7 ho;have HP:=z7 hp;have HB:=z7 hb;have HK:=z7 hk;have hs:=hb.size;obtain⟨hy0,hy1⟩:=hy;have hpl:pre.length≤10:=by
   have:=congrArg List.length hp;rw[List.length_append,EN.out]at this;omega
  by_cases hlt:(k:Int)<(n:Int)-1
  ·have hbig:128≤y:=by
    by_cases hc:y<128
    ·rw[z4p g hc]at hk;simp at hk;omega
    ·omega
   rw[vb_big g hbig]at hp hk;have HP2:=z7 hp;have HK2:=z7 hk;have hg:0<g:=by
    rcases Nat.eq_zero_or_pos g with e | e
    ·subst e;simp[vb]at hk;omega
    ·exact e
   have q:=or128 (y % 256) (by omega) (by omega);have q2:y % 256 % 128=y % 128:=by omega
   rw[q2]at q;clear q2 ho hp hk hb;go_wp2_with(at_builtin;refine wpList_append_own_at _ rfl _ _ 33 rfl w0.heap.size 5 i0 (.int .u8 0) 1 1 Tryz.underlying33 hi hz0 hz1 hz2 rfl (by decide) _ _ _ rfl (HO.out.row.alloc _) ⟨wr.heap.size,0,none⟩ 1 1 [.int .u8 (y % 128+128)] rfl rfl ?z1 ?z2 ?z3 ?z4 ?z5 ?_)
   case z1=>exact one_new _ (ze _ _ rfl)
   case z2=>intro u hu;simp at hu;subst hu;rfl
   case z3=>simp;unfold maxLen;omega
   case z4=>simp;omega
   case z5=>simp;omega
   intro v' w3 hown hgrow _ hblk;have HS:=z7 (HGV.out.step hgrow (by simpa using hblk));have HW:=z7 hown;have HG:=z7 hgrow;clear hown hgrow hblk;go_wp2
   go_roundw
   case rel=>exact⟨k+1,g,y / 128,pre ++ [y % 128+128],by go_num,rfl,⟨by omega,by omega⟩,(by have:(128:Int) ^ (g+1)=128 ^ g * 128:=Int.pow_succ ..;omega),⟨by simpa[Nat.add_assoc]using HW.out,fun z hz=>by
     simp at hz
     rcases hz with hz | hz | rfl
     ·exact HO.out.bytes z (by simp[hz])
     ·exact HO.out.bytes z (by simp[hz])
     ·omega⟩,by rw[← HP2.out];simp,by have:=HK2.out;simp at this;omega,hg,(zc HB.out _).grown HG.out (by simp;omega) (fun q hq=>(HO.out.row.lt q hq).1),HS.out⟩
   case measure=>simp[intOf];omega
  ·have hsm:y<128:=by
    by_cases hc:y<128
    ·exact hc
    ·rw[vb_big g (by omega)]at hk
     have:=vb_len g (y / 128);simp at hk
     rcases Nat.eq_zero_or_pos g with e | e
     ·subst e;simp at hyf;omega
     ·have:=this e;omega
   rw[z4p g hsm]at hp;have HP2:=z7 hp;clear ho hp hk hb;go_wp2_with(at_builtin;refine wpList_append_own_at _ rfl _ _ 33 rfl w0.heap.size 5 i0 (.int .u8 0) 1 1 Tryz.underlying33 hi hz0 hz1 hz2 rfl (by decide) _ _ _ rfl (HO.out.row.alloc _) ⟨wr.heap.size,0,none⟩ 1 1 [.int .u8 y] rfl rfl ?z1 ?z2 ?z3 ?z4 ?z5 ?_)
   case z2=>rfl
   case z3=>unfold maxLen;omega
   case z4=>omega
   case z5=>omega
   intro v' w3 hown hgrow _ hblk;have HS:=z7 (HGV.out.step hgrow (by simpa using hblk));have HW:=z7 hown;have HG:=z7 hgrow;clear hown hgrow hblk;go_wp2
   go_ret
   exact⟨_,rfl,⟨by rw[← HP2.out];simpa[Nat.add_assoc]using HW.out,fun z hz=>by
     rw[← HP2.out]at hz;simp at hz
     rcases hz with hz | hz | rfl
     ·exact HO.out.bytes z (by simp[hz])
     ·exact HO.out.bytes z (by simp[hz])
     ·omega⟩,(zc HB.out _).grown HG.out (by simp;omega) (fun q hq=>(HO.out.row.lt q hq).1),HS.out⟩
theorem append_any(w0:World)(v:Value)(zs:List Int)(x:Int)(w:World)(h:OwnB w w0.heap.size v zs)(h0:Below w0.heap.size w0 w)(hx:Word x)(hn:zs.length≤4000000000) :
  Calls Tryz.prog 44 #[v,.int .u64 x] w fun e w'=>∃v',e=.returned v'∧OwnB w' w0.heap.size v' (zs ++ vb 10 x)∧Below w0.heap.size w0 w':=by
 refine(z1x w0 v zs x w h h0 hx hn).mono ?_;rintro e w' ⟨v',h1,h2,h3,_⟩;exact⟨v',h1,h2,h3⟩
def eqI (xs ys:List Int):Bool:=decide (xs=ys)
theorem getD_ext{xs ys:List Int}(hl:xs.length=ys.length)(h:∀i,i<xs.length→xs.getD i 0=ys.getD i 0):xs=ys:=by
 refine List.ext_getElem hl fun i h1 h2=>?_;have:=h i h1;simpa[List.getD,List.getElem?_eq_getElem h1,List.getElem?_eq_getElem h2]using this
theorem equal_any(a a':Option Addr)(len cap len' cap':Nat)(xs ys:List Int)(w:World)(h:Ints .u8 w a len xs)(h':Ints .u8 w a' len' ys) :
  Calls Tryz.prog 183 #[.slice a len cap,.slice a' len' cap'] w fun e w'=>e=.returned (.bool (eqI xs ys))∧Below w.heap.size w w':=by
 have H:=z7 h;have H':=z7 h';have hl:=z7 h.length;have hl':=z7 h'.length;have hm:=h.most;have hm':=h'.most;clear h h';by_cases hn:len=len'
 ·subst hn
  go_enter Tryz.func183,Tryz.ntmps183
  go_wp2
  go_loopw [13] (fun c wr=>∃k:Nat,k≤len∧c=.int .i64 k∧(∀i,i<k→xs.getD i 0=ys.getD i 0)∧Below w.heap.size w wr)
   (fun c _=>len-(intOf c).toNat)
  case atStart=>exact⟨0,Nat.zero_le _,rfl,(fun i h=>absurd h (by omega)),Below.refl _ _⟩
  case round=>
   obtain⟨k,hk,rfl,hs,hb⟩:=hrel;have HS:=z7 hs;clear hs;by_cases hlt:k<len
   ·obtain⟨b,off,rfl,hbl,hcell⟩:=(H.out.below hb).cells k hlt
    obtain⟨b',off',rfl,hbl',hcell'⟩:=(H'.out.below hb).cells k hlt;have i0:(0:Int)≤(k:Int):=by omega
    have i1:(k:Int)<(len:Int):=by omega
    obtain⟨x,ex⟩:∃x,x=xs.getD k 0:=⟨_,rfl⟩;obtain⟨y,ey⟩:∃y,y=ys.getD k 0:=⟨_,rfl⟩;rw[← ex]at hcell;rw[← ey]at hcell';have EX:=z7 ex;have EY:=z7 ey;clear ex ey;by_cases hxy:x=y
    ·subst hxy
     have d1:((x:Int) != x)=false:=by simp
     go_wp2
     go_quiet (fail)
     go_wp2
     go_roundw
     case rel=>exact⟨k+1,by omega,by go_num,(fun i hi=>by
      by_cases e:i=k
      ·subst e;rw[← EX.out,← EY.out]
      ·exact HS.out i (by omega)),zm hb _⟩
     case measure=>simp[intOf];omega
    ·have d1:((x:Int) != y)=true:=by simp[hxy]
     have BAD:=z7 (show eqI xs ys=false from decide_eq_false (fun e=>hxy (by rw[EX.out,EY.out,e])));clear hxy;go_wp2
     go_quiet (fail)
     go_wp2
     go_ret
     exact⟨z2r BAD.out.symm,zm hb _⟩
   ·obtain rfl:k=len:=by omega
    have GOOD:=z7 (show eqI xs ys=true from decide_eq_true (getD_ext (hl.out.trans hl'.out.symm) (fun i hi=>HS.out i (by rw[hl.out]at hi;exact hi))));go_wp2
    go_ret
    exact⟨z2r GOOD.out.symm,hb⟩
 ·have d1:((len:Int) != (len':Int))=true:=by simp;omega
  have BAD:=z7 (show eqI xs ys=false from decide_eq_false (fun e=>hn (by rw[← hl.out,← hl'.out,e])));go_enter Tryz.func183,Tryz.ntmps183
  go_wp2
  go_ret
  exact⟨z2r BAD.out.symm,Below.refl _ _⟩
end Go.Proofs.YtbkkolfpegplgaaGreatDoor
