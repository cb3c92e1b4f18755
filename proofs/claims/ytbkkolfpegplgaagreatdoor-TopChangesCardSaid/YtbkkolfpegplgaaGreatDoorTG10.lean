import Derived.Test.YtbkkolfpegplgaaGreatDoorTG9
import Derived.Deep.AppendLies
import Derived.BigQuiet
open Go.IntKind renaming signed→PC,bits→PD,min→PE,max→PF
open Nat renaming eq_zero_or_pos→PG
open Go.Proofs.Tryz
set_option maxHeartbeats 800000
namespace Go.Proofs.YtbkkolfpegplgaaGreatDoor
open Go.RowKit
theorem info_parts{t:TypeId}{z:Value}{n b:Nat}(h:(prog.info? t).map (fun i=>(i.zero,i.size,i.bytes))=some (some z,n,b)):∃j,prog.info? t=some j∧j.zero=some z∧j.size=n∧j.bytes=b:=by
 obtain⟨j,hi,l⟩:=Option.map_eq_some_iff.1 h;simp only[Prod.mk.injEq]at l;exact⟨j,hi,l.1,l.2.1,l.2.2⟩
theorem wA:(prog.info? 5).map (fun i=>(i.zero,i.size,i.bytes))=some (some (.int .u8 0),1,1):=aC
structure OwnB (w:World) (base:Nat) (v:Value) (zs:List Int):Prop where
 row:w.ownsRow base 5 1 v zs.length (zs.map (Value.int .u8))
 bytes:∀z∈zs,0≤z∧z≤255
theorem qJ{x:Int}(h:0≤x∧x≤255):(Lit.int .u8 x).wf=true:=by
 simp[Lit.wf,PE,PF,PC,PD];omega
theorem Lh{x:Int}(h:(Lit.int .u8 x).wf=true):0≤x∧x≤255:=by
 simp[Lit.wf,PE,PF,PC,PD]at h;omega
theorem OwnB.nil(w:World)(base:Nat):OwnB w base (.slice none 0 0) []:=⟨World.ownsRow_nil _ _ _ _,aD⟩
theorem OwnB.ints{w:World}{base:Nat}{v:Value}{zs:List Int}(h:OwnB w base v zs)(j:zs.length≤9223372036854775807):∃a cap,v=.slice a zs.length cap∧Ints .u8 w a zs.length zs∧zs.length≤cap:=by
 obtain⟨a,cap,hv,h1,_,h3⟩:=oL h.row j (fun z b=>qJ (h.bytes z b));exact⟨a,cap,hv,h3,h1⟩
theorem nJ{w w':World}{base n:Nat}{t:TypeId}{v:Value}{xs:List Value}(h:w.ownsRow base t 1 v n xs)(b:Below w.heap.size w w'):w'.ownsRow base t 1 v n xs:=by
 refine⟨h.1,?_⟩;rcases h.2 with hn | ⟨g,cap,cur,hv,hg,hc,rest⟩
 ·exact .inl hn
 exact .inr ⟨g,cap,cur,hv,hg,(b.block g (Array.getElem?_eq_some_iff.1 hc).1).trans hc,rest⟩
theorem OwnB.below{w w':World}{base:Nat}{v:Value}{zs:List Int}(h:OwnB w base v zs)(b:Below w.heap.size w w'):OwnB w' base v zs:=⟨nJ h.row b,h.bytes⟩
theorem OwnB.lower{w:World}{base base':Nat}{v:Value}{zs:List Int}(h:OwnB w base v zs)(b:base'≤base):OwnB w base' v zs:=
 ⟨⟨h.row.1,h.row.2.imp id (fun⟨g,cap,cur,hv,hg,rest⟩=>⟨g,cap,cur,hv,Nat.le_trans b hg,rest⟩)⟩,h.bytes⟩
theorem Zf(w:World){b:Nat}{x:Value}{t:TypeId}(h:w.heap[b]?=some (.cells #[x] t (0,0))):∀j u,[x][j]?=some u→w.cell? ((⟨b,0,none⟩:Addr).add j)=some u:=by
 intro j u l;match j,l with
 | 0,l=>simp at l;subst l;simp[World.cell?,h,Addr.add]
theorem GX(x:Int)(h0:0≤x)(h1:x<256):bits .or .u8 x 128=x % 128+128:=by
 have all:∀n:Fin 256,bits .or .u8 (n.val:Int) 128=(n.val:Int) % 128+128:=by decide +kernel
 have:=all ⟨x.toNat,aA⟩;simpa only [Int.toNat_of_nonneg h0]using this
structure GrowV (w:World) (v:Value) (w':World) (v':Value):Prop where
 only:Only (fun b=>v.ownBlock=some b) w w'
 blk:∀b,v'.ownBlock=some b→v.ownBlock=some b∨w.heap.size≤b
theorem GrowV.refl(w:World)(v:Value):GrowV w v w v:=⟨Only.refl _ _,fun _ h=>.inl h⟩
theorem Ka{w w' w3:World}{may may':Nat→Prop}(h:Only may w w')(k:Only may' w' w3)(m:∀b,may' b→may b∨w.heap.size≤b):Only may w w3:=
 ⟨k.os.trans h.os,k.tape.trans h.tape,k.output.trans h.output,Nat.le_trans h.size k.size,fun i hi j=>(k.block i (Nat.lt_of_lt_of_le hi h.size) (fun l=>(m i l).elim j (fun h3=>aA))).trans (h.block i hi j)⟩
theorem GrowV.step{w l n:World}{v o v':Value}{x:Obj}(h:GrowV w v l o)(m:(l.alloc x).grownBy n o.ownBlock)(s:v'.ownBlock=o.ownBlock∨v'.ownBlock=some (l.heap.size+1)):GrowV w v n v':=by
 refine⟨Ka (h.only.alloc x) (⟨m.os,m.tape,m.output,m.size,fun k p r=>m.block k p (fun e=>r e.symm)⟩:Only (fun b=>o.ownBlock=some b) (l.alloc x) n) (fun b j=>h.blk b j),fun b j=>?_⟩;rcases s with e | e
 ·exact h.blk b (by rw[← e];exact j)
 rw[e]at j;have:=h.only.size;obtain rfl:l.heap.size+1=b:=by simpa using j
 exact .inr aA
theorem gT(p:World)(v:Value)(zs:List Int)(x:Int)(w:World)(h:OwnB w p.heap.size v zs)(h0:Below p.heap.size p w)(U:aL x)(hn:zs.length≤4000000000) :
  Calls prog 44 #[v,.int .u64 x] w fun e w'=>∃v',e=.returned v'∧OwnB w' p.heap.size v' (zs ++ vb 10 x)∧Below p.heap.size p w'∧GrowV w v w' v':=by
 obtain⟨i0,hi,E,F,G⟩:=info_parts wA;have H:=aI h;have H0:=aI h0;have V:=aI U;have K:=aI (fun W=>rP x W U);have L:=Cd 10 x aA;have M:=jF 10 x;obtain⟨n,en⟩:=aG ((vb 10 x).length);rw[en]at K L M;have X:=aI en;clear h h0 U en;go_enter func44,ntmps44;go_wp2_with fail;refine(K _).mono ?_;rintro e w1 ⟨rfl,rfl⟩;clear K;go_wp2;go_loopw [0,1,8] (fun o xx c wr=>∃(k f:Nat) (y:Int) (pre:List Int),c=.int .i64 k∧xx=.int .u64 y∧aL y∧y<128 ^ f∧OwnB wr p.heap.size o (zs ++ pre)∧pre ++ vb f y=vb 10 x∧k+(vb f y).length=n∧0<f∧Below p.heap.size p wr∧GrowV w v wr o)
  (fun _ _ c _=>n-(intOf c).toNat)
 case atStart=>exact⟨0,10,x,[],rfl,rfl,V,(by have:=V.2;omega),by simpa using H.out,rfl,by rw[X.out];omega,aA,H0,GrowV.refl w v⟩
 obtain⟨k,f,y,pre,rfl,rfl,hy,S,ho,B,r,hf,J,I⟩:=hrel;have C:=aI I;clear I;obtain⟨g,rfl⟩:∃g,f=g+1:=⟨f-1,aA⟩;have A:=aI ho;have HP:=aI B;have Y:=aI J;have HK:=aI r;have hs:=J.size;obtain⟨A1,A2⟩:=hy;have A0:pre.length≤10:=by
  have:=congrArg List.length B;rw[List.length_append,X.out]at this;omega
 by_cases hlt:(k:Int)<(n:Int)-1
 ·have D:128≤y:=by
   by_cases hc:y<128
   ·rw[gX g hc]at r;simp at r;omega
   omega
  rw[nW g D]at B r;have s:=aI B;have N:=aI r;have hg:0<g:=by
   rcases PG g with e | e
   ·subst e;simp[vb]at r;omega
   exact e
  have q:=GX (y % 256) aA aA;have Z:y % 256 % 128=y % 128:=aA;rw[Z]at q;clear Z ho B r J;go_wp2_with(at_builtin;refine wpList_append_own_at _ rfl _ _ 33 rfl p.heap.size 5 i0 (.int .u8 0) 1 1 underlying33 hi E F G rfl aB _ _ _ rfl (A.row.alloc _) ⟨wr.heap.size,0,none⟩ 1 1 [.int .u8 (y % 128+128)] rfl rfl ?z1 ?z2 ?z3 ?z4 ?z5 ?_)
  case z1=>exact Zf _ (aK _ _ rfl)
  case z2=>intro u hu;simp at hu;subst hu;rfl
  case z3=>simp;unfold maxLen;omega
  case z4=>simp;omega
  case z5=>simp;omega
  intro v' w3 j b _ l;have O:=aI (C.step b (by simpa using l));have P:=aI j;have Q:=aI b;clear j b l;go_wp2;go_roundw
  case rel=>exact⟨k+1,g,y / 128,pre ++ [y % 128+128],by go_num,rfl,⟨aA,aA⟩,(by have:(128:Int) ^ (g+1)=128 ^ g * 128:=Int.pow_succ ..;omega),⟨by simpa[Nat.add_assoc]using P.out,fun z m=>by
    simp at m;rcases m with m | m | rfl
    ·exact A.bytes z (by simp[m])
    ·exact A.bytes z (by simp[m])
    omega⟩,by rw[← s.out];simp,by have:=N.out;simp at this;omega,hg,(aJ Y _).grown Q (by simp;omega) (fun q T=>(A.row.lt q T).1),O⟩
  simp[intOf];omega
 have R:y<128:=by
  by_cases hc:y<128
  ·exact hc
  rw[nW g aA]at r;have:=Cd g (y / 128);simp at r;rcases PG g with e | e
  ·subst e;simp at S;omega
  have:=this e;omega
 rw[gX g R]at B;have s:=aI B;clear ho B r J;go_wp2_with(at_builtin;refine wpList_append_own_at _ rfl _ _ 33 rfl p.heap.size 5 i0 (.int .u8 0) 1 1 underlying33 hi E F G rfl aB _ _ _ rfl (A.row.alloc _) ⟨wr.heap.size,0,none⟩ 1 1 [.int .u8 y] rfl rfl ?z1 ?z2 ?z3 ?z4 ?z5 ?_)
 case z2=>rfl
 case z3=>unfold maxLen;omega
 case z4=>omega
 case z5=>omega
 intro v' w3 j b _ l;have O:=aI (C.step b (by simpa using l));have P:=aI j;have Q:=aI b;clear j b l;go_wp2;go_ret;exact⟨_,rfl,⟨by rw[← s.out];simpa[Nat.add_assoc]using P.out,fun z m=>by
   rw[← s.out]at m;simp at m;rcases m with m | m | rfl
   ·exact A.bytes z (by simp[m])
   ·exact A.bytes z (by simp[m])
   omega⟩,(aJ Y _).grown Q (by simp;omega) (fun q T=>(A.row.lt q T).1),O⟩
theorem rF(b:World)(v:Value)(zs:List Int)(x:Int)(w:World)(h:OwnB w b.heap.size v zs)(h0:Below b.heap.size b w)(l:aL x)(m:zs.length≤4000000000) :
  Calls prog 44 #[v,.int .u64 x] w fun e w'=>∃j,e=.returned j∧OwnB w' b.heap.size j (zs ++ vb 10 x)∧Below b.heap.size b w':=by
 refine(gT b v zs x w h h0 l m).mono ?_;rintro e w' ⟨j,h1,h2,h3,_⟩;exact⟨j,h1,h2,h3⟩
theorem xI:∀(f:Nat) (x:Int) (w:World),aL x→x<128 ^ f→0<f→f≤10 →
  Calls prog 104 #[.int .u64 x] w fun e w'=>∃F,e=.returned F∧OwnB w' w.heap.size F (vb f x)∧Below w.heap.size w w'
 | 0,_,_,_,_,h,_=>absurd h (by omega)
 | f+1,x,w,hx,hxf,_,hf=>by
   obtain⟨Q,hi,B,C,D⟩:=info_parts wA;obtain⟨h0,h1⟩:=hx;by_cases hs:x<128
   ·rw[gX f hs];clear hxf;have r:=World.ownsRow_lit (base:=w.heap.size) (e:=5) (size:=1) w #[.int .u8 x] 1 (Nat.le_refl _) aB rfl;go_enter func104,ntmps104;go_wp2;go_ret;exact⟨_,rfl,⟨r,fun z n=>by simp at n;omega⟩,aJ (Below.refl _ _) _⟩
   have G:0<f:=by
    rcases PG f with e | e
    ·subst e;simp at hxf;omega
    exact e
   have M:(128:Int) ^ (f+1)=128 ^ f * 128:=Int.pow_succ ..;have K:=aI (fun W=>xI f (x / 128) W ⟨aA,aA⟩ aA G aA);have p:=Cd f (x / 128) G;have s:=jF f (x / 128);have H:=aI (Em f (x / 128) aA);rw[nW f aA];obtain⟨l,J⟩:=aG (vb f (x / 128));rw[J]at K p s H ⊢;clear J M hxf;have q:x % 128+128<256:=aA;have r:=aI (World.ownsRow_lit (base:=w.heap.size) (e:=5) (size:=1) w #[.int .u8 (x % 128+128)] 1 (Nat.le_refl _) aB rfl);go_enter func104,ntmps104;go_wp2_with fail;refine(K _).mono ?_;rintro e U ⟨V,rfl,E,b1⟩;obtain⟨g,cap,rfl,R,S⟩:=E.row.form p;have N:=aI (E.row.cells (g:=g) rfl);have I:=aI (nJ r b1);have m:=aN (aJ (Below.refl w.heap.size w) (.cells #[.int .u8 (x % 128+128)] 5)) b1;have y:=aI m;have A:=m.size;clear E b1 m r;go_wp2_with(at_builtin;refine wpList_append_own_at _ rfl _ _ 33 rfl w.heap.size 5 Q (.int .u8 0) 1 1 underlying33 hi B C D rfl aB _ _ _ rfl I ⟨g,0,none⟩ l.length cap (l.map (Value.int .u8)) rfl ?z0 N ?z2 ?z3 ?z4 ?z5 ?_)
   case z0=>simp
   case z2=>intro u L;simp at L;obtain⟨_,_,rfl⟩:=L;rfl
   case z3=>unfold maxLen;omega
   case z4=>omega
   case z5=>omega
   intro F X j b _ _;have O:=aI j;have P:=aI b;clear j b;go_wp2;go_ret;exact⟨_,rfl,⟨by simpa[Nat.add_comm]using O.out,fun z n=>by
     simp at n;rcases n with rfl | n
     ·omega
     exact H z n⟩,y.grown P A (fun q T=>(I.lt q T).1)⟩
def IQ (xs ys:List Int):Bool:=decide (xs=ys)
theorem Wg{xs ys:List Int}(b:xs.length=ys.length)(h:∀i,i<xs.length→xs.getD i 0=ys.getD i 0):xs=ys:=by
 refine List.ext_getElem b fun i h1 h2=>?_;have:=h i h1;simpa[List.getD,List.getElem?_eq_getElem h1,List.getElem?_eq_getElem h2]using this
theorem Rh(a K:Option Addr)(len cap j u:Nat)(xs ys:List Int)(w:World)(h:Ints .u8 w a len xs)(z:Ints .u8 w K j ys) :
  Calls prog 183 #[.slice a len cap,.slice K j u] w fun e w'=>e=.returned (.bool (IQ xs ys))∧Below w.heap.size w w':=by
 have H:=aI h;have L:=aI z;have A:=aI h.length;have p:=aI z.length;have O:=h.most;have M:=z.most;clear h z;by_cases hn:len=j
 ·subst hn;go_enter func183,ntmps183;go_wp2;go_loopw [13] (fun c wr=>∃k:Nat,k≤len∧c=.int .i64 k∧(∀i,i<k→xs.getD i 0=ys.getD i 0)∧Below w.heap.size w wr)
   (fun c _=>len-(intOf c).toNat)
  case atStart=>exact⟨0,Nat.zero_le _,rfl,(fun i h=>absurd h aA),Below.refl _ _⟩
  obtain⟨k,R,rfl,hs,s⟩:=hrel;have D:=aI hs;clear hs;by_cases hlt:k<len
  ·obtain⟨b,off,rfl,N,n⟩:=(H.below s).cells k hlt;obtain⟨S,I,rfl,J,l⟩:=(L.below s).cells k hlt;have P:(0:Int)≤(k:Int):=aA;have Q:(k:Int)<(len:Int):=aA;obtain⟨x,B⟩:=aH (xs.getD k 0);obtain⟨y,C⟩:=aH (ys.getD k 0);rw[← B]at n;rw[← C]at l;have E:=aI B;have F:=aI C;clear B C;by_cases hxy:x=y
   ·subst hxy;have G:((x:Int) != x)=false:=aD;go_wp2;go_quiet (fail);go_wp2;go_roundw
    case rel=>exact⟨k+1,aA,by go_num,(fun i hi=>by
     by_cases e:i=k
     ·subst e;rw[← E.out,← F.out]
     exact D i aA),aU s _⟩
    simp[intOf];omega
   have G:((x:Int) != y)=true:=by simp[hxy]
   have m:=aI (show IQ xs ys=false from decide_eq_false (fun e=>hxy (by rw[E.out,F.out,e])));clear hxy;go_wp2;go_quiet (fail);go_wp2;go_ret;exact⟨iC m.symm,aU s _⟩
  obtain rfl:k=len:=aA;have r:=aI (show IQ xs ys=true from decide_eq_true (Wg (A.trans p.symm) (fun i hi=>D i (by rw[A.out]at hi;exact hi))));go_wp2;go_ret;exact⟨iC r.symm,s⟩
 have G:((len:Int) != (j:Int))=true:=by simp;omega
 have m:=aI (show IQ xs ys=false from decide_eq_false (fun e=>hn (by rw[← A.out,← p.out,e])));go_enter func183,ntmps183;go_wp2;go_ret;exact⟨iC m.symm,Below.refl _ _⟩
end Go.Proofs.YtbkkolfpegplgaaGreatDoor
