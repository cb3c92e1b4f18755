import Derived.Test.YtbkkolfpegplgaaGreatDoorTG54
open Go.IntKind renaming signed→PC,bits→PD,min→PE,max→PF
set_option maxHeartbeats 12800000
set_option maxRecDepth 100000
set_option linter.unusedVariables false
set_option linter.unusedSimpArgs false
namespace Go.Proofs.YtbkkolfpegplgaaGreatDoor
open Go Go.RowKit
theorem topChanges_walk(v:Value)(l:List FV)(x y:Int)(w:World)(hk:KnwAt w v l∧iH v∧l.length≤9223372036854775807)(hx:(Lit.int .u16 x).wf=true)(hy:(Lit.int .u8 y).wf=true)(hg:Laid w) :
  Calls Tryz.prog 5 #[v,.int .u16 x,.int .u8 y] w fun e w'=>e=.returned (.bool true)∧Below w.heap.size w w':=by
 have X:0≤x∧x≤65535:=by simp[Lit.wf,PE,PF,PC,PD]at hx;omega
 have Y:0≤y∧y≤255:=by simp[Lit.wf,PE,PF,PC,PD]at hy;omega
 have H:=aI hg;obtain⟨E,N,O⟩:=hk;obtain⟨a,cap,rfl⟩:=Aq E;obtain⟨n,en⟩:=aG l.length;rw[en]at E N O ⊢;have HK:=aI E;have HN:=aI N;have HM:=aI O;have EN:=aI en;have HX:=aI X;have HY:=aI Y;clear E N O en hg hx hy X Y;go_enter Tryz.func5,Tryz.ntmps5;go_wp2_with fail;obtain⟨w1,F⟩:=aG (w.alloc (.cells #[.slice a n cap] 23));have B1:=aI (show Below w.heap.size w w1 from by rw[← F];exact aJ (Below.refl _ _) _);have Z:w1.heap[w.heap.size]?=some (.cells #[.slice a n cap] 23 (0,0)):=by rw[← F];exact aK _ _ rfl
 have A0:KnsAt w1 (some ⟨w.heap.size,0,none⟩) 1 [(.slice a n cap,l)]:=by
  refine⟨rfl,aB,fun p hp=>?_,fun i hi=>⟨w.heap.size,0,rfl,aO Z,?_⟩⟩
  ·simp at hp;subst hp;exact⟨HK.below B1,HN,by rw[EN.out];exact HM⟩
  match i,hi with
  | 0,_=>simp[World.cell?,Z,List.getD]
 rw[F];refine(Pj _ 1 1 _ w1 A0).mono ?_;clear A0 Z F;rintro e w2 ⟨⟨bb,rfl,P⟩,A8⟩;have C:=aI (B1.trans (A8.mono B1.size));clear A8;have D:=aI (fun W (hW:Below w.heap.size w W)=>Tt W (H.below hW))
 cases bb with
 | false=>
   clear P;go_wp2_with fail;refine(D _ C).mono ?_;rintro e w3 ⟨rfl,b⟩;have K:=aI (C.trans (b.mono C.size));clear b;go_wp2;go_ret;exact⟨rfl,K⟩
 | true=>
   have GD:=aI (show GoodK l from P rfl (.slice a n cap,l) aD);clear P;by_cases hy0:y=0
   ·have d1:(y == 0)=true:=by simp[hy0]
    have d2:decide (y=0)=true:=by simp[hy0]
    clear hy0;go_wp2_with fail;refine(D _ C).mono ?_;rintro e w3 ⟨rfl,b⟩;have K:=aI (C.trans (b.mono C.size));clear b;go_wp2;go_ret;exact⟨rfl,K⟩
   have d1:(y == 0)=false:=by simp[hy0]
   have d2:decide (y=0)=false:=by simp[hy0]
   have C7:=aI hy0;clear hy0;have KC:=aI (Ip (.slice a n cap) l w2 (HK.below C) GD);go_wp2_with fail;refine KC.mono ?_;rintro e w3 ⟨v3,c,rfl,Q,R,A9,b⟩;have SC:=aI R;have KN:=aI A9;have K:=aI (C.trans (b.mono C.size));have KB:=aI (Ir v3 c w3 Q.know R);obtain⟨a3,c3,rfl,_⟩:=aY Q.row;clear Q R A9 b d1 d2;go_wp2_with fail;refine KB.mono ?_;rintro e w4 ⟨v4,rfl,j,B0⟩;have B4:=aI (K.trans (B0.mono K.size));obtain⟨zs,s⟩:=aG (bL (sR c));have EZ:=aI s;have A1:zs.length+100≤1000000000:=by rw[← s];have:=dI (sR c);have:=SC.nums.1;omega
   have A2:1≤zs.length:=by rw[← s];exact Ye c
   rw[s]at j;obtain⟨m,V⟩:=aG zs.length;have EM:=aI V;rw[V]at A1 A2;have A3:=aI (show w.heap.size≤w3.heap.size from K.size);have I:w4.ownsRow w3.heap.size 5 1 v4 zs.length (zs.map (Value.int .u8)):=j.row;rcases fF I with⟨_,h0,_⟩ | ⟨g,cb,e4,hg1,hg2,hcb,_,_⟩
   ·omega
   subst e4;rw[V]at j hcb ⊢;obtain⟨i,ei⟩:=aG ((x % (m:Int)).toNat:Nat);have A4:=HX.out;have L:(i:Int)=x % (m:Int):=by rw[← ei];have:=Int.emod_nonneg x (show(m:Int)≠0 by omega);omega
   have J:i<m:=by have:=Int.emod_lt_of_pos x (show(0:Int)<(m:Int) by omega);omega
   obtain⟨c0,f0⟩:=Qf j V J;have A5:0≤zs.getD i 0∧zs.getD i 0≤255:=j.bytes _ (by rw[List.getD,List.getElem?_eq_getElem aA,Option.getD_some];exact List.getElem_mem _);obtain⟨z',B5,B9,C0,C1⟩:=Sf A5 HY C7;have A6:=aI (CX (zs:=zs) (i:=i) aA C1);have O5:=aI (Uz (z':=z') j V J ⟨B9,C0⟩);obtain⟨z,ez⟩:=aG (zs.getD i 0);rw[ez]at c0 B5;have Z:IntKind.i64.wrap x=x:=by rw[IntKind.wrap_i64];omega
   have q2:x.tmod (m:Int)=(i:Int):=by rw[Int.tmod_eq_emod_of_nonneg HX.1,L]
   have q3:x % (m:Int)=(i:Int):=L.symm;have q4:¬(m:Int)=0:=aA;have q5:((m:Int) == 0)=false:=by simp;omega
   have q6:(i:Int)<(m:Int):=aA;have q7:(0:Int)≤(i:Int):=aA;have q8:¬m=0:=aA;have BS:=aI (show Below w.heap.size w (w4.setCell ⟨g,i,none⟩ (.int .u8 z'))from fO B4 (p:=⟨g,i,none⟩) (by have:=A3.out;show w.heap.size≤g;omega) _);have SZ:=aI A1;have C8:=aI hcb;have C9:=aI A4;clear j I A5 B9 C0 C1 ez ei V s B0 L A4 hg1 hg2;go_wp2_with fail;obtain⟨w5,C2⟩:=aG (w4.setCell ⟨g,i,none⟩ (.int .u8 z'));rw[C2]at O5 BS ⊢;obtain⟨zs',u⟩:=aG (zs.set i z');rw[u]at A6 O5;have M:zs'.length=m:=by rw[← u,List.length_set];exact EM
   obtain⟨o,A⟩:=Tw Qq zs' aA;obtain⟨ab,D4,eb,S,_⟩:=O5.ints aA;rw[M]at eb S;injection eb with eb1 _ _;subst eb1;have D1:=aI (Le (some ⟨g,0,none⟩) m cb zs' o w5 (H.below BS) S C8 aA A);have A7:=aI A;have HL:=aI M;clear C2 u A S M c0 f0 Z q2 q3 q4 q5 q8 B5 KB KC;refine D1.mono ?_;clear D1;rintro e w6 ⟨C3,hR⟩;have U:=aI (BS.trans (C3.mono BS.size));clear C3
   cases o with
   | error pe=>
     obtain⟨ce,ae⟩:=pe;obtain rfl:e=.returned (.tuple #[.slice none 0 0,.iface 107 (.agg #[.int .i64 ce,.int .i64 ae])]):=hR;go_wp2_with fail;refine(D _ U).mono ?_;rintro e w7 ⟨rfl,B⟩;have B7:=aI (U.trans (B.mono U.size));clear B;go_wp2;go_ret;exact⟨rfl,B7⟩
   | ok k'=>
     obtain⟨v6,l6,rfl,G,C4⟩:=wD hR;obtain⟨vs,ss,T,e1,e2⟩:=Qk (Dw O5.bytes) A7;have E6:l6.map FV.frag=kH vs ss:=C4.trans e1;have hn:(lE vs ss).length≤1000000000:=by
      have h1:=uT (lE vs ss);rw[← e2,HL.out]at h1;have:=SZ.out;omega
     have BG:=FU T hn E6;have NE:=aI (show ¬∀x r q,fH (l.map FV.frag) x r q↔fH (l6.map FV.frag) x r q from fun hq=>by
      have h1:=Jm SC T E6 (fun x r q=>(KN x r q).trans (hq x r q));rw[← e2,EZ.out]at h1;exact A6 h1)
     have KR:=aI (Gl (HK.below U) HN GD G.know G.nilOk BG);obtain⟨a6,c6,rfl,_⟩:=aY G.row;clear hR G C4 T e1 e2 E6 hn BG;go_wp2_with fail;refine KR.mono ?_;rintro e w7 ⟨nn,rfl,C5,B⟩;have NZ:=aI (show ¬nn=0 from fun h=>NE (C5 h));have B7:=aI (U.trans (B.mono U.size));clear B C5;go_wp2_with fail;refine(D _ B7).mono ?_;rintro e w8 ⟨rfl,C6⟩;have B8:=aI (B7.trans (C6.mono B7.size));have nz:=NZ.out;have D0:(nn == 0)=false:=by simp[nz]
     have D2:decide (nn=0)=false:=by simp[nz]
     have D3:(nn != 0)=true:=by simp[nz]
     clear C6;go_wp2;go_ret;exact⟨by first | rfl | simp[nz],B8⟩
end Go.Proofs.YtbkkolfpegplgaaGreatDoor
