import Derived.Test.YtbkkolfpegplgaaGreatDoorTG15
import Derived.Test.YtbkkolfpegplgaaGreatDoorTG10
open Int renaming pow_succ→PC,toNat_natCast→PD
open List renaming drop_eq_getElem_cons→PE,getElem?_eq_getElem→PF,take_succ_cons→PG
open Nat renaming zero_add→PH,eq_zero_or_pos→PI
namespace Go.Proofs.YtbkkolfpegplgaaGreatDoor
open Go.RowKit
def pw:Nat→Int
 | 0=>1
 | k+1=>pw k * 128
theorem Cy:∀k,pw k=2 ^ (7 * k)
 | 0=>rfl
 | k+1=>by rw[pw,Cy k,show 7 * (k+1)=7 * k+7 by omega,Int.pow_add];rfl
theorem Ul:∀k,0<pw k
 | 0=>by decide
 | k+1=>by have:=Ul k;unfold pw;omega
theorem rT{x c:Int}{k:Nat}(A:k≤9)(l:0≤x)(u:x<pw k)(m:0≤c)(n:c≤255)(y:c % 128 * pw k<18446744073709551616):fN x k c=x+c % 128 * pw k:=by
 rw[Un x k c m n,show(7 * (k:Int)).toNat=7 * k by omega,← Cy];have z:=Ul k;have b:0≤c % 128 * pw k:=Int.mul_nonneg aA aA;rw[IntWalk.u64_in _ aA];have j:x<18446744073709551616:=by
  have:pw k≤9223372036854775808:=by
   rcases(show k=0∨k=1∨k=2∨k=3∨k=4∨k=5∨k=6∨k=7∨k=8∨k=9 by omega)with rfl | rfl | rfl | rfl | rfl | rfl | rfl | rfl | rfl | rfl<;>decide
  omega
 rw[u64_or x _ l j b y];have p:(c % 128 * pw k).toNat=2 ^ (7 * k) * (c % 128).toNat:=by
  rw[Cy,Int.mul_comm];obtain⟨d,s⟩:∃d:Nat,c % 128=d:=⟨(c % 128).toNat,aA⟩;rw[s,PD,show((2:Int) ^ (7 * k))=((2 ^ (7 * k):Nat):Int) by push_cast;rfl,← Int.natCast_mul,PD]
 have r:x.toNat<2 ^ (7 * k):=by
  rw[Cy]at u;have:((2 ^ (7 * k):Nat):Int)=2 ^ (7 * k):=by push_cast;rfl
  omega
 rw[p,Nat.or_comm,← Nat.two_pow_add_eq_or_of_lt r,← p];omega
theorem Za(k:Nat):pw (k+1)=pw k * 128:=rfl
theorem tU{k:Nat}(h:k≤9):k=0∨k=1∨k=2∨k=3∨k=4∨k=5∨k=6∨k=7∨k=8∨k=9:=aA
theorem GK:pw 0=1:=rfl
theorem LF:pw 1=128:=rfl
theorem LD:pw 2=16384:=rfl
theorem LC:pw 3=2097152:=rfl
theorem KZ:pw 4=268435456:=rfl
theorem KY:pw 5=34359738368:=rfl
theorem KX:pw 6=4398046511104:=rfl
theorem JZ:pw 7=562949953421312:=rfl
theorem JY:pw 8=72057594037927936:=rfl
theorem JN:pw 9=9223372036854775808:=rfl
theorem GV:pw 10=1180591620717411303424:=rfl
theorem AY{k:Nat}{y:Int}(l:k≤9)(h0:0≤y)(m:y<128)(b:y * pw k<18446744073709551616):¬(1<y∧(k:Int)=9):=by
 rintro⟨h1,j⟩;obtain rfl:k=9:=aA;rw[JN]at b;omega
theorem AX{k:Nat}{y:Int}(b:k≤9)(j:128≤y)(l:y * pw k<18446744073709551616):k≤8∧y % 128 * pw k<18446744073709551616∧y / 128 * pw (k+1)<18446744073709551616∧y % 128 * pw k+y / 128 * pw (k+1)=y * pw k:=by
 rcases tU b with rfl | rfl | rfl | rfl | rfl | rfl | rfl | rfl | rfl | rfl<;>simp only[GK,LF,LD,LC,KZ,KY,KX,JZ,JY,JN,GV,Nat.reduceAdd,PH]at *<;>omega
theorem Xn{k:Nat}{x d:Int}(b:k≤9)(h0:0≤x)(j:x<pw k)(l:0≤d)(m:d<128):0≤x+d * pw k∧x+d * pw k<pw (k+1):=by
 rcases tU b with rfl | rfl | rfl | rfl | rfl | rfl | rfl | rfl | rfl | rfl<;>simp only[GK,LF,LD,LC,KZ,KY,KX,JZ,JY,JN,GV,Nat.reduceAdd,PH]at *<;>omega
theorem tW(zs:List Int)(a k:Nat):kR zs a (k+1)=fN (kR zs a k) k (aW zs (a+k)):=rfl
theorem Fs(L:List Int)(a:Nat):∀(f:Nat) (y:Int) (k:Nat),0≤y→y<128 ^ f→0<f→k≤9→y * pw k<18446744073709551616→(k=0∨0<y) →
  (∀j,j<(vb f y).length→aW L (a+(k+j))=(vb f y).getD j 0)→a+(k+(vb f y).length)≤L.length→Opens L a k→0≤kR L a k→kR L a k<pw k →
  ∃K,K+1=k+(vb f y).length∧qG L a K∧dQ K (aW L (a+K))=1∧kR L a (K+1)=kR L a k+y * pw k
 | 0,_,_,_,_,h,_,_,_,_,_,_,_,_=>absurd h (by omega)
 | f+1,y,k,h0,hf,_,hk,hw,hz,hb,hl,ho,ha0,ha1=>by
   by_cases hs:y<128
   ·rw[gX f hs]at hb hl ⊢;have b:aW L (a+k)=y:=hb 0 aD;have h1:dQ k y=1:=by
     unfold dQ;have:=AY hk h0 hs hw;rw[if_neg aA,if_pos hs]
    have m:y % 128=y:=aA;refine⟨k,aD,⟨by simp at hl;omega,ho,by rw[b,h1];decide⟩,by rw[b,h1],?_⟩;rw[tW,b,rT hk ha0 ha1 h0 aA (by rw[m];exact hw),m]
   obtain⟨r,s,u,C⟩:=AX hk aA hw;rw[nW f aA]at hb hl ⊢;have b:aW L (a+k)=y % 128+128:=hb 0 aD;have m:(y % 128+128) % 128=y % 128:=aA;have h1:dQ k (y % 128+128)=0:=by
    unfold dQ;rw[if_neg aA,if_neg aA]
   have l:kR L a (k+1)=kR L a k+y % 128 * pw k:=by
    rw[tW,b,rT hk ha0 ha1 aA aA (by rw[m];exact s),m]
   have p:0<f:=by
    rcases PI f with e | e
    ·subst e;simp at hf;omega
    exact e
   have B:(128:Int) ^ (f+1)=128 ^ f * 128:=PC ..;obtain⟨b1,b2⟩:=Xn hk ha0 ha1 (d:=y % 128) aA aA;obtain⟨K,D,z,n,A⟩:=Fs L a f (y / 128) (k+1) aA aA p aA u (.inr aA)
    (fun j E=>by
      have:=hb (j+1) (by simp;omega);rw[show a+(k+1+j)=a+(k+(j+1)) by omega,this];simp) (by simp at hl;omega) (ho.succ (by rw[b,h1])) (by rw[l];exact b1) (by rw[l];exact b2)
   refine⟨K,by simp;omega,z,n,?_⟩;rw[A,l];omega
def qw (k:Nat):Int:=2 ^ (64-7 * k)
theorem qs{k:Nat}(b:k≤8){c y:Int}(j:128≤c∧c≤255)(h0:0<y)(l:y<qw (k+1)):(c-128)+128 * y<qw k:=by
 rcases tU (show k≤9 by omega)with rfl | rfl | rfl | rfl | rfl | rfl | rfl | rfl | rfl | rfl<;>simp[qw]at *<;>omega
theorem qp{k:Nat}(b:k≤9){y:Int}(h0:0≤y)(j:y<qw k):y * pw k<18446744073709551616:=by
 rcases tU b with rfl | rfl | rfl | rfl | rfl | rfl | rfl | rfl | rfl | rfl<;>simp[qw,GK,LF,LD,LC,KZ,KY,KX,JZ,JY,JN]at *<;>omega
theorem CY{k:Nat}(b:k≤9){c:Int}(j:0≤c∧c<128)(l:¬(1<c∧(k:Int)=9)):c<qw k:=by
 rcases tU b with rfl | rfl | rfl | rfl | rfl | rfl | rfl | rfl | rfl | rfl<;>simp[qw]at *<;>omega
theorem AZ{k:Nat}(c y:Int):(c-128) * pw k+y * pw (k+1)=((c-128)+128 * y) * pw k:=by
 rw[Za,Int.add_mul,Int.mul_assoc 128 y,Int.mul_comm 128,Int.mul_assoc]
theorem El(L:List Int)(B:∀i,0≤aW L i∧aW L i≤255)(K:Nat)(hs:qG L 0 K)(h1:dQ K (aW L (0+K))=1):∀(m k:Nat),k+m=K→0≤kR L 0 k→kR L 0 k<pw k →
  ∃y,0≤y∧y<qw k∧y<128 ^ (m+1)∧(0<k→0<y)∧vb (m+1) y=(L.drop k).take (m+1)∧kR L 0 (K+1)=kR L 0 k+y * pw k
 | 0,k,hk,ha0,ha1=>by
   obtain rfl:k=K:=aA;have n:=hs.opens.most;have l:=hs.lt;rw[PH]at h1 l;obtain⟨A,r⟩:=DB h1;obtain⟨j,s⟩:=B k;have C:=CY n (c:=aW L k) ⟨j,r⟩ (fun e=>A (.inr e));have p:aW L k % 128=aW L k:=aA;refine⟨aW L k,j,C,(by rw[show(128:Int) ^ (0+1)=128 from rfl];exact r),fun M=>by
    rcases Int.lt_or_eq_of_le j with h | h
    ·exact h
    exact absurd (.inl ⟨h.symm,aA⟩) A,?_,?_⟩
   ·have:aW L k=L[k]' aA:=by simp[aW,List.getD,PF (show k<L.length by omega)]
    rw[gX 0 r,PE aA,PG,List.take_zero,this]
   rw[tW,PH,rT n ha0 ha1 j s (by rw[p];exact qp n j C),p]
 | m+1,k,hk,ha0,ha1=>by
   have n:=hs.opens.most;have l:=hs.lt;have u:=hs.opens k aA;rw[PH]at u;obtain⟨A,r⟩:=DC u;obtain⟨j,s⟩:=B k;have D:aW L k % 128=aW L k-128:=aA;have E:aW L k % 128 * pw k<18446744073709551616:=qp (k:=k) aA aA (by
    have:aW L k % 128<128:=aA;have F:k≤8:=aA;rcases tU (show k≤9 by omega)with rfl | rfl | rfl | rfl | rfl | rfl | rfl | rfl | rfl | rfl<;>simp[qw]at *<;>omega)
   have b:kR L 0 (k+1)=kR L 0 k+aW L k % 128 * pw k:=by
    rw[tW,PH,rT aA ha0 ha1 j s E]
   obtain⟨b1,b2⟩:=Xn (k:=k) aA ha0 ha1 (d:=aW L k % 128) aA aA;obtain⟨y,N,H,O,I,hv,J⟩:=El L B K hs h1 m (k+1) aA (by rw[b];exact b1) (by rw[b];exact b2);have z:=I aA;refine⟨(aW L k-128)+128 * y,aA,qs aA ⟨aA,s⟩ z H,(by
    have u:(128:Int) ^ (m+1+1)=128 ^ (m+1) * 128:=PC ..;omega),fun _=>aA,?_,?_⟩
   ·rw[nW (m+1) aA,PE aA,PG];have p:(aW L k-128+128 * y) % 128+128=L[k]' aA:=by
     have:aW L k=L[k]' aA:=by simp[aW,List.getD,PF (show k<L.length by omega)]
     rw[← this];omega
    have G:(aW L k-128+128 * y) / 128=y:=aA;rw[p,G,hv]
   rw[J,b,D,← AZ];omega
theorem Lt:∀(f:Nat) (y:Int),0≤y→y<128 ^ f→0<f→∀g,f≤g→vb g y=vb f y
 | 0,_,_,_,h,_,_=>absurd h (by omega)
 | f+1,y,h0,hf,_,g,hg=>by
   obtain⟨b,rfl⟩:∃b,g=b+1:=⟨g-1,aA⟩;by_cases hs:y<128
   ·rw[gX b hs,gX f hs]
   rw[nW b aA,nW f aA];have l:(128:Int) ^ (f+1)=128 ^ f * 128:=PC ..;have j:0<f:=by
    rcases PI f with e | e
    ·subst e;simp at hf;omega
    exact e
   rw[Lt f (y / 128) aA aA j b aA]
theorem Kb(L:List Int)(m:∀i,0≤aW L i∧aW L i≤255)(K:Nat)(hs:qG L 0 K)(h1:dQ K (aW L (0+K))=1):aL (kR L 0 (K+1))∧vb 10 (kR L 0 (K+1))=L.take (K+1):=by
 obtain⟨y,b,r,j,_,hv,l⟩:=El L m K hs h1 K 0 aA (Int.le_refl _) (show(0:Int)<1 by decide);have n:=hs.opens.most;have e:kR L 0 (K+1)=y:=by rw[l,GK];show 0+y * 1=y;omega
 have p:qw 0=18446744073709551616:=aB;rw[e,Lt (K+1) y b j aA 10 aA,hv];exact⟨⟨b,aA⟩,aD⟩
end Go.Proofs.YtbkkolfpegplgaaGreatDoor
