/- The plain law of the numbers' bytes: what is written is read back, and what is read is what is written. -/
import Derived.Test.YtbkkolfpegplgaaGreatDoorS3G15
import Derived.Test.YtbkkolfpegplgaaGreatDoorS3G10
import Derived.Laws.BitsAllLaws
namespace Go.Proofs.YtbkkolfpegplgaaGreatDoor
open Go.RowKit
def pw:Nat→Int
 | 0=>1
 | k+1=>pw k * 128
theorem pw_two:∀k,pw k=2 ^ (7 * k)
 | 0=>rfl
 | k+1=>by rw[pw,pw_two k,show 7 * (k+1)=7 * k+7 by omega,Int.pow_add];rfl
theorem pw_pos:∀k,0<pw k
 | 0=>by decide
 | k+1=>by have:=pw_pos k;unfold pw;omega
theorem putX_add{x c:Int}{k:Nat}(hk:k≤9)(hx0:0≤x)(hx:x<pw k)(hc0:0≤c)(hc1:c≤255)(hw:c % 128 * pw k<18446744073709551616):putX x k c=x+c % 128 * pw k:=by
 rw[putX_mod x k c hc0 hc1,show(7 * (k:Int)).toNat=7 * k by omega,← pw_two];have hp:=pw_pos k;have hd0:0≤c % 128 * pw k:=Int.mul_nonneg (by omega) (by omega);rw[IntWalk.u64_in _ (by omega)];have hxw:x<18446744073709551616:=by
  have:pw k≤9223372036854775808:=by
   rcases(show k=0∨k=1∨k=2∨k=3∨k=4∨k=5∨k=6∨k=7∨k=8∨k=9 by omega)with rfl | rfl | rfl | rfl | rfl | rfl | rfl | rfl | rfl | rfl<;>decide
  omega
 rw[u64_or x _ hx0 hxw hd0 hw];have e1:(c % 128 * pw k).toNat=2 ^ (7 * k) * (c % 128).toNat:=by
  rw[pw_two,Int.mul_comm];obtain⟨d,hd⟩:∃d:Nat,c % 128=d:=⟨(c % 128).toNat,by omega⟩;rw[hd,Int.toNat_natCast,show((2:Int) ^ (7 * k))=((2 ^ (7 * k):Nat):Int) by push_cast;rfl,← Int.natCast_mul,Int.toNat_natCast]
 have e2:x.toNat<2 ^ (7 * k):=by
  rw[pw_two]at hx;have:((2 ^ (7 * k):Nat):Int)=2 ^ (7 * k):=by push_cast;rfl
  omega
 rw[e1,Nat.or_comm,← Nat.two_pow_add_eq_or_of_lt e2,← e1];omega
theorem cases9{k:Nat}(h:k≤9):k=0∨k=1∨k=2∨k=3∨k=4∨k=5∨k=6∨k=7∨k=8∨k=9:=by omega
theorem pw0:pw 0=1:=rfl
theorem pw1:pw 1=128:=rfl
theorem pw2:pw 2=16384:=rfl
theorem pw3:pw 3=2097152:=rfl
theorem pw4:pw 4=268435456:=rfl
theorem pw5:pw 5=34359738368:=rfl
theorem pw6:pw 6=4398046511104:=rfl
theorem pw7:pw 7=562949953421312:=rfl
theorem pw8:pw 8=72057594037927936:=rfl
theorem pw9:pw 9=9223372036854775808:=rfl
theorem pw10:pw 10=1180591620717411303424:=rfl
theorem ar_last{k:Nat}{y:Int}(hk:k≤9)(h0:0≤y)(hy:y<128)(hw:y * pw k<18446744073709551616):¬(1<y∧(k:Int)=9):=by
 rintro⟨h1,h9⟩;obtain rfl:k=9:=by omega
 rw[pw9]at hw;omega
theorem ar_more{k:Nat}{y:Int}(hk:k≤9)(hy:128≤y)(hw:y * pw k<18446744073709551616):k≤8∧y % 128 * pw k<18446744073709551616∧y / 128 * pw (k+1)<18446744073709551616∧y % 128 * pw k+y / 128 * pw (k+1)=y * pw k:=by
 rcases cases9 hk with rfl | rfl | rfl | rfl | rfl | rfl | rfl | rfl | rfl | rfl<;>simp only[pw0,pw1,pw2,pw3,pw4,pw5,pw6,pw7,pw8,pw9,pw10,Nat.reduceAdd,Nat.zero_add]at *<;>omega
theorem ar_acc{k:Nat}{x d:Int}(hk:k≤9)(h0:0≤x)(hx:x<pw k)(d0:0≤d)(d1:d<128):0≤x+d * pw k∧x+d * pw k<pw (k+1):=by
 rcases cases9 hk with rfl | rfl | rfl | rfl | rfl | rfl | rfl | rfl | rfl | rfl<;>simp only[pw0,pw1,pw2,pw3,pw4,pw5,pw6,pw7,pw8,pw9,pw10,Nat.reduceAdd,Nat.zero_add]at *<;>omega
theorem acc_at(zs:List Int)(a k:Nat):acc zs a (k+1)=putX (acc zs a k) k (byteAt zs (a+k)):=rfl
theorem reads_vb(L:List Int)(a:Nat):∀(f:Nat) (y:Int) (k:Nat),0≤y→y<128 ^ f→0<f→k≤9→y * pw k<18446744073709551616→(k=0∨0<y) →
  (∀j,j<(vb f y).length→byteAt L (a+(k+j))=(vb f y).getD j 0)→a+(k+(vb f y).length)≤L.length→Opens L a k→0≤acc L a k→acc L a k<pw k →
  ∃K,K+1=k+(vb f y).length∧Stops L a K∧putS K (byteAt L (a+K))=1∧acc L a (K+1)=acc L a k+y * pw k
 | 0,_,_,_,_,h,_,_,_,_,_,_,_,_=>absurd h (by omega)
 | f+1,y,k,h0,hf,_,hk,hw,hz,hb,hl,ho,ha0,ha1=>by
   by_cases hs:y<128
   ·rw[z4p f hs]at hb hl ⊢
    have hbk:byteAt L (a+k)=y:=hb 0 (by simp);have h1:putS k y=1:=by
     unfold putS;have:=ar_last hk h0 hs hw;rw[if_neg (by omega),if_pos hs]
    have e1:y % 128=y:=by omega
    refine⟨k,by simp,⟨by simp at hl;omega,ho,by rw[hbk,h1];decide⟩,by rw[hbk,h1],?_⟩;rw[acc_at,hbk,putX_add hk ha0 ha1 h0 (by omega) (by rw[e1];exact hw),e1]
   ·obtain⟨hk8,m1,m2,m3⟩:=ar_more hk (by omega) hw
    rw[vb_big f (by omega)]at hb hl ⊢;have hbk:byteAt L (a+k)=y % 128+128:=hb 0 (by simp);have e1:(y % 128+128) % 128=y % 128:=by omega
    have h1:putS k (y % 128+128)=0:=by
     unfold putS;rw[if_neg (by omega),if_neg (by omega)]
    have hacc:acc L a (k+1)=acc L a k+y % 128 * pw k:=by
     rw[acc_at,hbk,putX_add hk ha0 ha1 (by omega) (by omega) (by rw[e1];exact m1),e1]
    have hg:0<f:=by
     rcases Nat.eq_zero_or_pos f with e | e
     ·subst e;simp at hf;omega
     ·exact e
    have hp:(128:Int) ^ (f+1)=128 ^ f * 128:=Int.pow_succ ..;obtain⟨b1,b2⟩:=ar_acc hk ha0 ha1 (d:=y % 128) (by omega) (by omega);obtain⟨K,hK,hS,h1K,hA⟩:=reads_vb L a f (y / 128) (k+1) (by omega) (by omega) hg (by omega) m2 (.inr (by omega))
     (fun j hj=>by
       have:=hb (j+1) (by simp;omega);rw[show a+(k+1+j)=a+(k+(j+1)) by omega,this];simp) (by simp at hl;omega) (ho.succ (by rw[hbk,h1])) (by rw[hacc];exact b1) (by rw[hacc];exact b2)
    refine⟨K,by simp;omega,hS,h1K,?_⟩;rw[hA,hacc];omega
def qw (k:Nat):Int:=2 ^ (64-7 * k)
theorem qs{k:Nat}(hk:k≤8){c y:Int}(hc:128≤c∧c≤255)(h0:0<y)(hy:y<qw (k+1)):(c-128)+128 * y<qw k:=by
 rcases cases9 (show k≤9 by omega)with rfl | rfl | rfl | rfl | rfl | rfl | rfl | rfl | rfl | rfl<;>simp[qw]at *<;>omega
end Go.Proofs.YtbkkolfpegplgaaGreatDoor
