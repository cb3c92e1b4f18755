import Derived.Test.YtbkkolfpegplgaaGreatDoorTG1
import Derived.Sort.WalkA6
import Derived.Sort.WalkB3
open Go.Calls renaming quiet_of_same→PC
open Go.Exit renaming inBlock→PD
open Go.Sort renaming ahead→PG,partialInsertionSort→PH,insertionSort→PI
open Go.Value renaming int→PJ
open Nat renaming le_refl→PM
open Or renaming inr→PN,inl→PO
open Go.Proofs.Tryz
set_option maxHeartbeats 3200000
set_option maxRecDepth 100000
set_option linter.unusedVariables false
set_option linter.unusedSimpArgs false
namespace Go.Proofs.YtbkkolfpegplgaaGreatDoor
open Go Go.RowKit Go.Sort
abbrev bO:Int→Value:=fun x=>PJ .u64 x
theorem sX(x:Int)(w:World):Calls prog 150 #[.int .u64 x] w fun e w'=>e=.returned (.bool false)∧w'=w:=by
 go_enter func150,ntmps150;go_wp2;go_ret;exact⟨aD,rfl⟩
theorem aQ(x y:Int)(w:World):Calls prog 229 #[.int .u64 x,.int .u64 y] w fun e w'=>e=.returned (.bool (Sort.ltInt x y))∧w'=w:=by
 go_enter func229,ntmps229;go_wp2_with(go_at_call 150;refine(sX _ _).mono ?_;rintro e w' ⟨rfl,rfl⟩);go_ret;exact⟨rfl,rfl⟩
theorem nX(blk off cap a b:Nat)(d:Array Int)(w:World)(B:Holds (PJ .u64) w blk off d)(Z:a≤b)(hb:b≤d.size)(A0:d.size<4611686018427387904) :
  Calls prog 248 #[.slice (some ⟨blk,off,none⟩) d.size cap,.int .i64 a,.int .i64 b] w fun e w'=>
   e=.returned (.tuple #[])∧∃n,w'=putRow (PJ .u64) (PG w n) blk off (PI ltInt d a b):=by
 go_enter func248,ntmps248;go_wp2;go_loopw [6] (fun I wr=>∃(i n:Nat) (r:Array Int),I=.int .i64 i∧a<i∧i≤b+1∧r.size=d.size∧wr=putRow (PJ .u64) (PG w n) blk off r ∧
   insOuter ltInt a b i r=insOuter ltInt a b (a+1) d) (fun I _=>b+1-(intOf I).toNat)
 case atStart=>exact⟨a+1,0,d,by go_num,aA,aA,rfl,(putRow_self _ _ _ _ _ B).symm,rfl⟩
 obtain⟨i,n,r,rfl,T,U,F,V,O⟩:=hrel;have L:Hid (insOuter ltInt a b i r=insOuter ltInt a b (a+1) d):=O;clear O;go_wp2
 ·
  go_loopw [7] (fun J K=>∃(j m:Nat) (l:Array Int),J=.int .i64 j∧a≤j∧j≤i∧l.size=d.size∧K=putRow (PJ .u64) (PG w m) blk off l ∧
    insInner ltInt a j l=insInner ltInt a i r) (fun J _=>(intOf J).toNat)
  case atStart=>exact⟨i,n,r,rfl,aA,PM _,F,rfl,rfl⟩
  obtain⟨j,m,l,rfl,W,X,s,p,P⟩:=hrel;have C:i<b:=aF;obtain⟨G,H⟩:∃G:Nat→Int,∀t,G t=l[t]!:=⟨fun t=>l[t]!,fun _=>rfl⟩;have R:∀t,t<d.size→wr.cell? ⟨blk,off+t,none⟩=some (.int .u64 (G t)):=fun t Q=>by
   rw[p,H];exact cell?_putRow _ _ _ _ d l (holds_ahead _ _ _ _ _ _ B) s t aA
  have S:∀t,t<d.size→wr.frozen? ⟨blk,off+t,none⟩=false:=fun t Q=>by
   rw[p,frozen?_putRow];exact((holds_ahead _ _ m _ _ _ B) t Q).2
  have M:Hid (wr=putRow (PJ .u64) (PG w m) blk off l):=p;have y:Hid (∀t,G t=l[t]!):=H;have N:Hid (insInner ltInt a j l=insInner ltInt a i r):=P;clear p H P B;have out:(j≤a∨ltInt l[j]! l[j-1]! = false)→∀q,∃A Y u,PJ .i64 ((i:Int)+1)=.int .i64 (A:Nat)∧a<A∧A≤b+1∧u.size=d.size ∧
    wr.drewN q=putRow (PJ .u64) (PG w Y) blk off u∧insOuter ltInt a b A u=insOuter ltInt a b (a+1) d:=fun hs q=>
   ⟨i+1,m+q,l,by go_num,aA,aA,s,by rw[M.out];exact putRow_drewN _ _ _ _ _ _ _,
    by rw[← L.out,insOuter_go _ _ _ _ _ C,← N.out,insInner_stop _ _ _ _ hs]⟩
  have z:Hid _:=out;clear out;go_wp2;by_cases hja:a<j
  ·go_quiet (first | (go_at_call 229;refine PC (aQ _ _ _)))
   go_wp2
   ·
    have D:ltInt (G j) (G (j-1))=true:=aF;go_region
    all_goals go_wp2
    go_roundw
    case rel=>
     refine⟨j-1,m+(nq+1),swp l j (j-1),by congr 1;omega,aA,aA,by rw[size_swp];exact s,?_,?_⟩
     ·rw[M.out,y.out,y.out];exact swap_worldA _ w m (nq+1) blk off l j (j-1) aA aA
     rw[← N.out,insInner_go ltInt a j l hja (by rw[← y.out,← y.out];exact D)]
    simp[intOf];omega

   have D:ltInt (G j) (G (j-1))=false:=aF;go_roundw
   case rel=>exact z (PN (by rw[← y.out,← y.out];exact D)) nq
   simp[intOf];omega
  go_quiet (first | (go_at_call 229;refine PC (aQ _ _ _)))
  go_wp2;go_roundw
  case rel=>exact z (PO aA) nq
  simp[intOf];omega

 have E:¬i<b:=aF;go_end0;exact⟨rfl,n,by unfold PI;rw[← L.out,insOuter_stop _ _ _ _ _ E]⟩
set_option maxRecDepth 1000000 in
theorem pP(blk off cap:Nat)(d:Array Int)(a b:Nat)(w:World)(y:Holds bO w blk off d)(D:a≤b)(K:b≤d.size)(E:d.size<4611686018427387904) :
  Calls prog 252 #[.slice (some ⟨blk,off,none⟩) d.size cap,.int .i64 a,.int .i64 b] w fun e w'=>e=.returned (.tuple #[])∧∃n,w'=putRow bO (PG w n) blk off (reverseRange d a b):=by
 go_enter func252,ntmps252;go_wp2;go_loopg [6,7] (b-a) (fun k B C wr=>∃(i jn:Nat) (p:Int) (dk:Array Int) (n:Nat),B=.int .i64 i∧C=.int .i64 p∧((i:Int)<p→p=jn∧jn<d.size)∧(¬(i:Int)<p→¬i<jn)∧jn-i≤k ∧
  dk.size=d.size∧wr=putRow bO (PG w n) blk off dk∧reverseLoop i jn dk=reverseLoop a (b-1) d)
 case atStart=>exact⟨a,b-1,(b:Int)-1,d,0,rfl,rfl,fun h=>⟨aA,aA⟩,fun h=>aA,aA,rfl,(putRow_self bO w blk off d y).symm,rfl⟩
 obtain⟨i,jn,p,dk,n,rfl,rfl,h1,h2,F,s,m,j⟩:=hrel;by_cases hlt:(i:Int)<p
 ·obtain⟨rfl,z⟩:=h1 hlt;have u:i<jn:=aA;have l:Holds bO wr blk off dk:=by rw[m];exact holds_putRow bO _ blk off d dk (holds_ahead bO w n blk off d y) s
  obtain⟨G,H⟩:=l i aA;obtain⟨I,J⟩:=l jn aA;have A:Aside (wr=putRow bO (PG w n) blk off dk):=m;clear m l y h1 h2;go_wp2_with fail;go_region;go_wp2;go_roundg (jn-1-(i+1))
  case measure=>omega
  rw[reverseLoop,if_pos u]at j;exact⟨i+1,jn-1,(jn:Int)-1,swp dk i jn,n+1,aD,rfl,fun h=>⟨aA,aA⟩,fun h=>aA,PM _,by rw[size_swp];exact s,
   swap_world bO aA aA A (by simp[bO,getElem!_pos,show jn<dk.size by omega]) rfl,j⟩
 have r:=h2 hlt;go_wp2;go_end0;refine⟨rfl,n,?_⟩;rw[reverseLoop,if_neg r]at j;rw[reverseRange,← j]
set_option maxRecDepth 1000000 in
theorem jC(blk off len cap:Nat)(d:Array Int)(H:d.size=len)(lo hi first:Nat)(w:World)(K:Holds bO w blk off d)(L:lo≤hi)(S:first+hi≤d.size)(P:d.size<4611686018427387904) :
  Calls prog 264 #[.slice (some ⟨blk,off,none⟩) len cap,.int .i64 lo,.int .i64 hi,.int .i64 first] w fun e w'=>e=.returned (.tuple #[])∧∃n,w'=putRow bO (PG w n) blk off (siftDown ltInt hi first lo d):=by
 subst H;go_enter func264,ntmps264;go_wp2;go_loopg [8] (hi-lo) (fun k N wr=>∃(b:Nat) (dk:Array Int) (n:Nat),N=.int .i64 b∧b≤hi∧hi-b≤k∧dk.size=d.size∧wr=putRow bO (PG w n) blk off dk∧siftDown ltInt hi first b dk=siftDown ltInt hi first lo d)
 case atStart=>exact⟨lo,d,0,rfl,L,PM _,rfl,(putRow_self bO w blk off d K).symm,rfl⟩
 obtain⟨b,dk,n,rfl,Q,R,z,D,r⟩:=hrel;have C:Holds bO wr blk off dk:=by rw[D];exact holds_putRow bO _ blk off d dk (holds_ahead bO w n blk off d K) z
 have u:∀t,t<d.size→wr.cell? ⟨blk,off+t,none⟩=some (.int .u64 dk[t]!):=fun t O=>(C t aA).1;have y:∀t,t<d.size→wr.frozen? ⟨blk,off+t,none⟩=false:=fun t O=>(C t aA).2;have A:Aside (wr=putRow bO (PG w n) blk off dk):=D;clear D K C;by_cases h0:hi≤2 * b+1
 ·
  have I:(hi:Int)≤2 * (b:Int)+1:=aA;go_wp2;go_end0;refine⟨rfl,n,?_⟩;rw[A.out,← r,sd_end ltInt dk h0]

 have I:¬((hi:Int)≤2 * (b:Int)+1):=aA;by_cases h1:2 * b+2<hi
 ·have J:2 * (b:Int)+1+1<(hi:Int):=aA;go_wp2_with fail;go_big_quiet (first | (go_at_call 229;refine PC (aQ _ _ _)))
  go_wp2_with fail
  ·
   have E:ltInt dk[first+2 * b+1]! dk[first+2 * b+2]! = true:=aF
   revert nq;intro nq1
   have j:∀t,t<d.size→(wr.drewN nq1).cell? ⟨blk,off+t,none⟩=some (.int .u64 dk[t]!):=u;have l:∀t,t<d.size→(wr.drewN nq1).frozen? ⟨blk,off+t,none⟩=false:=y;have s:Aside (wr.drewN nq1=putRow bO (PG w (n+nq1)) blk off dk):=drewN_world bO A nq1;clear u y A;generalize wr.drewN nq1=wr2 at j l s ⊢;go_big_quiet (first | (go_at_call 229;refine PC (aQ _ _ _)))
   go_wp2_with fail
   ·
    have F:ltInt dk[first+b]! dk[first+2 * b+2]! = false:=by
     have:(!ltInt dk[first+b]! dk[first+2 * b+2]!)=true:=aF
     simpa using this
    (try simp only[PD,Exit.then]);refine bodyPost_ret (results_none rfl _ _ _) rfl ?_
    refine⟨rfl,n+nq1+nq,?_⟩;rw[drewN_world bO s.out nq,← r,sd_right_stop ltInt dk h1 E F]

   have G:ltInt dk[first+b]! dk[first+2 * b+2]! = true:=by
    have:(!ltInt dk[first+b]! dk[first+2 * b+2]!)=false:=aF
    simpa using this
   have m:∀t,t<d.size→(wr2.drewN nq).cell? ⟨blk,off+t,none⟩=some (.int .u64 dk[t]!):=j;have p:∀t,t<d.size→(wr2.drewN nq).frozen? ⟨blk,off+t,none⟩=false:=l;have B:Aside (wr2.drewN nq=putRow bO (PG w (n+nq1+nq)) blk off dk):=drewN_world bO s nq;clear j l s;generalize wr2.drewN nq=wr3 at m p B ⊢;go_region;go_wp2;go_roundg (hi-(2 * b+2))
   case measure=>omega
   refine⟨2 * b+2,swp dk (first+b) (first+(2 * b+1+1)),n+nq1+nq+1,by simp<;>omega,aA,PM _,by rw[size_swp];exact z,swap_world bO aA aA B rfl rfl,?_⟩;rw[← r,sd_right_go ltInt dk h1 E G]

  have E:ltInt dk[first+2 * b+1]! dk[first+2 * b+2]! = false:=aF
  revert nq;intro nq1
  have j:∀t,t<d.size→(wr.drewN nq1).cell? ⟨blk,off+t,none⟩=some (.int .u64 dk[t]!):=u;have l:∀t,t<d.size→(wr.drewN nq1).frozen? ⟨blk,off+t,none⟩=false:=y;have s:Aside (wr.drewN nq1=putRow bO (PG w (n+nq1)) blk off dk):=drewN_world bO A nq1;clear u y A;generalize wr.drewN nq1=wr2 at j l s ⊢;go_big_quiet (first | (go_at_call 229;refine PC (aQ _ _ _)))
  go_wp2_with fail
  ·
   have F:ltInt dk[first+b]! dk[first+2 * b+1]! = false:=by
    have:(!ltInt dk[first+b]! dk[first+2 * b+1]!)=true:=aF
    simpa using this
   (try simp only[PD,Exit.then]);refine bodyPost_ret (results_none rfl _ _ _) rfl ?_
   refine⟨rfl,n+nq1+nq,?_⟩;rw[drewN_world bO s.out nq,← r,sd_left_stop ltInt dk aA (fun _=>E) F]

  have G:ltInt dk[first+b]! dk[first+2 * b+1]! = true:=by
   have:(!ltInt dk[first+b]! dk[first+2 * b+1]!)=false:=aF
   simpa using this
  have m:∀t,t<d.size→(wr2.drewN nq).cell? ⟨blk,off+t,none⟩=some (.int .u64 dk[t]!):=j;have p:∀t,t<d.size→(wr2.drewN nq).frozen? ⟨blk,off+t,none⟩=false:=l;have B:Aside (wr2.drewN nq=putRow bO (PG w (n+nq1+nq)) blk off dk):=drewN_world bO s nq;clear j l s;generalize wr2.drewN nq=wr3 at m p B ⊢;go_region;go_wp2;go_roundg (hi-(2 * b+1))
  case measure=>omega
  refine⟨2 * b+1,swp dk (first+b) (first+(2 * b+1)),n+nq1+nq+1,by simp<;>omega,aA,PM _,by rw[size_swp];exact z,swap_world bO aA aA B rfl rfl,?_⟩;rw[← r,sd_left_go ltInt dk aA (fun _=>E) G]

 have J:decide (2 * (b:Int)+1+1<(hi:Int))=false:=decide_eq_false aA
 go_wp2_with fail;go_big_quiet (first | (go_at_call 229;refine PC (aQ _ _ _)))
 go_wp2_with fail;revert nq;intro nq1
 have j:∀t,t<d.size→(wr.drewN nq1).cell? ⟨blk,off+t,none⟩=some (.int .u64 dk[t]!):=u;have l:∀t,t<d.size→(wr.drewN nq1).frozen? ⟨blk,off+t,none⟩=false:=y;have s:Aside (wr.drewN nq1=putRow bO (PG w (n+nq1)) blk off dk):=drewN_world bO A nq1;clear u y A;generalize wr.drewN nq1=wr2 at j l s ⊢;go_big_quiet (first | (go_at_call 229;refine PC (aQ _ _ _)))
 go_wp2_with fail
 ·
  have F:ltInt dk[first+b]! dk[first+2 * b+1]! = false:=by
   have:(!ltInt dk[first+b]! dk[first+2 * b+1]!)=true:=aF
   simpa using this
  (try simp only[PD,Exit.then]);refine bodyPost_ret (results_none rfl _ _ _) rfl ?_
  refine⟨rfl,n+nq1+nq,?_⟩;rw[drewN_world bO s.out nq,← r,sd_left_stop ltInt dk aA (fun h=>absurd h h1) F]

 have G:ltInt dk[first+b]! dk[first+2 * b+1]! = true:=by
  have:(!ltInt dk[first+b]! dk[first+2 * b+1]!)=false:=aF
  simpa using this
 have m:∀t,t<d.size→(wr2.drewN nq).cell? ⟨blk,off+t,none⟩=some (.int .u64 dk[t]!):=j;have p:∀t,t<d.size→(wr2.drewN nq).frozen? ⟨blk,off+t,none⟩=false:=l;have B:Aside (wr2.drewN nq=putRow bO (PG w (n+nq1+nq)) blk off dk):=drewN_world bO s nq;clear j l s;generalize wr2.drewN nq=wr3 at m p B ⊢;go_region;go_wp2;go_roundg (hi-(2 * b+1))
 case measure=>omega
 refine⟨2 * b+1,swp dk (first+b) (first+(2 * b+1)),n+nq1+nq+1,by simp<;>omega,aA,PM _,by rw[size_swp];exact z,swap_world bO aA aA B rfl rfl,?_⟩;rw[← r,sd_left_go ltInt dk aA (fun h=>absurd h h1) G]
set_option maxRecDepth 1000000 in
theorem vI(blk off len cap:Nat)(d:Array Int)(H:d.size=len)(a b:Nat)(w:World)(I:Holds bO w blk off d)(L:a≤b)(U:b≤d.size)(T:d.size<4611686018427387904) :
  Calls prog 249 #[.slice (some ⟨blk,off,none⟩) len cap,.int .i64 a,.int .i64 b] w fun e w'=>e=.returned (.tuple #[])∧∃n,w'=putRow bO (PG w n) blk off (heapSort ltInt d a b):=by
 subst H;have r:((b-a:Nat):Int)=(b:Int)-(a:Int):=aA;go_enter func249,ntmps249;go_wp2;go_loopg [9] ((b-a-1) / 2+1) (fun k R wr=>R=.int .i64 ((k:Int)-1)∧k≤(b-a-1) / 2+1∧∃(dk:Array Int) (n:Nat),dk.size=d.size∧wr=putRow bO (PG w n) blk off dk ∧
  heapBuild ltInt (b-a) a k dk=heapBuild ltInt (b-a) a ((b-a-1) / 2+1) d)
 case atStart=>exact⟨by rw[half_start L],PM _,d,0,rfl,(putRow_self bO w blk off d I).symm,rfl⟩
 obtain⟨rfl,G,dk,n,z,D,E⟩:=hrel;have F:Holds bO wr blk off dk:=by rw[D];exact holds_putRow bO _ blk off d dk (holds_ahead bO w n blk off d I) z
 have A:Aside (wr=putRow bO (PG w n) blk off dk):=D;clear D
 cases gk with
 | zero=>
   have O:dk=heapBuild ltInt (b-a) a ((b-a-1) / 2+1) d:=E;clear E F G;go_wp2;go_loopg [10] (b-a) (fun k J K=>J=.int .i64 ((k:Int)-1)∧k≤b-a∧∃(dj:Array Int) (p:Nat),dj.size=d.size∧K=putRow bO (PG w p) blk off dj∧heapPop ltInt a k dj=heapPop ltInt a (b-a) dk)
   case atStart=>exact⟨by rw[r],PM _,dk,n,z,A,rfl⟩
   obtain⟨rfl,G,dj,p,l,u,y⟩:=hrel
   cases gk with
   | zero=>
     go_wp2;go_end0;refine⟨rfl,p,?_⟩;have e:dj=heapSort ltInt d a b:=by rw[heapSort,← O,← y];rfl
     rw[← e]
   | succ k=>
     have C:Holds bO wr blk off dj:=by rw[u];exact holds_putRow bO _ blk off d dj (holds_ahead bO w p blk off d I) l
     have P:∀t,t<d.size→wr.cell? ⟨blk,off+t,none⟩=some (.int .u64 dj[t]!):=fun t S=>(C t aA).1;have Q:∀t,t<d.size→wr.frozen? ⟨blk,off+t,none⟩=false:=fun t S=>(C t aA).2;have M:Aside (wr=putRow bO (PG w p) blk off dj):=u;clear u C;rcases Nat.eq_zero_or_pos k with hk0 | hkp
     ·subst hk0;go_wp2_with fail;go_region;go_wp2_with fail;rw[swap_world bO (i:=a) (j:=a) aA aA M.out rfl rfl];refine(jC blk off d.size cap (swp dj a (a)) (by rw[size_swp];exact l) 0 0 a _ (holds_putRow bO _ blk off d _ (holds_ahead bO w (p+1) blk off d I) (by rw[size_swp];exact l)) (Nat.zero_le _) (by rw[size_swp];omega) (by rw[size_swp];omega)).mono ?_;rintro e N ⟨rfl,m,B⟩;go_wp2;go_roundg 0
      case measure=>omega
      refine⟨aD,aA,siftDown ltInt 0 a 0 (swp dj a (a)),p+1+m,by rw[size_siftDown ltInt _ _ _ _ _ (PM _),size_swp];exact l,?_,y⟩;first
       | rw[B,putRow_ahead_putRow bO w (p+1) m blk off _ _ (size_siftDown ltInt _ _ _ _ _ (PM _))]
       | rw[putRow_ahead_putRow bO w (p+1) m blk off _ _ (size_siftDown ltInt _ _ _ _ _ (PM _))]
     skip
     go_wp2_with fail;go_region;go_wp2_with fail;rw[swap_world bO (i:=a) (j:=a+k) aA aA M.out rfl rfl];refine(jC blk off d.size cap (swp dj a (a+k)) (by rw[size_swp];exact l) 0 k a _ (holds_putRow bO _ blk off d _ (holds_ahead bO w (p+1) blk off d I) (by rw[size_swp];exact l)) (Nat.zero_le _) (by rw[size_swp];omega) (by rw[size_swp];omega)).mono ?_;rintro e N ⟨rfl,m,B⟩;go_wp2;go_roundg k
     case measure=>omega
     refine⟨aD,aA,siftDown ltInt k a 0 (swp dj a (a+k)),p+1+m,by rw[size_siftDown ltInt _ _ _ _ _ (PM _),size_swp];exact l,?_,y⟩;first
      | rw[B,putRow_ahead_putRow bO w (p+1) m blk off _ _ (size_siftDown ltInt _ _ _ _ _ (PM _))]
      | rw[putRow_ahead_putRow bO w (p+1) m blk off _ _ (size_siftDown ltInt _ _ _ _ _ (PM _))]
 | succ k=>
   have s:=jC blk off d.size cap dk z k (b-a) a wr F aA aA aA;rw[r]at s;go_wp2_with(go_at_call 264;refine s.mono ?_;rintro e N ⟨rfl,m,B⟩);go_roundg k
   case measure=>omega
   refine⟨aD,aA,siftDown ltInt (b-a) a k dk,n+m,by rw[size_siftDown ltInt _ _ _ _ _ (PM _)];exact z,?_,E⟩;rw[A.out,putRow_ahead_putRow bO w n m blk off dk _ (size_siftDown ltInt _ _ _ _ _ (PM _))]
theorem jI(blk off cap a b:Nat)(d:Array Int)(w:World)(hH:Holds (PJ .u64) w blk off d)(B0:a<b)(hb:b≤d.size)(B1:d.size<4611686018427387904) :
  Calls prog 253 #[.slice (some ⟨blk,off,none⟩) d.size cap,.int .i64 a,.int .i64 b] w fun e w'=>
   e=.returned (.bool (PH ltInt d a b).2)∧∃n,w'=putRow (PJ .u64) (PG w n) blk off (PH ltInt d a b).1:=by
 have N:Hid (Holds (PJ .u64) w blk off d):=hH;have A0:Hid (w=putRow (PJ .u64) (PG w 0) blk off d):=(putRow_self _ _ _ _ _ hH).symm;clear hH;go_enter func253,ntmps253;go_wp2;go_loopw [7,8] (fun vi vs wr=>∃(i s n:Nat) (p:Array Int),vi=.int .i64 i∧vs=.int .i64 s∧s≤5∧a<i∧i≤b∧p.size=d.size∧wr=putRow (PJ .u64) (PG w n) blk off p ∧
   partialIns ltInt a b (5-s) i p=partialIns ltInt a b 5 (a+1) d) (fun _ vs _=>5-(intOf vs).toNat)
 case atStart=>exact⟨a+1,0,0,d,by go_num,rfl,aA,aA,aA,rfl,A0,rfl⟩
 obtain⟨i,s,n,p,rfl,rfl,A4,A5,A2,W,A6,hO⟩:=hrel;have K:Hid (partialIns ltInt a b (5-s) i p=partialIns ltInt a b 5 (a+1) d):=hO;clear hO;go_wp2
 ·
  have hs:s<5:=aA;go_loopw [7] (fun vi F=>∃(k m:Nat),vi=.int .i64 k∧i≤k∧k≤b∧F=putRow (PJ .u64) (PG w m) blk off p∧scanSorted ltInt p b k=scanSorted ltInt p b i) (fun vi _=>b-(intOf vi).toNat)
  case atStart=>exact⟨i,n,rfl,PM _,A2,rfl,rfl⟩
  obtain⟨k,m,rfl,A7,A8,D,hS⟩:=hrel;obtain⟨G,E⟩:∃G:Nat→Int,∀t,G t=p[t]!:=⟨fun t=>p[t]!,fun _=>rfl⟩;have P:∀t,t<d.size→wr.cell? ⟨blk,off+t,none⟩=some (.int .u64 (G t)):=fun t I=>by
   rw[D,E];exact cell?_putRow _ _ _ _ d p (holds_ahead _ _ _ _ _ _ N) W t aA
  have Q:∀t,t<d.size→wr.frozen? ⟨blk,off+t,none⟩=false:=fun t I=>by
   rw[D,frozen?_putRow];exact((holds_ahead _ _ m _ _ _ N) t I).2
  have r:Hid (wr=putRow (PJ .u64) (PG w m) blk off p):=D;have y:Hid (∀t,G t=p[t]!):=E;have HS:Hid (scanSorted ltInt p b k=scanSorted ltInt p b i):=hS;clear D E hS;go_wp2;by_cases hkb':k<b
  ·go_quiet (first | (go_at_call 229;refine PC (aQ _ _ _)))
   go_wp2
   all_goals first
    | (at_end
       have C:ltInt (G k) (G (k-1))=false:=by
        have h:(!ltInt (G k) (G (k-1)))=true:=aF;simpa using h
       go_roundw
       case rel=>exact⟨k+1,m+nq,by go_num,aA,aA,by rw[r.out];exact putRow_drewN _ _ _ _ _ _ _,by rw[← HS.out,scanSorted_go ltInt p b k hkb' (by rw[← y.out,← y.out];exact C)]⟩
       simp[intOf];omega)
    | (have C:ltInt (G k) (G (k-1))=true:=by
        have h:(!ltInt (G k) (G (k-1)))=false:=aF;simpa using h
       have O:Hid (scanSorted ltInt p b i=k):=by
        show scanSorted ltInt p b i=k;rw[← HS.out,scanSorted_stop ltInt p b k (PN (by rw[← y.out,← y.out];exact C))]
       first
        | (at_ret
           have hv:PH ltInt d a b=(p,false):=by
            unfold PH;rw[← K.out,pi_short ltInt a b s i p hs (by rw[O.out];omega) aA]
           rw[hv];go_ret;exact⟨rfl,m+nq,by rw[r.out];exact putRow_drewN _ _ _ _ _ _ _⟩)
        | (at_region 11
           have A3:¬b-a<50:=aA;go_region;have A1:((wr.drewN (nq+1)).setCell ⟨blk,off+k,none⟩ (.int .u64 (G (k-1)))).setCell ⟨blk,off+(k-1),none⟩ (.int .u64 (G k))=putRow (PJ .u64) (PG w (m+(nq+1))) blk off (swp p k (k-1)):=by
            rw[r.out,y.out,y.out];exact swap_worldA _ w m (nq+1) blk off p k (k-1) aA aA
           have S:(swp p k (k-1)).size=d.size:=by rw[size_swp];exact W
           go_wp2
           all_goals first
            | (at_loop
               have V:k-a ≥ 2:=aA;go_loopw [9] (fun H F=>∃(j U:Nat) (u:Array Int),H=.int .i64 j∧j≤k-1∧u.size=d.size∧F=putRow (PJ .u64) (PG w U) blk off u ∧
                 shiftDown ltInt j u=shiftDown ltInt (k-1) (swp p k (k-1))) (fun H _=>(intOf H).toNat)
               case atStart=>exact⟨k-1,_,(swp p k (k-1)),by congr 1;omega,PM _,S,rfl,rfl⟩
               obtain⟨j,U,u,rfl,A9,J,D,X⟩:=hrel;obtain⟨G,E⟩:∃G:Nat→Int,∀t,G t=u[t]!:=⟨fun t=>u[t]!,fun _=>rfl⟩;have P:∀t,t<d.size→wr.cell? ⟨blk,off+t,none⟩=some (.int .u64 (G t)):=fun t I=>by
                rw[D,E];exact cell?_putRow _ _ _ _ d u (holds_ahead _ _ _ _ _ _ N) J t aA
               have Q:∀t,t<d.size→wr.frozen? ⟨blk,off+t,none⟩=false:=fun t I=>by
                rw[D,frozen?_putRow];exact((holds_ahead _ _ U _ _ _ N) t I).2
               have r:Hid (wr=putRow (PJ .u64) (PG w U) blk off u):=D;have y:Hid (∀t,G t=u[t]!):=E;have T:Hid (shiftDown ltInt j u=shiftDown ltInt (k-1) (swp p k (k-1))):=X;clear D E X A1;go_wp2
               all_goals first
                | (at_region 16
                   go_quiet (first | (go_at_call 229;refine PC (aQ _ _ _)))
                   go_wp2
                   all_goals first
                    | (at_region 17
                       have C:ltInt (G j) (G (j-1))=true:=by
                        have h:(!ltInt (G j) (G (j-1)))=false:=aF;simpa using h
                       go_region
                       all_goals go_wp2
                       go_roundw
                       case rel=>
                        refine⟨j-1,U+(nq+1),swp u j (j-1),by congr 1;omega,aA,by rw[size_swp];exact J,?_,?_⟩
                        ·rw[r.out,y.out,y.out];exact swap_worldA _ w U (nq+1) blk off u j (j-1) aA aA
                        rw[← T.out,shiftDown_go ltInt j u aA (by rw[← y.out,← y.out];exact C)]
                       simp[intOf];omega)
                    | (
                       have C:ltInt (G j) (G (j-1))=false:=by
                        have h:(!ltInt (G j) (G (j-1)))=true:=aF;simpa using h
                       have L:Hid (fixDown ltInt a k (swp p k (k-1))=u):=by
                        show fixDown ltInt a k (swp p k (k-1))=u;unfold fixDown;rw[if_pos V,← T.out,shiftDown_stop ltInt j u (PN (by rw[← y.out,← y.out];exact C))]
                       first
                        | (at_end
                           go_roundw
                           case rel=>
                            refine⟨k,s+1,_,u,rfl,by go_num,aA,aA,aA,J,(by first | rfl | exact r | (rw[r.out];exact putRow_drewN _ _ _ _ _ _ _)),?_⟩;rw[← K.out,pi_go ltInt a b s i k p hs O.out aA aA,L.out,show fixUp ltInt b k u=u from by unfold fixUp;rw[if_neg aA]]
                           simp[intOf];omega)
                        | (at_loop
                           go_loopw [10] (fun H F=>∃(j B:Nat) (l:Array Int),H=.int .i64 j∧k+1≤j∧j≤b∧l.size=d.size∧F=putRow (PJ .u64) (PG w B) blk off l ∧
                             shiftUp ltInt b j l=shiftUp ltInt b (k+1) u) (fun H _=>b-(intOf H).toNat)
                           case atStart=>exact⟨k+1,_,u,by go_num,PM _,aA,J,(by first | rfl | exact r | (rw[r.out];exact putRow_drewN _ _ _ _ _ _ _)),rfl⟩
                           obtain⟨j,B,l,rfl,Y,Z,z,A,R⟩:=hrel;obtain⟨G,E⟩:∃G:Nat→Int,∀t,G t=l[t]!:=⟨fun t=>l[t]!,fun _=>rfl⟩;have P:∀t,t<d.size→wr.cell? ⟨blk,off+t,none⟩=some (.int .u64 (G t)):=fun t I=>by
                            rw[A,E];exact cell?_putRow _ _ _ _ d l (holds_ahead _ _ _ _ _ _ N) z t aA
                           have Q:∀t,t<d.size→wr.frozen? ⟨blk,off+t,none⟩=false:=fun t I=>by
                            rw[A,frozen?_putRow];exact((holds_ahead _ _ B _ _ _ N) t I).2
                           have r:Hid (wr=putRow (PJ .u64) (PG w B) blk off l):=A;have y:Hid (∀t,G t=l[t]!):=E;have M:Hid (shiftUp ltInt b j l=shiftUp ltInt b (k+1) u):=R;clear A E R;go_wp2
                           all_goals first
                            | (at_region 22
                               go_quiet (first | (go_at_call 229;refine PC (aQ _ _ _)))
                               go_wp2
                               all_goals first
                                | (at_region 23
                                   have C:ltInt (G j) (G (j-1))=true:=by
                                    have h:(!ltInt (G j) (G (j-1)))=false:=aF;simpa using h
                                   go_region
                                   all_goals go_wp2
                                   go_roundw
                                   case rel=>
                                    refine⟨j+1,B+(nq+1),swp l j (j-1),by go_num,aA,aA,by rw[size_swp];exact z,?_,?_⟩
                                    ·rw[r.out,y.out,y.out];exact swap_worldA _ w B (nq+1) blk off l j (j-1) aA aA
                                    rw[← M.out,shiftUp_go ltInt b j l aA (by rw[← y.out,← y.out];exact C)]
                                   simp[intOf];omega)
                                | (at_end
                                   have C:ltInt (G j) (G (j-1))=false:=by
                                    have h:(!ltInt (G j) (G (j-1)))=true:=aF;simpa using h
                                   go_roundw
                                   case rel=>
                                    refine⟨k,s+1,_,l,rfl,by go_num,aA,aA,aA,z,(by first | rfl | exact r | (rw[r.out];exact putRow_drewN _ _ _ _ _ _ _)),?_⟩;rw[← K.out,pi_go ltInt a b s i k p hs O.out aA aA,L.out,show fixUp ltInt b k u=l from by unfold fixUp;rw[if_pos aA,← M.out,shiftUp_stop ltInt b j l (PN (by rw[← y.out,← y.out];exact C))]]
                                   simp[intOf];omega))
                            | (at_end
                               go_roundw
                               case rel=>
                                refine⟨k,s+1,_,l,rfl,by go_num,aA,aA,aA,z,(by first | rfl | exact r | (rw[r.out];exact putRow_drewN _ _ _ _ _ _ _)),?_⟩;rw[← K.out,pi_go ltInt a b s i k p hs O.out aA aA,L.out,show fixUp ltInt b k u=l from by unfold fixUp;rw[if_pos aA,← M.out,shiftUp_stop ltInt b j l (PO aA)]]
                               simp[intOf];omega))))
                | (
                   have L:Hid (fixDown ltInt a k (swp p k (k-1))=u):=by
                    show fixDown ltInt a k (swp p k (k-1))=u;unfold fixDown;rw[if_pos V,← T.out,shiftDown_stop ltInt j u (PO aA)]
                   first
                    | (at_end
                       go_roundw
                       case rel=>
                        refine⟨k,s+1,_,u,rfl,by go_num,aA,aA,aA,J,(by first | rfl | exact r | (rw[r.out];exact putRow_drewN _ _ _ _ _ _ _)),?_⟩;rw[← K.out,pi_go ltInt a b s i k p hs O.out aA aA,L.out,show fixUp ltInt b k u=u from by unfold fixUp;rw[if_neg aA]]
                       simp[intOf];omega)
                    | (at_loop
                       go_loopw [10] (fun H F=>∃(j B:Nat) (l:Array Int),H=.int .i64 j∧k+1≤j∧j≤b∧l.size=d.size∧F=putRow (PJ .u64) (PG w B) blk off l ∧
                         shiftUp ltInt b j l=shiftUp ltInt b (k+1) u) (fun H _=>b-(intOf H).toNat)
                       case atStart=>exact⟨k+1,_,u,by go_num,PM _,aA,J,(by first | rfl | exact r | (rw[r.out];exact putRow_drewN _ _ _ _ _ _ _)),rfl⟩
                       obtain⟨j,B,l,rfl,Y,Z,z,A,R⟩:=hrel;obtain⟨G,E⟩:∃G:Nat→Int,∀t,G t=l[t]!:=⟨fun t=>l[t]!,fun _=>rfl⟩;have P:∀t,t<d.size→wr.cell? ⟨blk,off+t,none⟩=some (.int .u64 (G t)):=fun t I=>by
                        rw[A,E];exact cell?_putRow _ _ _ _ d l (holds_ahead _ _ _ _ _ _ N) z t aA
                       have Q:∀t,t<d.size→wr.frozen? ⟨blk,off+t,none⟩=false:=fun t I=>by
                        rw[A,frozen?_putRow];exact((holds_ahead _ _ B _ _ _ N) t I).2
                       have r:Hid (wr=putRow (PJ .u64) (PG w B) blk off l):=A;have y:Hid (∀t,G t=l[t]!):=E;have M:Hid (shiftUp ltInt b j l=shiftUp ltInt b (k+1) u):=R;clear A E R;go_wp2
                       all_goals first
                        | (at_region 22
                           go_quiet (first | (go_at_call 229;refine PC (aQ _ _ _)))
                           go_wp2
                           all_goals first
                            | (at_region 23
                               have C:ltInt (G j) (G (j-1))=true:=by
                                have h:(!ltInt (G j) (G (j-1)))=false:=aF;simpa using h
                               go_region
                               all_goals go_wp2
                               go_roundw
                               case rel=>
                                refine⟨j+1,B+(nq+1),swp l j (j-1),by go_num,aA,aA,by rw[size_swp];exact z,?_,?_⟩
                                ·rw[r.out,y.out,y.out];exact swap_worldA _ w B (nq+1) blk off l j (j-1) aA aA
                                rw[← M.out,shiftUp_go ltInt b j l aA (by rw[← y.out,← y.out];exact C)]
                               simp[intOf];omega)
                            | (at_end
                               have C:ltInt (G j) (G (j-1))=false:=by
                                have h:(!ltInt (G j) (G (j-1)))=true:=aF;simpa using h
                               go_roundw
                               case rel=>
                                refine⟨k,s+1,_,l,rfl,by go_num,aA,aA,aA,z,(by first | rfl | exact r | (rw[r.out];exact putRow_drewN _ _ _ _ _ _ _)),?_⟩;rw[← K.out,pi_go ltInt a b s i k p hs O.out aA aA,L.out,show fixUp ltInt b k u=l from by unfold fixUp;rw[if_pos aA,← M.out,shiftUp_stop ltInt b j l (PN (by rw[← y.out,← y.out];exact C))]]
                               simp[intOf];omega))
                        | (at_end
                           go_roundw
                           case rel=>
                            refine⟨k,s+1,_,l,rfl,by go_num,aA,aA,aA,z,(by first | rfl | exact r | (rw[r.out];exact putRow_drewN _ _ _ _ _ _ _)),?_⟩;rw[← K.out,pi_go ltInt a b s i k p hs O.out aA aA,L.out,show fixUp ltInt b k u=l from by unfold fixUp;rw[if_pos aA,← M.out,shiftUp_stop ltInt b j l (PO aA)]]
                           simp[intOf];omega))))
            | (
               have L:Hid (fixDown ltInt a k (swp p k (k-1))=(swp p k (k-1))):=by
                show fixDown ltInt a k (swp p k (k-1))=(swp p k (k-1));unfold fixDown;rw[if_neg aA]
               first
                | (at_end
                   go_roundw
                   case rel=>
                    refine⟨k,s+1,_,(swp p k (k-1)),rfl,by go_num,aA,aA,aA,S,(by first | rfl | exact r | (rw[r.out];exact putRow_drewN _ _ _ _ _ _ _)),?_⟩;rw[← K.out,pi_go ltInt a b s i k p hs O.out aA aA,L.out,show fixUp ltInt b k (swp p k (k-1))=(swp p k (k-1))from by unfold fixUp;rw[if_neg aA]]
                   simp[intOf];omega)
                | (at_loop
                   go_loopw [10] (fun H F=>∃(j B:Nat) (l:Array Int),H=.int .i64 j∧k+1≤j∧j≤b∧l.size=d.size∧F=putRow (PJ .u64) (PG w B) blk off l ∧
                     shiftUp ltInt b j l=shiftUp ltInt b (k+1) (swp p k (k-1))) (fun H _=>b-(intOf H).toNat)
                   case atStart=>exact⟨k+1,_,(swp p k (k-1)),by go_num,PM _,aA,S,(by first | rfl | exact r | (rw[r.out];exact putRow_drewN _ _ _ _ _ _ _)),rfl⟩
                   obtain⟨j,B,l,rfl,Y,Z,z,A,R⟩:=hrel;obtain⟨G,E⟩:∃G:Nat→Int,∀t,G t=l[t]!:=⟨fun t=>l[t]!,fun _=>rfl⟩;have P:∀t,t<d.size→wr.cell? ⟨blk,off+t,none⟩=some (.int .u64 (G t)):=fun t I=>by
                    rw[A,E];exact cell?_putRow _ _ _ _ d l (holds_ahead _ _ _ _ _ _ N) z t aA
                   have Q:∀t,t<d.size→wr.frozen? ⟨blk,off+t,none⟩=false:=fun t I=>by
                    rw[A,frozen?_putRow];exact((holds_ahead _ _ B _ _ _ N) t I).2
                   have r:Hid (wr=putRow (PJ .u64) (PG w B) blk off l):=A;have y:Hid (∀t,G t=l[t]!):=E;have M:Hid (shiftUp ltInt b j l=shiftUp ltInt b (k+1) (swp p k (k-1))):=R;clear A E R;go_wp2
                   all_goals first
                    | (at_region 22
                       go_quiet (first | (go_at_call 229;refine PC (aQ _ _ _)))
                       go_wp2
                       all_goals first
                        | (at_region 23
                           have C:ltInt (G j) (G (j-1))=true:=by
                            have h:(!ltInt (G j) (G (j-1)))=false:=aF;simpa using h
                           go_region
                           all_goals go_wp2
                           go_roundw
                           case rel=>
                            refine⟨j+1,B+(nq+1),swp l j (j-1),by go_num,aA,aA,by rw[size_swp];exact z,?_,?_⟩
                            ·rw[r.out,y.out,y.out];exact swap_worldA _ w B (nq+1) blk off l j (j-1) aA aA
                            rw[← M.out,shiftUp_go ltInt b j l aA (by rw[← y.out,← y.out];exact C)]
                           simp[intOf];omega)
                        | (at_end
                           have C:ltInt (G j) (G (j-1))=false:=by
                            have h:(!ltInt (G j) (G (j-1)))=true:=aF;simpa using h
                           go_roundw
                           case rel=>
                            refine⟨k,s+1,_,l,rfl,by go_num,aA,aA,aA,z,(by first | rfl | exact r | (rw[r.out];exact putRow_drewN _ _ _ _ _ _ _)),?_⟩;rw[← K.out,pi_go ltInt a b s i k p hs O.out aA aA,L.out,show fixUp ltInt b k (swp p k (k-1))=l from by unfold fixUp;rw[if_pos aA,← M.out,shiftUp_stop ltInt b j l (PN (by rw[← y.out,← y.out];exact C))]]
                           simp[intOf];omega))
                    | (at_end
                       go_roundw
                       case rel=>
                        refine⟨k,s+1,_,l,rfl,by go_num,aA,aA,aA,z,(by first | rfl | exact r | (rw[r.out];exact putRow_drewN _ _ _ _ _ _ _)),?_⟩;rw[← K.out,pi_go ltInt a b s i k p hs O.out aA aA,L.out,show fixUp ltInt b k (swp p k (k-1))=l from by unfold fixUp;rw[if_pos aA,← M.out,shiftUp_stop ltInt b j l (PO aA)]]
                       simp[intOf];omega)))))

  go_quiet (first | (go_at_call 229;refine PC (aQ _ _ _)))
  go_wp2;obtain rfl:k=b:=aA;have hv:PH ltInt d a k=(p,true):=by
   unfold PH;rw[← K.out,pi_true ltInt a k s i p hs (by rw[← HS.out,scanSorted_stop ltInt p k k (PO aA)])]
  rw[hv];go_ret;exact⟨rfl,m+nq,by rw[r.out];exact putRow_drewN _ _ _ _ _ _ _⟩

 obtain rfl:s=5:=aA;have hv:PH ltInt d a b=(p,false):=by
  unfold PH;rw[← K.out,pi_end]
 rw[hv];go_ret;exact⟨rfl,n,rfl⟩
end Go.Proofs.YtbkkolfpegplgaaGreatDoor
