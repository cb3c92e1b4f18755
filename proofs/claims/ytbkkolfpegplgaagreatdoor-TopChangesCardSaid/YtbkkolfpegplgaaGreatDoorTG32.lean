import Derived.Test.YtbkkolfpegplgaaGreatDoorTG30
import Derived.Sort.Walk11
open Go.Sort renaming ahead→PC
open Go.Value renaming int→PD
open Go.Proofs.Tryz
set_option maxHeartbeats 1000000
set_option maxRecDepth 100000
set_option linter.unusedVariables false
set_option linter.unusedSimpArgs false
namespace Go.Proofs.YtbkkolfpegplgaaGreatDoor
open Go Go.RowKit Go.Sort
theorem iX{w:World}{blk off m p n t:Nat}{d:Array Int}(h:Holds (PD .u64) w blk off d)(b:m≠blk):Holds (PD .u64) (putRow (PD .i64) (PC w n) m p (one t)) blk off d:=fun j l=>
 ⟨by rw[cell?_putRow_other _ _ _ _ _ _ (Or.inl (Ne.symm b))];exact(h j l).1,by rw[frozen?_putRow];exact(h j l).2⟩
theorem lT(d:Array Int)(len:Nat)(l:d.size=len)(blk off cap a b p r s:Nat)(w:World)(A:Holds (PD .u64) w blk off d)(B:a<d.size)(C:b<d.size)
  (u:Holds (PD .i64) w p r (one s)) (hs:s<2 ^ 62) :
  Calls prog 269 #[.slice (some ⟨blk,off,none⟩) len cap,.int .i64 a,.int .i64 b,.pointer (some ⟨p,r,none⟩)] w fun e w'=>
   e=.returned (.tuple #[.int .i64 (order2 ltInt d a b s).1,.int .i64 (order2 ltInt d a b s).2.1])∧∃n,w'=putRow (PD .i64) (PC w n) p r (one (order2 ltInt d a b s).2.2):=by
 subst l;replace hs:s<4611686018427387904:=aA
 have D:=(A a B).1;have E:=(A b C).1;obtain⟨F,G⟩:=one_cell u;have y:d[a]! = d[a]:=getElem!_pos d a B;have z:d[b]! = d[b]:=getElem!_pos d b C;go_enter func269,ntmps269;go_wp2;go_region_with (go_at_call 229;refine(aQ _ _ _).mono ?_;rintro e w' ⟨rfl,rfl⟩)
 all_goals(try go_wp2)
 all_goals first
  | (have j:ltInt d[b] d[a]=true:=aF
     have m:order2 ltInt d a b s=(b,a,s+1):=by simp[order2,y,z,j]
     go_ret2;rw[m];refine⟨rfl,1,?_⟩;rw[putRow_ahead,← one_set u (s+1)];simp[drew_eq_ahead])
  | (have j:ltInt d[b] d[a]=false:=aF
     have m:order2 ltInt d a b s=(a,b,s):=by simp[order2,y,z,j]
     go_ret2;rw[m];refine⟨rfl,1,?_⟩;rw[putRow_ahead,putRow_self _ _ _ _ _ u];rfl)
theorem pX(d:Array Int)(len:Nat)(hlen:d.size=len)(blk off cap a b c sb so s:Nat)(w:World)(hH:Holds (PD .u64) w blk off d)(ha:a<d.size)(hb:b<d.size)(hc:c<d.size)(hne:sb≠blk)
  (hS:Holds (PD .i64) w sb so (one s)) (hs:s+3<2 ^ 62) :
  Calls prog 266 #[.slice (some ⟨blk,off,none⟩) len cap,.int .i64 a,.int .i64 b,.int .i64 c,.pointer (some ⟨sb,so,none⟩)] w fun e w'=>
   e=.returned (.int .i64 (median ltInt d a b c s).1)∧∃n,w'=putRow (PD .i64) (PC w n) sb so (one (median ltInt d a b c s).2):=by
 subst hlen;have j:=order2_lt d s ha hb;have s1:=order2_swaps d a b s;have l:=order2_lt d (order2 ltInt d a b s).2.2 j.2 hc;have u:=order2_swaps d (order2 ltInt d a b s).2.1 c (order2 ltInt d a b s).2.2;go_enter func266,ntmps266
 go_wp2_with(go_at_call_of 269 (PD .i64 (b:Int));refine(lT d _ rfl blk off cap a b sb so s w hH ha hb hS (by omega)).mono ?_;rintro e w' ⟨rfl,m,rfl⟩)
 go_wp2_with(go_at_call_of 269 (PD .i64 (c:Int));refine(lT d _ rfl blk off cap (order2 ltInt d a b s).2.1 c sb so (order2 ltInt d a b s).2.2 _ (iX hH hne) j.2 hc (holds_one hS) (by omega)).mono ?_;rintro e w' ⟨rfl,p,rfl⟩)
 go_wp2_with(go_at_call_of 269 (PD .i64 ((order2 ltInt d a b s).1:Int));refine(lT d _ rfl blk off cap (order2 ltInt d a b s).1 (order2 ltInt d (order2 ltInt d a b s).2.1 c (order2 ltInt d a b s).2.2).1 sb so (order2 ltInt d (order2 ltInt d a b s).2.1 c (order2 ltInt d a b s).2.2).2.2 _
  (iX (iX hH hne) hne) j.1 l.1 (holds_one (holds_one hS)) (by omega)).mono ?_;rintro e w' ⟨rfl,r,rfl⟩)
 go_ret
 refine⟨rfl,m+(p+r),?_⟩;rw[one_one,one_one];rfl
theorem nT(d:Array Int)(len:Nat)(b:d.size=len)(blk off cap a j l s:Nat)(w:World)(u:Holds (PD .u64) w blk off d)(y:1≤a)(z:a+1<d.size)(m:d.size<2 ^ 62)(p:j≠blk)
  (A:Holds (PD .i64) w j l (one s)) (hs:s+3<2 ^ 62) :
  Calls prog 265 #[.slice (some ⟨blk,off,none⟩) len cap,.int .i64 a,.pointer (some ⟨j,l,none⟩)] w fun e w'=>
   e=.returned (.int .i64 (medianAdjacent ltInt d a s).1)∧∃n,w'=putRow (PD .i64) (PC w n) j l (one (medianAdjacent ltInt d a s).2):=by
 subst b;replace m:d.size<4611686018427387904:=aA
 go_enter func265,ntmps265;go_wp2_with(go_at_call 266;rw[show((a:Int)-1)=((a-1:Nat):Int) by omega,show((a:Int)+1)=((a+1:Nat):Int) by omega];refine(pX d _ rfl blk off cap (a-1) a (a+1) j l s w u aA aA z p A hs).mono ?_;rintro e w' ⟨rfl,r,rfl⟩);go_ret;exact⟨rfl,r,rfl⟩
theorem vJ(blk off cap:Nat)(d:Array Int)(w:World)(D:Holds (PD .u64) w blk off d)(r:blk<w.heap.size)(E:d.size<4611686018427387904) :
  ∃m:Nat→Nat→World,
   w.alloc (.cells #[.int .i64 0] 3)=m 0 0 ∧
   (∀N S:Nat,(m N S).cell? ⟨w.heap.size,0,none⟩=some (.int .i64 (S:Int))) ∧
   (∀N S:Nat,∃os,m N S=grow (PC w N) os) ∧
   (∀x s N:Nat,1≤x→x+1<d.size→s+3<4611686018427387904→Calls prog 265 #[.slice (some ⟨blk,off,none⟩) d.size cap,.int .i64 (x:Int),.pointer (some ⟨w.heap.size,0,none⟩)] (m N s) fun e w'=>
     e=.returned (.int .i64 ((medianAdjacent ltInt d x s).1:Int))∧∃B,w'=m B (medianAdjacent ltInt d x s).2) ∧
   (∀x y z s N:Nat,x<d.size→y<d.size→z<d.size→s+3<4611686018427387904→Calls prog 266 #[.slice (some ⟨blk,off,none⟩) d.size cap,.int .i64 (x:Int),.int .i64 (y:Int),.int .i64 (z:Int),.pointer (some ⟨w.heap.size,0,none⟩)] (m N s) fun e w'=>
     e=.returned (.int .i64 ((median ltInt d x y z s).1:Int))∧∃B,w'=m B (median ltInt d x y z s).2):=by
 have b:w.heap.size≠blk:=aA;have p:Holds (PD .u64) (w.alloc (.cells #[.int .i64 0] 3)) blk off d:=by rw[alloc_eq_grow];exact holds_grow _ _ _ _ _ _ r D
 have l:Holds (PD .i64) (w.alloc (.cells #[.int .i64 0] 3)) w.heap.size 0 (one 0):=fun j C=>by
  obtain rfl:j=0:=by simpa using C
  simp
 refine⟨fun N S=>putRow (PD .i64) (PC (w.alloc (.cells #[.int .i64 0] 3)) N) w.heap.size 0 (one S),(putRow_self _ _ _ _ _ l).symm,fun N S=>(one_cell (holds_one (n:=N) (t:=S) l)).1,fun N S=>counter_grow w N S,?_,?_⟩
 ·intro x s N h1 h2 hs;refine(nT d _ rfl blk off cap x w.heap.size 0 s _ (iX p b) h1 h2 aA b (holds_one l) aA).mono ?_;rintro e w' ⟨u,n,A⟩;exact⟨u,N+n,by rw[A,one_one]⟩
 intro x y z s N h1 h2 h3 hs;refine(pX d _ rfl blk off cap x y z w.heap.size 0 s _ (iX p b) h1 h2 h3 b (holds_one l) aA).mono ?_;rintro e w' ⟨u,n,A⟩;exact⟨u,N+n,by rw[A,one_one]⟩
theorem qP(blk off cap a b:Nat)(d:Array Int)(w:World)(hH:Holds (PD .u64) w blk off d)(Q:blk<w.heap.size)(A1:a<b)(hb:b≤d.size)(W:d.size<4611686018427387904) :
  Calls prog 251 #[.slice (some ⟨blk,off,none⟩) d.size cap,.int .i64 a,.int .i64 b] w fun e w'=>
   e=.returned (.tuple #[.int .i64 (choosePivot ltInt d a b).1,.int .i64 (hintCode (choosePivot ltInt d a b).2)])∧∃n os,w'=grow (PC w n) os:=by
 obtain⟨z,L,cS,V,B,M⟩:=vJ blk off cap d w hH Q W;clear hH;rw[choosePivot_eq];obtain⟨I,O⟩:=aH (a+(b-a) / 4 * 1:Nat);obtain⟨J,C⟩:=aH (a+(b-a) / 4 * 2:Nat);obtain⟨K,P⟩:=aH (a+(b-a) / 4 * 3:Nat);have eI:((a:Int)+((b:Int)-(a:Int)) / 4)=(I:Int):=aA;have eJ:((a:Int)+((b:Int)-(a:Int)) / 4 * 2)=(J:Int):=aA;have eK:((a:Int)+((b:Int)-(a:Int)) / 4 * 3)=(K:Int):=aA;by_cases h8:b-a ≥ 8
 ·by_cases h50:b-a ≥ 50
  ·
   obtain⟨D,s1,h1⟩:∃D s1,medianAdjacent ltInt d I 0=(D,s1):=⟨_,_,rfl⟩;obtain⟨E,s2,h2⟩:∃E s2,medianAdjacent ltInt d J s1=(E,s2):=⟨_,_,rfl⟩;obtain⟨F,s3,h3⟩:∃F s3,medianAdjacent ltInt d K s2=(F,s3):=⟨_,_,rfl⟩;obtain⟨p,s,h4⟩:∃p s,median ltInt d D E F s3=(p,s):=⟨_,_,rfl⟩;have l:rawPivot ltInt d a b=(p,s):=by simp only[rawPivot,if_pos h8,if_pos h50,← O,← C,← P,h1,h2,h3,h4]
   have R:=medianAdjacent_mem ltInt d I 0;rw[h1]at R;have S:=medianAdjacent_mem ltInt d J s1;rw[h2]at S;have T:=medianAdjacent_mem ltInt d K s2;rw[h3]at T;have X:=medianAdjacent_count ltInt d I 0;rw[h1]at X;have Y:=medianAdjacent_count ltInt d J s1;rw[h2]at Y;have Z:=medianAdjacent_count ltInt d K s2;rw[h3]at Z;simp only[]at R S T X Y Z;have c1:Calls prog 265 #[.slice (some ⟨blk,off,none⟩) d.size cap,.int .i64 (I:Int),.pointer (some ⟨w.heap.size,0,none⟩)] (z 0 0) fun e w'=>e=.returned (.int .i64 (D:Int))∧∃A,w'=z A s1:=by
    have h:=B I 0 0 aA aA aA;rw[h1]at h;exact h
   have c2:∀N,Calls prog 265 #[.slice (some ⟨blk,off,none⟩) d.size cap,.int .i64 (J:Int),.pointer (some ⟨w.heap.size,0,none⟩)] (z N s1) fun e w'=>e=.returned (.int .i64 (E:Int))∧∃A,w'=z A s2:=fun N=>by
    have h:=B J s1 N aA aA aA;rw[h2]at h;exact h
   have c3:∀N,Calls prog 265 #[.slice (some ⟨blk,off,none⟩) d.size cap,.int .i64 (K:Int),.pointer (some ⟨w.heap.size,0,none⟩)] (z N s2) fun e w'=>e=.returned (.int .i64 (F:Int))∧∃A,w'=z A s3:=fun N=>by
    have h:=B K s2 N aA aA aA;rw[h3]at h;exact h
   have U:∀N,Calls prog 266 #[.slice (some ⟨blk,off,none⟩) d.size cap,.int .i64 (D:Int),.int .i64 (E:Int),.int .i64 (F:Int),.pointer (some ⟨w.heap.size,0,none⟩)] (z N s3) fun e w'=>e=.returned (.int .i64 (p:Int))∧∃A,w'=z A s:=fun N=>by
    have h:=M D E F s3 N aA aA aA aA;rw[h4]at h;exact h
   rw[l];obtain⟨u,j⟩:=aH (hintCode (hintOf s):Int);have m:s=0→u=1:=fun h=>by rw[j,h];rfl
   have r:s=12→u=2:=fun h=>by rw[j,h];rfl
   have y:s≠0→s≠12→u=0:=fun h1 h2=>by rw[j];unfold hintOf;rw[if_neg h1,if_neg h2];rfl
   show Calls prog 251 _ w fun e w'=>e=.returned (.tuple #[.int .i64 (p:Int),.int .i64 (hintCode (hintOf s))])∧∃n os,w'=grow (PC w n) os;rw[← j];clear j l;clear h1 h2 h3 h4 B M O C P R S T;go_enter func251,ntmps251;go_wp2_with(first
    | (go_at_call_has 265 (PD .i64 (I:Int));refine c1.mono ?_;rintro e w' ⟨rfl,N1,rfl⟩)
    | (go_at_call_has 265 (PD .i64 (J:Int));refine(c2 _).mono ?_;rintro e w' ⟨rfl,N2,rfl⟩)
    | (go_at_call_has 265 (PD .i64 (K:Int));refine(c3 _).mono ?_;rintro e w' ⟨rfl,N3,rfl⟩)
    | (go_at_call 266;refine(U _).mono ?_;rintro e w' ⟨rfl,N4,rfl⟩))
   all_goals
    go_ret2;refine⟨?_,_,V _ _⟩;first
     | (have G:(s:Int)=0:=of_beq_int aF
        rw[m aA];rfl)
     | (have H:(s:Int)=12:=of_beq_int aF
        rw[r aA];rfl)
     | (have G:(s:Int)≠0:=of_bne_int aF
        have H:(s:Int)≠12:=of_bne_int aF;rw[y aA aA];rfl)
     | (rw[m aA];rfl)

  obtain⟨p,s,h4⟩:∃p s,median ltInt d I J K 0=(p,s):=⟨_,_,rfl⟩;have l:rawPivot ltInt d a b=(p,s):=by simp only[rawPivot,if_pos h8,if_neg h50,← O,← C,← P,h4]
  have U:Calls prog 266 #[.slice (some ⟨blk,off,none⟩) d.size cap,.int .i64 (I:Int),.int .i64 (J:Int),.int .i64 (K:Int),.pointer (some ⟨w.heap.size,0,none⟩)] (z 0 0) fun e w'=>e=.returned (.int .i64 (p:Int))∧∃A,w'=z A s:=by
   have h:=M I J K 0 0 aA aA aA aA;rw[h4]at h;exact h
  rw[l];obtain⟨u,j⟩:=aH (hintCode (hintOf s):Int);have m:s=0→u=1:=fun h=>by rw[j,h];rfl
  have r:s=12→u=2:=fun h=>by rw[j,h];rfl
  have y:s≠0→s≠12→u=0:=fun h1 h2=>by rw[j];unfold hintOf;rw[if_neg h1,if_neg h2];rfl
  show Calls prog 251 _ w fun e w'=>e=.returned (.tuple #[.int .i64 (p:Int),.int .i64 (hintCode (hintOf s))])∧∃n os,w'=grow (PC w n) os;rw[← j];clear j l;clear h4 B M O C P;go_enter func251,ntmps251;go_wp2_with(first | (go_at_call 266;refine U.mono ?_;rintro e w' ⟨rfl,N4,rfl⟩))
  all_goals
   go_ret2;refine⟨?_,_,V _ _⟩;first
    | (have G:(s:Int)=0:=of_beq_int aF
       rw[m aA];rfl)
    | (have H:(s:Int)=12:=of_beq_int aF
       rw[r aA];rfl)
    | (have G:(s:Int)≠0:=of_bne_int aF
       have H:(s:Int)≠12:=of_bne_int aF;rw[y aA aA];rfl)
    | (rw[m aA];rfl)

 obtain⟨p,hp⟩:=aH (J:Nat);obtain⟨s,hs⟩:=aH (0:Nat);have l:rawPivot ltInt d a b=(p,s):=by simp only[rawPivot,if_neg h8,← C,hp,hs]
 rw[l];obtain⟨u,j⟩:=aH (hintCode (hintOf s):Int);have m:s=0→u=1:=fun h=>by rw[j,h];rfl
 have r:s=12→u=2:=fun h=>by rw[j,h];rfl
 have y:s≠0→s≠12→u=0:=fun h1 h2=>by rw[j];unfold hintOf;rw[if_neg h1,if_neg h2];rfl
 show Calls prog 251 _ w fun e w'=>e=.returned (.tuple #[.int .i64 (p:Int),.int .i64 (hintCode (hintOf s))])∧∃n os,w'=grow (PC w n) os;rw[← j];clear j l;subst hp;clear B M O C P;have A0:w.alloc (.cells #[.int .i64 0] 3)=z 0 s:=by rw[hs];exact L
 clear L;go_enter func251,ntmps251;go_wp2
 all_goals
  go_ret2;refine⟨?_,_,V _ _⟩;first
   | (have G:(s:Int)=0:=of_beq_int aF
      rw[m aA];rfl)
   | (have H:(s:Int)=12:=of_beq_int aF
      rw[r aA];rfl)
   | (have G:(s:Int)≠0:=of_bne_int aF
      have H:(s:Int)≠12:=of_bne_int aF;rw[y aA aA];rfl)
   | (rw[m aA];rfl)
end Go.Proofs.YtbkkolfpegplgaaGreatDoor
