import Derived.Test.YtbkkolfpegplgaaGreatDoorTG30
import Derived.Sort.WalkC4
open Go.Calls renaming quiet_of_same→PC
open Go.Sort renaming ltInt→PD,scanDown→PE,partition→PF,partitionEqual→PG,scanUp→PH,swp→PI,partEqLoop→PJ,partLoop→PM
open Go.Value renaming int→PN
open Go.World renaming drewN_drewN→PO
open Nat renaming le_refl→PQ
open Or renaming inl→PS,inr→PT
open Go.Proofs.Tryz
set_option maxHeartbeats 12800000
set_option maxRecDepth 100000
set_option linter.unusedVariables false
set_option linter.unusedSimpArgs false
namespace Go.Proofs.YtbkkolfpegplgaaGreatDoor
open Go Go.RowKit Go.Sort
theorem nR(blk off cap a b l:Nat)(d:Array Int)(w:World)(W:Holds (PN .u64) w blk off d)(A9:a≤l)(B0:l<b)(hb:b≤d.size)(B1:d.size<4611686018427387904) :
  Calls prog 254 #[.slice (some ⟨blk,off,none⟩) d.size cap,.int .i64 a,.int .i64 b,.int .i64 l] w fun e w'=>
   e=.returned (.int .i64 (PG PD d a b l).1)∧∃n,w'=(putRow (PN .u64) w blk off (PG PD d a b l).2).drewN n:=by
 have P:a<d.size:=aA;have Q:l<d.size:=aA;obtain⟨G,M⟩:∃G:Nat→Int,∀j,G j=d[j]!:=⟨fun j=>d[j]!,fun _=>rfl⟩;have ca:w.cell? ⟨blk,off+a,none⟩=some (.int .u64 (G a)):=by rw[M];exact(W a P).1
 have fa:=(W a P).2;have cp:w.cell? ⟨blk,off+l,none⟩=some (.int .u64 (G l)):=by rw[M];exact(W l Q).1
 have fp:=(W l Q).2;obtain⟨v',A1⟩:=cell?_setCell_some (w:=w) (p:=⟨blk,off+a,none⟩) (x:=.int .u64 (G l)) (q:=⟨blk,off+l,none⟩) cp;have D:Hid (∀j,G j=d[j]!):=M;have AH:Hid (Holds (PN .u64) w blk off d):=W;clear M W;go_enter func254,ntmps254;go_wp2;go_region;go_wp2;go_loopw [9,10] (fun U L wr=>∃(i j n:Nat) (dk:Array Int),U=.int .i64 i∧L=.int .i64 j∧a<i∧i≤j+1∧j<b∧dk.size=d.size∧wr=(putRow (PN .u64) w blk off dk).drewN n ∧
   PJ PD a i j dk=PJ PD a (a+1) (b-1) (PI d a l))
  (fun U L _=>(intOf L).toNat+1-(intOf U).toNat)
 case atStart=>
  refine⟨a+1,b-1,1,PI d a l,by go_num,by go_num,aA,aA,aA,size_swp _ _ _,?_,rfl⟩;have e:=swap_worldC (PN .u64) w blk off d 0 a l P Q;rw[putRow_self _ w blk off d AH.out]at e;rw[D.out a,D.out l];exact e
 obtain⟨i,j,n,dk,rfl,rfl,A5,A2,A6,hs,hw,Z⟩:=hrel;clear ca fa cp fp A1 v' D;rename World=>W1
 have R:Holds (PN .u64) W1 blk off dk:=by
  rw[hw];exact holds_putRow (PN .u64) w blk off d dk AH hs
 obtain⟨z,M⟩:∃z:Nat→Int,∀t,z t=dk[t]!:=⟨fun t=>dk[t]!,fun _=>rfl⟩;have V:∀t,t<d.size→W1.cell? ⟨blk,off+t,none⟩=some (.int .u64 (z t)):=fun t u=>by rw[M];exact(R t aA).1
 have hf:∀t,t<d.size→W1.frozen? ⟨blk,off+t,none⟩=false:=fun t u=>(R t aA).2;have D:Hid (∀t,z t=dk[t]!):=M;have AW:Hid (W1=(putRow (PN .u64) w blk off dk).drewN n):=hw;have X:Hid (PJ PD a i j dk=PJ PD a (a+1) (b-1) (PI d a l)):=Z;clear M hw Z R;go_wp2;go_loopw [9] (fun U w1=>∃(m N:Nat),U=.int .i64 m∧i≤m∧m≤j+1∧w1=W1.drewN N ∧
   Hid (PH (fun x=>!PD dk[a]! x) dk j m=PH (fun x=>!PD dk[a]! x) dk j i))
  (fun U _=>j+1-(intOf U).toNat)
 case atStart=>exact⟨i,0,rfl,PQ _,A2,rfl,rfl⟩
 obtain⟨m,N,rfl,A7,O,T,K⟩:=hrel;have C:∀t,t<d.size→wr.cell? ⟨blk,off+t,none⟩=some (.int .u64 (z t)):=fun t u=>by rw[T];exact V t u
 have F:Hid (wr=W1.drewN N):=T;clear T;by_cases hle:m≤j
 ·go_wp2_with fail;go_big_quiet (first | (go_at_call 229;refine PC (aQ _ _ _)))
  go_wp2
  ·
   have u:(!PD (z a) (z m))=true:=aF;go_roundw
   case rel=>exact⟨m+1,N+nq,by go_num,aA,aA,by rw[F.out,PO],(scanUp_go (fun x=>!PD dk[a]! x) dk j m hle (by rw[← D.out a,← D.out m];exact u)).symm.trans K⟩
   simp[intOf];omega

  have u:(!PD (z a) (z m))=false:=aF;have H:Hid (m=PH (fun x=>!PD dk[a]! x) dk j i):=(scanUp_end (fun x=>!PD dk[a]! x) dk j m (PT (by rw[← D.out a,← D.out m];exact u))).symm.trans K;clear u;have y:wr.drewN nq=W1.drewN (N+nq):=by rw[F.out,PO]
  clear C F K;go_loopw [10] (fun L w2=>∃(s A:Nat),L=.int .i64 s∧s≤j∧m≤s+1∧w2=W1.drewN A ∧
    Hid (PE (fun x=>PD dk[a]! x) dk m s=PE (fun x=>PD dk[a]! x) dk m j))
   (fun L _=>(intOf L).toNat)
  case atStart=>exact⟨j,N+nq,rfl,PQ _,O,y,rfl⟩
  clear y;obtain⟨s,A,rfl,A3,A0,y,B⟩:=hrel;have C:∀t,t<d.size→wr.cell? ⟨blk,off+t,none⟩=some (.int .u64 (z t)):=fun t u=>by rw[y];exact V t u
  have I:Hid (wr=W1.drewN A):=y;clear y;by_cases hle2:m≤s
  ·go_wp2_with fail;go_big_quiet (first | (go_at_call 229;refine PC (aQ _ _ _)))
   go_wp2
   ·
    have u:PD (z a) (z s)=true:=aF;go_roundw
    case rel=>exact⟨s-1,A+nq,by go_num,aA,aA,by rw[I.out,PO],(scanDown_go (fun x=>PD dk[a]! x) dk m s hle2 aA (by rw[← D.out a,← D.out s];exact u)).symm.trans B⟩
    simp[intOf];omega

   have u:PD (z a) (z s)=false:=aF;have E:Hid (s=PE (fun x=>PD dk[a]! x) dk m j):=(scanDown_end (fun x=>PD dk[a]! x) dk m s (PT (by rw[← D.out a,← D.out s];exact u))).symm.trans B;clear C B u;have r:wr.drewN nq=W1.drewN (A+nq):=by rw[I.out,PO]
   generalize wr.drewN nq=W3 at r ⊢;have S:∀t,t<d.size→W3.cell? ⟨blk,off+t,none⟩=some (.int .u64 (z t)):=fun t u=>by rw[r];exact V t u
   have Y:∀t,t<d.size→W3.frozen? ⟨blk,off+t,none⟩=false:=fun t u=>by rw[r];exact hf t u
   have J:Hid (W3=W1.drewN (A+nq)):=r;clear r;obtain⟨v3,A8⟩:=cell?_setCell_some (w:=W3) (p:=⟨blk,off+m,none⟩) (x:=.int .u64 (z s)) (q:=⟨blk,off+s,none⟩) (S s aA);have A4:=scans_lt PD a i j dk aA H E hle2;go_wp2;go_region
   all_goals go_wp2
   all_goals go_roundw
   case rel=>
    refine⟨m+1,s-1,n+(A+nq)+1,PI dk m s,by go_num,by go_num,aA,aA,aA,by rw[size_swp];exact hs,?_,?_⟩
    ·rw[J.out,AW.out,PO,D.out m,D.out s];exact swap_worldC (PN .u64) w blk off dk _ m s aA aA
    rw[← X.out];exact(partEq_go PD a i j dk H E aA).symm
   simp[intOf];omega
  go_wp2_with fail;go_big_quiet (first | (go_at_call 229;refine PC (aQ _ _ _)))
  have E:Hid (s=PE (fun x=>PD dk[a]! x) dk m j):=(scanDown_end (fun x=>PD dk[a]! x) dk m s (PS hle2)).symm.trans B;clear C B;have r:wr.drewN nq=W1.drewN (A+nq):=by rw[I.out,PO]
  generalize wr.drewN nq=W3 at r ⊢;have S:∀t,t<d.size→W3.cell? ⟨blk,off+t,none⟩=some (.int .u64 (z t)):=fun t u=>by rw[r];exact V t u
  have Y:∀t,t<d.size→W3.frozen? ⟨blk,off+t,none⟩=false:=fun t u=>by rw[r];exact hf t u
  have J:Hid (W3=W1.drewN (A+nq)):=r;clear r;go_wp2;go_ret;have e:=partEq_break PD a i j dk H E aA;refine⟨?_,n+(A+nq),?_⟩
  ·unfold PG;rw[← X.out,e];rfl
  unfold PG;rw[← X.out,e,J.out,AW.out,PO]
 go_wp2_with fail;go_big_quiet (first | (go_at_call 229;refine PC (aQ _ _ _)))
 go_wp2;have H:Hid (m=PH (fun x=>!PD dk[a]! x) dk j i):=(scanUp_end (fun x=>!PD dk[a]! x) dk j m (PS hle)).symm.trans K;have y:wr.drewN nq=W1.drewN (N+nq):=by rw[F.out,PO]
 clear C F K;go_loopw [10] (fun L w2=>∃(s A:Nat),L=.int .i64 s∧s≤j∧m≤s+1∧w2=W1.drewN A ∧
   Hid (PE (fun x=>PD dk[a]! x) dk m s=PE (fun x=>PD dk[a]! x) dk m j))
  (fun L _=>(intOf L).toNat)
 case atStart=>exact⟨j,N+nq,rfl,PQ _,O,y,rfl⟩
 clear y;obtain⟨s,A,rfl,A3,A0,y,B⟩:=hrel;have C:∀t,t<d.size→wr.cell? ⟨blk,off+t,none⟩=some (.int .u64 (z t)):=fun t u=>by rw[y];exact V t u
 have I:Hid (wr=W1.drewN A):=y;clear y;by_cases hle2:m≤s
 ·exfalso;omega
 go_wp2_with fail;go_big_quiet (first | (go_at_call 229;refine PC (aQ _ _ _)))
 have E:Hid (s=PE (fun x=>PD dk[a]! x) dk m j):=(scanDown_end (fun x=>PD dk[a]! x) dk m s (PS hle2)).symm.trans B;clear C B;have r:wr.drewN nq=W1.drewN (A+nq):=by rw[I.out,PO]
 generalize wr.drewN nq=W3 at r ⊢;have S:∀t,t<d.size→W3.cell? ⟨blk,off+t,none⟩=some (.int .u64 (z t)):=fun t u=>by rw[r];exact V t u
 have Y:∀t,t<d.size→W3.frozen? ⟨blk,off+t,none⟩=false:=fun t u=>by rw[r];exact hf t u
 have J:Hid (W3=W1.drewN (A+nq)):=r;clear r;go_wp2;go_ret;have e:=partEq_break PD a i j dk H E aA;refine⟨?_,n+(A+nq),?_⟩
 ·unfold PG;rw[← X.out,e];rfl
 unfold PG;rw[← X.out,e,J.out,AW.out,PO]
theorem jD(blk off cap a b j:Nat)(d:Array Int)(w:World)(r:Holds (PN .u64) w blk off d)(l:a≤j)(m:j<b)(s:b≤d.size)(p:d.size<4611686018427387904) :
  Calls prog 254 #[.slice (some ⟨blk,off,none⟩) d.size cap,.int .i64 a,.int .i64 b,.int .i64 j] w fun e w'=>
   e=.returned (.int .i64 (PG PD d a b j).1)∧∃n,w'=putRow (PN .u64) (Sort.ahead w n) blk off (PG PD d a b j).2:=
 (nR blk off cap a b j d w r l m s p).mono fun _ _ ⟨he,n,hw⟩=>⟨he,n,hw⟩
theorem sW(blk off cap a b pivot:Nat)(d:Array Int)(w:World)(hH:Holds (PN .u64) w blk off d)(B4:a≤pivot)(B5:pivot<b)(hb:b≤d.size)(B6:d.size<4611686018427387904) :
  Calls prog 255 #[.slice (some ⟨blk,off,none⟩) d.size cap,.int .i64 a,.int .i64 b,.int .i64 pivot] w fun e w'=>
   e=.returned (.tuple #[.int .i64 (PF PD d a b pivot).1,.bool (PF PD d a b pivot).2.1])∧∃n,w'=(putRow (PN .u64) w blk off (PF PD d a b pivot).2.2).drewN n:=by
 have A0:a<d.size:=aA;have A1:pivot<d.size:=aA;obtain⟨G,T⟩:∃G:Nat→Int,∀j,G j=d[j]!:=⟨fun j=>d[j]!,fun _=>rfl⟩;have ca:w.cell? ⟨blk,off+a,none⟩=some (.int .u64 (G a)):=by rw[T];exact(hH a A0).1
 have fa:=(hH a A0).2;have cp:w.cell? ⟨blk,off+pivot,none⟩=some (.int .u64 (G pivot)):=by rw[T];exact(hH pivot A1).1
 have fp:=(hH pivot A1).2;obtain⟨v',B2⟩:=cell?_setCell_some (w:=w) (p:=⟨blk,off+a,none⟩) (x:=.int .u64 (G pivot)) (q:=⟨blk,off+pivot,none⟩) cp;have V:((w.setCell ⟨blk,off+a,none⟩ (.int .u64 (G pivot))).setCell ⟨blk,off+pivot,none⟩ (.int .u64 (G a))).drew=(putRow (PN .u64) w blk off (PI d a pivot)).drewN 1:=by
  have e:=swap_worldC (PN .u64) w blk off d 0 a pivot A0 A1;rw[putRow_self _ w blk off d hH]at e;rw[T a,T pivot];exact e
 have AH:Hid (Holds (PN .u64) w blk off d):=hH;have A6:=Hid.mk' V;clear T hH V;go_enter func255,ntmps255;go_wp2;go_region;go_wp2;clear ca fa cp fp B2 v';have V:=A6.out;clear A6;generalize ((w.setCell ⟨blk,off+a,none⟩ (.int .u64 (G pivot))).setCell ⟨blk,off+pivot,none⟩ (.int .u64 (G a))).drew=W1 at V ⊢;obtain⟨dk,Y⟩:=aH (PI d a pivot);obtain⟨n,hn⟩:=aH (1:Nat);rw[← Y,← hn]at V;clear hn;have hs:dk.size=d.size:=by rw[Y,size_swp]
 have e1:((a:Int)+1)=((a+1:Nat):Int):=aA;have e2:((b:Int)-1)=((b-1:Nat):Int):=aA;rw[e1,e2];clear e1 e2;obtain⟨i,hi⟩:=aH (a+1);obtain⟨j,hj⟩:=aH (b-1);rw[← hi,← hj];have B0:a<i:=aA;have A2:i≤j+1:=aA;have B1:j<b:=aA;have HI:=Hid.mk' hi;have HJ:=Hid.mk' hj;have A3:=Hid.mk' Y;clear hi hj Y;have O:Holds (PN .u64) W1 blk off dk:=by
  rw[V];exact holds_putRow (PN .u64) w blk off d dk AH hs
 obtain⟨y,T⟩:∃y:Nat→Int,∀t,y t=dk[t]!:=⟨fun t=>dk[t]!,fun _=>rfl⟩;have Q:∀t,t<d.size→W1.cell? ⟨blk,off+t,none⟩=some (.int .u64 (y t)):=fun t s=>by rw[T];exact(O t aA).1
 have Z:∀t,t<d.size→W1.frozen? ⟨blk,off+t,none⟩=false:=fun t s=>(O t aA).2;have C:Hid (∀t,y t=dk[t]!):=T;have AW:Hid (W1=(putRow (PN .u64) w blk off dk).drewN n):=V;clear T V O;go_loopw [10] (fun X w1=>∃(m M:Nat),X=.int .i64 m∧i≤m∧m≤j+1∧w1=W1.drewN M ∧
   Hid (PH (fun x=>PD x dk[a]!) dk j m=PH (fun x=>PD x dk[a]!) dk j i))
  (fun X _=>j+1-(intOf X).toNat)
 case atStart=>exact⟨i,0,rfl,PQ _,A2,rfl,rfl⟩
 obtain⟨m,M,rfl,B3,N,P,K⟩:=hrel;have B:∀t,t<d.size→wr.cell? ⟨blk,off+t,none⟩=some (.int .u64 (y t)):=fun t s=>by rw[P];exact Q t s
 have I:Hid (wr=W1.drewN M):=P;clear P;by_cases hle:m≤j
 ·go_wp2_with fail;go_big_quiet (first | (go_at_call 229;refine PC (aQ _ _ _)))
  go_wp2
  ·
   have s:PD (y m) (y a)=true:=aF;go_roundw
   case rel=>exact⟨m+1,M+nq,by go_num,aA,aA,by rw[I.out,PO],(scanUp_go (fun x=>PD x dk[a]!) dk j m hle (by rw[← C.out a,← C.out m];exact s)).symm.trans K⟩
   simp[intOf];omega

  have s:PD (y m) (y a)=false:=aF;have E:Hid (m=PH (fun x=>PD x dk[a]!) dk j i):=(scanUp_end (fun x=>PD x dk[a]!) dk j m (PT (by rw[← C.out a,← C.out m];exact s))).symm.trans K;clear s;have u:wr.drewN nq=W1.drewN (M+nq):=by rw[I.out,PO]
  clear B I K;go_loopw [11] (fun L w2=>∃(l z:Nat),L=.int .i64 l∧l≤j∧m≤l+1∧w2=W1.drewN z ∧
    Hid (PE (fun x=>!PD x dk[a]!) dk m l=PE (fun x=>!PD x dk[a]!) dk m j))
   (fun L _=>(intOf L).toNat)
  case atStart=>exact⟨j,M+nq,rfl,PQ _,N,u,rfl⟩
  clear u;obtain⟨l,z,rfl,A5,W,u,A⟩:=hrel;have B:∀t,t<d.size→wr.cell? ⟨blk,off+t,none⟩=some (.int .u64 (y t)):=fun t s=>by rw[u];exact Q t s
  have J:Hid (wr=W1.drewN z):=u;clear u;by_cases hle2:m≤l
  ·go_wp2_with fail;go_big_quiet (first | (go_at_call 229;refine PC (aQ _ _ _)))
   go_wp2
   ·
    have s:(!PD (y l) (y a))=true:=aF;go_roundw
    case rel=>exact⟨l-1,z+nq,by go_num,aA,aA,by rw[J.out,PO],(scanDown_go (fun x=>!PD x dk[a]!) dk m l hle2 aA (by rw[← C.out a,← C.out l];exact s)).symm.trans A⟩
    simp[intOf];omega

   have s:(!PD (y l) (y a))=false:=aF;have D:Hid (l=PE (fun x=>!PD x dk[a]!) dk m j):=(scanDown_end (fun x=>!PD x dk[a]!) dk m l (PT (by rw[← C.out a,← C.out l];exact s))).symm.trans A;clear B A s;have r:wr.drewN nq=W1.drewN (z+nq):=by rw[J.out,PO]
   generalize wr.drewN nq=W3 at r ⊢;have F:∀t,t<d.size→W3.cell? ⟨blk,off+t,none⟩=some (.int .u64 (y t)):=fun t s=>by rw[r];exact Q t s
   have S:∀t,t<d.size→W3.frozen? ⟨blk,off+t,none⟩=false:=fun t s=>by rw[r];exact Z t s
   have H:Hid (W3=W1.drewN (z+nq)):=r;clear r;obtain⟨v3,U⟩:=cell?_setCell_some (w:=W3) (p:=⟨blk,off+m,none⟩) (x:=.int .u64 (y l)) (q:=⟨blk,off+l,none⟩) (F l aA);have A7:=part_scans_lt PD a i j dk aA E D hle2;go_wp2;go_region
   all_goals go_wp2
   obtain⟨R,hR⟩:=aH (PM PD a (m+1) (l-1) (PI dk m l));have HP:Hid (PF PD d a b pivot=(R.1,false,PI R.2 R.1 a)):=by rw[hR];exact part_first_go PD d a b pivot HI HJ A3 E D aA
   have A8:((W3.setCell ⟨blk,off+m,none⟩ (.int .u64 (y l))).setCell ⟨blk,off+l,none⟩ (.int .u64 (y m))).drew=(putRow (PN .u64) w blk off (PI dk m l)).drewN (n+(z+nq)+1):=by
    rw[H.out,AW.out,PO,C.out m,C.out l];exact swap_worldC (PN .u64) w blk off dk _ m l aA aA
   have HR:Hid (R=PM PD a (m+1) (l-1) (PI dk m l)):=hR;clear hR Q Z F S U H AW C E D;go_loopw [10,11] (fun X L wr=>∃(i j n:Nat) (dk:Array Int),X=.int .i64 i∧L=.int .i64 j∧a<i∧i≤j+1∧j<b∧dk.size=d.size∧wr=(putRow (PN .u64) w blk off dk).drewN n ∧
     PM PD a i j dk=R)
    (fun X L _=>(intOf L).toNat+1-(intOf X).toNat)
   case atStart=>exact⟨m+1,l-1,_,PI dk m l,by go_num,by go_num,aA,aA,aA,by rw[size_swp];exact hs,A8,HR.symm⟩
   clear A8 HR;obtain⟨i,j,n,dk,rfl,rfl,B0,A2,B1,hs,V,A9⟩:=hrel;rename World=>W1
   have AE:Hid (PM PD a i j dk=R):=A9;clear A9;have O:Holds (PN .u64) W1 blk off dk:=by
    rw[V];exact holds_putRow (PN .u64) w blk off d dk AH hs
   obtain⟨y,T⟩:∃y:Nat→Int,∀t,y t=dk[t]!:=⟨fun t=>dk[t]!,fun _=>rfl⟩;have Q:∀t,t<d.size→W1.cell? ⟨blk,off+t,none⟩=some (.int .u64 (y t)):=fun t s=>by rw[T];exact(O t aA).1
   have Z:∀t,t<d.size→W1.frozen? ⟨blk,off+t,none⟩=false:=fun t s=>(O t aA).2;have C:Hid (∀t,y t=dk[t]!):=T;have AW:Hid (W1=(putRow (PN .u64) w blk off dk).drewN n):=V;clear T V O;go_wp2;go_loopw [10] (fun X w1=>∃(m M:Nat),X=.int .i64 m∧i≤m∧m≤j+1∧w1=W1.drewN M ∧
     Hid (PH (fun x=>PD x dk[a]!) dk j m=PH (fun x=>PD x dk[a]!) dk j i))
    (fun X _=>j+1-(intOf X).toNat)
   case atStart=>exact⟨i,0,rfl,PQ _,A2,rfl,rfl⟩
   obtain⟨m,M,rfl,B3,N,P,K⟩:=hrel;have B:∀t,t<d.size→wr.cell? ⟨blk,off+t,none⟩=some (.int .u64 (y t)):=fun t s=>by rw[P];exact Q t s
   have I:Hid (wr=W1.drewN M):=P;clear P;by_cases hle:m≤j
   ·go_wp2_with fail;go_big_quiet (first | (go_at_call 229;refine PC (aQ _ _ _)))
    go_wp2
    ·
     have s:PD (y m) (y a)=true:=aF;go_roundw
     case rel=>exact⟨m+1,M+nq,by go_num,aA,aA,by rw[I.out,PO],(scanUp_go (fun x=>PD x dk[a]!) dk j m hle (by rw[← C.out a,← C.out m];exact s)).symm.trans K⟩
     simp[intOf];omega

    have s:PD (y m) (y a)=false:=aF;have E:Hid (m=PH (fun x=>PD x dk[a]!) dk j i):=(scanUp_end (fun x=>PD x dk[a]!) dk j m (PT (by rw[← C.out a,← C.out m];exact s))).symm.trans K;clear s;have u:wr.drewN nq=W1.drewN (M+nq):=by rw[I.out,PO]
    clear B I K;go_loopw [11] (fun L w2=>∃(l z:Nat),L=.int .i64 l∧l≤j∧m≤l+1∧w2=W1.drewN z ∧
      Hid (PE (fun x=>!PD x dk[a]!) dk m l=PE (fun x=>!PD x dk[a]!) dk m j))
     (fun L _=>(intOf L).toNat)
    case atStart=>exact⟨j,M+nq,rfl,PQ _,N,u,rfl⟩
    clear u;obtain⟨l,z,rfl,A5,W,u,A⟩:=hrel;have B:∀t,t<d.size→wr.cell? ⟨blk,off+t,none⟩=some (.int .u64 (y t)):=fun t s=>by rw[u];exact Q t s
    have J:Hid (wr=W1.drewN z):=u;clear u;by_cases hle2:m≤l
    ·go_wp2_with fail;go_big_quiet (first | (go_at_call 229;refine PC (aQ _ _ _)))
     go_wp2
     ·
      have s:(!PD (y l) (y a))=true:=aF;go_roundw
      case rel=>exact⟨l-1,z+nq,by go_num,aA,aA,by rw[J.out,PO],(scanDown_go (fun x=>!PD x dk[a]!) dk m l hle2 aA (by rw[← C.out a,← C.out l];exact s)).symm.trans A⟩
      simp[intOf];omega

     have s:(!PD (y l) (y a))=false:=aF;have D:Hid (l=PE (fun x=>!PD x dk[a]!) dk m j):=(scanDown_end (fun x=>!PD x dk[a]!) dk m l (PT (by rw[← C.out a,← C.out l];exact s))).symm.trans A;clear B A s;have r:wr.drewN nq=W1.drewN (z+nq):=by rw[J.out,PO]
     generalize wr.drewN nq=W3 at r ⊢;have F:∀t,t<d.size→W3.cell? ⟨blk,off+t,none⟩=some (.int .u64 (y t)):=fun t s=>by rw[r];exact Q t s
     have S:∀t,t<d.size→W3.frozen? ⟨blk,off+t,none⟩=false:=fun t s=>by rw[r];exact Z t s
     have H:Hid (W3=W1.drewN (z+nq)):=r;clear r;obtain⟨v3,U⟩:=cell?_setCell_some (w:=W3) (p:=⟨blk,off+m,none⟩) (x:=.int .u64 (y l)) (q:=⟨blk,off+l,none⟩) (F l aA);have A7:=part_scans_lt PD a i j dk aA E D hle2;go_wp2;go_region
     all_goals go_wp2
     all_goals go_roundw
     case rel=>
      refine⟨m+1,l-1,n+(z+nq)+1,PI dk m l,by go_num,by go_num,aA,aA,aA,by rw[size_swp];exact hs,?_,?_⟩
      ·rw[H.out,AW.out,PO,C.out m,C.out l];exact swap_worldC (PN .u64) w blk off dk _ m l aA aA
      exact(part_go PD a i j dk E D aA).symm.trans AE
     simp[intOf];omega
    go_wp2_with fail;go_big_quiet (first | (go_at_call 229;refine PC (aQ _ _ _)))
    have D:Hid (l=PE (fun x=>!PD x dk[a]!) dk m j):=(scanDown_end (fun x=>!PD x dk[a]!) dk m l (PS hle2)).symm.trans A;clear B A;have r:wr.drewN nq=W1.drewN (z+nq):=by rw[J.out,PO]
    generalize wr.drewN nq=W3 at r ⊢;have F:∀t,t<d.size→W3.cell? ⟨blk,off+t,none⟩=some (.int .u64 (y t)):=fun t s=>by rw[r];exact Q t s
    have S:∀t,t<d.size→W3.frozen? ⟨blk,off+t,none⟩=false:=fun t s=>by rw[r];exact Z t s
    have H:Hid (W3=W1.drewN (z+nq)):=r;clear r;obtain⟨v3,U⟩:=cell?_setCell_some (w:=W3) (p:=⟨blk,off+l,none⟩) (x:=.int .u64 (y a)) (q:=⟨blk,off+a,none⟩) (F a aA);have A4:l<d.size:=aA;go_wp2;go_region
    all_goals go_wp2
    all_goals go_ret2
    have e:PF PD d a b pivot=(l,false,PI dk l a):=by
     have e0:=(part_break PD a i j dk E D aA).symm.trans AE;rw[HP.out,← e0]
    refine⟨?_,n+(z+nq)+1,?_⟩
    ·rw[e];rfl
    rw[e,H.out,AW.out,PO,C.out a,C.out l];exact swap_worldC (PN .u64) w blk off dk _ l a aA aA
   go_wp2_with fail;go_big_quiet (first | (go_at_call 229;refine PC (aQ _ _ _)))
   go_wp2;have E:Hid (m=PH (fun x=>PD x dk[a]!) dk j i):=(scanUp_end (fun x=>PD x dk[a]!) dk j m (PS hle)).symm.trans K;have u:wr.drewN nq=W1.drewN (M+nq):=by rw[I.out,PO]
   clear B I K;go_loopw [11] (fun L w2=>∃(l z:Nat),L=.int .i64 l∧l≤j∧m≤l+1∧w2=W1.drewN z ∧
     Hid (PE (fun x=>!PD x dk[a]!) dk m l=PE (fun x=>!PD x dk[a]!) dk m j))
    (fun L _=>(intOf L).toNat)
   case atStart=>exact⟨j,M+nq,rfl,PQ _,N,u,rfl⟩
   clear u;obtain⟨l,z,rfl,A5,W,u,A⟩:=hrel;have B:∀t,t<d.size→wr.cell? ⟨blk,off+t,none⟩=some (.int .u64 (y t)):=fun t s=>by rw[u];exact Q t s
   have J:Hid (wr=W1.drewN z):=u;clear u;by_cases hle2:m≤l
   ·exfalso;omega
   go_wp2_with fail;go_big_quiet (first | (go_at_call 229;refine PC (aQ _ _ _)))
   have D:Hid (l=PE (fun x=>!PD x dk[a]!) dk m j):=(scanDown_end (fun x=>!PD x dk[a]!) dk m l (PS hle2)).symm.trans A;clear B A;have r:wr.drewN nq=W1.drewN (z+nq):=by rw[J.out,PO]
   generalize wr.drewN nq=W3 at r ⊢;have F:∀t,t<d.size→W3.cell? ⟨blk,off+t,none⟩=some (.int .u64 (y t)):=fun t s=>by rw[r];exact Q t s
   have S:∀t,t<d.size→W3.frozen? ⟨blk,off+t,none⟩=false:=fun t s=>by rw[r];exact Z t s
   have H:Hid (W3=W1.drewN (z+nq)):=r;clear r;obtain⟨v3,U⟩:=cell?_setCell_some (w:=W3) (p:=⟨blk,off+l,none⟩) (x:=.int .u64 (y a)) (q:=⟨blk,off+a,none⟩) (F a aA);have A4:l<d.size:=aA;go_wp2;go_region
   all_goals go_wp2
   all_goals go_ret2
   have e:PF PD d a b pivot=(l,false,PI dk l a):=by
    have e0:=(part_break PD a i j dk E D aA).symm.trans AE;rw[HP.out,← e0]
   refine⟨?_,n+(z+nq)+1,?_⟩
   ·rw[e];rfl
   rw[e,H.out,AW.out,PO,C.out a,C.out l];exact swap_worldC (PN .u64) w blk off dk _ l a aA aA
  go_wp2_with fail;go_big_quiet (first | (go_at_call 229;refine PC (aQ _ _ _)))
  have D:Hid (l=PE (fun x=>!PD x dk[a]!) dk m j):=(scanDown_end (fun x=>!PD x dk[a]!) dk m l (PS hle2)).symm.trans A;clear B A;have r:wr.drewN nq=W1.drewN (z+nq):=by rw[J.out,PO]
  generalize wr.drewN nq=W3 at r ⊢;have F:∀t,t<d.size→W3.cell? ⟨blk,off+t,none⟩=some (.int .u64 (y t)):=fun t s=>by rw[r];exact Q t s
  have S:∀t,t<d.size→W3.frozen? ⟨blk,off+t,none⟩=false:=fun t s=>by rw[r];exact Z t s
  have H:Hid (W3=W1.drewN (z+nq)):=r;clear r;obtain⟨v3,U⟩:=cell?_setCell_some (w:=W3) (p:=⟨blk,off+l,none⟩) (x:=.int .u64 (y a)) (q:=⟨blk,off+a,none⟩) (F a aA);have A4:l<d.size:=aA;go_wp2;go_region
  all_goals go_wp2
  all_goals go_ret2
  have e:PF PD d a b pivot=(l,true,PI dk l a):=part_first_break PD d a b pivot HI HJ A3 E D aA;refine⟨?_,n+(z+nq)+1,?_⟩
  ·rw[e];rfl
  rw[e,H.out,AW.out,PO,C.out a,C.out l];exact swap_worldC (PN .u64) w blk off dk _ l a aA aA
 go_wp2_with fail;go_big_quiet (first | (go_at_call 229;refine PC (aQ _ _ _)))
 go_wp2;have E:Hid (m=PH (fun x=>PD x dk[a]!) dk j i):=(scanUp_end (fun x=>PD x dk[a]!) dk j m (PS hle)).symm.trans K;have u:wr.drewN nq=W1.drewN (M+nq):=by rw[I.out,PO]
 clear B I K;go_loopw [11] (fun L w2=>∃(l z:Nat),L=.int .i64 l∧l≤j∧m≤l+1∧w2=W1.drewN z ∧
   Hid (PE (fun x=>!PD x dk[a]!) dk m l=PE (fun x=>!PD x dk[a]!) dk m j))
  (fun L _=>(intOf L).toNat)
 case atStart=>exact⟨j,M+nq,rfl,PQ _,N,u,rfl⟩
 clear u;obtain⟨l,z,rfl,A5,W,u,A⟩:=hrel;have B:∀t,t<d.size→wr.cell? ⟨blk,off+t,none⟩=some (.int .u64 (y t)):=fun t s=>by rw[u];exact Q t s
 have J:Hid (wr=W1.drewN z):=u;clear u;by_cases hle2:m≤l
 ·exfalso;omega
 go_wp2_with fail;go_big_quiet (first | (go_at_call 229;refine PC (aQ _ _ _)))
 have D:Hid (l=PE (fun x=>!PD x dk[a]!) dk m j):=(scanDown_end (fun x=>!PD x dk[a]!) dk m l (PS hle2)).symm.trans A;clear B A;have r:wr.drewN nq=W1.drewN (z+nq):=by rw[J.out,PO]
 generalize wr.drewN nq=W3 at r ⊢;have F:∀t,t<d.size→W3.cell? ⟨blk,off+t,none⟩=some (.int .u64 (y t)):=fun t s=>by rw[r];exact Q t s
 have S:∀t,t<d.size→W3.frozen? ⟨blk,off+t,none⟩=false:=fun t s=>by rw[r];exact Z t s
 have H:Hid (W3=W1.drewN (z+nq)):=r;clear r;obtain⟨v3,U⟩:=cell?_setCell_some (w:=W3) (p:=⟨blk,off+l,none⟩) (x:=.int .u64 (y a)) (q:=⟨blk,off+a,none⟩) (F a aA);have A4:l<d.size:=aA;go_wp2;go_region
 all_goals go_wp2
 all_goals go_ret2
 have e:PF PD d a b pivot=(l,true,PI dk l a):=part_first_break PD d a b pivot HI HJ A3 E D aA;refine⟨?_,n+(z+nq)+1,?_⟩
 ·rw[e];rfl
 rw[e,H.out,AW.out,PO,C.out a,C.out l];exact swap_worldC (PN .u64) w blk off dk _ l a aA aA
theorem lZ(blk off cap a b j:Nat)(d:Array Int)(w:World)(r:Holds (PN .u64) w blk off d)(l:a≤j)(m:j<b)(s:b≤d.size)(p:d.size<4611686018427387904) :
  Calls prog 255 #[.slice (some ⟨blk,off,none⟩) d.size cap,.int .i64 a,.int .i64 b,.int .i64 j] w fun e w'=>
   e=.returned (.tuple #[.int .i64 (PF PD d a b j).1,.bool (PF PD d a b j).2.1])∧∃n,w'=putRow (PN .u64) (Sort.ahead w n) blk off (PF PD d a b j).2.2:=
 (sW blk off cap a b j d w r l m s p).mono fun _ _ ⟨he,n,hw⟩=>⟨he,n,hw⟩
end Go.Proofs.YtbkkolfpegplgaaGreatDoor
