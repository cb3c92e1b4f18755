import Derived.Test.YtbkkolfpegplgaaGreatDoorTG18
import Derived.Deep.RegionLaw
open Go.Proofs.Tryz
set_option maxHeartbeats 3200000
set_option maxRecDepth 100000
namespace Go.Proofs.YtbkkolfpegplgaaGreatDoor
open Go.RowKit
def GO (w:World) (zs:List Iv) (ap:Int) (len:Nat) (e:Ending) (w':World):Prop:=
 Below w.heap.size w w'∧((ApTo zs ap len∧e=.returned (.bool true))∨(¬ApTo zs ap len∧e=.returned (.bool false)))
theorem Mm{w j:World}{base:Nat}{v l:Value}{xs ys:List Int}{x y:Int}(e:ys=xs ++ [x,y])(h:OwnI w base v xs)(m:j.ownsRow base 57 1 l (xs.length+1+1) (xs.map (Value.int .u64) ++ [.int .u64 x] ++ [.int .u64 y]))(n:aL x)(p:aL y):OwnI j base l ys:=by
 subst e;refine⟨by simpa using m,fun z b=>?_⟩;simp at b;rcases b with b | rfl | rfl
 ·exact h.words z b
 ·exact n
 exact p
theorem xG(a:Option Addr)(len cap:Nat)(zs:List Iv)(ap:Int)(w:World)(h:Prs w a len zs)(ha:aL ap)(hA:ApTo zs ap len)(hs:len≤1000) :
  Calls prog 161 #[.slice a len cap,.int .u64 ap] w fun e w'=>∃v,e=.returned v∧OwnI w' w.heap.size v (gV zs ap len)∧Below w.heap.size w w':=by
 obtain⟨G,I,J,K,L⟩:=info_parts iD;have H:=aI h;have HA:=aI ha;have HT:=aI hA;clear h ha hA;go_enter func161,ntmps161;go_wp2;go_loopw [5,6] (fun o c wr=>∃k:Nat,k≤len∧c=.int .i64 k∧OwnI wr w.heap.size o (gV zs ap k)∧Below w.heap.size w wr)
  (fun _ c _=>len-(intOf c).toNat)
 case atStart=>exact⟨0,Nat.zero_le _,rfl,OwnI.nil _ _,Below.refl _ _⟩
 obtain⟨k,hk,rfl,hO,Q⟩:=hrel;have R:=aI hO;clear hO;by_cases hlt:k<len
 ·obtain⟨b,off,rfl,A6,M,N⟩:=(H.below Q).cells k hlt;have S:=H.word hlt;have i0:(0:Int)≤(k:Int):=aA;have i1:(k:Int)<(len:Int):=aA;have A3:=Q.size;have E:=aI (gN zs ap k);have F:Hid (gV zs ap (k+1)=gV zs ap k ++ [iL zs ap k,Hi zs k-Lo zs k]):=rfl;have hT:=HT.out k hlt;have O:=aI (ApTo.gap H hlt HA hT.2);have eG:=aI (show iL zs ap k=if k=0 then Lo zs 0 else Lo zs k-Hi zs (k-1)-1-ap from rfl);have P:Hid (aL (Hi zs k-Lo zs k)):=aI (by unfold aL at *;omega);by_cases hk0:k=0
  ·obtain⟨lo,p⟩:=aH (Lo zs k);obtain⟨hi,r⟩:=aH (Hi zs k);have s:iL zs ap k=Lo zs k:=by rw[eG.out,if_pos hk0,hk0]
   rw[s]at F O;rw[← p]at M S F P O;rw[← r]at N S F P;have T:=aI Q;have U:=aI p;have V:=aI r;have n0:((k:Int) == 0)=true:=by simp;omega
   have d4:IntKind.u64.wrap (hi-lo)=hi-lo:=bA P;have y:=aI (show(gV zs ap k).length+1≤maxLen∧((gV zs ap k).length+1) * 8≤140737488355328 by rw[E.out];unfold maxLen;omega);have z:=aI (show(gV zs ap k).length+1+1≤maxLen∧((gV zs ap k).length+1+1) * 8≤140737488355328 by rw[E.out];unfold maxLen;omega);clear p r hk0 S eG s Q hT;go_wp2_with(at_builtin;refine wpList_append_own_at _ rfl _ _ 89 rfl w.heap.size 57 G (.int .u64 0) 1 8 underlying89 I J K L rfl aB _ _ _ rfl (R.row.alloc _) ⟨wr.heap.size,0,none⟩ 1 1 [.int .u64 lo] rfl rfl ?s1 ?s2 ?s3 ?s4 ?s5 ?_)
   case s1=>exact cell_one_new wr _ _
   case s2=>intro u B;simp at B;subst B;rfl
   case s3=>exact y.1
   case s4=>exact y.2
   case s5=>exact(aJ T _).size
   intro v' w2 l j _ _;have m:=(aJ T _).grown j (aJ T _).size (fun g hg=>(R.row.lt g hg).1);have n:=aI m;obtain⟨b3,off3,A,_,k1,k2⟩:=(H.below m).cells k hlt;obtain⟨rfl,rfl⟩:b=b3∧off=off3:=by simpa using A
   rw[← U.out]at k1;rw[← V.out]at k2;have HR:=aI l;clear A l j M N m;go_wp2_with fail;go_region_law (refine step_append_lies _ rfl _ _ 89 rfl w.heap.size 57 G (.int .u64 0) 1 8 underlying89 I J K L rfl aB _ _ _ rfl (HR.alloc _).drew ⟨w2.heap.size,0,none⟩ 1 1 [.int .u64 (hi-lo)] rfl rfl ?_ ?_ aB ?_ ?_ ?_ (w2.heap.size+1) ?_ ?_;exact cell_one_new w2 _ _;(intro u B;simp at B;subst B;rfl);exact z.1;exact z.2;(exact(aS (aJ n _)).size);simp;intro g3 A4 w3 l j C D)
   all_goals
    have W:=(aS (aJ n _)).grown j (aS (aJ n _)).size (fun g hg=>(HR.lt g hg).1);have X:=aI (Mm F R l O P);clear l j C D;go_wp2;go_roundw
    case rel=>exact⟨k+1,aA,by go_num,X,W⟩
    simp[intOf];omega
  obtain⟨b2,off2,eb,_,_,A0⟩:=(H.below Q).cells (k-1) aA;obtain⟨rfl,rfl⟩:b=b2∧off=off2:=by simpa using eb
  have Y:=(H.word (i:=k-1) aA).2;have Z:=hT.2 aA;obtain⟨lo,p⟩:=aH (Lo zs k);obtain⟨hi,r⟩:=aH (Hi zs k);obtain⟨pr,A1⟩:=aH (Hi zs (k-1));have s:=eG.out;rw[if_neg hk0]at s;rw[s]at F O;rw[← p]at M S hT F P O Z;rw[← r]at N S hT F P;rw[← A1]at A0 Y F O Z;have HW:=aI S;have HP:=aI Y;have T:=aI Q;have n0:¬(k:Int)=0:=aA;have n1:(0:Int)≤(k:Int)-1:=aA;have n2:(k:Int)-1<(len:Int):=aA;have n3:IntKind.i64.wrap ((k:Int)-1)=(k:Int)-1:=IntWalk.i64_in _ aA;have n4:((k:Int)-1).toNat=k-1:=aA;have d1:IntKind.u64.wrap (lo-pr)=lo-pr:=bA (by have:=HW.out;have:=HP.out;unfold aL at *;omega);have d2:IntKind.u64.wrap (lo-pr-1)=lo-pr-1:=bA (by have:=HW.out;have:=HP.out;unfold aL at *;omega);have d3:IntKind.u64.wrap (lo-pr-1-ap)=lo-pr-1-ap:=bA O;have d4:IntKind.u64.wrap (hi-lo)=hi-lo:=bA P;have U:=aI p;have V:=aI r;clear eb p r A1 hk0 S Y eG s Q hT Z;go_wp2_with fail;have y:=aI (show(gV zs ap k).length+1≤maxLen∧((gV zs ap k).length+1) * 8≤140737488355328 by rw[E.out];unfold maxLen;omega);have z:=aI (show(gV zs ap k).length+1+1≤maxLen∧((gV zs ap k).length+1+1) * 8≤140737488355328 by rw[E.out];unfold maxLen;omega);have A5:=aI A3;have j5:(1:Int)≤(k:Int):=aA;have j6:1≤k:=aA;have j7:(k:Int)≤(len:Int):=aA;go_region_law (refine step_append_lies _ rfl _ _ 89 rfl w.heap.size 57 G (.int .u64 0) 1 8 underlying89 I J K L rfl aB _ _ _ rfl (R.row.alloc _).drew ⟨wr.heap.size,0,none⟩ 1 1 [.int .u64 (lo-pr-1-ap)] rfl rfl ?_ ?_ aB ?_ ?_ ?_ (wr.heap.size+1) ?_ ?_;exact cell_one_new wr _ _;(intro u B;simp at B;subst B;rfl);exact y.1;exact y.2;(exact(aS (aJ T _)).size);simp;intro g cp w2 l j C A2)
  all_goals
   have m:=(aS (aJ T _)).grown j (aS (aJ T _)).size (fun g hg=>(R.row.lt g hg).1);have n:=aI m;obtain⟨b3,off3,A,_,k1,k2⟩:=(H.below m).cells k hlt;obtain⟨rfl,rfl⟩:b=b3∧off=off3:=by simpa using A
   rw[← U.out]at k1;rw[← V.out]at k2;have HR:=aI l;clear A l j C A2 M N A0 m;go_wp2_with fail;go_region_law (refine step_append_lies _ rfl _ _ 89 rfl w.heap.size 57 G (.int .u64 0) 1 8 underlying89 I J K L rfl aB _ _ _ rfl (HR.alloc _).drew ⟨w2.heap.size,0,none⟩ 1 1 [.int .u64 (hi-lo)] rfl rfl ?_ ?_ aB ?_ ?_ ?_ (w2.heap.size+1) ?_ ?_;exact cell_one_new w2 _ _;(intro u B;simp at B;subst B;rfl);exact z.1;exact z.2;(exact(aS (aJ n _)).size);simp;intro g3 A4 w3 l j C D)
   all_goals
    have W:=(aS (aJ n _)).grown j (aS (aJ n _)).size (fun g hg=>(HR.lt g hg).1);have X:=aI (Mm F R l O P);clear l j C D;go_wp2;go_roundw
    case rel=>exact⟨k+1,aA,by go_num,X,W⟩
    simp[intOf];omega
 obtain rfl:k=len:=aA;go_wp2;go_ret;exact⟨_,rfl,R,Q⟩
end Go.Proofs.YtbkkolfpegplgaaGreatDoor
