import Derived.Test.YtbkkolfpegplgaaGreatDoorTG23
import Derived.Test.YtbkkolfpegplgaaGreatDoorTG26
import Derived.Test.YtbkkolfpegplgaaGreatDoorTG28
open And renaming intro→PC
open Array renaming replicate_zero→PD,replicate_succ→PE
open Exists renaming intro→PF
open Go.IntKind renaming wrap_u64→PG,wrap_i64→PH
open Go.RowKit.Below renaming refl→PI
open Go.World renaming cell?→PJ,ownsRow_nil→PM
open List renaming getElem?_eq_getElem→PN,length_map→PO,getD→PQ,take_of_length_le→PS,take_succ_eq_append_getElem→PT,length_take→PU,drop_length→PV,nil_append→PX,append_toArray→PY,length_append→PZ,size_toArray→QA,push_toArray→QB,length_cons→QC,cons_append→QE,map_append→QF,length_nil→QG
open Nat renaming le_refl→QH,zero_le→QI,lt_or_ge→QJ,add_assoc→QK
open Go.Proofs.Tryz
set_option maxHeartbeats 12800000
set_option maxRecDepth 100000
set_option linter.unusedVariables false
set_option linter.unusedSimpArgs false
namespace Go.Proofs.YtbkkolfpegplgaaGreatDoor
open Go Go.RowKit
theorem En(t:Int)(w:World) :
  Calls prog 177 #[.int .u64 t] w fun e w'=>e=.returned (.agg #[.int .u64 0,.int .u64 t])∧Below w.heap.size w w':=by
 go_enter func177,ntmps177;go_wp2;refine bodyPost_ret (v:=.agg #[.int .u64 0,.int .u64 t]) ?_ rfl ⟨rfl,aJ (PI _ _) _⟩;simp[results,results177,go_sem]
theorem Ar(p:EV)(w:World)(h:HolesAt w p)(M:EntW p.1)(N:lX p.1)(hs:p.1.hs.length≤3500000000) :
  Calls prog 190 #[kO p] w fun e w'=>∃v out,e=.returned v∧OwnL w' w.heap.size 123 v out∧cL out∧(∀c,aV out c↔rH p.1 c)∧out.length≤p.1.hs.length+1∧Below w.heap.size w w':=by
 have D:prog.follows .mixedOrders=true:=aC;obtain⟨⟨x,y,z⟩,hv⟩:=p;obtain⟨a,cap,L,h1,h2⟩:=h.at';simp only at L h1 h2 hs;subst L;have A:=M.mx;simp only at A;have I:∀out:List Iv,(∀c,aV out c↔0≤c∧c≤y∧¬aV z c)→∀c,aV out c↔rH ⟨x,y,z⟩ c:=fun out ho c=>ho c;have J:=aI (fun(W:World) (Y:Only (fun _=>False) (w.alloc (.cells #[.int .u64 x,.int .u64 y,.slice a z.length cap] 96)) W)=>Mq (.slice a z.length cap) z 0 y W ⟨a,cap,rfl,(mJ (h1.below (aJ (PI _ _) _)) Y (fun _ _ h=>h)),h2⟩ N.1 ⟨aB,aB⟩ A A.1 hs);have O:=aI I;have E:(w.alloc (.cells #[.int .u64 x,.int .u64 y,.slice a z.length cap] 96)).cell? ⟨w.heap.size,1,none⟩=some (.int .u64 y):=aD;have F:(w.alloc (.cells #[.int .u64 x,.int .u64 y,.slice a z.length cap] 96)).cell? ⟨w.heap.size,2,none⟩=some (.slice a z.length cap):=aD;unfold kO;simp only;clear h h1 h2 M N I A hs;go_enter func190,ntmps190;go_wp2_with fail;obtain⟨w1,l⟩:=aG (w.alloc (.cells #[.int .u64 x,.int .u64 y,.slice a z.length cap] 96));have G:=aI (show Below w.heap.size w w1 from by rw[← l];exact aJ (PI _ _) _);rw[l]at E F J ⊢;clear l;refine wp_region_held_drew (S:=Only (fun _=>False) w1) D (Only.refl _ _).drew (fun b=>?_);refine aP 0 3 (.pointer (some ⟨w.heap.size,2,none⟩)) ?_;refine dL 1 4 (.slice a z.length cap) ?_ ?_
 ·intro X s;have P:=s.cell (fun h=>h) E;have Q:=s.cell (fun h=>h) F;go_simp
 refine aP 2 5 (.pointer (some ⟨w.heap.size,1,none⟩)) ?_;refine dL 3 6 (.int .u64 y) ?_ ?_
 ·intro X s;have P:=s.cell (fun h=>h) E;have Q:=s.cell (fun h=>h) F;go_simp
 refine cW 4 fun K u=>?_;go_simp;refine(En y _).mono ?_;rintro e V ⟨rfl,m⟩;have b:=b.call m;have R:=b.size;clear m;go_simp;refine u _ _ b (fun _=>?_);clear u K;refine cW 5 fun K u=>?_;go_simp;refine(J _ b).mono ?_;rintro e V ⟨v,out,rfl,r,B,j,C,m⟩;have b:=b.call m;have T:=aI (PC r (PC B (PC j C)));clear r B j C;clear m;go_simp;refine u _ _ b (fun _=>?_);clear u K;refine aP 6 2 (v) ?_;refine iM ?_;have U:=aI b;clear b;go_wp2;go_ret;obtain⟨r,B,j,C⟩:=T.out;have H:=G.trans (U.below (n:=w.heap.size) G.size (fun _ h=>h.elim));exact⟨v,out,rfl,⟨bC r.row (by have:=G.size;omega),r.words⟩,B,O out j,C,H⟩
theorem Zj(rep:Int)(a:Option Addr)(cap:Nat)(w:World) :
  Calls prog 123 #[.int .u64 rep,.slice a 0 cap] w fun e w'=>e=.returned (.tuple #[.agg #[.int .u64 0,.int .u64 0,.slice none 0 0],.bool false])∧Below w.heap.size w w':=by
 go_enter func123,ntmps123;go_wp2;refine bodyPost_ret (v:=.tuple #[.agg #[.int .u64 0,.int .u64 0,.slice none 0 0],.bool false]) ?_ rfl ⟨rfl,?_⟩
 ·simp[results,results123,go_sem]
 exact aJ (PI _ _) _
theorem Mp(rep:Int)(v:Value)(zs:List Iv)(w:World)(h:RgAt w v zs)(K:cL zs)(hr:aL rep)(h0:zs≠[])(hs:zs.length≤3500000000) :
  Calls prog 123 #[.int .u64 rep,v] w fun e w'=>∃(en:Ent) (hv:Value),e=.returned (.tuple #[.agg #[.int .u64 rep,.int .u64 en.mx,hv],.bool true])∧en.rep=rep∧OwnL w' w.heap.size 123 hv en.hs∧EntW en∧EntC en∧(∀c,rH en c↔aV zs c)∧en.hs.length≤zs.length+1∧Below w.heap.size w w':=by
 obtain⟨a,cap,rfl,J,z⟩:=h;have O:=List.length_pos_iff.2 h0;obtain⟨n,en⟩:=aG zs.length;obtain⟨j,ej⟩:∃j,n=j+1:=⟨n-1,aA⟩;obtain⟨b,off,rfl,A1,_,T⟩:=J.cells j aA;have D:=J.word (i:=j) aA;have E:=J.words;obtain⟨top,m⟩:=aG (Hi zs j);rw[m]at T D;have u:aV zs top:=fU.2 ⟨j,aA,by rw[← m];exact(K j aA).1,by rw[m];exact Int.le_refl _⟩;have y:∀x,aV zs x→x≤top:=fun x Z=>by
  obtain⟨i,hi,h1,h2⟩:=fU.1 Z;rcases QJ i j with g | g
  ·have:=cG K g aA;have:=(K j aA).1;omega
  obtain rfl:i=j:=aA;omega
 have F:∀x,aV zs x→0≤x:=fun x Z=>(cC E Z).1;have KN:=aI (fun(W:World) (hW:Below w.heap.size w W)=>Mq (.slice (some ⟨b,off,none⟩) zs.length cap) zs 0 top W ⟨_,cap,rfl,J.below hW,z⟩ K ⟨aB,aB⟩ D.2 D.2.1 hs);rw[en]at KN ⊢;have HT:=aI u;have HM:=aI y;have P:=aI F;have Q:=aI D.2;have HR:=aI hr;obtain⟨r,er⟩:=aG ((n:Int)-1:Int);have q0:IntKind.i64.wrap ((n:Int)-1)=r:=by rw[PH];omega
 have q1:0≤r:=aA;have q2:r<(n:Int):=aA;have q3:r.toNat=j:=aA;have q4:((n:Int) == 0)=false:=by simp;omega
 have q5:¬n=0:=aA;clear J K hr h0 hs O en ej m u y F D E er z;go_enter func123,ntmps123;go_wp2_with fail;refine(En top _).mono ?_;rintro e w1 ⟨rfl,B⟩;have R:=aI (aN (aJ (PI w.heap.size w) (.cells #[.int .u64 0,.int .u64 0,.slice none 0 0] 96)) B);have G:w1.heap[w.heap.size]?=some (.cells #[.int .u64 0,.int .u64 0,.slice none 0 0] 96 (0,0)):=(B.block _ aD).trans (aK _ _ rfl);have A:=aI G;clear B G;go_wp2_with fail;refine(KN _ R).mono ?_;rintro e w2 ⟨hv,out,rfl,U,hc,s,hl,C⟩;have l:w2.heap[w.heap.size]?=some (.cells #[.int .u64 0,.int .u64 0,.slice none 0 0] 96 (0,0)):=(C.block _ (aO A)).trans A;have B2:=aI (aN R C);have sz:=R.size;obtain⟨M,N,rfl,V,X,Y⟩:=U.prs;have L:=aI U;have HC:=aI hc;have H:=aI s;have HL:=aI hl;have y0:w2.cell? ⟨w.heap.size,0,none⟩=some (.int .u64 0):=by simp[PJ,l]
 have y1:w2.cell? ⟨w.heap.size,1,none⟩=some (.int .u64 0):=by simp[PJ,l]
 have y2:w2.cell? ⟨w.heap.size,2,none⟩=some (.slice none 0 0):=by simp[PJ,l]
 have f0:w2.frozen? ⟨w.heap.size,0,none⟩=false:=frozen_of_row _ _ 0 _ _ l;have f1:w2.frozen? ⟨w.heap.size,1,none⟩=false:=frozen_of_row _ _ 1 _ _ l;have f2:w2.frozen? ⟨w.heap.size,2,none⟩=false:=frozen_of_row _ _ 2 _ _ l;have S:=aI l;clear U hc s hl C V X Y l;go_wp2;have I:=heap_setCell_same _ _ 2 _ _ (.slice M out.length N) (heap_setCell_same _ _ 1 _ _ (.int .u64 top) (heap_setCell_same _ _ 0 _ _ (.int .u64 rep) S));have ho:Only (fun k=>k=w.heap.size) w2 (((w2.setCell ⟨w.heap.size,0,none⟩ (.int .u64 rep)).setCell ⟨w.heap.size,1,none⟩ (.int .u64 top)).setCell ⟨w.heap.size,2,none⟩ (.slice M out.length N)):=
  (((Only.refl (fun k=>k=w.heap.size) w2).setCell (p:=⟨w.heap.size,0,none⟩) (.inl rfl) _).setCell (p:=⟨w.heap.size,1,none⟩) (.inl rfl) _).setCell (p:=⟨w.heap.size,2,none⟩) (.inl rfl) _
 refine bodyPost_ret (v:=.tuple #[.agg #[.int .u64 rep,.int .u64 top,.slice M out.length N],.bool true]) ?_ rfl ?_
 ·simp[results,results123,go_sem,PJ,I]
 have A0:w.heap.size<w1.heap.size:=aO A;refine⟨⟨rep,top,out⟩,.slice M out.length N,rfl,rfl,⟨bC (bF L.row ho fun k hk e=>by have:=(L.row.lt k hk).1;omega) aA,L.words⟩,⟨HR,Q,L.words⟩,⟨HC,fun i hi=>?_⟩,fun c=>?_,HL,B2.trans (ho.below (n:=w.heap.size) B2.size (fun k hk=>aA))⟩
 ·have s:aV out (Hi out i):=fU.2 ⟨i,hi,(HC i hi).1,Int.le_refl _⟩;obtain⟨_,h2,h3⟩:=(H _).1 s;show Hi out i<top;by_cases q:Hi out i=top
  ·rw[q]at h3;exact absurd HT h3
  omega
 show(0≤c∧c≤top∧¬aV out c)↔_;rw[H.out];constructor
 ·rintro⟨a,b,d⟩;by_cases q:aV zs c
  ·exact q
  exact absurd ⟨a,b,q⟩ d
 intro q;exact⟨P c q,HM c q,fun d=>d.2.2 q⟩
def HolesN (w:World) (p:EV):Prop:=∃a cap,p.2=.slice a p.1.hs.length cap∧Prs w a p.1.hs.length p.1.hs∧p.1.hs.length≤cap∧(a=none→cap=0)
theorem HolesN.below{w w':World}{p:EV}(h:HolesN w p)(b:Below w.heap.size w w'):HolesN w' p:=by
 obtain⟨a,cap,h1,h2,h3,h4⟩:=h;exact⟨a,cap,h1,h2.below b,h3,h4⟩
theorem HoleF.n{w:World}{B:Nat}{p:EV}(h:HoleF w B p):HolesN w p:=by
 obtain⟨a,cap,h1,h2,h3,h4,_⟩:=h;exact⟨a,cap,h1,h2,h3,h4⟩
theorem HolesN.at{w:World}{p:EV}(h:HolesN w p):HolesAt w p:=by
 obtain⟨a,cap,h1,h2,h3,h4⟩:=h;exact⟨a,cap,h1,h2,h3⟩
theorem Lc(p:EV)(w:World)(h:HolesN w p)(hC:EntC p.1)(hs:p.1.hs.length≤3900000000) :
  Calls prog 142 #[kO p] w fun e w'=>∃hv,e=.returned (.tuple #[.agg #[.int .u64 p.1.rep,.int .u64 p.1.mx,hv],.bool true])∧OwnL w' w.heap.size 123 hv p.1.hs∧Below w.heap.size w w':=by
 obtain⟨⟨x,y,z⟩,pv⟩:=p;obtain⟨a,cap,e1,h1,h2,h3⟩:=h;simp only at e1 h1 h2 hs;subst e1;obtain⟨K,F⟩:=hC;simp only at K F;unfold kO;simp only;have H1:=aI h1;have HN:=aI h3;have HT:=aI F;obtain⟨n,en⟩:=aG z.length;have EN:=aI en;rw[en]at H1 hs ⊢;clear h1 h2 h3 K F en;go_enter func142,ntmps142;go_wp2;go_step3;go_wp2_with(at_builtin;go_loud(refine fP rfl _ _ rfl w.heap.size _ [] rfl ⟨PM _ _ _ _,aD⟩ a n cap z rfl (H1.below (aJ (aJ (PI _ _) _) _)) HN (by simp;omega) (by simp;omega) ?_;intro v' J hO O;replace O:World.grownBy _ J none:=O;rw[PX]at hO;obtain⟨D,B,rfl,R,A1,_⟩:=hO.prs;have E:=(O.block w.heap.size (by simp<;>omega) aD).trans (aT _ _ aD (aK _ _ rfl));have P:=(O.block (w.heap.size+1) aD aD).trans (aK _ _ aD);have HG:=aI ((aJ (aJ (PI w.heap.size w) (.cells #[.int .u64 x,.int .u64 y,.slice a n cap] 96)) (.cells #[.int .u64 0,.int .u64 0,.slice none 0 0] 96)).grown O (by simp<;>omega) (fun q hq=>by cases hq));have Y:=aI hO;have A0:=aI R;have y0:J.cell? ⟨w.heap.size,2,none⟩=some (.slice a n cap):=(by simp[PJ,E]);have y1:J.frozen? ⟨w.heap.size,2,none⟩=false:=frozen_of_row J _ 2 _ _ E;clear O hO R))
 have L:=heap_setCell_same _ _ 2 _ _ (.slice D z.length B) E;have ho:Only (fun k=>k=w.heap.size) J (J.setCell ⟨w.heap.size,2,none⟩ (.slice D z.length B)):=(Only.refl (fun k=>k=w.heap.size) J).setCell (p:=⟨w.heap.size,2,none⟩) (.inl rfl) _;have M:=ho.obj (fun h=>aA) P;have C:=aI (show OwnL (J.setCell ⟨w.heap.size,2,none⟩ (.slice D z.length B)) w.heap.size 123 (.slice D z.length B) z from
  ⟨bF Y.row ho (fun k hk e=>by
   obtain⟨cs,S⟩:=aR Y.row hk;rw[e,E]at S
   cases S),Y.words⟩)
 have HB:=aI (HG.trans (ho.below (n:=w.heap.size) HG.size (fun k hk=>aA)));obtain⟨A,T⟩:=aG (J.setCell ⟨w.heap.size,2,none⟩ (.slice D z.length B));rw[T]at L M C HB ⊢;have I:=aI (show A.heap[w.heap.size]?=some (.cells #[.int .u64 x,.int .u64 y,.slice D z.length B] 96 (0,0))from L);have s:=aI M;clear T L M E P ho HG Y A0 y0 y1 A1 H1 HN;have c0:A.cell? ⟨w.heap.size,0,none⟩=some (.int .u64 x):=by simp[PJ,I.out]
 have c1:A.cell? ⟨w.heap.size,1,none⟩=some (.int .u64 y):=by simp[PJ,I.out]
 have c2:A.cell? ⟨w.heap.size,2,none⟩=some (.slice D z.length B):=by simp[PJ,I.out]
 have d0:A.cell? ⟨w.heap.size+1,0,none⟩=some (.int .u64 0):=by simp[PJ,s.out]
 have d1:A.cell? ⟨w.heap.size+1,1,none⟩=some (.int .u64 0):=by simp[PJ,s.out]
 have d2:A.cell? ⟨w.heap.size+1,2,none⟩=some (.slice none 0 0):=by simp[PJ,s.out]
 have g0:A.frozen? ⟨w.heap.size+1,0,none⟩=false:=frozen_of_row _ _ 0 _ _ s;have g1:A.frozen? ⟨w.heap.size+1,1,none⟩=false:=frozen_of_row _ _ 1 _ _ s;have g2:A.frozen? ⟨w.heap.size+1,2,none⟩=false:=frozen_of_row _ _ 2 _ _ s;have A4:w.heap.size+1<A.heap.size:=aO s;have Q:∀W3:World,Below A.heap.size A W3→∃W4,(((W3.setCell ⟨w.heap.size+1,0,none⟩ (.int .u64 x)).setCell ⟨w.heap.size+1,1,none⟩ (.int .u64 y)).setCell ⟨w.heap.size+1,2,none⟩ (.slice D z.length B))=W4 ∧
   W4.heap[w.heap.size+1]?=some (.cells #[.int .u64 x,.int .u64 y,.slice D z.length B] 96 (0,0))∧OwnL W4 w.heap.size 123 (.slice D z.length B) z∧Below w.heap.size w W4:=by
  intro W3 hb;have h2:=(hb.block _ (aO s)).trans s;refine⟨_,rfl,heap_setCell_same _ _ 2 _ _ _ (heap_setCell_same _ _ 1 _ _ _ (heap_setCell_same _ _ 0 _ _ _ h2)),?_,?_⟩
  ·have ho:Only (fun k=>k=w.heap.size+1) A (((W3.setCell ⟨w.heap.size+1,0,none⟩ (.int .u64 x)).setCell ⟨w.heap.size+1,1,none⟩ (.int .u64 y)).setCell ⟨w.heap.size+1,2,none⟩ (.slice D z.length B)):=
    (((Only.of_below (may:=fun k=>k=w.heap.size+1) hb).setCell (p:=⟨w.heap.size+1,0,none⟩) (.inl rfl) _).setCell (p:=⟨w.heap.size+1,1,none⟩) (.inl rfl) _).setCell (p:=⟨w.heap.size+1,2,none⟩) (.inl rfl) _
   exact⟨bF C.row ho (fun k hk e=>by
    obtain⟨cs,S⟩:=aR C.row hk;rw[e,s.out]at S
    cases S),C.words⟩
  exact(((aN HB hb).setCell (p:=⟨w.heap.size+1,0,none⟩) (by show _≤w.heap.size+1;omega) _).setCell (p:=⟨w.heap.size+1,1,none⟩) (by show _≤w.heap.size+1;omega) _).setCell (p:=⟨w.heap.size+1,2,none⟩) (by show _≤w.heap.size+1;omega) _
 have u:=aI Q;clear Q;go_step3;obtain⟨m,Z⟩:=aG z.length;rw[Z]at c2 u C I ⊢;by_cases hm:m=0
 ·have q0:¬(0:Int)<(m:Int):=aA;obtain⟨W4,U,b,G,H⟩:=u.out A (PI _ _);have l:=aI (PC U (PC b (PC G H)));clear U b G H hm u Z EN;go_wp2;refine wp_loop_rounds 1 ?_;rw[rounds_succ];go_wp2;rw[Exit.noGoto_ret,l.1];have b:=l.2.1;refine bodyPost_ret (v:=.tuple #[.agg #[.int .u64 x,.int .u64 y,.slice D m B],.bool true]) ?_ rfl ⟨_,rfl,l.2.2.1,l.2.2.2⟩;simp[results,results142,go_sem,PJ,b]
 obtain⟨j,ej⟩:∃j,m=j+1:=⟨m-1,aA⟩;obtain⟨a2,c2',e2,N,_,_⟩:=C.prs;rw[Z]at e2 N;obtain⟨rfl,_,rfl⟩:D=a2∧m=m∧B=c2':=by simpa using e2
 obtain⟨gv,off,rfl,A6,k1,k2⟩:=N.cells j aA;have hT:=HT.out j aA;obtain⟨lo,V⟩:=aG (Lo z j);obtain⟨A2,X⟩:=aG (Hi z j);rw[V]at k1;rw[X]at k2 hT;have A5:m≤3900000000:=by have:=EN.out;omega
 have A3:w.heap.size<A.heap.size:=aA;obtain⟨r,er⟩:=aG ((m:Int)-1:Int);have q0:(0:Int)<(m:Int):=aA;have q1:IntKind.i64.wrap ((m:Int)-1)=r:=by rw[PH];omega
 have q2:0≤r:=aA;have q3:r<(m:Int):=aA;have q4:r.toNat=j:=aA;obtain⟨W4,U,b,G,H⟩:=u.out A (PI _ _);have l:=aI (PC U (PC b (PC G H)));clear U b G H hm u Z EN HT V X er ej e2 N;go_wp2;refine wp_loop_rounds 1 ?_;rw[rounds_succ];go_wp2;rw[Exit.noGoto_ret,l.1];have b:=aT W4 (.cells #[.int .u64 lo,.int .u64 A2] 123) (aO l.2.1) l.2.1;refine bodyPost_ret (v:=.tuple #[.agg #[.int .u64 x,.int .u64 y,.slice (some ⟨gv,off,none⟩) m B],.bool true]) ?_ rfl ⟨_,rfl,⟨bF l.2.2.1.row ((Only.refl (fun _=>False) W4).alloc _) (fun _ _ h=>h),l.2.2.1.words⟩,aJ l.2.2.2 _⟩;simp[results,results142,go_sem,PJ,b]
structure EntsN (w:World) (a:Option Addr) (len:Nat) (l:List EV):Prop where
 at':EntsAt w a len l
 holes:∀p∈l,HolesN w p
theorem EntsN.below{w w':World}{a:Option Addr}{len:Nat}{l:List EV}(h:EntsN w a len l)(b:Below w.heap.size w w'):EntsN w' a len l:=⟨h.at'.below b,fun p j=>(h.holes p j).below b⟩
theorem RowF.entsN{w:World}{base:Nat}{v:Value}{l:List EV}(h:RowF w base v l):∃a cap,v=.slice a l.length cap∧EntsN w a l.length l∧l.length≤cap:=by
 obtain⟨a,cap,h1,h2,h3⟩:=h.ents;exact⟨a,cap,h1,⟨h2,fun p b=>(h.fins p b).n⟩,h3⟩
theorem RowF.base{w:World}{base base':Nat}{v:Value}{l:List EV}(h:RowF w base v l)(b:base'≤base):RowF w base' v l:=⟨bC h.row b,h.fins,h.words⟩
theorem RowF.nil(w:World)(base:Nat):RowF w base (.slice none 0 0) []:=⟨PM _ _ _ _,aD,aD⟩
theorem RowF.push{w w3:World}{base:Nat}{v y:Value}{l:List EV}{e:Ent}{hv:Value}{o:Obj}(s:RowF w base v l)(z:OwnL w base 123 hv e.hs)(A:EntW e)
  (n:w3.ownsRow base 96 3 y (l.length+1) (cI l ++ [.int .u64 e.rep,.int .u64 e.mx,hv])) (B:(w.alloc o).grownBy w3 v.ownBlock):RowF w3 base y (l ++ [(e,hv)]):=by
 have r:Only (fun b=>v.ownBlock=some b) w w3:=((Only.refl _ w).alloc o).trans (iR B);have u:∀k,v.ownBlock=some k→¬Typed w 123 k:=fun k m=>Typed.not (aR s.row m) aB;refine⟨?_,fun p j=>?_,fun p j=>?_⟩
 ·rw[fM,PZ];exact n
 ·rcases List.mem_append.1 j with j | j
  ·exact((s.fins p j).only r fun k m=>.inr (u k m)).wide r.size
  obtain rfl:p=(e,hv):=by simpa using j
  exact((HoleF.of_own z).only r fun k m=>.inr (u k m)).wide r.size
 rcases List.mem_append.1 j with j | j
 ·exact s.words p j
 obtain rfl:p=(e,hv):=by simpa using j
 exact A
theorem Sp(a:Option Addr)(len cap:Nat)(l:List EV)(w:World)(h:EntsN w a len l)(hC:CanW (l.map (·.1)))(hs:∀e∈l.map (·.1),e.hs.length≤3900000000)(A4:len≤3900000000) :
  Calls prog 84 #[.slice a len cap] w fun e w'=>∃v s,e=.returned v∧s.map (·.1)=l.map (·.1)∧RowF w' w.heap.size v s∧Below w.heap.size w w':=by
 obtain⟨i0,hi,A1,A2,A3⟩:=info_parts iK;have S:=aI h.at'.length;have H:=aI h;have HC:=aI hC;have HS:=aI hs;clear h hC hs;go_enter func84,ntmps84;go_wp2;go_loopw [3,10] (fun o c wr=>∃(k:Nat) (s:List EV),k≤len∧c=.int .i64 k∧s.map (·.1)=(l.map (·.1)).take k∧RowF wr w.heap.size o s∧Below w.heap.size w wr) (fun _ c _=>len-(intOf c).toNat)
 case atStart=>exact⟨0,[],QI _,rfl,rfl,RowF.nil _ _,PI _ _⟩
 obtain⟨k,s,hk,rfl,E,hF,X⟩:=hrel;have Z:=aI hF;have T:=aI X;have L:=aI E;have A5:(0:Int)≤(k:Int):=aA;have M:s.length=k:=by
  have:=congrArg List.length E;rw[PO,PU,PO,S.out]at this;omega
 have N:=aI M;clear hF E M;by_cases hlt:k<len
 ·have i1:(k:Int)<(len:Int):=aA;have U:=H.below X;obtain⟨b,off,rfl,A7,F,G,B⟩:=U.at'.cells k hlt;have r:=U.at'.mem hlt;have A:(l.getD k EV.z).1∈l.map (·.1):=List.mem_map.2 ⟨_,r,rfl⟩;have hN:=U.holes _ r;have J:=aI (fun W (hW:Below wr.heap.size wr W)=>Lc (l.getD k EV.z) W (hN.below hW) (HC.can _ A) (HS _ A));have O:=aI (HC.words _ A);have TK:=aI (show(l.map (·.1)).take (k+1)=(l.map (·.1)).take k ++ [(l.getD k EV.z).1] from by
   have A0:k<(l.map (·.1)).length:=by rw[PO,S.out];exact hlt
   rw[PT A0];simp[PQ,PN (show k<l.length by rw[S.out];exact hlt)])
  obtain⟨ha,Q,ev,_,_,_⟩:=hN;obtain⟨p,ep⟩:=aG (l.getD k EV.z);rw[ep]at F G B J O TK ev;clear ep r A U X;obtain⟨⟨x,y,z⟩,pv⟩:=p;simp only at F G B ev;subst ev;unfold kO at J;simp only at J;obtain⟨n,en⟩:=aG z.length;rw[en]at J B;clear en;go_wp2_with fail;refine(J _ (aJ (PI _ _) _)).mono ?_;rintro e I ⟨hv,rfl,Y,R⟩;have D:=(aJ (PI wr.heap.size wr) (.cells #[.int .u64 x,.int .u64 y,.slice ha n Q] 96)).trans (R.mono aD);have V:=aI (Z.only (may:=fun _=>False) (Only.of_below D) (fun _ h=>h.elim));have sz:=T.size;have O1:=aI (show OwnL I w.heap.size 123 hv z from⟨bC Y.row (by simp<;>omega),Y.words⟩);have B1:=aI (aN T D);obtain⟨a1,K,rfl,_,_,_⟩:=Y.prs;clear Y R D F G B J;obtain⟨ao,co,rfl,_⟩:=aY V.row;obtain⟨m,em⟩:=aG z.length;rw[em]at O1 ⊢;go_wp2_with(at_builtin;go_loud(refine wpList_append_own_at _ rfl _ _ 76 rfl w.heap.size 96 i0 (.agg #[.int .u64 0,.int .u64 0,.slice none 0 0]) 3 40 underlying76 hi A1 A2 A3 rfl aB _ _ _ rfl ((V.row.alloc _).alloc _) ⟨I.heap.size+1,0,none⟩ 1 1 [.int .u64 x,.int .u64 y,.slice a1 m K] rfl rfl ?z1 ?z2 ?z3 ?z4 ?z5 ?_))
  case z1=>exact iI (aK _ _ aD)
  case z2=>intro u hu;simp at hu;rcases hu with rfl | rfl | rfl<;>rfl
  case z3=>rw[N.out];unfold maxLen;omega
  case z4=>rw[N.out];omega
  case z5=>have:=B1.size;simp;omega
  intro v' w3 C j _ _;have F3:=aI (RowF.push (e:=⟨x,y,z⟩) (o:=.cells #[.int .u64 x,.int .u64 y,.slice a1 m K] 96) (V.only (may:=fun _=>False) (Only.of_below (aJ (PI I.heap.size I) (.cells #[.int .u64 x,.int .u64 y,.slice a1 m K] 96))) (fun _ h=>h.elim))
   (⟨bF O1.row ((Only.refl (fun _=>False) I).alloc _) (fun _ _ h=>h),O1.words⟩) O C j)
  have B3:=aI ((aN B1 (aJ (aJ (PI I.heap.size I) (.cells #[.int .u64 x,.int .u64 y,.slice a1 m K] 96)) (.cells #[.int .u64 x,.int .u64 y,.slice a1 m K] 96))).grown j (by have:=B1.size;simp<;>omega) (fun q hq=>(V.row.lt q hq).1));clear C j;go_wp2;go_roundw
  case rel=>
   have e2:(s ++ [((⟨x,y,z⟩:Ent),Value.slice a1 m K)]).map (·.1)=(l.map (·.1)).take (k+1):=by rw[TK.out,QF,L.out];rfl
   first | exact⟨k+1,_,aA,by go_num,e2,F3,B3⟩ | ((repeat apply PF);exact⟨⟨k+1,_,aA,by go_num,e2,F3,B3⟩,rfl⟩)
  simp[intOf];omega
 obtain rfl:k=len:=aA;have A6:¬(k:Int)<(k:Int):=aA;have P:=aI (show s.map (·.1)=l.map (·.1)from by rw[L.out,PS (by rw[PO,S.out];exact QH _)]);clear X;go_wp2;go_ret
 first | exact⟨_,rfl,s,P,Z,T⟩ | exact⟨_,s,rfl,P,Z,T⟩
def nU:Value:=.slice none 0 0
def SideR (w:World) (es:List Ent) (A:Nat) (r:Int) (v:Value):Prop:=∃zs,RgAt w v zs∧cL zs∧(∀c,aV zs c↔dN es r c)∧zs.length≤A+1
def PairF (w:World) (es fs:List Ent) (A B:Nat) (f:Int→Option Value):Prop:=∀r,aL r→((f r).isSome=true↔(∃e∈es,e.rep=r)∨(∃e∈fs,e.rep=r))∧∃va vb,(f r).getD (.agg #[nU,nU])=.agg #[va,vb]∧SideR w es A r va∧SideR w fs B r vb
theorem SideR.none(w:World)(es:List Ent)(A:Nat)(r:Int)(h:∀c,¬dN es r c):SideR w es A r nU:=⟨[],RgAt.nil w,fun i hi=>absurd hi aD,fun c=>⟨fun g=>absurd g (cY c),fun g=>absurd g (h c)⟩,QI _⟩
theorem PairF.none(w:World)(A B:Nat):PairF w [] [] A B (fun _=>.none):=fun r _=>⟨aD,nU,nU,rfl,SideR.none w [] A r (fun c=>jN r c),SideR.none w [] B r (fun c=>jN r c)⟩
theorem RgAt.only_map{w w':World}{v:Value}{zs:List Iv}{M n:Nat}{f:Int→Option Value}{may:Nat→Prop}(h:RgAt w v zs)(u:MapR w M n f)(ho:Only may w w')(y:∀k,may k→k=M∨w.heap.size≤k):RgAt w' v zs:=by
 obtain⟨a,cap,rfl,l,s⟩:=h;refine⟨a,cap,rfl,⟨l.length,l.most,l.words,fun i hi=>?_⟩,s⟩;obtain⟨b,off,e,m,h1,h2⟩:=l.cells i hi;have j:¬may b:=fun r=>by
  rcases y b r with rfl | r
  ·obtain⟨D,⟨es,p,j,_⟩,_⟩:=u;simp[PJ,j]at h1
  omega
 exact⟨b,off,e,Nat.lt_of_lt_of_le m ho.size,ho.cell j h1,ho.cell j h2⟩
theorem SideR.only_map{w w':World}{es:List Ent}{A:Nat}{r:Int}{v:Value}{M n:Nat}{f:Int→Option Value}{may:Nat→Prop}(h:SideR w es A r v)(b:MapR w M n f)(ho:Only may w w')(j:∀k,may k→k=M∨w.heap.size≤k):SideR w' es A r v:=by
 obtain⟨zs,h1,h2⟩:=h;exact⟨zs,h1.only_map b ho j,h2⟩
theorem SideR.below{w w':World}{es:List Ent}{A:Nat}{r:Int}{v:Value}(h:SideR w es A r v)(b:Below w.heap.size w w'):SideR w' es A r v:=by
 obtain⟨zs,h1,h2⟩:=h;exact⟨zs,h1.below b,h2⟩
theorem PairF.below{w w':World}{es b:List Ent}{A B:Nat}{f:Int→Option Value}(h:PairF w es b A B f)(j:Below w.heap.size w w'):PairF w' es b A B f:=fun r l=>by
 obtain⟨h1,va,vb,h2,h3,h4⟩:=h r l;exact⟨h1,va,vb,h2,h3.below j,h4.below j⟩
theorem pV{es:List Ent}{k:Nat}(h:k<es.length):es.take (k+1)=es.take k ++ [es.getD k Ent.z]:=by
 rw[PT h];simp[PQ,PN h]
theorem Ue{es:List Ent}(l:bY es){k:Nat}(h:k<es.length):∀f∈es.take k,f.rep<(es.getD k Ent.z).rep:=by
 intro f j;obtain⟨i,hi,e⟩:=List.mem_iff_getElem.1 j;rw[PU]at hi;have b:=yR l.2;have:=List.pairwise_iff_getElem.1 b i k aA h aA;rw[List.getElem_take]at e;simpa[PQ,PN h,e]using this
theorem rY{es:List Ent}(m:bY es){k:Nat}(h:k<es.length){r c:Int}:(r=(es.getD k Ent.z).rep→(dN (es.take (k+1)) r c↔rH (es.getD k Ent.z) c))∧(r≠(es.getD k Ent.z).rep→(dN (es.take (k+1)) r c↔dN (es.take k) r c)):=by
 rw[pV h];refine⟨fun e=>?_,fun e=>?_⟩
 ·rw[xX];constructor
  ·rintro(⟨f,l,j,_⟩ | ⟨_,b⟩)
   ·have:=Ue m h f l;omega
   exact b
  intro b;exact .inr ⟨e.symm,b⟩
 rw[xX];constructor
 ·rintro(g | ⟨j,_⟩)
  ·exact g
  exact absurd j.symm e
 exact .inl
theorem Fq{es:List Ent}{k:Nat}(h:k<es.length){r:Int}:(∃e∈es.take (k+1),e.rep=r)↔(∃e∈es.take k,e.rep=r)∨r=(es.getD k Ent.z).rep:=by
 rw[pV h];constructor
 ·rintro⟨e,b,j⟩;rcases List.mem_append.1 b with b | b
  ·exact .inl ⟨e,b,j⟩
  obtain rfl:e=es.getD k Ent.z:=by simpa using b
  exact .inr j.symm
 rintro(⟨e,b,j⟩ | j)
 ·exact⟨e,List.mem_append_left _ b,j⟩
 exact⟨es.getD k Ent.z,aD,j.symm⟩
theorem PairF.left{w w':World}{es:List Ent}{A B:Nat}{f:Int→Option Value}{k M n:Nat}{may:Nat→Prop}{va vb v:Value}(h:PairF w (es.take k) [] A B f)(m:bY es)(b:k<es.length)(j:MapR w M n f)(ho:Only may w w')(l:∀k,may k→k=M∨w.heap.size≤k)
  (I:aL (es.getD k Ent.z).rep) (hv:(f (es.getD k Ent.z).rep).getD (.agg #[nU,nU])=.agg #[va,vb]) {zs:List Iv} (F:RgAt w' v zs) (G:cL zs) (hi:∀c,aV zs c↔rH (es.getD k Ent.z) c) (H:zs.length≤A+1) :
  PairF w' (es.take (k+1)) [] A B (kS f (es.getD k Ent.z).rep (some (.agg #[v,vb]))):=by
 intro r E;obtain⟨h1,s,ub,h2,h3,h4⟩:=h r E;unfold kS;rw[Fq b];by_cases e:r=(es.getD k Ent.z).rep
 ·rw[if_pos e];rw[e,hv]at h2;injection h2 with h2;have p:vb=ub:=by simpa using congrArg (fun a=>a.getD 1 undef) h2
  exact⟨by simp[e],v,vb,rfl,⟨zs,F,G,fun c=>(hi c).trans ((rY m b).1 e).symm,H⟩,by rw[p];exact h4.only_map j ho l⟩
 rw[if_neg e];obtain⟨ys,u,y,C,D⟩:=h3.only_map j ho l;refine⟨?_,s,ub,h2,⟨ys,u,y,fun c=>(C c).trans ((rY m b).2 e).symm,D⟩,h4.only_map j ho l⟩;rw[h1];constructor
 ·rintro(g | ⟨_,g,_⟩)
  ·exact .inl (.inl g)
  cases g
 rintro((g | g) | ⟨_,g,_⟩)
 ·exact .inl g
 ·exact absurd g e
 cases g
theorem PairF.right{w w':World}{m es:List Ent}{A B:Nat}{f:Int→Option Value}{k M n:Nat}{may:Nat→Prop}{va vb v:Value}(h:PairF w m (es.take k) A B f)(p:bY es)(b:k<es.length)(j:MapR w M n f)(ho:Only may w w')(l:∀k,may k→k=M∨w.heap.size≤k)
  (J:aL (es.getD k Ent.z).rep) (hv:(f (es.getD k Ent.z).rep).getD (.agg #[nU,nU])=.agg #[va,vb]) {zs:List Iv} (G:RgAt w' v zs) (H:cL zs) (hi:∀c,aV zs c↔rH (es.getD k Ent.z) c) (I:zs.length≤B+1) :
  PairF w' m (es.take (k+1)) A B (kS f (es.getD k Ent.z).rep (some (.agg #[va,v]))):=by
 intro r F;obtain⟨h1,ua,u,h2,h3,h4⟩:=h r F;unfold kS;rw[Fq b];by_cases e:r=(es.getD k Ent.z).rep
 ·rw[if_pos e];rw[e,hv]at h2;injection h2 with h2;have s:va=ua:=by simpa using congrArg (fun a=>a.getD 0 undef) h2
  exact⟨by simp[e],va,v,rfl,by rw[s];exact h3.only_map j ho l,⟨zs,G,H,fun c=>(hi c).trans ((rY p b).1 e).symm,I⟩⟩
 rw[if_neg e];obtain⟨ys,y,C,D,E⟩:=h4.only_map j ho l;refine⟨?_,ua,u,h2,h3.only_map j ho l,⟨ys,y,C,fun c=>(D c).trans ((rY p b).2 e).symm,E⟩⟩;rw[h1];constructor
 ·rintro(g | g)
  ·exact .inl g
  exact .inr (.inl g)
 rintro(g | (g | g))
 ·exact .inl g
 ·exact .inr g
 exact absurd g e
theorem PairF.shape{w:World}{es m:List Ent}{A B:Nat}{f:Int→Option Value}(h:PairF w es m A B f){r:Int}(p:aL r):∃a n c b l c',(f r).getD (.agg #[nU,nU])=.agg #[.slice a n c,.slice b l c']:=by
 obtain⟨_,va,vb,h2,⟨zs,⟨a,cap,rfl,_⟩,_⟩,⟨ys,⟨b,j,rfl,_⟩,_⟩⟩:=h r p;exact⟨_,_,_,_,_,_,h2⟩
theorem Ks:(prog.info? 212).map (fun i=>(i.zero,i.size,i.bytes))=some (some (.agg #[.slice none 0 0,.slice none 0 0]),2,48):=aC
theorem qI(w:World):(zeroValue 212).run prog w=.ok (.agg #[nU,nU]) w:=by
 obtain⟨m,hi,b,j,l⟩:=info_parts Ks;simp[zeroValue,typeInfo,hi,b,nU]
theorem Uy(a:Option Addr)(len cap:Nat)(l:List EV)(a':Option Addr)(j S:Nat)(N:List EV)(A B:Nat)(w:World)(hE:EntsAt w a len l)(C2:EntsAt w a' j N)(hR:bY (l.map (·.1)))(C7:bY (N.map (·.1)))
  (hs:∀p∈l,p.1.hs.length≤A) (C8:∀p∈N,p.1.hs.length≤B) (hA:A≤3500000000) (hB:B≤3500000000) (D4:len≤1000000000) (D3:j≤1000000000) :
  Calls prog 132 #[.slice a len cap,.slice a' j S] w fun e w'=>∃M f,e=.returned (.map (some M))∧w.heap.size≤M∧MapR w' M (len+j) f∧PairF w' (l.map (·.1)) (N.map (·.1)) A B f∧Below w.heap.size w w':=by
 have hl:=aI hE.length;have C3:=aI C2.length;have H:=aI hE;have H':=aI C2;have HR:=aI hR;have C4:=aI C7;have HS:=aI hs;have C5:=aI C8;have HK:=aI hA;have C9:=aI hB;have T0:=aI (show(l.map (·.1)).take 0=[] from rfl);clear hE C2 hR C7 hs C8 hA hB;have D5:∀W,(Instr.makeMap 207 none).run prog W=.ok (.map (some W.heap.size)) (W.alloc (.map #[] 0)):=fun W=>by simp[Instr.makeMap]
 go_enter func132,ntmps132;go_wp2;obtain⟨M,eM⟩:=aG w.heap.size;have W0:=aI (show MapR (w.alloc (.map #[] 0)) M 0 (fun _=>none)from by rw[← eM];exact MapR.made w);have B0:=aI (aJ (PI w.heap.size w) (.map #[] 0));have EM:=aI eM;obtain⟨w0,C1⟩:=aG (w.alloc (.map #[] 0));rw[C1]at W0 B0;rw[eM,C1];clear eM C1;go_loopw [15] (fun c wr=>(c=.int .i64 0∧(∃f,MapR wr M 0 f∧PairF wr [] [] A B f∧Below w.heap.size w wr))∨(c=.int .i64 1∧(∃f,MapR wr M len f∧PairF wr (l.map (·.1)) [] A B f∧Below w.heap.size w wr))∨(c=.int .i64 2∧(∃f,MapR wr M (len+j) f∧PairF wr (l.map (·.1)) (N.map (·.1)) A B f∧Below w.heap.size w wr)))
  (fun c _=>2-(intOf c).toNat)
 case atStart=>exact .inl ⟨rfl,_,W0,PairF.none _ _ _,B0⟩
 rcases hrel with⟨rfl,f0,hM0,hP0,hb0⟩ | ⟨rfl,f0,hM0,hP0,hb0⟩ | ⟨rfl,f0,hM0,hP0,hb0⟩
 ·have B4:=aI hM0;have B5:=aI hP0;have C:=aI hb0;clear hM0 hP0 hb0;have ix:∀W:World,(Instr.index 288 (.agg #[.slice a len cap,.slice a' j S]) (.int .i64 0)).run prog W=.ok (.slice a len cap) W:=fun W=>by rfl
  go_wp2;go_loopw [21] (fun c wr=>∃(k:Nat) (f:Int→Option Value),k≤len∧c=.int .i64 k∧MapR wr M (k) f∧PairF wr ((l.map (·.1)).take k) [] A B f∧Below w.heap.size w wr) (fun c _=>len-(intOf c).toNat)
  case atStart=>exact⟨0,f0,QI _,rfl,B4,B5,C⟩
  obtain⟨k,f,u,rfl,Q,hP,hb⟩:=hrel;have D0:(0:Int)≤(k:Int):=aA;have HB:=aI hb;by_cases hlt:k<len
  ·have i1:(k:Int)<(len:Int):=aA;have Hr:=H.below hb;obtain⟨b,off,rfl,D2,A7,A8,R⟩:=Hr.cells k hlt;have s:=Hr.mem hlt;have hN:=Hr.holes _ s;have D:=Hr.words _ s;have A0:k<(l.map (·.1)).length:=by rw[PO,hl.out];exact hlt
   have E:(l.getD k EV.z).1=(l.map (·.1)).getD k Ent.z:=(cF l k).symm;have A1:lX (l.getD k EV.z).1:=by rw[E];exact HR.1 k A0
   have KN:=aI (fun W (hW:Below wr.heap.size wr W)=>Ar (l.getD k EV.z) W (hN.below hW) D A1 (Nat.le_trans (HS _ s) HK));have B6:=HS.out _ s;obtain⟨ha,G,ev,_,_⟩:=hN.at';obtain⟨T,U,V,X,Y,Z,J⟩:=hP.shape D.rep;have F:=aI (fun W' (v:Value) (zs:List Iv) (may:Nat→Prop) (ho:Only may wr W') (hm:∀k,may k→k=M∨wr.heap.size≤k) (hz:RgAt W' v zs) (hc:cL zs) (hi:∀c,aV zs c↔rH (l.getD k EV.z).1 c) (hl:zs.length≤(l.getD k EV.z).1.hs.length+1)=>
    PairF.left (f:=f) (va:=.slice T U V) (vb:=.slice X Y Z) (v:=v) hP HR A0 Q ho hm (by rw[← E];exact D.rep) (by rw[← E];exact J) hz hc (by rw[← E];exact hi) (by have:=hl;omega))
   obtain⟨p,ep⟩:=aG (l.getD k EV.z);rw[E]at F;rw[← E]at F;rw[ep]at A7 A8 R KN ev J F D;obtain⟨⟨x,y,z⟩,pv⟩:=p;simp only at A7 A8 R ev J D;subst ev;unfold kO at KN;simp only at KN;have HM:=aI Q;have wx:aL x:=D.rep;have HX:=aI wx;obtain⟨n,en⟩:=aG z.length;have C6:=Q.lt;have B7:(Instr.lookup 207 (.map (some M)) (.int .u64 x) false).run prog (wr.alloc (.cells #[.int .u64 x,.int .u64 y,.slice ha z.length G] 96))=.ok (.agg #[.slice T U V,.slice X Y Z]) (wr.alloc (.cells #[.int .u64 x,.int .u64 y,.slice ha z.length G] 96)):=by
    rw[(Q.below (aJ (PI _ _) _)).look underlying207 (qI _) wx,J]
   rw[en]at B7 R KN;have EN:=aI en;have EH:=aI (show w.heap.size=M from EM);clear en ep s hN A1 E Hr hb D wx Q hP J B6;go_wp2_with fail;refine(KN _ (aJ (aJ (PI _ _) _) _)).mono ?_;rintro e L ⟨v,out,rfl,hO,hc,A9,B1,C⟩;obtain⟨av,cv,rfl,_,_,_⟩:=hO.prs;have s1:=C.size;have q0:L.heap[wr.heap.size]?=some (.cells #[.int .u64 x,.int .u64 y,.slice ha n G] 96 (0,0)):=(C.block _ (by simp<;>omega)).trans (aT _ _ aD (aK _ _ rfl));have q1:L.heap[wr.heap.size+1]?=some (.cells #[.slice T U V,.slice X Y Z] 212 (0,0)):=(C.block _ aD).trans (aK _ _ aD);have y0:L.cell? ⟨wr.heap.size,0,none⟩=some (.int .u64 x):=by simp[PJ,q0]
   have p0:L.cell? ⟨wr.heap.size+1,0,none⟩=some (.slice T U V):=by simp[PJ,q1]
   have p1:L.cell? ⟨wr.heap.size+1,1,none⟩=some (.slice X Y Z):=by simp[PJ,q1]
   have g0:L.frozen? ⟨wr.heap.size+1,0,none⟩=false:=frozen_of_row _ _ 0 _ _ q1;have g1:L.frozen? ⟨wr.heap.size+1,1,none⟩=false:=frozen_of_row _ _ 1 _ _ q1;have O:Only (fun k=>wr.heap.size≤k) wr (L.setCell ⟨wr.heap.size+1,0,none⟩ (.slice av out.length cv)):=
    (((Only.of_below (aJ (aJ (PI wr.heap.size wr) (.cells #[.int .u64 x,.int .u64 y,.slice ha n G] 96)) (.cells #[.slice T U V,.slice X Y Z] 212))).trans ((Only.of_below C))).setCell (p:=⟨wr.heap.size+1,0,none⟩) (.inr (by show wr.heap.size≤wr.heap.size+1;omega)) _)
   have A2:=aI O;have I:=aI (HM.only O aA);have OL:=aI (hO.only ((Only.refl (fun k=>k=wr.heap.size+1) L).setCell (p:=⟨wr.heap.size+1,0,none⟩) (.inl rfl) (.slice av out.length cv)) (fun k u=>by rw[u];simp));have HC:=aI hc;have B8:=aI A9;have B9:=aI B1;have S1:=aI s1;obtain⟨m,em⟩:=aG out.length;have D1:=aI em;rw[em]at A2 I OL ⊢;clear hO hc A9 B1 C q0 q1 O em s1;go_wp2_with(at_mapUpdate;go_loud(refine gW _ rfl _ _ _ 207 212 rfl underlying207 M (k) f rfl I (by unfold maxLen;omega) x (.agg #[.slice av m cv,.slice X Y Z]) rfl HX rfl ?_);intro w2 B2 B3;have C0:=aI B2;have A3:=aI B3;clear B2 B3);have P:Only (fun k=>k=M∨wr.heap.size≤k) wr w2:=(A2.wide (fun k u=>.inr u)).trans ((Only.refl (fun k=>k=M∨wr.heap.size≤k) _).grown A3 (fun k u=>.inl (by injection u with u;exact u.symm)));have A4:RgAt w2 (.slice av m cv) out:=by
    refine OwnL.rg (base:=wr.heap.size+2) (t:=123) ?_;refine(OwnL.only (base:=wr.heap.size+2) (may:=fun k=>k=M) ⟨bC OL.row aD,OL.words⟩ ((Only.refl (fun k=>k=M) _).grown A3 (fun k u=>by injection u with u;exact u.symm)) (fun k u=>aA))
   have A5:=F.out w2 (.slice av m cv) out _ P (fun k u=>u) A4 HC B8 (by have:=B9.out;have:=EN.out;show out.length≤z.length+1;omega);have K:=aI A5;have A6:=aI (HB.trans (P.below (n:=w.heap.size) HB.size (fun k u=>by have:=EH.out;have:=HB.size;omega)));clear P A4 A5;go_wp2;go_roundw
   case rel=>
    have r:∃(k':Nat) (f:Int→Option Value),k'≤len∧(.int .i64 ((k:Int)+1):Value)=.int .i64 k'∧MapR w2 M (k') f∧PairF w2 ((l.map (·.1)).take k') [] A B f∧Below w.heap.size w w2:=⟨k+1,_,aA,aD,C0,K,A6⟩;first | exact r | ((repeat apply PF);exact⟨r,rfl⟩)
   simp[intOf];omega
  obtain rfl:len=k:=aA;have I:=aI Q;have K:=aI (show PairF wr (l.map (·.1)) [] A B f from by
   have:=hP;rw[PS (by rw[PO,hl.out];exact QH _)]at this;exact this)
  clear Q hP hb;go_wp2;go_roundw
  case rel=>
   have r:=(show(((.int .i64 1:Value)=.int .i64 0∧(∃f,MapR wr M 0 f∧PairF wr [] [] A B f∧Below w.heap.size w wr))∨((.int .i64 1:Value)=.int .i64 1∧(∃f,MapR wr M len f∧PairF wr (l.map (·.1)) [] A B f∧Below w.heap.size w wr))∨((.int .i64 1:Value)=.int .i64 2∧(∃f,MapR wr M (len+j) f∧PairF wr (l.map (·.1)) (N.map (·.1)) A B f∧Below w.heap.size w wr)))from .inr (.inl ⟨rfl,f,I,K,HB⟩));first | exact r | ((repeat apply PF);exact⟨r,rfl⟩)
  simp[intOf]
 ·have B4:=aI hM0;have B5:=aI hP0;have C:=aI hb0;clear hM0 hP0 hb0;have ix:∀W:World,(Instr.index 288 (.agg #[.slice a len cap,.slice a' j S]) (.int .i64 1)).run prog W=.ok (.slice a' j S) W:=fun W=>by rfl
  go_wp2;go_loopw [21] (fun c wr=>∃(k:Nat) (f:Int→Option Value),k≤j∧c=.int .i64 k∧MapR wr M (len+k) f∧PairF wr (l.map (·.1)) ((N.map (·.1)).take k) A B f∧Below w.heap.size w wr) (fun c _=>j-(intOf c).toNat)
  case atStart=>exact⟨0,f0,QI _,rfl,B4,B5,C⟩
  obtain⟨k,f,u,rfl,Q,hP,hb⟩:=hrel;have D0:(0:Int)≤(k:Int):=aA;have HB:=aI hb;by_cases hlt:k<j
  ·have i1:(k:Int)<(j:Int):=aA;have Hr:=H'.below hb;obtain⟨b,off,rfl,D2,A7,A8,R⟩:=Hr.cells k hlt;have s:=Hr.mem hlt;have hN:=Hr.holes _ s;have D:=Hr.words _ s;have A0:k<(N.map (·.1)).length:=by rw[PO,C3.out];exact hlt
   have E:(N.getD k EV.z).1=(N.map (·.1)).getD k Ent.z:=(cF N k).symm;have A1:lX (N.getD k EV.z).1:=by rw[E];exact C4.1 k A0
   have KN:=aI (fun W (hW:Below wr.heap.size wr W)=>Ar (N.getD k EV.z) W (hN.below hW) D A1 (Nat.le_trans (C5 _ s) C9));have B6:=C5.out _ s;obtain⟨ha,G,ev,_,_⟩:=hN.at';obtain⟨T,U,V,X,Y,Z,J⟩:=hP.shape D.rep;have F:=aI (fun W' (v:Value) (zs:List Iv) (may:Nat→Prop) (ho:Only may wr W') (hm:∀k,may k→k=M∨wr.heap.size≤k) (hz:RgAt W' v zs) (hc:cL zs) (hi:∀c,aV zs c↔rH (N.getD k EV.z).1 c) (hl:zs.length≤(N.getD k EV.z).1.hs.length+1)=>
    PairF.right (f:=f) (va:=.slice T U V) (vb:=.slice X Y Z) (v:=v) hP C4 A0 Q ho hm (by rw[← E];exact D.rep) (by rw[← E];exact J) hz hc (by rw[← E];exact hi) (by have:=hl;omega))
   obtain⟨p,ep⟩:=aG (N.getD k EV.z);rw[E]at F;rw[← E]at F;rw[ep]at A7 A8 R KN ev J F D;obtain⟨⟨x,y,z⟩,pv⟩:=p;simp only at A7 A8 R ev J D;subst ev;unfold kO at KN;simp only at KN;have HM:=aI Q;have wx:aL x:=D.rep;have HX:=aI wx;obtain⟨n,en⟩:=aG z.length;have C6:=Q.lt;have B7:(Instr.lookup 207 (.map (some M)) (.int .u64 x) false).run prog (wr.alloc (.cells #[.int .u64 x,.int .u64 y,.slice ha z.length G] 96))=.ok (.agg #[.slice T U V,.slice X Y Z]) (wr.alloc (.cells #[.int .u64 x,.int .u64 y,.slice ha z.length G] 96)):=by
    rw[(Q.below (aJ (PI _ _) _)).look underlying207 (qI _) wx,J]
   rw[en]at B7 R KN;have EN:=aI en;have EH:=aI (show w.heap.size=M from EM);clear en ep s hN A1 E Hr hb D wx Q hP J B6;go_wp2_with fail;refine(KN _ (aJ (aJ (PI _ _) _) _)).mono ?_;rintro e L ⟨v,out,rfl,hO,hc,A9,B1,C⟩;obtain⟨av,cv,rfl,_,_,_⟩:=hO.prs;have s1:=C.size;have q0:L.heap[wr.heap.size]?=some (.cells #[.int .u64 x,.int .u64 y,.slice ha n G] 96 (0,0)):=(C.block _ (by simp<;>omega)).trans (aT _ _ aD (aK _ _ rfl));have q1:L.heap[wr.heap.size+1]?=some (.cells #[.slice T U V,.slice X Y Z] 212 (0,0)):=(C.block _ aD).trans (aK _ _ aD);have y0:L.cell? ⟨wr.heap.size,0,none⟩=some (.int .u64 x):=by simp[PJ,q0]
   have p0:L.cell? ⟨wr.heap.size+1,0,none⟩=some (.slice T U V):=by simp[PJ,q1]
   have p1:L.cell? ⟨wr.heap.size+1,1,none⟩=some (.slice X Y Z):=by simp[PJ,q1]
   have g0:L.frozen? ⟨wr.heap.size+1,0,none⟩=false:=frozen_of_row _ _ 0 _ _ q1;have g1:L.frozen? ⟨wr.heap.size+1,1,none⟩=false:=frozen_of_row _ _ 1 _ _ q1;have O:Only (fun k=>wr.heap.size≤k) wr (L.setCell ⟨wr.heap.size+1,1,none⟩ (.slice av out.length cv)):=
    (((Only.of_below (aJ (aJ (PI wr.heap.size wr) (.cells #[.int .u64 x,.int .u64 y,.slice ha n G] 96)) (.cells #[.slice T U V,.slice X Y Z] 212))).trans ((Only.of_below C))).setCell (p:=⟨wr.heap.size+1,1,none⟩) (.inr (by show wr.heap.size≤wr.heap.size+1;omega)) _)
   have A2:=aI O;have I:=aI (HM.only O aA);have OL:=aI (hO.only ((Only.refl (fun k=>k=wr.heap.size+1) L).setCell (p:=⟨wr.heap.size+1,1,none⟩) (.inl rfl) (.slice av out.length cv)) (fun k u=>by rw[u];simp));have HC:=aI hc;have B8:=aI A9;have B9:=aI B1;have S1:=aI s1;obtain⟨m,em⟩:=aG out.length;have D1:=aI em;rw[em]at A2 I OL ⊢;clear hO hc A9 B1 C q0 q1 O em s1;go_wp2_with(at_mapUpdate;go_loud(refine gW _ rfl _ _ _ 207 212 rfl underlying207 M (len+k) f rfl I (by unfold maxLen;omega) x (.agg #[.slice T U V,.slice av m cv]) rfl HX rfl ?_);intro w2 B2 B3;have C0:=aI B2;have A3:=aI B3;clear B2 B3);have P:Only (fun k=>k=M∨wr.heap.size≤k) wr w2:=(A2.wide (fun k u=>.inr u)).trans ((Only.refl (fun k=>k=M∨wr.heap.size≤k) _).grown A3 (fun k u=>.inl (by injection u with u;exact u.symm)));have A4:RgAt w2 (.slice av m cv) out:=by
    refine OwnL.rg (base:=wr.heap.size+2) (t:=123) ?_;refine(OwnL.only (base:=wr.heap.size+2) (may:=fun k=>k=M) ⟨bC OL.row aD,OL.words⟩ ((Only.refl (fun k=>k=M) _).grown A3 (fun k u=>by injection u with u;exact u.symm)) (fun k u=>aA))
   have A5:=F.out w2 (.slice av m cv) out _ P (fun k u=>u) A4 HC B8 (by have:=B9.out;have:=EN.out;show out.length≤z.length+1;omega);have K:=aI A5;have A6:=aI (HB.trans (P.below (n:=w.heap.size) HB.size (fun k u=>by have:=EH.out;have:=HB.size;omega)));clear P A4 A5;go_wp2;go_roundw
   case rel=>
    have r:∃(k':Nat) (f:Int→Option Value),k'≤j∧(.int .i64 ((k:Int)+1):Value)=.int .i64 k'∧MapR w2 M (len+k') f∧PairF w2 (l.map (·.1)) ((N.map (·.1)).take k') A B f∧Below w.heap.size w w2:=⟨k+1,_,aA,aD,C0,K,A6⟩;first | exact r | ((repeat apply PF);exact⟨r,rfl⟩)
   simp[intOf];omega
  obtain rfl:j=k:=aA;have I:=aI Q;have K:=aI (show PairF wr (l.map (·.1)) (N.map (·.1)) A B f from by
   have:=hP;rw[PS (by rw[PO,C3.out];exact QH _)]at this;exact this)
  clear Q hP hb;go_wp2;go_roundw
  case rel=>
   have r:=(show(((.int .i64 2:Value)=.int .i64 0∧(∃f,MapR wr M 0 f∧PairF wr [] [] A B f∧Below w.heap.size w wr))∨((.int .i64 2:Value)=.int .i64 1∧(∃f,MapR wr M len f∧PairF wr (l.map (·.1)) [] A B f∧Below w.heap.size w wr))∨((.int .i64 2:Value)=.int .i64 2∧(∃f,MapR wr M (len+j) f∧PairF wr (l.map (·.1)) (N.map (·.1)) A B f∧Below w.heap.size w wr)))from .inr (.inr ⟨rfl,f,I,K,HB⟩));first | exact r | ((repeat apply PF);exact⟨r,rfl⟩)
  simp[intOf]
 have I:=aI hM0;have K:=aI hP0;have A6:=aI hb0;clear hM0 hP0 hb0;go_wp2;go_ret;exact⟨M,rfl,Nat.le_of_eq EM,f0,I,K,A6⟩
attribute [local go_sem] Oper.semAt_some
theorem Ca(a:Option Addr)(len cap:Nat)(w:World) :
  Calls prog 236 #[.slice a len cap] w fun e w'=>e=.returned (.func (.func 258) #[] #[.pointer (some ⟨w.heap.size,0,none⟩)])∧w'=w.alloc (.cells #[.slice a len cap] 76):=by
 go_enter func236,ntmps236;go_wp2;go_ret;exact⟨rfl,rfl⟩
def Rj (xs:List Int) (k:Nat):Array Value:=#[.int .u64 (xs.getD k 0)]
theorem Dc(n:Nat)(hn:1≤n)(G:Nat)(a:Option Addr)(len cap:Nat)(l:List EV)(s w0:World)(hE:EntsAt s a len l)(X:Below s.heap.size s w0)(Y:w0.heap[G]?=some (.cells #[.slice a len cap] 76 (0,0)))
  (M:Nat→Prop) (hM:∀k,M k→s.heap.size≤k∧k<w0.heap.size) (F2:¬M G) (H0:s.heap.size≤G) (hs:∀p∈l,p.1.hs.length≤4000000000) (F3:len≤4000000000) :
  Lp Fence.wide n prog 258 #[.pointer (some ⟨G,0,none⟩)] (Rj (bG (l.map (·.1)))) M 57 s.heap.size (bG (l.map (·.1))).length w0:=by
 intro ll J Jx W hW G8 G9 hJ D4 hY h0;have hl:=hE.length;obtain⟨es,Q⟩:=aG (l.map (·.1));rw[Q]at hY ⊢;have D5:es.length=len:=by rw[← Q,PO,hl]
 have HJ:=aI hJ;have F4:=aI D4;have HY:=aI hY;have HE:=aI hE;have D6:=aI Q;have A3:=aI D5;have HM:=aI hM;have D7:=aI (show Below s.heap.size s W from X.trans (hW.mono X.size));have F5:=X.size;have F6:=hW.size;have H:=(hW.block _ (aO Y)).trans Y;have D8:=aI H;have F7:=aO Y;have c0:W.cell? ⟨G,0,none⟩=some (.slice a len cap):=by simp[PJ,H]
 have D9:G≠ll:=aA;have HS:=aI hs;have D:=aI (show ∀(W1 W2:World),Below s.heap.size s W1→Only (fun b=>M b∨b=ll∨s.heap.size≤b∧Typed W1 57 b) W1 W2→Below s.heap.size s W2 from fun W1 W2 h1 h2=>h1.trans (h2.below h1.size fun k hk=>by
  rcases hk with hk | hk | hk
  ·exact(hM k hk).1
  ·omega
  exact hk.1))
 clear hJ D4 hY hE hM X hW Y H hs Q;have F8:IntKind.u64.wrap (len:Int)=len:=by rw[PG];omega
 obtain⟨fn,tmps,assign,body,hy,hR⟩:=HY.out 0 W h0 (by unfold bG;simp) (QH _);have HR:=aI hR;clear hR;have e0:(bG es).getD 0 0=(len:Int):=by rw[← A3.out];rfl
 simp only[Rj,e0]at hy;refine callsIn_of_wp func258 rfl trivial ?_ rfl;simp only[ntmps258,QA,QC,QG,Nat.reduceAdd,Nat.reduceSub,PE,PD,QB,PY,PX,QE];gi_wp2;refine HR.mono ?_;rintro e W3 (⟨rfl,B2,R⟩ | ⟨rfl,B4⟩)
 ·have A7:¬(M G∨G=ll∨s.heap.size≤G∧Typed W 57 G):=fun h=>h.elim F2 (fun h=>h.elim D9 (fun h=>Typed.ne h.2 (show Typed W 76 G from⟨_,D8⟩) aB rfl));have c3:W3.cell? ⟨G,0,none⟩=some (.slice a len cap):=R.cell A7 c0;have B3:=aI (D W W3 D7 R);have J3:=aI B2;have E0:W.heap.size≤W3.heap.size:=R.size;clear B2 R A7 c0 hy;gi_wp2;gi_loopw [17] (fun c wr=>∃k:Nat,k≤len∧c=.int .i64 k∧J (fZ es k) wr∧Below s.heap.size s wr∧W.heap.size≤wr.heap.size) (fun c _=>len-(intOf c).toNat)
  case atStart=>exact⟨0,QI _,rfl,J3,B3,E0⟩
  clear J3 B3 c3;obtain⟨k,hk,rfl,B7,I,G4⟩:=hrel;have JK:=aI B7;have BK:=aI I;clear B7;have i0:(0:Int)≤(k:Int):=aA;by_cases hlt:k<len
  ·have i1:(k:Int)<(len:Int):=aA;have N:=HE.below I;obtain⟨b,off,rfl,G5,B8,B9,A5⟩:=N.cells k hlt;have E:=N.mem hlt;have Z:=aI E;obtain⟨S,r,ev,_,_⟩:=(N.holes _ E).at';have A4:=HS.out _ E;have u:k<es.length:=by rw[A3.out];exact hlt
   have O:es.getD k Ent.z=(l.getD k EV.z).1:=by rw[← D6.out,cF]
   obtain⟨p,ep⟩:=aG (l.getD k EV.z);rw[ep]at B8 B9 A5 ev A4 O Z;obtain⟨⟨x,y,z⟩,pv⟩:=p;simp only at B8 B9 A5 ev A4;subst ev;have A0:(bG es).getD (fZ es k+0) 0=x:=by rw[sP u aA,O];rfl
   have A1:(bG es).getD (fZ es k+1) 0=y:=by rw[sP u aA,O];rfl
   have A2:(bG es).getD (fZ es k+2) 0=(z.length:Int):=by rw[sP u aA,O];rfl
   have AL:=aI (show ∀j,j<z.length→(bG es).getD (fZ es k+3+2 * j) 0=Lo z j∧(bG es).getD (fZ es k+3+2 * j+1) 0=Hi z j from fun j hj=>by
    have E1:j<(es.getD k Ent.z).hs.length:=by rw[O];exact hj
    have h1:=BF (es.getD k Ent.z) j E1;rw[← sP u aA,← sP u aA,O]at h1;rw[show fZ es k+3+2 * j=fZ es k+(3+2 * j) by omega,show fZ es k+(3+2 * j)+1=fZ es k+(4+2 * j) by omega];exact h1)
   have ON:=aI (show fZ es (k+1)=fZ es k+3+2 * z.length from by rw[fZ,O]);have OL:=aI (show ∀i,i<3+2 * z.length→fZ es k+i<(bG es).length from fun i hi=>Zi u (by rw[O];exact hi));obtain⟨m,em⟩:=aG z.length;have EM:=aI em;rw[em]at A5 A2 A4;have wm:IntKind.u64.wrap (m:Int)=m:=by rw[PG];omega
   have HA:=aI (PC A0 (PC A1 A2));obtain⟨Be,C0⟩:=aG wr.heap.size;have BA:=aI (show Below s.heap.size s (wr.alloc (.cells #[.int .u64 x,.int .u64 y,.slice S m r] 96))from I.alloc I.size _);have JA:=aI (HJ _ _ _ JK ((Only.refl (fun _=>False) wr).alloc (.cells #[.int .u64 x,.int .u64 y,.slice S m r] 96)));have CA:=aI (show(wr.alloc (.cells #[.int .u64 x,.int .u64 y,.slice S m r] 96)).heap[Be]?=some (.cells #[.int .u64 x,.int .u64 y,.slice S m r] 96 (0,0))from aK _ _ C0.symm);have F9:W.heap.size≤Be:=aA;clear A0 A1 A2 em ep I N E u O JK;gi_upto_region 4 with fail;obtain⟨Wk,C1⟩:=aG (wr.alloc (.cells #[.int .u64 x,.int .u64 y,.slice S m r] 96));rw[C1]at BA JA CA ⊢;clear C1 C0;have k0:Wk.cell? ⟨Be,0,none⟩=some (.int .u64 x):=by simp[PJ,CA.out]
   have k1:Wk.cell? ⟨Be,1,none⟩=some (.int .u64 y):=by simp[PJ,CA.out]
   have k2:Wk.cell? ⟨Be,2,none⟩=some (.slice S m r):=by simp[PJ,CA.out]
   gi_wp2;gi_loopw [30] (fun c wr=>∃i:Nat,i≤3∧c=.int .i64 i∧J (fZ es k+i) wr∧Below s.heap.size s wr∧wr.heap[Be]?=some (.cells #[.int .u64 x,.int .u64 y,.slice S m r] 96 (0,0))∧W.heap.size≤wr.heap.size) (fun c _=>3-(intOf c).toNat)
   case atStart=>exact⟨0,aA,rfl,JA,BA,CA,by have:=aO CA;omega⟩
   clear JA BA CA k0 k1 k2;obtain⟨i,hi,rfl,K,C2,C3,C4⟩:=hrel;have JI:=aI K;have BI:=aI C2;have CI:=aI C3;clear C2 C3;by_cases hi3:i<3
   ·have A8:∃v:Int,(bG es).getD (fZ es k+i) 0=v∧#[Value.int .u64 x,.int .u64 y,.int .u64 (m:Int)][i]?=some (.int .u64 v):=by
     have h3:i=0∨i=1∨i=2:=aA;rcases h3 with rfl | rfl | rfl
     ·exact⟨x,HA.1,rfl⟩
     ·exact⟨y,HA.2.1,rfl⟩
     exact⟨(m:Int),HA.2.2,rfl⟩
    obtain⟨v,ev,C6⟩:=A8;obtain⟨fn,tmps,assign,body,hy,hR⟩:=HY.out (fZ es k+i) wr K (OL i aA) C4;have HR:=aI hR;clear hR K;simp only[Rj,ev]at hy;have q0:(0:Int)≤(i:Int):=aA;have q1:(i:Int)<3:=aA;have h3:i=0∨i=1∨i=2:=aA;have E2:¬(M Be∨Be=ll∨s.heap.size≤Be∧Typed wr 57 Be):=fun h=>h.elim (fun h=>by have:=HM.out Be h;omega) (fun h=>h.elim (fun h=>aA) (fun h=>Typed.ne h.2 (show Typed wr 96 Be from⟨_,CI⟩) aB rfl));have OK:=aI (show J (fZ es k+i+1)=J (fZ es k+(i+1))from rfl);have G0:∀W:World,(Instr.index 353 (.agg #[.int .u64 x,.int .u64 y,.int .u64 (m:Int)]) (.int .i64 0)).run prog W=.ok (.int .u64 x) W:=fun W=>by rfl
    have G1:∀W:World,(Instr.index 353 (.agg #[.int .u64 x,.int .u64 y,.int .u64 (m:Int)]) (.int .i64 1)).run prog W=.ok (.int .u64 y) W:=fun W=>by rfl
    have G2:∀W:World,(Instr.index 353 (.agg #[.int .u64 x,.int .u64 y,.int .u64 (m:Int)]) (.int .i64 2)).run prog W=.ok (.int .u64 (m:Int)) W:=fun W=>by rfl
    rcases h3 with rfl | rfl | rfl
    all_goals
     simp at C6;subst C6;gi_wp2;refine HR.mono ?_;rintro e W5 (⟨rfl,L,A⟩ | ⟨rfl,C⟩)
     ·have B5:=aI (D _ W5 BI A);have J5:=aI L;have C5:=aI (A.obj E2 CI);have s5:=A.size;clear L A hy;gi_wp2;go_roundw
      case rel=>first | exact⟨1,aA,rfl,J5,B5,C5,aA⟩ | exact⟨2,aA,rfl,J5,B5,C5,aA⟩ | exact⟨3,aA,rfl,J5,B5,C5,aA⟩
      decide
     gi_wp2;refine bodyPost_ret (results_none rfl _ _ _) rfl ?_;first | exact⟨⟨_,rfl⟩,.inr ⟨_,OL 0 aA,C⟩⟩ | exact⟨⟨_,rfl⟩,.inr ⟨_,OL 1 aA,C⟩⟩ | exact⟨⟨_,rfl⟩,.inr ⟨_,OL 2 aA,C⟩⟩
   obtain rfl:i=3:=aA;have d2:wr.cell? ⟨Be,2,none⟩=some (.slice S m r):=by simp[PJ,CI.out]
   have J0:=aI K;clear K CI;gi_wp2;gi_loopw [41] (fun c wr=>∃j:Nat,j≤m∧c=.int .i64 j∧J (fZ es k+3+2 * j) wr∧Below s.heap.size s wr∧W.heap.size≤wr.heap.size) (fun c _=>m-(intOf c).toNat)
   case atStart=>exact⟨0,aA,rfl,J0,BI,C4⟩
   clear J0 BI JI d2;obtain⟨j,hj,rfl,T,F,E7⟩:=hrel;have BJ:=aI F;have j0:(0:Int)≤(j:Int):=aA;by_cases hjm:j<m
   ·have j1:(j:Int)<(m:Int):=aA;obtain⟨a2,c2,U,V,_⟩:=((HE.below F).holes _ Z).at';simp only at U V;rw[EM.out]at U V;obtain⟨rfl,_,rfl⟩:S=a2∧m=m∧r=c2:=by simpa using U
    obtain⟨g2,o2,rfl,G6,E8,E9⟩:=V.cells j hjm;have P:=AL.out j (by rw[EM.out];exact hjm);obtain⟨lo,C7⟩:=aG (Lo z j);obtain⟨hv,C8⟩:=aG (Hi z j);rw[C7]at E8 P;rw[C8]at E9 P;have A9:=aI P;have jA:=HJ.out _ _ _ T ((Only.refl (fun _=>False) wr).alloc (.cells #[.int .u64 lo,.int .u64 hv] 123));have L1:=OL.out (3+2 * j) (by rw[EM.out];omega);have L2:=OL.out (3+2 * j+1) (by rw[EM.out];omega);rw[← QK]at L1;rw[← QK,← QK]at L2;obtain⟨fn,tmps,assign,body,hy,hR⟩:=HY.out (fZ es k+3+2 * j) _ jA L1 (by simp;omega);have HR:=aI hR;have E3:=aI L1;have B0:=aI L2;have ci:=aI (show(wr.alloc (.cells #[.int .u64 lo,.int .u64 hv] 123)).heap[wr.heap.size]?=some (.cells #[.int .u64 lo,.int .u64 hv] 123 (0,0))from aK _ _ rfl);have B1:¬(M wr.heap.size∨wr.heap.size=ll∨s.heap.size≤wr.heap.size∧Typed (wr.alloc (.cells #[.int .u64 lo,.int .u64 hv] 123)) 57 wr.heap.size):=fun h=>h.elim (fun h=>by have:=HM.out _ h;omega) (fun h=>h.elim (fun h=>aA) (fun h=>Typed.ne h.2 (show Typed _ 123 wr.heap.size from⟨_,ci⟩) aB rfl));have E4:=aI B1;have E5:=aI (show Below s.heap.size s (wr.alloc (.cells #[.int .u64 lo,.int .u64 hv] 123))from F.alloc F.size _);clear hR T F jA L1 L2 P C7 C8 U V B1;simp only[Rj,A9.1]at hy;gi_wp2;refine HR.mono ?_;rintro e W5 (⟨rfl,L,A⟩ | ⟨rfl,C⟩)
    ·have c5:=A.obj E4 ci;have d1:W5.cell? ⟨wr.heap.size,1,none⟩=some (.int .u64 hv):=by simp[PJ,c5]
     have B5:=aI (D _ W5 E5 A);have s5:=A.size;simp only[World.size_alloc]at s5;obtain⟨G7,F0,C9,F1,D0,D1⟩:=HY.out (fZ es k+3+2 * j+1) W5 L B0 aA;have E6:=aI D1;clear L A hy D1 c5;simp only[Rj,A9.2]at D0;gi_wp2;refine E6.mono ?_;rintro e W6 (⟨rfl,D2,A6⟩ | ⟨rfl,D3⟩)
     ·have B6:=aI (D _ W6 B5 A6);have J6:=aI D2;have s6:=A6.size;clear D2 A6 D0;gi_wp2;go_roundw
      case rel=>first | exact⟨j+1,aA,by go_num,J6,B6,aA⟩ | ((repeat apply PF);exact⟨⟨j+1,aA,by go_num,J6,B6,aA⟩,rfl⟩)
      simp[intOf];omega
     gi_wp2;refine bodyPost_ret (results_none rfl _ _ _) rfl ?_;exact⟨⟨_,rfl⟩,.inr ⟨_,B0,D3⟩⟩
    gi_wp2;refine⟨fun _ h=>(by cases h),?_⟩;gi_wp2;refine bodyPost_ret (results_none rfl _ _ _) rfl ?_;exact⟨⟨_,rfl⟩,.inr ⟨_,E3,C⟩⟩
   obtain rfl:j=m:=aA;have jn:¬(j:Int)<(j:Int):=aA;have J7:=aI (show J (fZ es (k+1)) wr from by rw[ON.out,EM.out];exact T);clear T F;gi_wp2;go_roundw
   case rel=>exact⟨k+1,aA,by go_num,J7,BJ,E7⟩
   simp[intOf];omega
  obtain rfl:k=len:=aA;have G3:¬(k:Int)<(k:Int):=aA;gi_wp2;go_end0;exact⟨⟨_,rfl⟩,.inl (by rw[vB,A3.out];exact JK)⟩
 gi_wp2;refine bodyPost_ret (results_none rfl _ _ _) rfl ?_;exact⟨⟨_,rfl⟩,.inr ⟨0,by unfold bG;simp,B4⟩⟩
end Go.Proofs.YtbkkolfpegplgaaGreatDoor
namespace Go.Proofs.YtbkkolfpegplgaaGreatDoor
open Go Go.RowKit
attribute [local go_sem] Oper.semAt_some
theorem Lk{es:List Ent}(l:∀e∈es,EntW e)(n:es.length≤4000000000)(hs:∀e∈es,e.hs.length≤4000000000):∀x∈bG es,aL x:=by
 intro x b;unfold bG at b;rcases List.mem_cons.1 b with rfl | b
 ·unfold aL;omega
 obtain⟨e,j,b⟩:=List.mem_flatMap.1 b;unfold gQ at b;rcases List.mem_append.1 b with b | b
 ·have:=hs e j;simp at b;rcases b with rfl | rfl | rfl
  ·exact(l e j).rep
  ·exact(l e j).mx
  unfold aL;omega
 obtain⟨z,m,b⟩:=List.mem_flatMap.1 b;have:=(l e j).hs z m;simp at b;rcases b with rfl | rfl
 ·exact this.1
 exact this.2
theorem wM{xs:List Int}{k:Nat}(h:k<xs.length):xs.take (k+1)=xs.take k ++ [xs.getD k 0]:=by
 rw[List.take_add_one,PN h];simp[PQ,PN h]
theorem cell_one_new(w:World)(x:Value)(t:TypeId):∀j u,[x][j]?=some u→(w.alloc (.cells #[x] t)).cell? ((⟨w.heap.size,0,none⟩:Addr).add j)=some u:=by
 intro j u b;have l:(⟨w.heap.size,0,none⟩:Addr).add j=⟨w.heap.size,0+j,none⟩:=by
  unfold Addr.add;split<;>simp_all
 rw[l];match j,b with
 | 0,b=>
   simp at b;subst b;have h:(w.alloc (.cells #[x] t)).heap[w.heap.size]?=some (.cells #[x] t (0,0)):=aK _ _ rfl;generalize w.alloc (.cells #[x] t)=W at h ⊢;simp[PJ,h]
theorem one_one(x:Int):∀u∈[Value.int .u64 x],u.oneCell'=true:=by
 intro u b;simp at b;subst b;rfl
theorem OwnI.keep{w w':World}{base:Nat}{v:Value}{zs:List Int}{may:Nat→Prop}(h:OwnI w base v zs)(ho:Only may w w')(b:∀k,may k→k<base):OwnI w' base v zs:=⟨eU h.row ho b,h.words⟩
structure OutN (w:World) (D:Nat) (xs:List Int) (W:World):Prop where
 out:∃v,W.heap[w.heap.size]?=some (.cells #[v] 89 (0,0))∧OwnI W D v xs
 bl:Below w.heap.size w W
theorem OutN.only{w:World}{D:Nat}{xs:List Int}{A A':World}{may:Nat→Prop}(h:OutN w D xs A)(ho:Only may A A')(h0:¬may w.heap.size)(m:∀k,may k→w.heap.size≤k)(n:∀k,may k→k<D):OutN w D xs A':=by
 obtain⟨⟨v,j,l⟩,b⟩:=h;exact⟨⟨v,ho.obj h0 j,l.keep ho n⟩,b.trans (ho.below b.size m)⟩
theorem zO(a:Option Addr)(len cap:Nat)(l:List EV)(w:World)(R:EntsAt w a len l)(hs:∀p∈l,p.1.hs.length≤4000000000)(E:len≤4000000000)(hN:(bG (l.map (·.1))).length≤4000000000) :
  Calls prog 195 #[.slice a len cap] w fun e w'=>∃v,e=.returned v∧OwnI w' w.heap.size v (bG (l.map (·.1)))∧Below w.heap.size w w':=by
 have HC:=aI (Ca a len cap);obtain⟨i0,hi,X,Y,Z⟩:=info_parts iD;have K:∀x∈bG (l.map (·.1)),aL x:=Lk (fun e he=>by
  obtain⟨p,hp,rfl⟩:=List.mem_map.1 he;exact R.words p hp) (by rw[PO,R.length];exact E) (fun e he=>by
  obtain⟨p,hp,rfl⟩:=List.mem_map.1 he;exact hs p hp)
 obtain⟨xs,H⟩:=aG (bG (l.map (·.1)));rw[H]at K hN ⊢;refine(callsIn_wide (n:=6)).1 ?_;refine callsIn_of_wp_marks func195 rfl trivial ?_ rfl;simp only[ntmps195,QA,QC,QG,Nat.reduceAdd,Nat.reduceSub,PE,PD,QB,PY,PX,QE];gi_wp2_with (refine⟨trivial,?_⟩;gi_at_call 236;refine(callsIn_wide.2 (HC _)).mono ?_;rintro e w' ⟨rfl,rfl⟩);obtain⟨V,J⟩:=aG ((w.alloc (.cells #[.slice none 0 0] 89)).alloc (.cells #[.slice a len cap] 76));have hB:V.heap.size=w.heap.size+2:=by rw[← J];simp
 have M:Below w.heap.size w V:=by rw[← J];exact aJ (aJ (PI _ _) _) _
 have q1:V.heap[w.heap.size]?=some (.cells #[.slice none 0 0] 89 (0,0)):=by rw[← J];exact aT _ _ aD (aK _ _ rfl)
 have q2:V.heap[w.heap.size+1]?=some (.cells #[.slice a len cap] 76 (0,0)):=by rw[← J];exact aK _ _ aD
 rw[J];clear J;have j:=(Dc 5 aA (w.heap.size+1) a len cap l w V R M q2 (fun b=>b=w.heap.size) (fun k I=>aA) aA aA hs E);rw[H]at j;have S:=aI j;clear j H R hs q2;refine gL (gf:=258) (lb:=#[.pointer (some ⟨w.heap.size+1,0,none⟩)]) rfl aA rfl trivial (enters_of func258 aC rfl)
  S (PI _ _) (fun _=>rfl) (fun k I=>aA)
  (fun k W=>OutN w (V.heap.size+2) (xs.take k) W)
  (fun _ _ _=>False) ?hI (fun _ _ _ _ h _=>h) ⟨⟨_,q1,by rw[List.take_zero];exact OwnI.nil _ _⟩,M⟩
  (fun k a₁ W=>OutN w (V.heap.size+2) (xs.take k) W ∧
    a₁={ tmps:=#[.slice a len cap,undef,.slice none 0 0,.pointer (some ⟨w.heap.size,0,none⟩),.int .u64 (xs.getD k 0),.slice a len cap,.func (.func 258) #[] #[.pointer (some ⟨w.heap.size+1,0,none⟩)],.int .u64 (xs.getD k 0),undef,undef,undef,undef,undef],defers:=[] })
  ?hAx ?assign ?body ?done (fun _ _ _ _ _ _ h _=>h.elim)
 case hI=>
  intro k A B h ho;exact h.only ho (fun q=>aA) (fun q r=>aA) (fun q r=>aA)
 case hAx=>
  rintro k a₁ A B ⟨h,e⟩ ho;exact⟨h.only ho (fun q=>aA) (fun q r=>aA) (fun q r=>aA),e⟩
 case assign=>
  rintro l k W A0 h I;simp only[Rj];gi_wp2;exact⟨Only.refl _ _,h,by simp[PQ,PN I]⟩
 case body=>
  rintro ll k a₁ W A0 ⟨⟨⟨v,hv,y⟩,m⟩,rfl⟩ I;have T:=aI (wM I);have F:(xs.take k).length=k:=by rw[PU];omega
  obtain⟨x,ex⟩:=aG (xs.getD k 0);have wx:aL x:=by
   rw[← ex];exact K _ (by simp[PQ,PN I])
  rw[ex]at T ⊢;obtain⟨L,eL⟩:=aG (xs.take k);rw[eL]at T y F;have v0:W.cell? ⟨w.heap.size,0,none⟩=some v:=by simp[PJ,hv]
  have HV:=aI hv;have HO:=aI y;have N:=aI m;have O:∀q,v.ownBlock=some q→V.heap.size+2≤q:=fun q r=>(y.row.lt q r).1;have P:∀q,v.ownBlock=some q→Typed W 57 q:=fun q r=>aR y.row r;have U:=aI P;have A1:L.length<4000000000:=aA;have A2:=aI F;clear F;have A3:=aO hv;clear hv y m ex eL P;gi_wp2_with (gi_at_builtin;refine wpListIn_append_own_at _ rfl _ _ 89 rfl (V.heap.size+2) 57 i0 (.int .u64 0) 1 8 underlying89 hi X Y Z rfl aB _ _ _ rfl (eU HO.row ((Only.refl (fun _=>False) W).alloc _) (fun k h=>h.elim)) ⟨W.heap.size,0,none⟩ 1 1 [.int .u64 x] rfl rfl (cell_one_new _ _ _) (one_one _) (by unfold maxLen;omega) aA (by simp;omega) ?_;intro v' w2 s u _ _;obtain⟨g',C,rfl⟩:=ownsRow_succ s;have G:=kG u (by simp;omega) (fun e=>by have:=O _ e.symm;omega) (aT W (.cells #[.int .u64 x] 57) (aO HV) HV);have y0:w2.cell? ⟨w.heap.size,0,none⟩=some v:=(by simp[PJ,G]);have y1:w2.frozen? ⟨w.heap.size,0,none⟩=false:=frozen_of_row w2 _ 0 _ _ G);have o1:Only (fun b=>b=w.heap.size∨w.heap.size≤b∧Typed W 57 b) W w2:=((Only.refl _ W).alloc (.cells #[.int .u64 x] 57)).grown u (fun g hg=>.inr ⟨by have:=O g hg;omega,U g hg⟩);have o2:=o1.setCell (p:=⟨w.heap.size,0,none⟩) (.inl (.inl rfl)) (.slice (some ⟨g',0,none⟩) (L.length+1) C);have o3:Only (fun b=>b=w.heap.size) w2 (w2.setCell ⟨w.heap.size,0,none⟩ (.slice (some ⟨g',0,none⟩) (L.length+1) C)):=(Only.refl (fun b=>b=w.heap.size) w2).setCell (p:=⟨w.heap.size,0,none⟩) (.inl rfl) _;refine⟨show Only (fun b=>b=w.heap.size∨w.heap.size≤b∧Typed W 57 b) W _ from o2,?_⟩;show OutN w (V.heap.size+2) (xs.take (k+1)) _;rw[T.out];refine⟨⟨_,heap_setCell_same _ _ 0 _ _ _ G,eU ?_ o3 (fun q r=>aA),fun z Q=>?_⟩,N.trans (o2.below (n:=w.heap.size) N.size (fun q r=>aA))⟩
  ·rw[QF,PZ];exact s
  rcases List.mem_append.1 Q with Q | Q
  ·exact HO.words z Q
  obtain rfl:z=x:=by simpa using Q
  exact wx
 rintro D W hD ⟨⟨v,hv,y⟩,m⟩ hK;rw[List.take_length]at y;have v0:W.cell? ⟨w.heap.size,0,none⟩=some v:=by simp[PJ,hv]
 gi_wp2;refine⟨aD,.inl ⟨_,_,rfl,run_takeDeferred hK,?_⟩⟩;have oD:=Only.putObj (may:=fun x=>x=D) W D (.deferred none) rfl;have nD:∀q,v.ownBlock=some q→¬q=D:=fun q r e=>by
  obtain⟨cs,hc⟩:=aR y.row r;rw[e,hK]at hc
  cases hc
 refine⟨_,results_tmp rfl _ _ _,v,rfl,⟨bC (bF y.row oD nD) aA,y.words⟩,m.trans (oD.below (n:=w.heap.size) m.size (fun k (I:k=D)=>aA))⟩
end Go.Proofs.YtbkkolfpegplgaaGreatDoor
namespace Go.Proofs.YtbkkolfpegplgaaGreatDoor
open Go Go.RowKit
theorem CG{zs:List Iv}(h:cL zs){i j:Nat}(b:i<j)(l:j<zs.length):Hi zs i<Hi zs j:=by
 have h1:=cG h b l;have h2:=(h j l).1;omega
def fI (lo hi x:Int):Int:=if hi<x then -1 else if lo > x then 1 else 0
theorem Bg(lo hi x:Int)(w:World) :
  Calls prog 226 #[.agg #[.int .u64 lo,.int .u64 hi],.int .u64 x] w fun e w'=>e=.returned (.int .i64 (fI lo hi x))∧Below w.heap.size w w':=by
 by_cases h:hi<x
 ·have e:fI lo hi x = -1:=by simp[fI,h]
  rw[e];clear e;go_enter func226,ntmps226;go_wp2;go_ret;exact⟨rfl,aJ (PI _ _) _⟩
 by_cases h':lo > x
 ·have e:fI lo hi x=1:=by simp[fI,h,h']
  rw[e];clear e;go_enter func226,ntmps226;go_wp2;go_ret;exact⟨rfl,aJ (PI _ _) _⟩
 have e:fI lo hi x=0:=by simp only[fI];rw[if_neg h,if_neg h']
 rw[e];clear e;go_enter func226,ntmps226;go_wp2;go_ret;exact⟨rfl,aJ (PI _ _) _⟩
theorem Dx(a:Option Addr)(n cap:Nat)(zs:List Iv)(x:Int)(w:World)(h:Prs w a n zs)(Y:cL zs)(hn:n≤3900000000) :
  Calls prog 225 #[.slice a n cap,.int .u64 x,.func (.func 226) #[] #[]] w fun e w'=>∃k:Nat,e=.returned (.tuple #[.int .i64 k,.bool (decide (aV zs x))])∧k≤n∧(aV zs x→k<n∧Lo zs k≤x∧x≤Hi zs k)∧Below w.heap.size w w':=by
 have H:=aI h;have O:=aI Y;have J:=aI h.length;have hE:∀args W,(callFunc 226 args).run prog W=.ok (.enter 226 args) W:=fun _ _=>aC;clear h Y;go_enter func225,ntmps225;go_wp2;go_loopw [9,10] (fun i j wr=>∃k m:Nat,k≤m∧m≤n∧i=.int .i64 k∧j=.int .i64 m∧(∀i,i<k→Hi zs i<x)∧(∀i,m≤i→i<n→x≤Hi zs i)∧Below w.heap.size w wr) (fun i j _=>(intOf j).toNat-(intOf i).toNat)
 case atStart=>exact⟨0,n,QI _,QH _,rfl,rfl,fun i h=>absurd h aA,fun i h h'=>absurd h aA,PI _ _⟩
 obtain⟨k,m,A0,u,rfl,rfl,G,I,B⟩:=hrel;have P:=aI B;have C:=aI G;have p:=aI I;clear G I;have i0:(0:Int)≤(k:Int):=aA;by_cases hlt:k<m
 ·obtain⟨d,em⟩:=aG ((k+m) / 2);have V:d<m:=aA;have Q:k≤d:=aA;obtain⟨b,off,rfl,T,y,z⟩:=(H.below B).cells d aA;obtain⟨hi,l⟩:=aG (Hi zs d);obtain⟨lo,r⟩:=aG (Lo zs d);rw[l]at z;rw[r]at y;have L:=aI l;have Z:(k:Int)<(m:Int):=aA;have q0:IntKind.i64.wrap ((k:Int)+m)=(k:Int)+m:=IntWalk.i64_in _ aA;have q1:IntKind.u64.wrap ((k:Int)+m)=(k:Int)+m:=by rw[PG];omega
  have q2:((k:Int)+m) / 2=d:=aA;have q3:IntKind.u64.wrap (d:Int)=d:=by rw[PG];omega
  have q4:IntKind.i64.wrap (d:Int)=d:=IntWalk.i64_in _ aA;have q5:(0:Int)≤(d:Int):=aA;have q6:(d:Int)<(n:Int):=aA;have q7:IntKind.i64.wrap ((d:Int)+1)=(d:Int)+1:=IntWalk.i64_in _ aA;obtain⟨f,A⟩:=aG (fI lo hi x);have K:=aI (fun W=>by have:=Bg lo hi x W;rw[A]at this;exact this);have X:=aI A;clear l r B em A;go_wp2_with fail;refine(K _).mono ?_;rintro e w1 ⟨rfl,s⟩;have N:=aI (aN P s);clear s;by_cases hyx:hi<x
  ·have hf:f<0:=by have:=X.out;unfold fI at this;rw[if_pos hyx]at this;omega
   have R:=aI (show ∀i,i<d+1→Hi zs i<x from fun i U=>by
    rcases QJ i d with g | g
    ·have:=CG O g (by rw[J.out];omega);have:=L.out;omega
    obtain rfl:i=d:=aA;have:=L.out;omega)
   go_wp2;go_roundw
   case rel=>exact⟨d+1,m,aA,u,by go_num,rfl,R,p,N⟩
   simp[intOf];omega
  have hf:¬f<0:=by have:=X.out;unfold fI at this;rw[if_neg hyx]at this;split at this<;>omega
  have R:=aI (show ∀i,d≤i→i<n→x≤Hi zs i from fun i U A1=>by
   rcases QJ d i with g | g
   ·have:=CG O g (by rw[J.out];omega);have:=L.out;omega
   obtain rfl:i=d:=aA;have:=L.out;omega)
  go_wp2;go_roundw
  case rel=>exact⟨k,d,Q,aA,rfl,rfl,C,R,N⟩
  simp[intOf];omega
 obtain rfl:k=m:=aA;have mem:aV zs x↔k<n∧Lo zs k≤x:=by
  constructor
  ·intro V;obtain⟨i,hi,h1,h2⟩:=fU.1 V;have hl:=J.out;rcases QJ i k with g | g
   ·have:=C.out i g;omega
   rcases QJ k i with g' | g'
   ·have h3:=cG O g' hi;have h4:=p.out k (QH _) aA;omega
   obtain rfl:i=k:=aA;exact⟨aA,h1⟩
  rintro⟨h1,h2⟩;have hl:=J.out;exact fU.2 ⟨k,aA,h2,p k (QH _) h1⟩
 have D:=aI (show aV zs x→k<n∧Lo zs k≤x∧x≤Hi zs k from fun h=>by
  obtain⟨h1,h2⟩:=mem.1 h;exact⟨h1,h2,p k (QH _) h1⟩)
 have E:=aI mem;clear mem;by_cases hkn:k<n
 ·obtain⟨b,off,rfl,T,y,z⟩:=(H.below B).cells k hkn;have F:=p.out k (QH _) hkn;obtain⟨hi,l⟩:=aG (Hi zs k);obtain⟨lo,r⟩:=aG (Lo zs k);rw[l]at z F;have M:=E.out;rw[r]at y M;have Z:(k:Int)<(n:Int):=aA;obtain⟨f,A⟩:=aG (fI lo hi x);have K:=aI (fun W=>by have:=Bg lo hi x W;rw[A]at this;exact this);have S:=aI (show decide (aV zs x)=(f == 0)from by
   rw[← A];unfold fI;rw[if_neg aA];by_cases q:lo > x
   ·rw[if_pos q];have:¬aV zs x:=fun h=>by have:=(M.1 h).2;omega
    simp[this]
   rw[if_neg q];have:aV zs x:=M.2 ⟨hkn,aA⟩;simp[this])
  clear l r B M A F;go_wp2_with fail;refine(K _).mono ?_;rintro e w1 ⟨rfl,s⟩;have N:=aI (aN P s);clear s;go_wp2;go_ret2;exact⟨k,(by rw[S.out];rfl),u,D,N⟩
 obtain rfl:k=n:=aA;have S:=aI (show decide (aV zs x)=false from by have M:=E.out;simp[M]);clear B;go_wp2;go_ret2;exact⟨k,(by rw[S.out];rfl),u,D,P⟩
theorem Pk(a:Option Addr)(n cap:Nat)(zs:List Iv)(x:Int)(w:World)(h:Prs w a n zs)(j:cL zs)(l:n≤3900000000) :
  Calls prog 172 #[.slice a n cap,.int .u64 x] w fun e w'=>∃k:Int,e=.returned (.int .i64 k)∧(aV zs x→0≤k)∧(¬aV zs x→k = -1)∧Below w.heap.size w w':=by
 have K:=aI (Dx a n cap zs x w h j l);clear h j;go_enter func172,ntmps172;go_wp2_with fail;refine K.mono ?_;rintro e m ⟨k,rfl,p,r,b⟩;by_cases hm:aV zs x
 ·have d:decide (aV zs x)=true:=by simp[hm]
  rw[d];go_wp2;go_ret;exact⟨k,rfl,fun _=>aA,fun h=>absurd hm h,b⟩
 have d:decide (aV zs x)=false:=by simp[hm]
 rw[d];go_wp2;go_ret;exact⟨-1,rfl,fun h=>absurd h hm,fun _=>rfl,b⟩
theorem Mh(v:Value)(zs:List Iv)(x:Int)(w:World)(h:RgAt w v zs)(m:cL zs)(n:zs.length≤3900000000) :
  Calls prog 119 #[v,.int .u64 x] w fun e w'=>e=.returned (.bool (decide (aV zs x)))∧Below w.heap.size w w':=by
 obtain⟨a,cap,rfl,j,_⟩:=h;have K:=aI (Pk a zs.length cap zs x w j m n);clear j m;go_enter func119,ntmps119;go_wp2_with fail;refine K.mono ?_;rintro e p ⟨k,rfl,h1,h2,l⟩;by_cases hm:aV zs x
 ·have b:=h1 hm;have d:=aI (show decide (aV zs x)=true from by simp[hm]);clear h1 h2 hm;go_wp2;go_ret;exact⟨by rw[d.out];simp[b],l⟩
 have b:=h2 hm;subst b;have d:=aI (show decide (aV zs x)=false from by simp[hm]);clear h1 h2 hm;go_wp2;go_ret;exact⟨by rw[d.out];rfl,l⟩
end Go.Proofs.YtbkkolfpegplgaaGreatDoor
namespace Go.Proofs.YtbkkolfpegplgaaGreatDoor
open Go Go.RowKit
attribute [local go_sem] Oper.semAt_some
theorem Xi(x y:Int)(h:x<y)(w:World):Calls prog 92 #[.int .u64 x,.int .u64 y] w fun e w'=>e=.returned (.int .i64 (-1))∧w=w':=by
 go_enter func92,ntmps92;go_wp2_with fail;refine(sE x _).mono ?_;rintro e b ⟨rfl,rfl⟩;go_wp2_with fail;refine(sE y _).mono ?_;rintro e b ⟨rfl,rfl⟩;go_wp2;go_ret;exact⟨rfl,rfl⟩
theorem As(x:Int)(w:World):Calls prog 257 #[.int .i64 x] w fun e w'=>e=.returned (.bool false)∧w=w':=by
 have q:(x != x)=false:=aD;go_enter func257,ntmps257;go_wp2;go_ret;exact⟨rfl,rfl⟩
def tS (x y:Int):Int:=if x<y then -1 else if y<x then 1 else 0
theorem AO(x y:Int)(w:World):Calls prog 235 #[.int .i64 x,.int .i64 y] w fun e w'=>e=.returned (.int .i64 (tS x y))∧w=w':=by
 by_cases h:x<y;have e:tS x y = -1:=by unfold tS;rw[if_pos h]
 rotate_left;by_cases h2:y<x;have e:tS x y=1:=by unfold tS;rw[if_neg h,if_pos h2]
 rotate_left;have e:tS x y=0:=by unfold tS;rw[if_neg h,if_neg h2]
 rotate_left
 all_goals
  rw[e];go_enter func235,ntmps235;go_wp2_with fail;refine(As x _).mono ?_;rintro e b ⟨rfl,rfl⟩;go_wp2_with fail;refine(As y _).mono ?_;rintro e b ⟨rfl,rfl⟩;go_wp2;go_ret;exact⟨rfl,rfl⟩
theorem pN{xs:List Int}{k:Nat}(h:k<xs.length):xs.drop k=xs.getD k 0 :: xs.drop (k+1):=by
 rw[List.drop_eq_getElem_cons h];simp[PQ,PN h]
theorem Ro{xs ys:List Int}{k:Nat}(h:k<xs.length)(b:k<ys.length)(e:xs.getD k 0=ys.getD k 0):cQ (xs.drop k) (ys.drop k)=cQ (xs.drop (k+1)) (ys.drop (k+1)):=by
 rw[pN h,pN b,e,cQ,if_neg aA,if_neg aA]
theorem AR{xs ys:List Int}{k:Nat}(h:k<xs.length)(b:k<ys.length)(e:xs.getD k 0≠ys.getD k 0):cQ (xs.drop k) (ys.drop k)=if xs.getD k 0<ys.getD k 0 then -1 else 1:=by
 rw[pN h,pN b,cQ];split
 ·rfl
 rw[if_pos aA]
theorem Xk{xs ys:List Int}{k:Nat}(h:k=min xs.length ys.length):cQ (xs.drop k) (ys.drop k)=tS xs.length ys.length:=by
 rcases Nat.lt_trichotomy xs.length ys.length with h1 | h1 | h1
 ·obtain rfl:k=xs.length:=aA;have e:tS xs.length ys.length = -1:=if_pos aA;rw[PV,pN h1,e];rfl
 ·obtain rfl:k=xs.length:=aA;have e:tS xs.length ys.length=0:=by unfold tS;rw[if_neg aA,if_neg aA]
  rw[PV,List.drop_of_length_le aA,e];rfl
 obtain rfl:k=ys.length:=aA;have e:tS xs.length ys.length=1:=by unfold tS;rw[if_neg aA,if_pos aA]
 rw[PV,pN h1,e];rfl
theorem Qg(a N:Option Addr)(len cap len' u:Nat)(xs ys:List Int)(w:World)(h:Ints .u64 w a len xs)(A:Ints .u64 w N len' ys) :
  Calls prog 194 #[.slice a len cap,.slice N len' u] w fun e w'=>e=.returned (.int .i64 (cQ xs ys))∧Below w.heap.size w w':=by
 have H:=aI h;have O:=aI A;have z:=aI h.length;have j:=aI A.length;have X:=h.most;have P:=A.most;clear h A;obtain⟨m,G⟩:=aH (min len len');have B:min (len:Int) (len':Int)=(m:Int):=aA;have Y:m≤len:=aA;have Z:m≤len':=aA;have Q:=aI G;clear G;go_enter func194,ntmps194;go_wp2;clear B;go_loopw [11] (fun c wr=>∃k:Nat,k≤m∧c=.int .i64 k∧cQ (xs.drop k) (ys.drop k)=cQ xs ys∧Below w.heap.size w wr) (fun c _=>m-(intOf c).toNat)
 case atStart=>exact⟨0,QI _,rfl,aD,PI _ _⟩
 obtain⟨k,hk,rfl,hs,p⟩:=hrel;have C:=aI hs;clear hs;by_cases hlt:k<m;obtain⟨b,off,rfl,U,n⟩:=(H.below p).cells k aA;obtain⟨b',I,rfl,J,l⟩:=(O.below p).cells k aA;have i0:(0:Int)≤(k:Int):=aA;have i1:(k:Int)<(m:Int):=aA;have i2:(k:Int)<(len:Int):=aA;have i3:(k:Int)<(len':Int):=aA;have r:=aI (fun e=>Ro (xs:=xs) (ys:=ys) (k:=k) (by rw[z.out];omega) (by rw[j.out];omega) e);have s:=aI (fun e=>AR (xs:=xs) (ys:=ys) (k:=k) (by rw[z.out];omega) (by rw[j.out];omega) e);obtain⟨x,L⟩:=aG (xs.getD k 0);obtain⟨y,M⟩:=aG (ys.getD k 0);rw[L]at n r s;rw[M]at l r s;clear L M;by_cases hxy:x=y
 ·subst hxy;have R:((x:Int) != x)=false:=aD;have D:=aI ((r rfl).symm.trans C);clear r s;go_wp2;go_quiet (fail);go_wp2;go_roundw
  case rel=>exact⟨k+1,aA,by go_num,D,aU p _⟩
  simp[intOf];omega
 have R:((x:Int) != y)=true:=by simp[hxy]
 have E:=aI (C.symm.trans (s hxy));clear r s;rcases Int.lt_or_gt_of_ne hxy with hl1 | hl1
 have K:=aI (fun W=>Xi x y hl1 W);have F:=aI (E.trans (if_pos hl1));rotate_left;have K:=aI (fun W=>Lg x y hl1 W);have F:=aI (E.trans (if_neg aA));rotate_left
 ·obtain rfl:k=m:=aA;have S:=aI (C.symm.trans (Xk (by rw[z.out,j.out];exact Q)));have T:¬(k:Int)<(k:Int):=aA;go_wp2_with fail;refine(AO _ _ _).mono ?_;rintro e V ⟨rfl,rfl⟩;go_wp2;go_ret;exact⟨by rw[S.out,z.out,j.out];rfl,p⟩
 all_goals
  clear hxy hl1 E;go_wp2;go_quiet (fail);go_wp2;go_quiet ((refine Calls.mono (K _) ?_;rintro e V ⟨rfl,rfl⟩;first | exact⟨rfl,_,rfl⟩ | exact⟨rfl,_,by simp;rfl⟩ | (refine⟨rfl,?_⟩;simp)))
  go_wp2;go_ret;exact⟨by rw[F.out];rfl,by first | exact aU p _ | exact aU (aU p _) _⟩
end Go.Proofs.YtbkkolfpegplgaaGreatDoor
namespace Go.Proofs.YtbkkolfpegplgaaGreatDoor
open Go Go.RowKit
theorem mX(a E:Option Addr)(len cap b j:Nat)(l r:List EV)(w:World)(h:EntsAt w a len l)(J:EntsAt w E b r)
  (hs:∀p∈l,p.1.hs.length≤4000000000) (B:∀p∈r,p.1.hs.length≤4000000000) (C:len≤4000000000) (n:b≤4000000000)
  (L:(bG (l.map (·.1))).length≤4000000000) (D:(bG (r.map (·.1))).length≤4000000000) :
  Calls prog 139 #[.slice a len cap,.slice E b j] w fun e w'=>e=.returned (.int .i64 (cQ (bG (l.map (·.1))) (bG (r.map (·.1)))))∧Below w.heap.size w w':=by
 have K:=aI (zO a len cap l w h hs C L);have F:=aI (fun W (Q:Below w.heap.size w W)=>zO E b j r W (J.below Q) B n D);generalize bG (l.map (·.1))=xs at K L ⊢;generalize bG (r.map (·.1))=ys at F D ⊢;clear h J hs B;go_enter func139,ntmps139;go_wp2_with fail;refine K.mono ?_;rintro e R ⟨v,rfl,I,s⟩;have G:=aI I;have H:=aI s;clear I s;go_wp2_with fail;refine(F _ H).mono ?_;rintro e w2 ⟨S,rfl,u,m⟩;obtain⟨a1,T,rfl,y,_⟩:=(G.below m).ints aA;obtain⟨a2,U,rfl,z,_⟩:=u.ints aA;have M:=aI (aN H m);have N:=aI y;have O:=aI z;clear y z u m G;go_wp2_with fail;refine(Qg _ _ _ _ _ _ _ _ _ N O).mono ?_;rintro e V ⟨rfl,A⟩;have P:=aI (aN M A);clear A;go_wp2;go_ret;exact⟨rfl,P⟩
end Go.Proofs.YtbkkolfpegplgaaGreatDoor
