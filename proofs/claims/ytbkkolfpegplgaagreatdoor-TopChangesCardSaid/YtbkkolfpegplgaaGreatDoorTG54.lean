import Derived.Test.YtbkkolfpegplgaaGreatDoorTG52
import Derived.Test.YtbkkolfpegplgaaGreatDoorTG55
open And renaming intro→PC
open Exists renaming intro→PD
open Go.Act renaming put→PE
open Go.RowKit.Below renaming refl→PF
open List renaming getElem?_eq_getElem→PG,map_append→PH,setIfInBounds_toArray→PI,getD→PJ,length_cons→PM,set_cons_zero→PN,set_cons_succ→PO,length_append→PQ,getElem_mem→PS,length_map→PT,mem_singleton→PU,map_take→PV,map_drop→PX,flatMap_cons→PY,length_nil→PZ,take_zero→QA,mem_of_mem_drop→QB,mem_map_of_mem→QC,getElem_take→QE,take_length→QF,length_take→QG,length_set→QH
open Nat renaming le_refl→QI,zero_le→QJ,lt_of_lt_of_le→QK,le_trans→QM,mul_le_mul_right→QN
open Option renaming getD_some→QP
open Go.Proofs.Tryz
set_option maxHeartbeats 51200000
set_option maxRecDepth 100000
set_option linter.unusedVariables false
set_option linter.unusedSimpArgs false
namespace Go.Proofs.YtbkkolfpegplgaaGreatDoor
open Go Go.RowKit
structure BigC (l:List FV):Prop where
 can:CanL l
 abs:∀f∈l,(bG f.es).length≤1000000000
 tot:bD l≤399000000
theorem yT{f:FV}(h:(bG f.es).length≤1000000000):f.vec.length≤333333333∧∀p∈f.vec,p.1.hs.length≤500000000:=by
 have h1:=oT f.es;have h2:(bG f.es).length=1+(f.es.flatMap gQ).length:=by unfold bG;simp;omega
 have h3:f.es.length=f.vec.length:=by simp[FV.es]
 refine⟨aA,fun p l=>?_⟩;have j:p.1∈f.es:=QC l;have h4:p.1.hs.length≤lS f.es:=by
  have b:∀(es:List Ent),p.1∈es→p.1.hs.length≤lS es:=by
   intro es;induction es with
   | nil=>intro h;cases h
   | cons e es ih=>
     intro h;have m:lS (e :: es)=e.hs.length+lS es:=by unfold lS;simp
     rcases List.mem_cons.1 h with h | h
     ·rw[h];omega
     have:=ih h;omega
  exact b _ j
 omega
theorem BigC.ok{l:List FV}(h:BigC l):Sa l 1000000000 333333333 500000000:=
 ⟨fun f b=>(h.can.at f b).1,fun f b=>CanV.right (CanW.v (h.can.at f b).2.2.1),fun f b=>by have:=nI b;have:=h.tot;omega,fun f b=>(yT (h.abs f b)).1,fun f b=>(yT (h.abs f b)).2⟩
theorem BigC.at'{l:List FV}(h:BigC l){x:Int}{j:List Ent}(p:CanW j)(s:∀r c,dN j r c↔fH (l.map FV.frag) x r c):(bG j).length≤1000000000:=by
 by_cases g:∃f∈l,aV f.items x
 ·obtain⟨f,b,m⟩:=g;have e:j=f.es:=mV p (h.can.at f b).2.2.1 fun r c=>by
   rw[s];exact CanK.at h.can (f:=f.frag) (bE.2 ⟨f,b,rfl⟩) m r c
  rw[e];exact h.abs f b
 have e:j=[]:=p.eq_nil fun r c y=>by
  obtain⟨f,b,m,_⟩:=(s r c).1 y;obtain⟨u,n,rfl⟩:=bE.1 b;exact g ⟨u,n,m⟩
 rw[e];decide
theorem wR{b:List Ent}(h1:b.length≤12 * 20)(h2:∀e∈b,e.hs.length≤12 * (30+3)):(bG b).length≤1000000:=by
 have h3:=wC (es:=b) (A:=396) (fun e j=>by have:=h2 e j;omega);have h4:b.length * (3+2 * 396)≤240 * (3+2 * 396):=QN _ aA;omega
theorem GoodK.ok12{l:List FV}(h:GoodK l):Sa l 1000000000 20 30∧bD l≤240∧∀x,(aX l x l.length).length≤12:=by
 obtain⟨b,p⟩:=h;have j:∀(m:List FV),(∀f∈m,f.items.length≤20)→bD m≤m.length * 20:=fun m=>by
  induction m with
  | nil=>intro _;exact QI _
  | cons f m ih=>
    intro r;have h1:=r f aD;have h2:=ih (fun g s=>r g (by simp[s]));simp only[bD,PM];omega
 have:=j l b.items;have:=b.len;exact⟨⟨p.cor,p.vec,fun f n=>QM (b.items f n) aB,b.vec,b.hs⟩,aA,fun x=>QM (oC l x _) b.len⟩
def BH (w:World) (K:Int→Int→Int→Prop) (e:Ending) (w':World):Prop:=∃v' l',e=.returned (.tuple #[v',.nilIface])∧KRow w' w.heap.size v' l'∧(∀x r c,fH (l'.map FV.frag) x r c↔K x r c)∧Below w.heap.size w w'
theorem Gv{va vb:Value}{K:Int→Int→Int→Prop}{w:World}(u:∃a n c,va=.slice a n c)(y:∃a n c,vb=.slice a n c)(h:Calls prog 33 #[va,vb,.func (.func 112) #[] #[]] w fun e w'=>BH w K e w') :
  Calls prog 63 #[va,vb] w fun e w'=>BH w K e w':=by
 have m:=aI h;obtain⟨z,A,p,rfl⟩:=u;obtain⟨B,C,r,rfl⟩:=y;clear h;go_enter func63,ntmps63;go_wp2_with fail;refine m.mono ?_;rintro e D ⟨E,s,rfl,j,b⟩;have l:=aI (PC j b);obtain⟨a2,F,rfl,_⟩:=aY j.row;clear j b;go_wp2;go_ret2;exact⟨_,s,rfl,l.1,l.2⟩
theorem Qo{va vb:Value}{j lb:List FV}{w:World}(m:KnwAt w va j)(I:iH va)(n:GoodK j)(p:KnwAt w vb lb)(J:iH vb)(b:BigC lb) :
  Calls prog 63 #[va,vb] w fun e w'=>BH w (Eb uD j lb) e w':=by
 obtain⟨y,O,z⟩:=n.ok12;have r:=b.ok;have K:=b.tot;have s:=Oc b.can;have u:=n.1.len;refine Gv (by obtain⟨a,c,e,_⟩:=m;exact⟨_,_,_,e⟩) (by obtain⟨a,c,e,_⟩:=p;exact⟨_,_,_,e⟩) ?_;refine(Ld _ uD Vx va vb j lb 1000000000 20 30 12 333333333 500000000 1 w m p I J y r (QI _) aA aA z (rQ b.can.apart') aB aB aB aB aB aB (fun x P Q es h1 h2 h3 h4 C D E F R G l H=>?_)).mono ?_
 ·have L:=wR E F;have M:=b.at' h3 h4;have N:=xV C h1 h3 D l;omega
 rintro e w' ⟨A,B,rfl,h⟩;exact⟨A,B,rfl,h.row,h.kn,h.bl⟩
theorem Qn{va vb:Value}{j lb:List FV}{w:World}(n:KnwAt w va j)(H:iH va)(b:BigC j)(p:KnwAt w vb lb)(I:iH vb)(r:GoodK lb) :
  Calls prog 63 #[va,vb] w fun e w'=>BH w (Eb uD j lb) e w':=by
 obtain⟨z,N,A⟩:=r.ok12;have s:=b.ok;have J:=b.tot;have u:=Oc b.can;have y:=r.1.len;refine Gv (by obtain⟨a,c,e,_⟩:=n;exact⟨_,_,_,e⟩) (by obtain⟨a,c,e,_⟩:=p;exact⟨_,_,_,e⟩) ?_;refine(Ld _ uD Vx va vb j lb 1000000000 333333333 500000000 1 20 30 12 w n p H I s z (QI _) aA aA (rQ b.can.apart') A aB aB aB aB aB aB (fun x O P es h1 h2 h3 h4 D E Q R F l m G=>?_)).mono ?_
 ·have K:=wR F l;have L:=b.at' h1 h2;have M:=xV D h1 h3 E m;omega
 rintro e w' ⟨B,C,rfl,h⟩;exact⟨B,C,rfl,h.row,h.kn,h.bl⟩
theorem GoodK.tot{l:List FV}(h:GoodK l):bD l≤240:=by
 have b:∀(m:List FV),(∀f∈m,f.items.length≤20)→bD m≤m.length * 20:=fun m=>by
  induction m with
  | nil=>intro _;exact QI _
  | cons f m ih=>
    intro j;have h1:=j f aD;have h2:=ih (fun g n=>j g (by simp[n]));simp only[bD,PM];omega
 have:=b l h.1.items;have:=h.1.len;omega
theorem Cw(v:Value)(l:List FV)(w:World)(hE:KnwAt w v l)(hG:GoodK l) :
  Calls prog 62 #[v] w fun e w'=>∃v' ps H,e=.returned v'∧KRow w' w.heap.size v' H∧lM l ps∧ps.length≤481∧yW l ps 240 396 ps.length H∧Below w.heap.size w w':=by
 have B9:prog.follows .mixedOrders=true:=aC;have KP:=aI (Qc v l w hE (by have:=hG.1.len;omega) (by have:=hG.tot;omega));have A8:=aI (fun W (U:Below w.heap.size w W) x hx=>Xl v l x W (hE.below U) hG hx);have C0:=aI hG.tot;obtain⟨a,cap,rfl,_⟩:=hE;obtain⟨len,A0⟩:=aG l.length;rw[A0]at KP A8 ⊢;clear hG A0;go_enter func62,ntmps62;go_wp2_with fail;refine KP.mono ?_;rintro e w1 ⟨vp,ps,rfl,B2,B3,C4,B4⟩;obtain⟨ap,cp,rfl,B5,_,_⟩:=B2.prs;have B1:=aI B4;have PK:=aI B3;have PL:=aI (show ps.length≤481 from by have:=C0.out;omega);have HP:=aI B5;obtain⟨n,en⟩:=aG ps.length;have EN:=aI en;rw[en]at HP PL ⊢;have C5:n≤481:=PL.out;clear B2 B3 C4 B5 B4 en;go_wp2;go_loopw [4,5] (fun o c wr=>∃(k:Nat) (H:List FV),k≤n∧c=.int .i64 k∧KRow wr w1.heap.size o H∧yW l ps 240 396 k H∧Below w1.heap.size w1 wr) (fun _ c _=>n-(intOf c).toNat)
 case atStart=>exact⟨0,[],QJ _,rfl,KRow.nil _ _,⟨PartK.zero _ _,VecB.nil _ _⟩,PF _ _⟩
 obtain⟨k,H,hk,rfl,hR,hP,U⟩:=hrel;have HR:=aI hR;have Q:=aI hP;have HB:=aI U;have C6:(0:Int)≤(k:Int):=aA;clear hP;by_cases hlt:k<n;have i1:(k:Int)<(n:Int):=aA;obtain⟨b,off,rfl,A4,B6,B7⟩:=HP.cells k hlt;have hw:=HP.word hlt;have c0:=aM U A4 B6;have c1:=aM U A4 B7;obtain⟨lo,A5⟩:=aG (Lo ps k);obtain⟨hi,A6⟩:=aG (Hi ps k);have A9:=aI A5;have C1:=aI A6;rw[A5]at c0 hw;rw[A6]at c1 hw;have WD:=aI hw;obtain⟨ao,co,rfl,_⟩:=aY hR.row;obtain⟨m,em⟩:=aG H.length;have EM:=aI em;rw[em]at HR ⊢;have nq:¬(Value.slice ao m co).ownBlock=some b:=fun e=>by have:=(HR.row.lt _ e).1;omega
 have KA:=aI (fun W (hW:Below wr.heap.size wr W)=>A8 W (B1.trans ((U.trans (hW.mono U.size)).mono B1.size)) lo hw.1);clear A5 A6 hw hR em B6 B7 U A4;go_wp2_with fail;refine wp_region_held_drew (S:=Only (fun q=>(Value.slice ao m co).ownBlock=some q) wr) B9 (Only.refl _ _).drew (fun hS=>?_);obtain⟨wd,A7⟩:=aG wr.drew;have R:Below wr.heap.size wr wd:=by rw[← A7];exact aS (PF _ _)
 rw[A7]at hS ⊢;clear A7;refine aP 0 14 (.slice ao m co) ?_;refine aP 1 15 (.slice (some ⟨b,off,none⟩) n cp) ?_;refine aP 2 16 (.int .i64 (k:Int)) ?_;refine aP 3 17 (.pointer (some ⟨b,off+k * 2,none⟩)) ?_;refine dL 4 18 (.agg #[.int .u64 lo,.int .u64 hi]) ?_ ?_
 ·intro X hX;have x0:=hX.cell nq c0;have x1:=hX.cell nq c1;go_simp
 refine aP 6 20 (.slice a len cap) ?_;refine aP 7 21 (.slice (some ⟨b,off,none⟩) n cp) ?_;refine aP 8 22 (.int .i64 (k:Int)) ?_;refine aP 9 23 (.pointer (some ⟨b,off+k * 2,none⟩)) ?_;refine aP 10 24 (.pointer (some ⟨b,off+k * 2,none⟩)) ?_;refine dL 11 25 (.int .u64 lo) ?_ ?_
 ·intro X hX;have x0:=hX.cell nq c0;have x1:=hX.cell nq c1;go_simp
 have Y:=hS;refine Se 5 12 (fun K s=>?_) fun K s=>?_;go_simp;obtain⟨wa,j⟩:=aG (wd.alloc (.cells #[.int .u64 lo,.int .u64 hi] 123));have T:wa.heap[wd.heap.size]?=some (.cells #[.int .u64 lo,.int .u64 hi] 123 (0,0)):=by rw[← j];exact aK _ _ rfl
 have I:Below wr.heap.size wr wa:=by rw[← j];exact aJ R _
 have z:=Y.alloc (.cells #[.int .u64 lo,.int .u64 hi] 123);rw[j]at z;rw[j];refine s _ _ z (fun _=>?_);clear s K j;obtain⟨A,eA⟩:=aG wd.heap.size;rw[eA]at T ⊢;clear eA;have J:=z;refine cW 12 fun K s=>?_;go_simp;refine(KA wa I).mono ?_;rintro e w7 ⟨vv,C,rfl,hF,hH,hC,N,hl,hh,y⟩;have u:=J.call y;have A2:Below wr.heap.size wr w7:=I.trans (y.mono I.size);have T:=(y.block _ (aO T)).trans T;obtain⟨F,G,rfl,_⟩:=hF.vecAt;have L:=aI (PC hC (PC N (PC hl hh)));have B:=aI (hF.base (QJ _));obtain⟨nv,O⟩:=aG C.length;rw[O]at B ⊢;clear hF hH hC N hl hh O y;go_simp;refine s _ _ u (fun _=>?_);clear s K;refine aP 13 27 (.agg #[.slice (some ⟨A,0,none⟩) 1 1,.slice F nv G]) ?_;refine cW 14 fun K s=>?_;go_simp;obtain⟨wf,p⟩:=aG (w7.alloc (.cells #[.slice (some ⟨A,0,none⟩) 1 1,.slice F nv G] 80));have qF:wf.heap[w7.heap.size]?=some (.cells #[.slice (some ⟨A,0,none⟩) 1 1,.slice F nv G] 80 (0,0)):=by rw[← p];exact aK _ _ rfl
 have D:Below wr.heap.size wr wf:=by rw[← p];exact aJ A2 _
 have E:=u.alloc (.cells #[.slice (some ⟨A,0,none⟩) 1 1,.slice F nv G] 80);rw[p]at E;have g8:=aI (show FragT wf ⟨[(lo,hi)],.slice (some ⟨A,0,none⟩) 1 1,C,.slice F nv G⟩from by rw[← p];exact FragT.below (w:=w7) ⟨lI WD.1 WD.2 T,B⟩ (aJ (PF _ _) _));rotate_left;go_simp;refine(KA wd R).mono ?_;rintro e w7 ⟨vv,C,rfl,hF,hH,hC,N,hl,hh,y⟩;have u:=Y.call y;have A2:Below wr.heap.size wr w7:=R.trans (y.mono R.size);obtain⟨F,G,rfl,_⟩:=hF.vecAt;have L:=aI (PC hC (PC N (PC hl hh)));have B:=aI (hF.base (QJ _));obtain⟨nv,O⟩:=aG C.length;rw[O]at B ⊢;clear hF hH hC N hl hh O y;go_simp;refine s _ _ u (fun _=>?_);clear s K;refine cW 5 fun K s=>?_;go_simp;obtain⟨wa,j⟩:=aG (w7.alloc (.cells #[.int .u64 lo,.int .u64 hi] 123));have T:wa.heap[w7.heap.size]?=some (.cells #[.int .u64 lo,.int .u64 hi] 123 (0,0)):=by rw[← j];exact aK _ _ rfl
 have I:Below wr.heap.size wr wa:=by rw[← j];exact aJ A2 _
 have z:=u.alloc (.cells #[.int .u64 lo,.int .u64 hi] 123);rw[j]at z;have B:=aI (B.only (may:=fun _=>False) (Only.of_below (show Below w7.heap.size w7 wa from by rw[← j];exact aJ (PF _ _) _)) (fun _ h=>h.elim));rw[j];refine s _ _ z (fun _=>?_);clear s K j;obtain⟨A,eA⟩:=aG w7.heap.size;rw[eA]at T ⊢;clear eA;have J:=z;refine aP 13 27 (.agg #[.slice (some ⟨A,0,none⟩) 1 1,.slice F nv G]) ?_;refine cW 14 fun K s=>?_;go_simp;obtain⟨wf,p⟩:=aG (wa.alloc (.cells #[.slice (some ⟨A,0,none⟩) 1 1,.slice F nv G] 80));have qF:wf.heap[wa.heap.size]?=some (.cells #[.slice (some ⟨A,0,none⟩) 1 1,.slice F nv G] 80 (0,0)):=by rw[← p];exact aK _ _ rfl
 have D:Below wr.heap.size wr wf:=by rw[← p];exact aJ I _
 have E:=J.alloc (.cells #[.slice (some ⟨A,0,none⟩) 1 1,.slice F nv G] 80);rw[p]at E;have g8:=aI (show FragT wf ⟨[(lo,hi)],.slice (some ⟨A,0,none⟩) 1 1,C,.slice F nv G⟩from by rw[← p];exact FragT.below (w:=wa) ⟨lI WD.1 WD.2 T,B⟩ (aJ (PF _ _) _));rotate_left
 ·obtain rfl:n=k:=aA;have RE:=aI (HR.base B1.size);have BE:=aI (B1.trans (HB.mono B1.size));clear hR U;go_wp2;go_ret;have A3:∃v' V B8,(.returned u4:Ending)=.returned v'∧KRow wr w.heap.size v' B8∧lM l V∧V.length≤481∧yW l V 240 396 V.length B8∧Below w.heap.size w wr:=⟨u4,ps,H,rfl,RE,PK,by rw[EN.out];exact PL,by rw[EN.out];exact Q,BE⟩;first | exact A3 | (obtain⟨v1,p1,l1,h1,h2⟩:=A3;exact⟨v1,h1,p1,l1,h2⟩) | (obtain⟨v1,p1,l1,h1,h2⟩:=A3;exact⟨v1,p1,h1,l1,h2⟩)
 all_goals
  rw[p];refine s _ _ E (fun _=>?_);clear s K p;refine cW 15 fun K s=>?_;obtain⟨v',w10,hr,A1,P⟩:=KRow.app (g:=⟨[(lo,hi)],.slice (some ⟨A,0,none⟩) 1 1,C,.slice F nv G⟩) (HR.below D) g8 qF (by have h1:=Q.part.len;omega) (QM HB.size D.size) 23;have Z:=E.trans P;have B0:=aI A1;have C2:=aI ((HB.trans (D.mono HB.size)).trans (P.below (n:=w1.heap.size) (QM HB.size D.size) (fun q hq=>(HR.row.lt q hq).1)));clear A1 P;refine sS _ _ rfl rfl rfl hr ?_;simp only[PE,PI,PN,PO];refine s _ _ Z (fun _=>?_);clear s K hr;refine aP 16 4 (v') ?_;refine iM ?_;have C3:=aI (show yW l ps 240 396 (k+1) (H ++ [⟨[(lo,hi)],.slice (some ⟨A,0,none⟩) 1 1,C,.slice F nv G⟩])from⟨Q.part.snoc (by show [(lo,hi)]=_;rw[A9.out,C1.out]) (fun r c=>by rw[A9.out];exact L.2.1 r c),Q.bnd.snoc L.1 L.2.2.1 L.2.2.2⟩);clear hS E Z T qF D;go_wp2;go_roundw
  case rel=>
   have M:∃(k':Nat) (H:List FV),k'≤n∧(.int .i64 ((k:Int)+1):Value)=.int .i64 k'∧KRow w10 w1.heap.size v' H∧yW l ps 240 396 k' H∧Below w1.heap.size w1 w10:=⟨k+1,_,aA,aD,B0,C3,C2⟩;first | exact M | ((repeat apply PD);exact⟨M,rfl⟩)
  simp[intOf];omega
theorem Ip(v:Value)(l:List FV)(w:World)(K:KnwAt w v l)(Z:GoodK l) :
  Calls prog 20 #[v] w fun e w'=>∃O c,e=.returned O∧KRow w' w.heap.size O c∧SmallC c∧(∀x r k,fH (c.map FV.frag) x r k↔fH (l.map FV.frag) x r k)∧Below w.heap.size w w':=by
 have P:=aI (Cw v l w K Z);have Q:=aI (pI K);clear K;go_enter func20,ntmps20;go_wp2_with fail;refine P.mono ?_;rintro e W ⟨X,ps,H,rfl,E,I,z,n,A⟩;have j:=n.part.grp I E n.bnd aB aB;have s:=n.part.len;have u:bD H≤ps.length:=by
  have:=wL (m:=H) (fun f J=>by
   obtain⟨i,_,_,e⟩:=n.part.it J;rw[e];simp)
  omega
 have R:=aI (Hv X H W E.know j n.bnd aA aA);have L:=aI A;have HG:=aI j;have S:=aI I;have T:=aI n;have F:=aI (PC z (PC s u));obtain⟨a1,c1,rfl,_⟩:=aY E.row;clear j I n z s u A E;go_wp2_with fail;refine R.mono ?_;rintro e w2 ⟨v2,N,rfl,p,B,C,D⟩;have M:=aI (p.base L.size);have U:=aI (aN L D);have b:=aI B;have G:=aI C;obtain⟨a2,c2,rfl,_⟩:=aY p.row;clear B p D C;go_wp2;go_ret;obtain⟨p1,p2,p3⟩:=F.out;have V:=b.tot;have q2:=b.len;rw[QF]at V;have kn:∀x r k,fH (N.map FV.frag) x r k↔fH (l.map FV.frag) x r k:=fun x r k=>by
  rw[b.kn,QF];exact T.part.know S (fun x y h=>sC h) (fun x h=>⟨by
   obtain⟨f,J,h1,_⟩:=h;obtain⟨g,Y,rfl⟩:=bE.1 J;exact Q g Y x h1,Dh h⟩) x
 exact⟨_,N,rfl,M,⟨b.can,G.mono aB aB,aA,aA,Kp M.know⟩,kn,U⟩
theorem Ih(l:List Iv)(k:Nat):bB (l.take k)=(bB l).take (k * 2):=by
 induction l generalizing k with
 | nil=>simp[bB]
 | cons f l ih=>
   cases k with
   | zero=>simp[bB]
   | succ k=>
     have:=ih k;simp only[bB,List.take_succ_cons,PY]at this ⊢;rw[this,show(k+1) * 2=k * 2+1+1 by omega];rfl
theorem Ij(l:List Iv)(k:Nat):bB (l.drop k)=(bB l).drop (k * 2):=by
 induction l generalizing k with
 | nil=>simp[bB]
 | cons f l ih=>
   cases k with
   | zero=>simp[bB]
   | succ k=>
     have:=ih k;simp only[bB,List.drop_succ_cons,PY]at this ⊢;rw[this,show(k+1) * 2=k * 2+1+1 by omega];rfl
theorem Gh{W:World}{b base n k:Nat}{v:Value}{zs:List Iv}{z:Iv}(h:W.ownsRow b 123 2 v (n+1) ((bB zs).take (k * 2) ++ [.int .u64 z.1,.int .u64 z.2] ++ (bB zs).drop (k * 2)))(m:base≤b)(en:zs.length=n)(r:k≤n)(l:∀y∈zs,aL y.1∧aL y.2)(p:aL z.1∧aL z.2):OwnL W base 123 v (zs.take k ++ [z] ++ zs.drop k):=by
 refine⟨?_,fun y j=>?_⟩
 ·have:=bC h m;rw[show(zs.take k ++ [z] ++ zs.drop k).length=n+1 by simp;omega,dF,dF,Ih,Ij];exact this
 rcases List.mem_append.1 j with j | j
 ·rcases List.mem_append.1 j with j | j
  ·exact l y (List.mem_of_mem_take j)
  rw[PU]at j;subst j;exact p
 exact l y (QB j)
theorem Gi{W:World}{b base n k:Nat}{v:Value}{s:List Nat}{i:Nat}(h:W.ownsRow b 3 1 v (n+1) ((iW s).take (k * 1) ++ [.int .i64 (i:Int)] ++ (iW s).drop (k * 1)))(j:base≤b)(en:s.length=n)(l:k≤n):OwnJ W base v (s.take k ++ [i] ++ s.drop k):=by
 have:=bC h j;rw[Nat.mul_one]at this;unfold OwnJ;rw[show(s.take k ++ [i] ++ s.drop k).length=n+1 by simp;omega];unfold iW at this ⊢;rw[PH,PH,PV,PX];exact this
theorem Au(s:List Nat):∀u∈iW s,u.oneCell'=true:=by
 intro u b;unfold iW at b;obtain⟨i,_,rfl⟩:=List.mem_map.1 b;rfl
theorem rO:Rz 86 1:=⟨aC,fun W=>aC⟩
structure SegI (c:List FV) (k j:Nat) (ps:List Sg):Prop where
 asc:ps.Pairwise (fun a b=>a.1.1<b.1.1)
 mem:∀z i,(z,i)∈ps↔(i<k∧z∈(c.getD i FV.z).items)∨(i=k∧z∈(c.getD k FV.z).items.take j)
 len:ps.length=bD (c.take k)+j
theorem SegI.zero(c:List FV):SegI c 0 0 []:=⟨List.Pairwise.nil,fun z i=>⟨fun h=>(by cases h),fun h=>h.elim (fun h=>absurd h.1 aA) (fun h=>(by have:=h.2;rw[QA]at this;cases this))⟩,by simp[bD]⟩
theorem SegI.next{c:List FV}{k j:Nat}{ps:List Sg}(h:SegI c k j ps)(l:k<c.length)(m:(c.getD k FV.z).items.length=j):SegI c (k+1) 0 ps:=by
 refine⟨h.asc,fun z i=>?_,by rw[jP l,h.len];omega⟩;rw[h.mem,List.take_of_length_le aA,QA];constructor
 ·rintro(⟨a,b⟩ | ⟨a,b⟩)
  ·exact .inl ⟨aA,b⟩
  subst a;exact .inl ⟨aA,b⟩
 rintro(⟨a,b⟩ | ⟨_,b⟩)
 ·by_cases e:i=k
  ·subst e;exact .inr ⟨rfl,b⟩
  exact .inl ⟨aA,b⟩
 cases b
theorem SegI.step{c:List FV}(J:CanL c){k j:Nat}{ps:List Sg}(h:SegI c k j ps)(A:k<c.length){z:Iv}(B:j<(c.getD k FV.z).items.length)(L:(Lo (c.getD k FV.z).items j,Hi (c.getD k FV.z).items j)=z){a:Nat}(Q:a≤ps.length)(lo:∀i,i<a→((ps.map (·.1)).getD i (0,0)).1<z.1)(hi:a<ps.length→¬((ps.map (·.1)).getD a (0,0)).1<z.1):SegI c k (j+1) (ps.take a ++ [(z,k)] ++ ps.drop a):=by
 have u:(c.getD k FV.z).items[j]=z:=(cJ _ j B).trans L;have C:c.getD k FV.z∈c:=by rw[PJ,PG A,QP];exact PS A
 have n:=(J.at _ C).1;have r:z∈(c.getD k FV.z).items:=by rw[← u];exact PS B
 have D:=Du n r;have m:∀i (hi:i<ps.length),(ps.map (·.1)).getD i (0,0)=(ps[i]).1:=fun i hi=>by simp[PJ,PG hi]
 have ne:∀p∈ps,p.1.1≠z.1:=fun p l e=>by
  obtain⟨y,i⟩:=p;simp only at e;rcases(h.mem y i).1 l with⟨hik,hy⟩ | ⟨hik,hy⟩
  ·have E:c.getD i FV.z∈c:=by rw[PJ,PG aA,QP];exact PS _
   have M:=Du (J.at _ E).1 hy;have F:=List.pairwise_iff_getElem.1 J.apart' i k aA A hik z.1;have G:c.getD i FV.z=c[i]:=by simp[PJ,PG (show i<c.length by omega)]
   have H:c.getD k FV.z=c[k]:=by simp[PJ,PG A]
   rw[G]at hy;rw[H]at r;exact F ⟨⟨y,hy,aA,aA⟩,⟨z,r,aA,D⟩⟩
  obtain⟨q,P,K⟩:=List.mem_iff_getElem.1 hy;rw[QG]at P;rw[QE]at K;have h1:=cG n (show q<j by omega) B;have h2:=(n q aA).1;have h3:Lo (c.getD k FV.z).items q=y.1:=by have I:=cJ (c.getD k FV.z).items q aA;rw[K]at I;rw[I]
  have h4:Lo (c.getD k FV.z).items j=z.1:=by rw[← L]
  omega
 have h1:∀p∈ps.take a,p.1.1<z.1:=fun p l=>by
  obtain⟨i,s,e⟩:=List.mem_iff_getElem.1 l;rw[QG]at s;rw[QE]at e;have:=lo i aA;rw[m i aA,e]at this;exact this
 have h2:∀p∈ps.drop a,z.1<p.1.1:=fun p l=>by
  obtain⟨i,s,e⟩:=List.mem_iff_getElem.1 l;rw[List.length_drop]at s;rw[List.getElem_drop]at e;have h3:=hi aA;rw[m a aA]at h3;have h4:=ne p (QB l);have I:(ps[a]).1.1≤p.1.1:=by
   by_cases e0:i=0
   ·subst e0;have N:(ps[a]' aA).1.1=p.1.1:=by have:=congrArg (fun q:Sg=>q.1.1) e;simpa using this
    exact Int.le_of_eq N
   have:=List.pairwise_iff_getElem.1 h.asc a (a+i) aA aA aA;rw[e]at this;omega
  omega
 refine⟨xO h.asc (fun p l=>h1 p l) (fun p l=>h2 p l),fun y i=>?_,by simp;have:=h.len;omega⟩;have O:(y,i)∈ps.take a ++ [(z,k)] ++ ps.drop a↔(y,i)=(z,k)∨(y,i)∈ps:=yE (S:=ps) (a:=a) (x:=(z,k));rw[O,h.mem,List.take_succ_eq_append_getElem B,u,List.mem_append,PU];constructor
 ·rintro(e | h | ⟨a,b⟩)
  ·injection e with G H;exact .inr ⟨H,.inr G⟩
  ·exact .inl h
  exact .inr ⟨a,.inl b⟩
 rintro(h | ⟨a,b | b⟩)
 ·exact .inr (.inl h)
 ·exact .inr (.inr ⟨a,b⟩)
 exact .inl (by rw[a,b])
theorem SegI.all{c:List FV}(j:CanL c){ps:List Sg}(h:SegI c c.length 0 ps):ps=fY c:=by
 have l:∀f∈c,cL f.items:=fun f m=>(j.at f m).1;have h1:=oX (mP l j.apart');refine fJ (lt:=fun a b:Sg=>a.1.1<b.1.1) (fun a=>aA) (fun {a b c} h1 h2=>aA) h.asc ?_ fun p=>?_
 ·unfold fY;exact List.pairwise_map.2 h1
 obtain⟨z,i⟩:=p;rw[jZ j,h.mem];constructor
 ·rintro(⟨a,b⟩ | ⟨_,b⟩)
  ·refine⟨a,?_⟩;rwa [PJ,PG a,QP]at b
  rw[QA]at b;cases b
 rintro⟨a,b⟩;refine .inl ⟨a,?_⟩;rwa [PJ,PG a,QP]
theorem Tr(c:List FV):(fY c).map (·.1)=aZ c:=by unfold fY;simp[Function.comp_def]
theorem Tq(c:List FV):(fY c).map (·.2)=gU c:=by unfold fY gU;simp[Function.comp_def]
theorem Jk(v:Value)(c:List FV)(w:World)(hE:KnwAt w v c)(E:SmallC c) :
  Calls prog 106 #[v] w fun e w'=>∃vl vi,e=.returned (.tuple #[vl,vi])∧OwnL w' w.heap.size 123 vl (aZ c)∧OwnJ w' w.heap.size vi (gU c)∧Below w.heap.size w w':=by
 have B2:prog.follows .mixedOrders=true:=aC;obtain⟨a,cap,rfl,hK,_⟩:=hE;have H:=aI hK;have HC:=aI E.can;have HT:=aI E.tot;have E9:=aI E.words;have C7:=aI (fun ps h=>SegI.all E.can (ps:=ps) h);obtain⟨len,A7⟩:=aG c.length;have EL:=aI A7;have E5:len≤481:=by have:=E.len;omega
 rw[A7]at H C7 ⊢;clear hK A7 E;go_enter func106,ntmps106;go_wp2;go_loopw [4,5,6] (fun o x cc wr=>∃(k:Nat) (ps:List Sg),k≤len∧cc=.int .i64 k∧OwnL wr w.heap.size 123 o (ps.map (·.1))∧OwnJ wr w.heap.size x (ps.map (·.2))∧SegI c k 0 ps∧Below w.heap.size w wr) (fun _ _ cc _=>len-(intOf cc).toNat)
 case atStart=>exact⟨0,[],QJ _,rfl,⟨World.ownsRow_nil _ _ _ _,aD⟩,OwnJ.nil _ _,SegI.zero c,PF _ _⟩
 obtain⟨k,ps,hk,rfl,hO,O,hP,hb⟩:=hrel;have HO:=aI hO;have HX:=aI O;have HP:=aI hP;have HB:=aI hb;have F0:(0:Int)≤(k:Int):=aA;clear hO O hP;by_cases hlt:k<len
 ·have i1:(k:Int)<(len:Int):=aA;have B3:k<c.length:=by rw[EL.out];exact hlt
  obtain⟨b,off,rfl,D6,A8,_⟩:=H.cells k hlt;have B7:=H.mem hlt;have C8:=(H.frags _ B7).items;have A3:=aI (show bD (c.take k)+(c.getD k FV.z).items.length≤481 from by
   have h1:=jP B3;have h2:=oW c (k+1);have h3:=HT.out;omega)
  have A0:=aI (fun ps j h e=>SegI.next (c:=c) (k:=k) (j:=j) (ps:=ps) h B3 e);have F:=aI (fun ps j h z hj hz a ha lo hi=>SegI.step HC.out (k:=k) (j:=j) (ps:=ps) h B3 (z:=z) hj hz (a:=a) ha lo hi);obtain⟨p0,ep⟩:=aG (c.getD k FV.z);rw[ep]at A8 C8 A3 A0 F;obtain⟨items,iv,vec,vv⟩:=p0;obtain⟨ai,ci,ei,C0,E0⟩:=C8;simp only at A8 ei C0 A3 A0 F;subst ei;have PR:=aI (fun W (hW:Below w.heap.size w W)=>C0.below hW);obtain⟨ni,C1⟩:=aG items.length;have F1:=aI C1;rw[C1]at A8 PR A3 A0 F;have E6:ni≤481:=by have:=A3.out;omega
  have CK:=aI (PC D6 A8);have TL:=aI HP.len;obtain⟨F2,C2⟩:=aH u4;obtain⟨F3,C3⟩:=aH u5;obtain⟨wk,E1⟩:=aH wr;subst C2;subst C3;subst E1;have C9:=aI HO.out;have D0:=aI HX.out;have D1:=aI HP.out;have D2:=aI HB.out;clear ep B7 C0 C1 hb B3 D6 A8 HO HX HP HB E0;go_wp2;go_loopw [4,5,7] (fun o x cc wr=>∃(j:Nat) (ps:List Sg),j≤ni∧cc=.int .i64 j∧OwnL wr w.heap.size 123 o (ps.map (·.1))∧OwnJ wr w.heap.size x (ps.map (·.2))∧SegI c k j ps∧Below w.heap.size w wr) (fun _ _ cc _=>ni-(intOf cc).toNat)
  case atStart=>exact⟨0,ps,QJ _,rfl,C9.out,D0.out,D1.out,D2.out⟩
  obtain⟨j,ps,hj,rfl,hO,O,hP,hb⟩:=hrel;have HO:=aI hO;have HX:=aI O;have HP:=aI hP;have HB:=aI hb;have j0:(0:Int)≤(j:Int):=aA;have c1:=aM hb CK.1 CK.2;clear hO O hP C9 D0 D1 D2;by_cases hjn:j<ni
  ·have j1:(j:Int)<(ni:Int):=aA;obtain⟨gi,oi,rfl,E2,z1,z2⟩:=(PR.out w (PF _ _)).cells j hjn;have B4:=(PR.out w (PF _ _)).word hjn;have G:=aI (fun z hz a ha lo hi=>F.out ps j HP.out z hjn hz a ha lo hi);obtain⟨zl,D7⟩:=aG (Lo items j);obtain⟨zh,D8⟩:=aG (Hi items j);rw[D7]at z1 B4 G;rw[D8]at z2 B4 G;have WZ:=aI B4;have CZ:=aI (PC E2 (PC z1 z2));obtain⟨p,ep⟩:=aG ps.length;have EP:=aI ep;have B5:=aI (show(ps.map (·.1)).length=p from by rw[PT];exact ep);have A1:=aI (show(ps.map (·.2)).length=p from by rw[PT];exact ep);have pl:p≤481:=by have:=HP.len;have:=A3.out;omega
   obtain⟨al,I,e1,C4,C5,_⟩:=HO.prs;obtain⟨ax,cx,e2,_⟩:=aY HX.out;rw[B5.out]at e1 C4 C5;rw[A1.out]at e2;have D3:=aI C5;have D4:=aI (show p≤cx from by
    rcases fF HX.out with⟨q1,q2,_⟩ | ⟨g,cp,q1,_,_,q3,_,_⟩
    ·rw[A1.out]at q2;omega
    rw[A1.out]at q1 q3;rw[e2]at q1;injection q1 with q4 q5 q6;omega)
   have D5:=aI HO.words;have LP:=aI (fun W (hW:Below wr.heap.size wr W)=>C4.below hW);have A4:=aI (fun W (hW:Below wr.heap.size wr W)=>bJ HO.row hW);have J:=aI (fun W (hW:Below wr.heap.size wr W)=>bJ (show wr.ownsRow w.heap.size 3 1 u5 (ps.map (·.2)).length (iW (ps.map (·.2)))from HX.out) hW);rw[B5.out]at A4;rw[A1.out]at J;obtain⟨E7,C2⟩:=aH u4;obtain⟨E8,C3⟩:=aH u5;obtain⟨wl,E3⟩:=aH wr;subst C2;subst C3;subst E3;subst e1;subst e2;have A:=aI HB.out;clear D7 D8 B4 ep C4 C5 hb HO HX HP HB z1 z2;go_wp2;go_loopw [8] (fun cc wr=>∃q:Nat,q≤p∧cc=.int .i64 q∧(∀i,i<q→((ps.map (·.1)).getD i (0,0)).1<zl)∧Below wl.heap.size wl wr) (fun cc _=>p-(intOf cc).toNat)
   case atStart=>exact⟨0,QJ _,rfl,fun i hi=>absurd hi aA,PF _ _⟩
   obtain⟨q,hq,rfl,D9,P⟩:=hrel;have LO:=aI D9;have A2:=aI P;have q0:(0:Int)≤(q:Int):=aA;have y0:=aM (A.trans (P.mono A.size)) CK.1 CK.2;have y1:=aM (A.trans (P.mono A.size)) CZ.1 CZ.2.1;clear D9;by_cases hqp:q<p
   ·have q1:(q:Int)<(p:Int):=aA;have qd:decide ((q:Int)<(p:Int))=true:=decide_eq_true q1;have B6:decide (q<p)=true:=decide_eq_true hqp;obtain⟨gl,ol,rfl,E4,x0,_⟩:=(LP.out wr P).cells q hqp;have XE:=aI (show Lo (ps.map (·.1)) q=((ps.map (·.1)).getD q (0,0)).1 from rfl);obtain⟨x,ex⟩:=aG (Lo (ps.map (·.1)) q);rw[ex]at x0 XE;clear ex E4;by_cases hxz:x<zl
    ·have d3:decide (x<zl)=true:=decide_eq_true hxz;have L2:=aI (show ∀i,i<q+1→((ps.map (·.1)).getD i (0,0)).1<zl from fun i hi=>by
      by_cases e:i<q
      ·exact LO.out i e
      obtain rfl:i=q:=aA;rw[← XE.out];exact hxz)
     clear P hxz;go_wp2_with fail;go_quiet (fail);obtain⟨wq,D⟩:=aG (wr.drewN nq:World);have s:=aI (show Below wl.heap.size wl wq from A2.trans (by rw[← D];exact(aU (PF wr.heap.size wr) nq).mono A2.size));rw[D];clear D y0 y1 x0 d3 qd B6;go_wp2;go_roundw
     case rel=>exact⟨q+1,aA,by go_num,L2.out,s.out⟩
     simp[intOf];omega
    have d3:decide (x<zl)=false:=decide_eq_false hxz;have A5:=aI (G.out (zl,zh) rfl q (by rw[EP.out];exact hq) LO.out (fun _=>by have h1:=XE.out;have h2:=hxz;omega));clear P hxz;go_wp2_with fail;go_quiet (fail);obtain⟨wq,D⟩:=aG (wr.drewN nq:World);have s:=aI (show Below wl.heap.size wl wq from A2.trans (by rw[← D];exact(aU (PF wr.heap.size wr) nq).mono A2.size));rw[D];clear D y0 y1 x0 d3 qd B6;have m:=aI (A.trans (s.mono A.size));have K:=aI (A4.out wq s.out);have A6:=aI (J.out wq s.out);have L:=aI (PC (QK CK.1 m.size) (PC (aM m.out CK.1 CK.2) (PC (QK CZ.1 m.size) (PC (aM m.out CZ.1 CZ.2.1) (aM m.out CZ.1 CZ.2.2)))));go_upto_region 12 with fail;go_cut [4] from 15 to 78 (fun o wx=>∃vl,vl=o∧OwnL wx w.heap.size 123 vl ((ps.take q ++ [((zl,zh),k)] ++ ps.drop q).map (·.1))∧Below wl.heap.size wl wx)
    case first=>
     obtain⟨pa,Q⟩:=aG (if I=q then(some (⟨gl,ol,none⟩:Addr))else(some (⟨gl,ol,none⟩:Addr)).map (·.add (q * 2)));have TR:=aI (jG pE (cp:=I) Q (B:=wq) (base:=w.heap.size) (n:=p) (xs:=bB (ps.map (·.1))) K.out (show q≤p by omega) (kK _) (cx:=[.int .u64 zl,.int .u64 zh]) (kZ zl zh) rfl aA);have B8:=fun W=>lU rN (some (⟨gl,ol,none⟩:Addr)) p I q (show q≤I by have:=D3.out;omega) W;have C:=fun W=>jK rN (some (⟨gl,ol,none⟩:Addr)) p I q (show q≤p by omega) W;rw[Q]at C;obtain⟨m1,R⟩:=aG (p-q);obtain⟨m2,T⟩:=aG (I-q);rw[R,T]at C;have M:=aI R;have N:=aI T;clear Q R T;go_wp2_with fail;refine wp_region_held_drew (S:=Below wq.heap.size wq) B2 (aS (PF _ _)) (fun E=>?_);obtain⟨wd,A9⟩:=aG wq.drew;rw[A9]at E ⊢;clear A9;refine aP 1 49 (.slice (some (⟨gl,ol,none⟩:Addr)) p I) ?_;refine aP 2 50 (.int .i64 (q:Int)) ?_;refine aP 3 51 (.slice (some (⟨gl,ol,none⟩:Addr)) q I) ?_;refine aP 5 53 (.slice (some ⟨b,off,none⟩) len cap) ?_;refine aP 6 54 (.int .i64 (k:Int)) ?_;refine aP 7 55 (.pointer (some ⟨b,off+k * 2,none⟩)) ?_;refine aP 8 56 (.pointer (some ⟨b,off+k * 2,none⟩)) ?_;refine dL 9 57 (.slice (some ⟨gi,oi,none⟩) ni ci) ?_ ?_
     ·intro X O;have b0:=aM O L.1 L.2.1;go_simp
     refine aP 10 58 (.int .i64 (j:Int)) ?_;refine aP 11 59 (.pointer (some ⟨gi,oi+j * 2,none⟩)) ?_;refine dL 12 60 (.agg #[.int .u64 zl,.int .u64 zh]) ?_ ?_
     ·intro X O;have b0:=aM O L.2.2.1 L.2.2.2.1;have b1:=aM O L.2.2.1 L.2.2.2.2;go_simp
     refine aP 15 63 (.slice (some (⟨gl,ol,none⟩:Addr)) p I) ?_;refine aP 16 64 (.int .i64 (q:Int)) ?_;refine aP 17 65 (.slice pa m1 m2) ?_;refine uC TR.out M.out N.out 0 4 13 14 18 48 52 61 62 66 51 60 65 (fun v1 v2 v3 v4 v9 w9 l y=>?_) E rfl rfl rfl;simp only[PE,PI,PN,PO];refine aP 19 4 (v9) ?_;refine iM ?_;have LI:=aI (Gh (z:=(zl,zh)) l (QI _) B5.out (show q≤p by omega) D5.out WZ.out);have L9:=aI (show OwnL w9 w.heap.size 123 v9 ((ps.take q ++ [((zl,zh),k)] ++ ps.drop q).map (·.1))from by have h:=LI.out;rw[PH,PH,PV,PX];exact⟨bC h.row m.size,h.words⟩);have B9:=aI (s.trans (y.mono s.size));clear l y E;go_wp2;go_meet;exact⟨v9,by first | rfl | simp[PE],L9.out,B9.out⟩
    obtain⟨vl,rfl,B0,U⟩:=hcut;have LI:=aI B0;have m:=aI (A.trans (U.mono A.size));have I9:=aI (J.out wc U);clear B0 U K A6 L;obtain⟨wb,C6⟩:=aH wc;subst C6;obtain⟨pb,V⟩:=aG (if cx=q then ax else ax.map (·.add (q * 1)));have TR:=aI (jG xC (cp:=cx) V (B:=wb) (base:=w.heap.size) (n:=p) (xs:=iW (ps.map (·.2))) I9.out (show q≤p by omega) (Au _) (cx:=[.int .i64 (k:Int)]) (by intro u hu;rw[PU]at hu;subst hu;rfl) rfl aA);have B8:=fun W=>lU rO ax p cx q (show q≤cx by have:=D4.out;omega) W;have C:=fun W=>jK rO ax p cx q (show q≤p by omega) W;rw[V]at C;obtain⟨m3,Y⟩:=aG (p-q);obtain⟨m4,Z⟩:=aG (cx-q);rw[Y,Z]at C;have M:=aI Y;have N:=aI Z;clear V Y Z;go_wp2_with fail;refine wp_region_held_drew (S:=Below wb.heap.size wb) B2 (aS (PF _ _)) (fun E=>?_);obtain⟨we,B1⟩:=aG wb.drew;rw[B1]at E ⊢;clear B1;refine aP 1 68 (.slice ax p cx) ?_;refine aP 2 69 (.int .i64 (q:Int)) ?_;refine aP 3 70 (.slice ax q cx) ?_;refine aP 5 72 (.int .i64 (k:Int)) ?_;refine aP 8 75 (.slice ax p cx) ?_;refine aP 9 76 (.int .i64 (q:Int)) ?_;refine aP 10 77 (.slice pb m3 m4) ?_;refine uC TR.out M.out N.out 0 4 6 7 11 67 71 73 74 78 70 72 77 (fun v1 v2 v3 v4 v9 w9 l y=>?_) E rfl rfl rfl;simp only[PE,PI,PN,PO];refine aP 12 5 (v9) ?_;refine iM ?_;have IJ:=aI (Gi (i:=k) l (QI _) A1.out (show q≤p by omega));have B9:=aI (m.trans (y.mono m.size));have L9:=aI (show OwnL w9 w.heap.size 123 vl ((ps.take q ++ [((zl,zh),k)] ++ ps.drop q).map (·.1))from⟨bJ LI.row y,LI.words⟩);have J9:=aI (show OwnJ w9 w.heap.size v9 ((ps.take q ++ [((zl,zh),k)] ++ ps.drop q).map (·.2))from by have h:=IJ.out;rw[PH,PH,PV,PX];exact bC h m.size);have P9:=aI (A5.out);clear l y E;go_wp2;go_roundw
    case rel=>
     have r:∃(j':Nat) (ps:List Sg),j'≤ni∧(.int .i64 ((j:Int)+1):Value)=.int .i64 j'∧OwnL w9 w.heap.size 123 vl (ps.map (·.1))∧OwnJ w9 w.heap.size v9 (ps.map (·.2))∧SegI c k j' ps∧Below w.heap.size w w9:=⟨j+1,_,aA,aD,L9.out,J9.out,P9.out,B9.out⟩;first | exact r | ((repeat apply PD);exact⟨r,rfl⟩)
    simp[intOf];omega
   obtain rfl:p=q:=aA;have qd:decide ((p:Int)<(p:Int))=false:=aD;have B6:decide (p<p)=false:=aD;have A5:=aI (G.out (zl,zh) rfl p (by rw[EP.out];exact QI _) LO.out (fun h=>by have:=EP.out;omega));clear P;go_wp2_with fail;go_quiet (fail);obtain⟨wq,D⟩:=aG (wr.drewN nq:World);have s:=aI (show Below wl.heap.size wl wq from A2.trans (by rw[← D];exact(aU (PF wr.heap.size wr) nq).mono A2.size));rw[D];clear D y0 y1 qd B6;have m:=aI (A.trans (s.mono A.size));have K:=aI (A4.out wq s.out);have A6:=aI (J.out wq s.out);have L:=aI (PC (QK CK.1 m.size) (PC (aM m.out CK.1 CK.2) (PC (QK CZ.1 m.size) (PC (aM m.out CZ.1 CZ.2.1) (aM m.out CZ.1 CZ.2.2)))));go_upto_region 12 with fail;go_cut [4] from 15 to 78 (fun o wx=>∃vl,vl=o∧OwnL wx w.heap.size 123 vl ((ps.take p ++ [((zl,zh),k)] ++ ps.drop p).map (·.1))∧Below wl.heap.size wl wx)
   case first=>
    obtain⟨pa,Q⟩:=aG (if I=p then al else al.map (·.add (p * 2)));have TR:=aI (jG pE (cp:=I) Q (B:=wq) (base:=w.heap.size) (n:=p) (xs:=bB (ps.map (·.1))) K.out (show p≤p by omega) (kK _) (cx:=[.int .u64 zl,.int .u64 zh]) (kZ zl zh) rfl aA);have B8:=fun W=>lU rN al p I p (show p≤I by have:=D3.out;omega) W;have C:=fun W=>jK rN al p I p (show p≤p by omega) W;rw[Q]at C;obtain⟨m1,R⟩:=aG (p-p);obtain⟨m2,T⟩:=aG (I-p);rw[R,T]at C;have M:=aI R;have N:=aI T;clear Q R T;go_wp2_with fail;refine wp_region_held_drew (S:=Below wq.heap.size wq) B2 (aS (PF _ _)) (fun E=>?_);obtain⟨wd,A9⟩:=aG wq.drew;rw[A9]at E ⊢;clear A9;refine aP 1 49 (.slice al p I) ?_;refine aP 2 50 (.int .i64 (p:Int)) ?_;refine aP 3 51 (.slice al p I) ?_;refine aP 5 53 (.slice (some ⟨b,off,none⟩) len cap) ?_;refine aP 6 54 (.int .i64 (k:Int)) ?_;refine aP 7 55 (.pointer (some ⟨b,off+k * 2,none⟩)) ?_;refine aP 8 56 (.pointer (some ⟨b,off+k * 2,none⟩)) ?_;refine dL 9 57 (.slice (some ⟨gi,oi,none⟩) ni ci) ?_ ?_
    ·intro X O;have b0:=aM O L.1 L.2.1;go_simp
    refine aP 10 58 (.int .i64 (j:Int)) ?_;refine aP 11 59 (.pointer (some ⟨gi,oi+j * 2,none⟩)) ?_;refine dL 12 60 (.agg #[.int .u64 zl,.int .u64 zh]) ?_ ?_
    ·intro X O;have b0:=aM O L.2.2.1 L.2.2.2.1;have b1:=aM O L.2.2.1 L.2.2.2.2;go_simp
    refine aP 15 63 (.slice al p I) ?_;refine aP 16 64 (.int .i64 (p:Int)) ?_;refine aP 17 65 (.slice pa m1 m2) ?_;refine uC TR.out M.out N.out 0 4 13 14 18 48 52 61 62 66 51 60 65 (fun v1 v2 v3 v4 v9 w9 l y=>?_) E rfl rfl rfl;simp only[PE,PI,PN,PO];refine aP 19 4 (v9) ?_;refine iM ?_;have LI:=aI (Gh (z:=(zl,zh)) l (QI _) B5.out (show p≤p by omega) D5.out WZ.out);have L9:=aI (show OwnL w9 w.heap.size 123 v9 ((ps.take p ++ [((zl,zh),k)] ++ ps.drop p).map (·.1))from by have h:=LI.out;rw[PH,PH,PV,PX];exact⟨bC h.row m.size,h.words⟩);have B9:=aI (s.trans (y.mono s.size));clear l y E;go_wp2;go_meet;exact⟨v9,by first | rfl | simp[PE],L9.out,B9.out⟩
   obtain⟨vl,rfl,B0,U⟩:=hcut;have LI:=aI B0;have m:=aI (A.trans (U.mono A.size));have I9:=aI (J.out wc U);clear B0 U K A6 L;obtain⟨wb,C6⟩:=aH wc;subst C6;obtain⟨pb,V⟩:=aG (if cx=p then ax else ax.map (·.add (p * 1)));have TR:=aI (jG xC (cp:=cx) V (B:=wb) (base:=w.heap.size) (n:=p) (xs:=iW (ps.map (·.2))) I9.out (show p≤p by omega) (Au _) (cx:=[.int .i64 (k:Int)]) (by intro u hu;rw[PU]at hu;subst hu;rfl) rfl aA);have B8:=fun W=>lU rO ax p cx p (show p≤cx by have:=D4.out;omega) W;have C:=fun W=>jK rO ax p cx p (show p≤p by omega) W;rw[V]at C;obtain⟨m3,Y⟩:=aG (p-p);obtain⟨m4,Z⟩:=aG (cx-p);rw[Y,Z]at C;have M:=aI Y;have N:=aI Z;clear V Y Z;go_wp2_with fail;refine wp_region_held_drew (S:=Below wb.heap.size wb) B2 (aS (PF _ _)) (fun E=>?_);obtain⟨we,B1⟩:=aG wb.drew;rw[B1]at E ⊢;clear B1;refine aP 1 68 (.slice ax p cx) ?_;refine aP 2 69 (.int .i64 (p:Int)) ?_;refine aP 3 70 (.slice ax p cx) ?_;refine aP 5 72 (.int .i64 (k:Int)) ?_;refine aP 8 75 (.slice ax p cx) ?_;refine aP 9 76 (.int .i64 (p:Int)) ?_;refine aP 10 77 (.slice pb m3 m4) ?_;refine uC TR.out M.out N.out 0 4 6 7 11 67 71 73 74 78 70 72 77 (fun v1 v2 v3 v4 v9 w9 l y=>?_) E rfl rfl rfl;simp only[PE,PI,PN,PO];refine aP 12 5 (v9) ?_;refine iM ?_;have IJ:=aI (Gi (i:=k) l (QI _) A1.out (show p≤p by omega));have B9:=aI (m.trans (y.mono m.size));have L9:=aI (show OwnL w9 w.heap.size 123 vl ((ps.take p ++ [((zl,zh),k)] ++ ps.drop p).map (·.1))from⟨bJ LI.row y,LI.words⟩);have J9:=aI (show OwnJ w9 w.heap.size v9 ((ps.take p ++ [((zl,zh),k)] ++ ps.drop p).map (·.2))from by have h:=IJ.out;rw[PH,PH,PV,PX];exact bC h m.size);have P9:=aI (A5.out);clear l y E;go_wp2;go_roundw
   case rel=>
    have r:∃(j':Nat) (ps:List Sg),j'≤ni∧(.int .i64 ((j:Int)+1):Value)=.int .i64 j'∧OwnL w9 w.heap.size 123 vl (ps.map (·.1))∧OwnJ w9 w.heap.size v9 (ps.map (·.2))∧SegI c k j' ps∧Below w.heap.size w w9:=⟨j+1,_,aA,aD,L9.out,J9.out,P9.out,B9.out⟩;first | exact r | ((repeat apply PD);exact⟨r,rfl⟩)
   simp[intOf];omega
  obtain rfl:ni=j:=aA;have NX:=aI (A0.out ps ni HP.out rfl);clear hb;go_wp2;go_roundw
  case rel=>
   have r:∃(k':Nat) (ps:List Sg),k'≤len∧(.int .i64 ((k:Int)+1):Value)=.int .i64 k'∧OwnL wr w.heap.size 123 u4 (ps.map (·.1))∧OwnJ wr w.heap.size u5 (ps.map (·.2))∧SegI c k' 0 ps∧Below w.heap.size w wr:=⟨k+1,ps,aA,aD,HO.out,HX.out,NX.out,HB.out⟩;first | exact r | ((repeat apply PD);exact⟨r,rfl⟩)
  simp[intOf];omega
 obtain rfl:len=k:=aA;have EQ:=aI (C7.out ps HP.out);have OL:=aI (show OwnL wr w.heap.size 123 u4 (aZ c)from by have:=HO.out;rw[EQ.out,Tr]at this;exact this);have OJ:=aI (show OwnJ wr w.heap.size u5 (gU c)from by have:=HX.out;rw[EQ.out,Tq]at this;exact this);clear hb;go_wp2;go_ret2;exact⟨_,_,rfl,OL.out,OJ.out,HB.out⟩
theorem yA{w w':World}{b l:Nat}{v m:Value}{zs:List Int}{ds:List Iv}(p:OwnI w b v zs)(j:OwnL w l 123 m ds)(ho:Only (fun q=>v.ownBlock=some q) w w'):OwnL w' l 123 m ds:=
 ⟨bF j.row ho (fun k n hv=>Typed.ne (aR p.row hv) (aR j.row n) aB rfl),j.words⟩
theorem yB{w w':World}{b j:Nat}{v l:Value}{zs:List Int}{ds:List Nat}(p:OwnI w b v zs)(m:OwnJ w j l ds)(ho:Only (fun q=>v.ownBlock=some q) w w'):OwnJ w' j l ds:=
 bF m ho (fun k n hv=>Typed.ne (aR p.row hv) (aR m n) aB rfl)
structure MG (c:List FV) (k:Nat):Prop where
 lo:aL (Lo (aZ c) k)
 hi:aL (Hi (aZ c) k)
 le:Lo (aZ c) k≤Hi (aZ c) k
 gap:0<k→aL (Hi (aZ c) (k-1))∧Hi (aZ c) (k-1)<Lo (aZ c) k
 idx:fQ c (Lo (aZ c) k)≤481
theorem Yo{c:List FV}(j:SmallC c){k:Nat}(l:k<(aZ c).length):MG c k:=by
 have r:∀f∈c,cL f.items:=fun f b=>(j.can.at f b).1;have m:∀i,i<(aZ c).length→aL (Lo (aZ c) i)∧aL (Hi (aZ c) i):=fun i hi=>by
  have n:(Lo (aZ c) i,Hi (aZ c) i)∈aZ c:=Cz _ i hi;obtain⟨f,b,p⟩:=List.mem_flatMap.1 ((gR _ _).1 n);exact j.words f b _ p
 obtain⟨h1,h2⟩:=Ff r j.can.apart' k l;refine⟨(m k l).1,(m k l).2,h1,fun h0=>⟨(m (k-1) aA).2,(h2 h0).1⟩,?_⟩;have h3:aX c (Lo (aZ c) k) c.length≠[]:=by
  have n:(Lo (aZ c) k,Hi (aZ c) k)∈aZ c:=Cz _ k l;obtain⟨f,b,p⟩:=List.mem_flatMap.1 ((gR _ _).1 n);obtain⟨i,hi,e⟩:=List.mem_iff_getElem.1 b;intro s;have:i∈aX c (Lo (aZ c) k) c.length:=dG.2 ⟨hi,by rw[show c.getD i FV.z=f by simp[PJ,PG hi,e]];exact⟨_,p,Int.le_refl _,h1⟩⟩;rw[s]at this
  cases this
 have:=yI h3;have:=j.len;omega
theorem Gp{c:List FV}(j:SmallC c):∀f∈c,(bX f.es).length≤1000000:=fun f b=>by
 have h1:=j.bnd.vec f b;have h2:∀e∈f.es,e.hs.length≤402:=fun e m=>by
  obtain⟨p,l,rfl⟩:=List.mem_map.1 m;exact j.bnd.hs f b p l
 have h3:=tX h2;rw[pH];unfold bG;rw[PM];have h4:f.es.length=f.vec.length:=by simp[FV.es]
 have n:f.es.length * (3+2 * 402)≤240 * (3+2 * 402):=QN _ aA;omega
theorem Kd(v:Value)(c:List FV)(w:World)(hE:KnwAt w v c)(hS:SmallC c) :
  Calls prog 60 #[v] w fun e w'=>∃v',e=.returned v'∧OwnI w' w.heap.size v' (sR c)∧Below w.heap.size w w':=by
 obtain⟨B6,B7,B8,B9,C0⟩:=info_parts iD;have A6:=aI (fun W (hW:Below w.heap.size w W)=>Jk v c W (hE.below hW) hS);have N:=aI hS.nums.1;have E9:=aI (fun k hk=>Yo hS (k:=k) hk);have D1:=aI (Gp hS);have F0:=aI hS.can;have F1:=aI hS.bnd.hs;obtain⟨a,cap,rfl,hK,_⟩:=hE;have H:=aI hK;obtain⟨len,U⟩:=aG c.length;have EL:=aI U;have G1:len≤481:=by have:=hS.len;omega
 have A7:=aI (fun k (h:k≤c.length)=>qK h);have D2:=aI (fun k (h:k≤(aZ c).length)=>Sl h);rw[U]at H A6 A7 ⊢;have w64:IntKind.u64.wrap (len:Int)=len:=bA ⟨aA,aA⟩;have WL:Hid (aL (len:Int)):=aI ⟨aA,aA⟩;have HR:=aI (World.ownsRow_lit (base:=w.heap.size) (e:=57) (size:=1) w #[.int .u64 (len:Int)] 1 (QI _) aB rfl);have O0:Hid (OwnI (w.alloc (.cells #[.int .u64 (len:Int)] 57)) w.heap.size (.slice (some ⟨w.heap.size,0,none⟩) 1 1) (lQ c 0)):=aI (by
  rw[show lQ c 0=[(c.length:Int)] from rfl,EL.out];exact⟨HR,fun z X=>by simp at X;subst X;exact WL⟩)
 clear hK U hS HR;go_enter func60,ntmps60;go_wp2;go_loopw [3,4] (fun o cc wr=>∃k:Nat,k≤len∧cc=.int .i64 k∧OwnI wr w.heap.size o (lQ c k)∧Below w.heap.size w wr)
  (fun _ cc _=>len-(intOf cc).toNat)
 case atStart=>exact⟨0,QJ _,rfl,O0,aJ (PF _ _) _⟩
 obtain⟨k,hk,rfl,hO,hb⟩:=hrel;have I:=aI hO;have HB:=aI hb;clear hO O0;have i0:(0:Int)≤(k:Int):=aA;by_cases hlt:k<len
 ·have i1:(k:Int)<(len:Int):=aA;have F2:k<c.length:=by rw[EL.out];exact hlt
  have Hr:=H.below hb;obtain⟨b,off,rfl,G5,_,A5⟩:=Hr.cells k hlt;have D:=Hr.mem hlt;have D3:=Hr.frags _ D;have K:=aI (show lQ c (k+1)=lQ c k ++ bX (c.getD k FV.z).es from rfl);have ML:=aI (A7 (k+1) aA);rw[K.out]at ML;have KN:=aI (fun W (hW:Below wr.heap.size wr W) a' cap' (hV:EntsAt W a' (c.getD k FV.z).vec.length (c.getD k FV.z).vec)=>Cu a' _ cap' (c.getD k FV.z).vec (c.getD k FV.z).es W hV rfl (CanW.v (F0.at _ D).2.2.1) (fun e he=>by
   obtain⟨p,hp,rfl⟩:=List.mem_map.1 he;have:=F1.out _ D p hp;omega) (D1 _ D))
  have NL:=aI (D1 _ D);obtain⟨ns,E1⟩:=aG (bX (c.getD k FV.z).es);rw[E1]at K ML KN NL;clear E1;obtain⟨p0,ep⟩:=aG (c.getD k FV.z);rw[ep]at A5 D3 KN;obtain⟨_,⟨av,cv,ev,C1,_⟩⟩:=D3;obtain⟨items,iv,vec,vv⟩:=p0;simp only at A5 ev C1 KN;subst ev;have K1:=aI (KN wr (PF _ _) av cv C1.at');obtain⟨nv,E2⟩:=aG vec.length;rw[E2]at A5 K1;clear KN ep hb Hr C1 F2 D E2;go_wp2_with fail;refine K1.mono ?_;rintro e w3 ⟨v3,rfl,C2,C3⟩;obtain⟨a3,c3,rfl,E3,F4⟩:=C2.ints (by have:=NL.out;omega);have I3:=aI E3;have CN:=aI (show a3=none→c3=0 from fun e=>by subst e;exact mL C2.row);have O3:=aI (show OwnI w3 w.heap.size u3 (lQ c k)from⟨bJ I.row C3,I.words⟩);have B3:=aI (aN HB C3);clear C2 E3 C3 F4 A5;go_wp2_with(at_builtin;refine cR rfl _ _ rfl w.heap.size _ (lQ c k) rfl O3 a3 ns.length c3 ns rfl I3 CN ?o1 ?o2 ?_)
  case o1=>have h1:=ML.out;have h2:=N.out;rw[PQ]at h1;omega
  case o2=>exact B3.size
  intro v4 w4 F E5;rw[← K.out]at F;have E:=aI F;have O:=aI (B3.grown E5 B3.size (fun q Y=>(O3.row.lt q Y).1));clear F E5;go_wp2;go_roundw
  case rel=>first | exact⟨k+1,aA,by go_num,E,O⟩ | ((repeat apply PD);exact⟨⟨k+1,aA,by go_num,E,O⟩,rfl⟩)
  simp[intOf];omega
 obtain rfl:len=k:=aA;have KS:=aI (A6 wr hb);have VL:=aI (A7 len aA);obtain⟨wk,F5⟩:=aH wr;obtain⟨ua,F6⟩:=aH u3;subst F5;subst F6;have A8:=aI HB;have D4:=aI I;clear hb HB I A6;go_wp2_with fail;refine KS.mono ?_;rintro e w1 ⟨vl,vi,rfl,hL,hJ,C4⟩;have B1:=aI (aN A8 C4);have O1:=aI (show OwnI w1 w.heap.size ua (lQ c len)from⟨bJ D4.row C4,D4.words⟩);have L1:=aI (show OwnL w1 w.heap.size 123 vl (aZ c)from⟨bC hL.row A8.size,hL.words⟩);have J1:=aI (show OwnJ w1 w.heap.size vi (gU c)from bC hJ A8.size);obtain⟨n,en⟩:=aG ((aZ c).length);have EN:=aI en;have A9:=aI (show(gU c).length=n from by unfold gU;rw[PT];exact en);obtain⟨al,cl,el,_⟩:=L1.prs;obtain⟨ai,ci,ei,_⟩:=aY (show w1.ownsRow w.heap.size 3 1 vi (gU c).length (iW (gU c))from J1);rw[en]at el;rw[A9.out]at ei;subst el;subst ei;have G2:n≤95000000:=by
  have h1:=D2.out n aA;have h2:=N.out;have h3:∀q,q≤(kY c q).length:=fun q=>by
   induction q with
   | zero=>omega
   | succ q ih=>rw[show kY c (q+1)=kY c q ++ zA c q from rfl,PQ];unfold zA;simp only[PM,PZ];omega
  have:=h3 n;omega
 have G3:IntKind.u64.wrap (n:Int)=n:=bA ⟨aA,aA⟩;have WN:Hid (aL (n:Int)):=aI ⟨aA,aA⟩;have S0:=aI (show kY c 0=lQ c len ++ [(n:Int)] from by rw[← EN.out,← EL.out];rfl);have BA:=aI (aJ B1 (.cells #[.int .u64 (n:Int)] 57));obtain⟨v4,w4,hr,F,A⟩:=tV (show OwnI (w1.alloc (.cells #[.int .u64 (n:Int)] 57)) w.heap.size ua (lQ c len)from⟨bJ O1.row (aJ (PF _ _) _),O1.words⟩) rfl (cN (vs:=[.int .u64 (n:Int)]) (aK w1 (.cells #[.int .u64 (n:Int)] 57) rfl)) WN (by have:=VL.out;have:=N.out;omega) BA.size 89;have E:=aI (show OwnI w4 w.heap.size v4 (kY c 0)from by rw[S0.out];exact F);have y:Only (fun q=>ua.ownBlock=some q) w1 w4:=((Only.refl (fun q=>ua.ownBlock=some q) w1).alloc _).trans A;have L4:=aI (yA O1 L1 y);have J4:=aI (yB O1 J1 y);have O:=aI (BA.trans (A.below (n:=w.heap.size) BA.size (fun q Y=>(O1.row.lt q Y).1)));clear F A y hL hJ C4 en O1 L1 J1 VL S0;go_wp2_with(first | (at_builtin;go_loud(refine bV rfl _ _ rfl rfl rfl hr ?_)) | fail)
 clear hr;go_wp2;go_loopw [3,7] (fun o cc wr=>∃k:Nat,k≤n∧cc=.int .i64 k∧OwnI wr w.heap.size o (kY c k)∧OwnL wr w.heap.size 123 (.slice al n cl) (aZ c)∧OwnJ wr w.heap.size (.slice ai n ci) (gU c)∧Below w.heap.size w wr)
  (fun _ cc _=>n-(intOf cc).toNat)
 case atStart=>exact⟨0,QJ _,rfl,E,L4,J4,O⟩
 obtain⟨k,hk,rfl,hO,hL,hJ,hb⟩:=hrel;have I:=aI hO;have HL:=aI hL;have HJ:=aI hJ;have HB:=aI hb;clear hO hL hJ E L4 J4 O;have i0:(0:Int)≤(k:Int):=aA;by_cases hlt:k<n
 ·have i1:(k:Int)<(n:Int):=aA;have SW:=aI (E9 k (by rw[EN.out];exact hlt));have L:=aI (show ∀W,OwnL W w.heap.size 123 (.slice al n cl) (aZ c)→OwnJ W w.heap.size (.slice ai n ci) (gU c)→∃gl gi,al=some ⟨gl,0,none⟩∧ai=some ⟨gi,0,none⟩∧(∀j,j<n→W.cell? ⟨gl,j * 2,none⟩=some (.int .u64 (Lo (aZ c) j))∧W.cell? ⟨gl,j * 2+1,none⟩=some (.int .u64 (Hi (aZ c) j)))∧W.cell? ⟨gi,k,none⟩=some (.int .i64 ((fQ c (Lo (aZ c) k):Nat):Int))from fun W hl hj=>by
   have h1:=hl.row;rw[EN.out]at h1;rcases fF h1 with⟨_,h0,_⟩ | ⟨g,cp,e1,_,_,_,_,h7⟩
   ·omega
   injection e1 with e1 _ _;have D5:W.ownsRow w.heap.size 3 1 (.slice ai n ci) (gU c).length (iW (gU c)):=hj;rw[A9.out]at D5;rcases fF D5 with⟨_,h0,_⟩ | ⟨g',cp',e2,_⟩
   ·omega
   injection e2 with e2 _ _;subst e1;subst e2;have ea:∀j,(⟨g,0,none⟩:Addr).add j=⟨g,0+j,none⟩:=fun j=>by unfold Addr.add;split<;>simp_all
   refine⟨g,g',rfl,rfl,fun j E6=>⟨?_,?_⟩,?_⟩
   ·have:=h7 (j * 2) _ (mQ (aZ c) j (by rw[EN.out];exact E6));rw[ea,Nat.zero_add]at this;exact this
   ·have:=h7 (j * 2+1) _ (mR (aZ c) j (by rw[EN.out];exact E6));rw[ea,Nat.zero_add]at this;exact this
   rw[Mf hj A9.out hlt,Vz (by rw[EN.out];exact hlt)])
  have K:=aI (show kY c (k+1)=kY c k ++ [iL (aZ c) 0 k,Hi (aZ c) k-Lo (aZ c) k,((fQ c (Lo (aZ c) k):Nat):Int)] from rfl);have ML:=aI (D2 (k+1) (by rw[EN.out];omega));rw[K.out]at ML;obtain⟨gl,gi,rfl,rfl,B,C⟩:=L.out wr HL HJ;have l:=B k hlt;obtain⟨lo,C5⟩:=aG (Lo (aZ c) k);obtain⟨hi,C6⟩:=aG (Hi (aZ c) k);have P:=aI C5;have D6:=aI C6;have GD:=aI (show iL (aZ c) 0 k=if k=0 then Lo (aZ c) 0 else Lo (aZ c) k-Hi (aZ c) (k-1)-1-0 from rfl);have A1:=SW.lo;have B0:=SW.hi;have A2:=SW.le;have A3:=SW.idx;have A4:=SW.gap;rw[C5]at l C A1 A2 A3 K ML A4;rw[C6]at l B0 A2 K ML;obtain⟨fi,C7⟩:=aG (fQ c lo);have D7:=aI C7;rw[C7]at C A3 K ML;have c0:=l.1;have c1:=l.2;have WS:=aI (show aL (hi-lo)from by unfold aL at *;omega);have WI:=aI (show aL ((fi:Nat):Int)from by unfold aL;omega);have ws:IntKind.u64.wrap (hi-lo)=hi-lo:=bA WS;have wi:IntKind.u64.wrap ((fi:Nat):Int)=fi:=bA WI;obtain⟨Q,eQ⟩:=aG (kY c k);rw[eQ]at I K ML;have B2:=aI (show Q.length+3≤95000000 by
   have h1:=ML.out;have h2:=N.out;rw[PQ]at h1;simp only[PM,PZ]at h1;omega)
  have D8:=aI (show Q.length+1≤maxLen∧(Q.length+1) * 8≤140737488355328 by
   have:=B2.out;unfold maxLen;omega)
  have R:=aI (show(Q.length+1)+2≤maxLen∧((Q.length+1)+2) * 8≤140737488355328 by
   have:=B2.out;unfold maxLen;omega)
  clear l eQ C5 C6 C7 hb;by_cases hk0:k=0
  ·have GE:=aI (show iL (aZ c) 0 k=lo from by rw[GD.out,if_pos hk0,← P.out,hk0]);have n0:((k:Int) == 0)=true:=by simp[hk0]
   have WP:=aI A1;rw[GE.out]at K;have S:=aI (show kY c (k+1)=(Q ++ [lo]) ++ [hi-lo,((fi:Nat):Int)] from by rw[K.out];simp);have BA:=aI (aJ HB (.cells #[.int .u64 lo] 57));obtain⟨v4,w4,hr,F,A⟩:=tV (show OwnI (wr.alloc (.cells #[.int .u64 lo] 57)) w.heap.size u3 Q from⟨bJ I.row (aJ (PF _ _) _),I.words⟩) rfl (cN (vs:=[.int .u64 lo]) (aK wr (.cells #[.int .u64 lo] 57) rfl)) WP (by have:=B2.out;omega) BA.size 89;have E:=aI F;have y:Only (fun q=>u3.ownBlock=some q) wr w4:=((Only.refl (fun q=>u3.ownBlock=some q) wr).alloc _).trans A;have L4:=aI (yA I HL y);have J4:=aI (yB I HJ y);have O:=aI (BA.trans (A.below (n:=w.heap.size) BA.size (fun q Y=>(I.row.lt q Y).1)));clear F A y hk0 A1 B0 A2 A3 A4 B c1 C K;go_wp2_with(first | (at_builtin;go_loud(refine bV rfl _ _ rfl rfl rfl hr ?_)) | fail)
   clear hr c0;obtain⟨F7,F8,e1,e2,B,C⟩:=L.out w4 L4 J4;injection e1 with e1;injection e1 with e1 _ _;injection e2 with e2;injection e2 with e2 _ _;subst e1;subst e2;have l:=B k hlt;rw[P.out,D7.out]at C;rw[P.out,D6.out]at l;have c0:=l.1;have c1:=l.2;have QL:=aI (show(Q ++ [lo]).length=Q.length+1 by simp);obtain⟨Q4,V⟩:=aG (Q ++ [lo]);rw[V]at E S QL;rw[← QL.out]at R;clear V l B;go_wp2_with fail;go_region_law (refine step_append_lies _ rfl _ _ 89 rfl w.heap.size 57 B6 (.int .u64 0) 1 8 underlying89 B7 B8 B9 C0 rfl aB _ _ _ rfl (E.row.alloc _).drew ⟨w4.heap.size,0,none⟩ 2 2 [.int .u64 (hi-lo),.int .u64 ((fi:Nat):Int)] rfl rfl ?_ ?_ aB ?_ ?_ ?_ (w4.heap.size+1) ?_ ?_;exact fE w4 _ _ _;(intro u hu;simp at hu;rcases hu with rfl | rfl<;>rfl);exact R.1;exact R.2;(exact(aS (aJ O _)).size);simp;intro g5 F9 w5 J s D0 Z)
   all_goals
    have T:=(aS (aJ O _)).grown s (aS (aJ O _)).size (fun g hg=>(E.row.lt g hg).1);have B5:=aI T;have M:Only (fun q=>v4.ownBlock=some q) w4 w5:=(((Only.refl (fun q=>v4.ownBlock=some q) w4).alloc _).drew).grown s (fun q Y=>Y);have L5:=aI (yA E L4 M);have J5:=aI (yB E J4 M);have O5:=aI (show OwnI w5 w.heap.size _ (kY c (k+1))from by
     rw[S.out];exact jM (m:=2) (ys:=[hi-lo,((fi:Nat):Int)]) E rfl J (fun z X=>by
      simp at X;rcases X with rfl | rfl
      ·exact WS
      exact WI))
    clear J s D0 Z T M c0 c1 C;go_wp2;go_roundw
    case rel=>first | exact⟨k+1,aA,by go_num,O5,L5,J5,B5⟩ | ((repeat apply PD);exact⟨⟨k+1,aA,by go_num,O5,L5,J5,B5⟩,rfl⟩)
    simp[intOf];omega
  have n0:¬(k:Int)=0:=aA;have G4:((k:Int) == 0)=false:=by simp;omega
  obtain⟨r,er⟩:=aG (k-1);have F3:r<n:=aA;have D9:=(B r F3).2;obtain⟨C8,C9⟩:=A4 aA;rw[er]at C8 C9 GD;obtain⟨ph,E4⟩:=aG (Hi (aZ c) r);rw[E4]at D9 C8 C9 GD;have GE:=aI (show iL (aZ c) 0 k=lo-ph-1 from by rw[GD.out,if_neg hk0,P.out];omega);have WP:=aI (show aL (lo-ph-1)from by unfold aL at *;omega);have n1:IntKind.i64.wrap ((k:Int)-1)=(r:Int):=by rw[IntKind.wrap_i64];omega
  have n2:(0:Int)≤(r:Int):=aA;have n3:(r:Int)<(n:Int):=aA;have n5:IntKind.u64.wrap (lo-ph)=lo-ph:=bA (by unfold aL at *;omega);have n6:IntKind.u64.wrap (lo-ph-1)=lo-ph-1:=bA WP;rw[GE.out]at K;have S:=aI (show kY c (k+1)=(Q ++ [lo-ph-1]) ++ [hi-lo,((fi:Nat):Int)] from by rw[K.out];simp);clear hk0 A1 B0 A2 A3 A4 C8 C9 B c1 C K er E4;go_wp2_with fail;go_region_law (refine step_append_lies _ rfl _ _ 89 rfl w.heap.size 57 B6 (.int .u64 0) 1 8 underlying89 B7 B8 B9 C0 rfl aB _ _ _ rfl (I.row.alloc _).drew ⟨wr.heap.size,0,none⟩ 1 1 [.int .u64 (lo-ph-1)] rfl rfl ?_ ?_ aB ?_ ?_ ?_ (wr.heap.size+1) ?_ ?_;exact cell_one_new wr _ _;(intro u hu;simp at hu;subst hu;rfl);exact D8.1;exact D8.2;(exact(aS (aJ HB _)).size);simp;intro g4 G0 w4 A0 G E7 E8)
  all_goals
   have E0:=(aS (aJ HB _)).grown G (aS (aJ HB _)).size (fun g hg=>(I.row.lt g hg).1);have O:=aI E0;have A:Only (fun q=>u3.ownBlock=some q) wr w4:=(((Only.refl (fun q=>u3.ownBlock=some q) wr).alloc _).drew).grown G (fun q Y=>Y);have L4:=aI (yA I HL A);have J4:=aI (yB I HJ A);have E:=aI (jM (m:=1) (ys:=[lo-ph-1]) I rfl A0 (fun z X=>by simp at X;subst X;exact WP));obtain⟨F7,F8,e1,e2,B,C⟩:=L.out w4 L4 J4;injection e1 with e1;injection e1 with e1 _ _;injection e2 with e2;injection e2 with e2 _ _;subst e1;subst e2;have l:=B k hlt;rw[P.out,D7.out]at C;rw[P.out,D6.out]at l;clear c0 D9;have c0:=l.1;have c1:=l.2;have QL:=aI (show(Q ++ [lo-ph-1]).length=Q.length+1 by simp);obtain⟨Q4,V⟩:=aG (Q ++ [lo-ph-1]);rw[V]at E S QL;rw[← QL.out]at R;clear V l B A0 G E7 E8 E0 A;go_wp2_with fail;go_region_law (refine step_append_lies _ rfl _ _ 89 rfl w.heap.size 57 B6 (.int .u64 0) 1 8 underlying89 B7 B8 B9 C0 rfl aB _ _ _ rfl (E.row.alloc _).drew ⟨w4.heap.size,0,none⟩ 2 2 [.int .u64 (hi-lo),.int .u64 ((fi:Nat):Int)] rfl rfl ?_ ?_ aB ?_ ?_ ?_ (w4.heap.size+1) ?_ ?_;exact fE w4 _ _ _;(intro u hu;simp at hu;rcases hu with rfl | rfl<;>rfl);exact R.1;exact R.2;(exact(aS (aJ O _)).size);simp;intro g5 F9 w5 J s D0 Z)
   all_goals
    have T:=(aS (aJ O _)).grown s (aS (aJ O _)).size (fun g hg=>(E.row.lt g hg).1);have B5:=aI T;have M:=(((Only.refl (fun q=>(Value.slice (some ⟨g4,0,none⟩) (Q.length+1) G0).ownBlock=some q) w4).alloc (.cells #[.int .u64 (hi-lo),.int .u64 ((fi:Nat):Int)] 57)).drew).grown s (fun q Y=>Y);have L5:=aI (yA E L4 M);have J5:=aI (yB E J4 M);have O5:=aI (show OwnI w5 w.heap.size _ (kY c (k+1))from by
     rw[S.out];exact jM (m:=2) (ys:=[hi-lo,((fi:Nat):Int)]) E rfl J (fun z X=>by
      simp at X;rcases X with rfl | rfl
      ·exact WS
      exact WI))
    clear J s D0 Z T M c0 c1 C;go_wp2;go_roundw
    case rel=>first | exact⟨k+1,aA,by go_num,O5,L5,J5,B5⟩ | ((repeat apply PD);exact⟨⟨k+1,aA,by go_num,O5,L5,J5,B5⟩,rfl⟩)
    simp[intOf];omega
 obtain rfl:n=k:=aA;have OE:=aI (show OwnI wr w.heap.size u3 (sR c)from by have:=I.out;rw[← EN.out]at this;exact this);clear hb;go_wp2;go_ret
 first | exact⟨_,rfl,OE,HB⟩ | exact⟨u3,rfl,OE,HB⟩
theorem Ir(v:Value)(c:List FV)(w:World)(s:KnwAt w v c)(m:SmallC c) :
  Calls prog 19 #[v] w fun e w'=>∃r,e=.returned r∧OwnB w' w.heap.size r (bL (sR c))∧Below w.heap.size w w':=by
 have K:=aI (Kd v c w s m);have M:=aI m.nums.1;obtain⟨a,cap,rfl,_⟩:=s;obtain⟨len,b⟩:=aG c.length;rw[b]at K ⊢;clear b m;go_enter func19,ntmps19;go_wp2_with fail;refine K.mono ?_;rintro e B ⟨C,rfl,j,l⟩;obtain⟨a1,A,rfl,p,_⟩:=j.ints (by have:=M.out;omega);have u:=aI p;have n:=aI l;clear j p l;go_wp2_with fail;refine(Pg a1 _ A _ _ u (by have:=M.out;omega)).mono ?_;rintro e w2 ⟨D,rfl,j,l⟩;have y:=aI (j.lower n.size);have z:=aI (aN n l);clear j l;go_wp2;go_ret;exact⟨_,rfl,y,z⟩
theorem Dr{vs:List (List Ent)}{v:List Ent}(h:v∈vs):(bX v).length≤(vs.flatMap bX).length:=by
 induction vs with
 | nil=>cases h
 | cons u vs ih=>
   rw[PY,PQ];rcases List.mem_cons.1 h with rfl | h
   ·omega
   have:=ih h;omega
theorem FU{l:List FV}{vs:List (List Ent)}{ss:List Sg}(E:KSOk vs ss)(F:(lE vs ss).length≤1000000000)(e:l.map FV.frag=kH vs ss):BigC l:=by
 have b:CanL l:=by unfold CanL;rw[e];exact E.can
 have r:(lE vs ss).length=1+(vs.flatMap bX).length+1+3 * ss.length:=by
  unfold lE nV;simp only[PQ,PM,PZ,qU];omega
 have m:∀f∈l,∃i,∃h:i<vs.length,f.items=fD ss i∧f.es=vs[i]:=fun f j=>by
  have u:f.frag∈kH vs ss:=by rw[← e];exact QC j
  obtain⟨i,hi,s⟩:=qY.1 u;exact⟨i,hi,congrArg Frag.items s,congrArg Frag.vec s⟩
 refine⟨b,fun f j=>?_,?_⟩
 ·obtain⟨i,hi,_,A⟩:=m f j;have h1:=Dr (PS hi);rw[pH,← A]at h1;omega
 have y:sQ (fB l):=mP (fun f j=>(b.at f j).1) b.apart';have p:((fB l).map (·.1)).Nodup:=List.pairwise_map.2 y;have:=rV (M:=ss.map (·.1.1)) p (fun x D=>by
  obtain⟨z,B,rfl⟩:=List.mem_map.1 D;obtain⟨f,j,n⟩:=List.mem_flatMap.1 B;obtain⟨i,hi,C,_⟩:=m f j;rw[C]at n;exact List.mem_map.2 ⟨(z,i),dH.1 n,rfl⟩)
 rw[PT,gC,PT]at this;omega
theorem Jm{c l:List FV}{vs:List (List Ent)}{ss:List Sg}(b:SmallC c)(j:KSOk vs ss)(e:l.map FV.frag=kH vs ss)(u:∀x r q,fH (c.map FV.frag) x r q↔fH (l.map FV.frag) x r q):bL (lE vs ss)=bL (sR c):=by
 have h1:c.map FV.frag=kH vs ss:=uS b.can j.can (fun x r q=>by rw[u,e]);obtain⟨m,n⟩:=To b.can b.words;obtain⟨p,s⟩:=DY m.segs j.segs (n.trans h1);rw[Sn,p,s]
theorem Sf{z y:Int}(m:0≤z∧z≤255)(n:0≤y∧y≤255)(h0:y≠0):∃z':Int,bits .xor .u8 z y=z'∧0≤z'∧z'≤255∧z'≠z:=by
 have b:z.toNat ^^^ y.toNat<2 ^ 8:=Nat.xor_lt_two_pow aA aA;refine⟨_,u8_xor z y m.1 aA n.1 aA,aA,aA,fun e=>?_⟩;have j:z.toNat ^^^ y.toNat=z.toNat:=aA;have l:z.toNat ^^^ (z.toNat ^^^ y.toNat)=y.toNat:=by rw[← Nat.xor_assoc,Nat.xor_self,Nat.zero_xor]
 rw[j,Nat.xor_self]at l;omega
theorem CX{zs:List Int}{i:Nat}(hi:i<zs.length){z':Int}(h:z'≠zs.getD i 0):zs.set i z'≠zs:=fun e=>by
 have:(zs.set i z').getD i 0=z':=by simp[PJ,List.getElem?_set_self hi]
 rw[e]at this;exact h this.symm
theorem Uz{w:World}{base g m cp i:Nat}{zs:List Int}{z':Int}(h:OwnB w base (.slice (some ⟨g,0,none⟩) m cp) zs)(j:zs.length=m)(hi:i<m)(l:0≤z'∧z'≤255):OwnB (w.setCell ⟨g,i,none⟩ (.int .u8 z')) base (.slice (some ⟨g,0,none⟩) m cp) (zs.set i z'):=by
 subst j;refine⟨?_,fun x b=>?_⟩
 ·rw[QH,List.map_set];rcases h.row.2 with⟨hv,_⟩ | ⟨g',cap',cur,hv,hb,hc,h1,h2,h3,h4⟩
  ·cases hv
  injection hv with e1 e2 e3;injection e1 with e1;injection e1 with e1 _ _;subst e1;subst e3;refine⟨by rw[QH];exact h.row.1,.inr ⟨g,cp,_,rfl,hb,heap_setCell_same _ _ i _ _ _ hc,h1,h2,by simpa using h3,?_⟩⟩;rw[Array.toList_setIfInBounds,List.take_set,h4]
 rcases List.mem_or_eq_of_mem_set b with b | rfl
 ·exact h.bytes x b
 exact l
theorem Qf{w:World}{base g m cp i:Nat}{zs:List Int}(h:OwnB w base (.slice (some ⟨g,0,none⟩) m cp) zs)(j:zs.length=m)(hi:i<m):w.cell? ⟨g,i,none⟩=some (.int .u8 (zs.getD i 0))∧w.frozen? ⟨g,i,none⟩=false:=by
 subst j;rcases h.row.2 with⟨hv,_⟩ | ⟨g',cap',cur,hv,hb,hc,h1,h2,h3,h4⟩
 ·cases hv
 injection hv with e1 e2 e3;injection e1 with e1;injection e1 with e1 _ _;subst e1;subst e3;refine⟨?_,frozen_of_row _ _ i _ _ hc⟩;have b:(cur.toList.take (zs.length * 1))[i]?=(zs.map (Value.int .u8))[i]?:=by rw[h4]
 rw[Nat.mul_one,List.getElem?_take_of_lt hi]at b;simp only[World.cell?,hc];simp[PJ,PG hi]at b ⊢;exact b
theorem Dw{zs:List Int}(h:∀z∈zs,0≤z∧z≤255)(i:Nat):0≤aW zs i∧aW zs i≤255:=by
 by_cases hi:i<zs.length
 ·have b:aW zs i=zs[i]:=by simp[aW,PJ,PG hi]
  rw[b];exact h _ (PS hi)
 have b:aW zs i=0:=by simp[aW,PJ,List.getElem?_eq_none (Nat.le_of_not_lt hi)]
 rw[b];exact⟨aB,aB⟩
theorem Ye(c:List FV):1≤(bL (sR c)).length:=by
 have h1:=uT (sR c);have h2:=qK (l:=c) (k:=0) (QJ _);omega
theorem xU{b lb l:List FV}(h:∀x r c,fH (l.map FV.frag) x r c↔Eb uD b lb x r c)(h0:l.length=0):∀x r c,fH (b.map FV.frag) x r c→fH (lb.map FV.frag) x r c:=fun x r c j=>by
 have e:l=[]:=List.length_eq_zero_iff.1 h0;subst e;by_cases q:fH (lb.map FV.frag) x r c
 ·exact q
 exact absurd ((h x r c).2 (by unfold Eb uD;simp[j,q])) (Nh x r c)
theorem Gl{va vb:Value}{B lb:List FV}{w:World}(I:KnwAt w va B)(J:iH va)(K:GoodK B)(L:KnwAt w vb lb)(M:iH vb)(N:BigC lb) :
  Calls prog 21 #[va,vb] w fun e w'=>∃n:Int,e=.returned (.tuple #[.int .i64 n,.nilIface])∧(n=0→∀x r c,fH (B.map FV.frag) x r c↔fH (lb.map FV.frag) x r c)∧Below w.heap.size w w':=by
 have O:=aI (Qo I J K L M N);have P:=aI (fun W (R:Below w.heap.size w W)=>Qn (L.below R) M N (I.below R) J K);obtain⟨aa,ca,rfl,_⟩:=I;obtain⟨ab,cb,rfl,_⟩:=L;obtain⟨na,l⟩:=aG B.length;obtain⟨nb,m⟩:=aG lb.length;rw[l,m]at O P ⊢;clear J M K N l m;go_enter func21,ntmps21;go_wp2_with fail;refine O.mono ?_;rintro e w1 ⟨v1,Y,rfl,p,s,u⟩;have D:=aI s;have Q:=aI u;obtain⟨a1,c1,rfl,_⟩:=aY p.row;obtain⟨m1,b⟩:=aG Y.length;have E:=aI b;rw[b];clear p s u b;go_wp2_with fail;refine(P _ Q).mono ?_;rintro e w2 ⟨v2,Z,rfl,y,z,A⟩;have F:=aI z;have C:=aI (aN Q A);obtain⟨a2,c2,rfl,_⟩:=aY y.row;obtain⟨m2,j⟩:=aG Z.length;have G:=aI j;rw[j];clear y z A j;by_cases h1:m1=0
 ·by_cases h2:m2=0
  ·have S:=aI (show ∀x r c,fH (B.map FV.frag) x r c↔fH (lb.map FV.frag) x r c from fun x r c=>⟨xU D (by rw[E.out];exact h1) x r c,xU F (by rw[G.out];exact h2) x r c⟩);subst h1;subst h2;go_wp2;go_ret2;exact⟨0,rfl,fun _=>S,C⟩
  have H:(0:Int)<(m2:Int):=aA;have T:decide ((0:Int)<(m2:Int))=true:=decide_eq_true H;have U:decide (0<m2)=true:=decide_eq_true aA;subst h1;clear h2;go_wp2;go_ret2;exact⟨_,rfl,fun h=>absurd h aB,C⟩
 have V:(0:Int)<(m1:Int):=aA;have d1:decide ((0:Int)<(m1:Int))=true:=decide_eq_true V;have X:decide (0<m1)=true:=decide_eq_true aA;by_cases h2:m2=0
 ·subst h2;clear h1;go_wp2;go_ret2;exact⟨_,rfl,fun h=>absurd h aB,C⟩
 have H:(0:Int)<(m2:Int):=aA;have T:decide ((0:Int)<(m2:Int))=true:=decide_eq_true H;have U:decide (0<m2)=true:=decide_eq_true aA;clear h1 h2;go_wp2;go_ret2;exact⟨_,rfl,fun h=>absurd h aB,C⟩
end Go.Proofs.YtbkkolfpegplgaaGreatDoor
