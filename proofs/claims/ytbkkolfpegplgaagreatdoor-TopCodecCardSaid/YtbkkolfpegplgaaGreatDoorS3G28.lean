/- pack.Append of a canonical vector behind a list of bytes of the call's own. -/
import Derived.Test.YtbkkolfpegplgaaGreatDoorS3G13
import Derived.Test.YtbkkolfpegplgaaGreatDoorS3G10
import Derived.Test.YtbkkolfpegplgaaGreatDoorS3G27
import Derived.Test.YtbkkolfpegplgaaGreatDoorS3G18
set_option maxHeartbeats 3200000
set_option maxRecDepth 100000
namespace Go.Proofs.YtbkkolfpegplgaaGreatDoor
open Go Go.RowKit
theorem z2w{ops:Array Oper}{rest:List Oper}{o:Oper}{a:Act}{Q:Exit→Act→World→Prop}{w:World}(hgd:o.guard=none)(s x:Operand)
  (ho:o.op=.call { callee:=.builtin .append,args:=#[s,x],argTypes:=#[89,89] })
  (base:Nat) (v:Value) (xs:List Int) (hs:a.eval s=v) (hown:OwnI w base v xs) (a2:Option Addr) (m c:Nat) (ys:List Int) (hx:a.eval x=.slice a2 m c) (hI:Ints .u64 w a2 m ys) (hn:a2=none→c=0)
  (h63:xs.length+m≤4000000000) (hbase:base≤w.heap.size)
  (h:∀v' w',OwnI w' base v' (xs ++ ys)→w.grownBy w' v.ownBlock→wpList Tryz.prog ops Q rest (a.put o.dst v') w'):wpList Tryz.prog ops Q (o :: rest) a w:=by
 obtain⟨i0,hi,hz0,hz1,hz2⟩:=info_parts info_u64;have hl:=hI.length;have hb:∀z∈xs ++ ys,Word z:=fun z hz=>by
  rcases List.mem_append.1 hz with hz | hz
  ·exact hown.words z hz
  ·exact z41 (hI.wf z hz)
 cases a2 with
 | none=>
   obtain rfl:m=0:=by
    by_cases e:m=0
    ·exact e
    ·obtain⟨b,off,e,_⟩:=hI.cells 0 (by omega);cases e
   obtain rfl:c=0:=hn rfl;obtain rfl:ys=[]:=List.length_eq_zero_iff.1 hl;refine wpList_append_own_none hgd s x 89 ho base 57 i0 1 Tryz.underlying89 hi v xs.length _ hs hown.row hx (h v w ?_ ⟨rfl,rfl,rfl,Nat.le_refl _,fun _ _ _=>rfl⟩);simpa using hown
 | some ad=>
   refine wpList_append_own_at w hgd s x 89 ho base 57 i0 (.int .u64 0) 1 8 Tryz.underlying89 hi hz0 hz1 hz2 rfl (by decide) v xs.length _ hs hown.row ad m c (ys.map (Value.int .u64)) hx (by simp[hl]) (own_ints hI) ?_ (by unfold maxLen;omega) (by omega) hbase ?_
   ·intro u hu
    obtain⟨z,_,rfl⟩:=List.mem_map.1 hu;rfl
   ·intro v' w' h1 h2 _ _
    exact h v' w' ⟨by rw[List.length_append,hl,List.map_append];exact h1,hb⟩ h2
theorem own_cap0{w:World}{base:Nat}{e:TypeId}{size:Nat}{n cap:Nat}{xs:List Value}(h:w.ownsRow base e size (.slice none n cap) n xs):cap=0:=by
 rcases h.2 with⟨hv,_⟩ | ⟨g,cap',cur,hv,_⟩
 ·cases hv;rfl
 ·cases hv
theorem OwnI.only{w w':World}{base:Nat}{v:Value}{zs:List Int}{may:Nat→Prop}(h:OwnI w base v zs)(ho:Only may w w')(hm:∀k,v.ownBlock=some k→¬may k):OwnI w' base v zs:=⟨zo h.row ho hm,h.words⟩
theorem pappend_any(w0:World)(v:Value)(zs:List Int)(a:Option Addr)(len cap:Nat)(l:List EV)(es:List Ent)(w:World)(h:OwnB w w0.heap.size v zs)(h0:Below w0.heap.size w0 w)(hE:EntsAt w0 a len l)(hes:l.map (·.1)=es)
  (hC:CanV es) (hn:∀e∈es,e.hs.length≤1000000) (hmost:zs.length+10 * (numsV es).length≤3900000000) :
  Calls Tryz.prog 45 #[v,.slice a len cap] w fun e w'=>∃v',e=.returned v'∧OwnB w' w0.heap.size v' (zs ++ joinB (numsV es))∧Below w0.heap.size w0 w':=by
 have hl:len=es.length:=by rw[← hes,List.length_map,hE.length]
 have hlen:es.length≤(numsV es).length:=by
  have:∀k,k≤(numsTo es k).length:=fun k=>by
   induction k with
   | zero=>omega
   | succ k ih=>rw[show numsTo es (k+1)=numsTo es k ++ numE (repN es k) (es.getD k Ent.z)from rfl,List.length_append,z2s];omega
  exact this es.length
 have hwd:∀e∈es,EntW e:=fun e he=>by
  rw[← hes]at he;obtain⟨p,hp,rfl⟩:=List.mem_map.1 he;exact hE.words p hp
 have E:=z7 hE;have B:=z7 h;have B0:=z7 h0;have CAN:=z7 hC;have ES:=z7 hes;have HN:=z7 hn;have WD:=z7 hwd;have MOST:=z7 hmost;have w64:IntKind.u64.wrap (len:Int)=len:=z11 ⟨by omega,by omega⟩;have WL:Hid (Word (len:Int)):=z7 ⟨by omega,by omega⟩;have hlm:len≤390000000:=by omega
 have HL:=z7 hl;clear h h0 hE hC hes hn hwd hmost hl hlen;go_enter Tryz.func45,Tryz.ntmps45
 go_wp2_with fail
 refine(append_any w0 v zs len _ B.out B0.out WL.out (by have:=MOST.out;omega)).mono ?_;rintro e w1 ⟨v1,rfl,hO1,hb1⟩;have N1:Hid (zs ++ vb 10 (len:Int)=zs ++ joinB (numsTo es 0)):=z7 (by
  rw[show numsTo es 0=[(es.length:Int)] from rfl,show joinB [(es.length:Int)]=vb 10 (es.length:Int) ++ [] from rfl,List.append_nil,← HL.out])
 rw[N1.out]at hO1;have O1:=z7 hO1;have B1:=z7 hb1;clear hO1 hb1 N1 B B0;go_wp2_with fail
 go_loopw [0,19] (fun o c wr=>∃k:Nat,k≤len∧c=.int .i64 k∧OwnB wr w0.heap.size o (zs ++ joinB (numsTo es k))∧Below w0.heap.size w0 wr)
  (fun _ c _=>len-(intOf c).toNat)
 case atStart=>exact⟨0,Nat.zero_le _,rfl,O1.out,B1.out⟩
 case round=>
  obtain⟨k,hk,rfl,hO,hb⟩:=hrel;have HO:=z7 hO;have HB:=z7 hb;clear hO O1 B1;by_cases hlt:k<len
  ·obtain⟨b,off,rfl,hbl,c0,c1,c2⟩:=(E.out.below hb).cells k hlt
   have hmem:=E.out.mem hlt;obtain⟨ha,hcap,eh,hP,hcp⟩:=((E.out.holes _ hmem).below hb).at';have hke:k<es.length:=by rw[← HL.out];exact hlt
   have eget:es.getD k Ent.z=(l.getD k EV.z).1:=by rw[← ES.out,z1i]
   have hcan:=CAN.out.ents k hke;have hn:=HN.out _ (z15 hke);have hw:=WD.out _ (z15 hke);have hrp:=z7 (repN_word CAN.out WD.out hke);have NX:Hid (numsTo es (k+1)=numsTo es k ++ numE (repN es k) (es.getD k Ent.z)):=rfl;have ML:=z7 (numsTo_le es (show k+1≤es.length by omega));have RD:Hid (repN es k=if k=0 then(es.getD 0 Ent.z).rep else(es.getD k Ent.z).rep-(es.getD (k-1) Ent.z).rep-1):=rfl;have ASC:=z7 (CAN.out.asc k);rw[eh]at c2;obtain⟨e,ee⟩:∃e,(l.getD k EV.z).1=e:=⟨_,rfl⟩;rw[ee]at c0 c1 c2 hP eget hcp;rw[eget]at hcan hn hw NX RD ASC;have RD0:Hid ((es.getD k Ent.z).rep=e.rep):=z7 (by rw[eget]);obtain⟨rep,mx,hs⟩:=e;simp only at c0 c1 c2 hP hcp;obtain⟨p,ep⟩:∃p,repN es k=p:=⟨_,rfl⟩;rw[ep]at hrp NX RD;have NE:Hid (numE p ⟨rep,mx,hs⟩=p :: mx :: (hs.length:Int) :: dif hs 1 hs.length):=rfl;have i0:(0:Int)≤(k:Int):=by omega
   have i1:(k:Int)<(len:Int):=by omega
   have hsz:=hb.size;have hbs:b≠wr.heap.size:=by omega
   have HP:=z7 hP;have CANE:=z7 hcan;have WE:=z7 hw;have ww:IntKind.u64.wrap (hs.length:Int)=hs.length:=z11 ⟨by omega,by simp only at hn;omega⟩;have DL:=z7 (z2k hs 1 hs.length);have hns:hs.length≤1000000:=hn;have WHL:Hid (Word (hs.length:Int)):=z7 ⟨by omega,by omega⟩;have KD:=z7 (fun W hW=>diffs_any ha hs.length hcap hs 1 W hW z3p hns);have TAIL:Hid (∀(W W':World) (dv ov:Value),Only (fun _=>False) wr W→False→True):=z7 (fun _ _ _ _ _ _=>trivial);clear TAIL hP hcan hw hn ee eget ep eh hmem;by_cases hk0:k=0
   ·have hrd:=RD.out
    rw[if_pos hk0]at hrd;have hp:rep=p:=by
     rw[hrd,← hk0];exact RD0.out.symm
    subst hp;clear hrd;have n0:¬(0:Int)<(k:Int):=by omega
    clear hk0;go_wp2_with fail
    refine(KD.out _ (HP.out.below (zc (Below.refl _ _) _))).mono ?_;rintro e w2 ⟨hb2,hor⟩;obtain⟨_,v2,rfl,hO2⟩:=hor.resolve_right (fun h=>h.1 (cor_apart CANE.out.cor));have B2:=z7 (zf (zc HB.out _) hb2);have OB2:=z7 (HO.out.below (zf (zc (Below.refl _ _) _) hb2));obtain⟨a2,cap2,rfl,hI2,_⟩:=hO2.ints (by rw[DL.out];omega);have CN2:=z7 (show a2=none→cap2=0 from fun e=>by subst e;exact own_cap0 hO2.row);have M2:=z7 (show(wr.alloc (.cells #[.int .u64 rep,.int .u64 mx,.slice ha hs.length hcap] 96)).heap.size≤w2.heap.size from hb2.size);have k2:∀j x,(wr.alloc (.cells #[.int .u64 rep,.int .u64 mx,.slice ha hs.length hcap] 96)).cell? ⟨wr.heap.size,j,none⟩=some x→w2.cell? ⟨wr.heap.size,j,none⟩=some x:=fun j x hx=>zg hb2 (by simp) hx;have g0:=k2 0 _ (by simp;rfl);have g1:=k2 1 _ (by simp;rfl);have g2:=k2 2 _ (by simp;rfl);have I2:=z7 hI2;have hs2:=B2.out.size;clear hb2 hor hO2 hI2 KD k2;go_wp2_with(at_builtin;go_loud(refine z2w rfl _ _ rfl w0.heap.size _ [rep,mx,(hs.length:Int)] rfl ?o1 a2 (dif hs 1 hs.length).length cap2 (dif hs 1 hs.length) rfl ?o2 CN2.out ?o3 ?o4 ?_))
    case o1=>exact⟨World.ownsRow_lit (base:=w0.heap.size) (e:=57) (size:=1) w2 #[.int .u64 rep,.int .u64 mx,.int .u64 (hs.length:Int)] 3 hs2 (by decide) rfl,fun z hz=>by
     simp at hz
     rcases hz with rfl | rfl | rfl
     ·exact hrp.out
     ·exact WE.out.mx
     ·exact WHL.out⟩
    case o2=>exact I2.out.below (zc (Below.refl _ _) _)
    case o3=>rw[DL.out];simp;omega
    case o4=>simp;omega
    intro v3 w3 hO3 hg3;have B23:Below w2.heap.size w2 w3:=(zc (Below.refl _ _) _).grown hg3 (by simp) (fun q hq=>by
     obtain rfl:w2.heap.size=q:=by simpa[Value.ownBlock]using hq
     exact Nat.le_refl _)
    have B3:=z7 (zf B2.out B23);have OB3:=z7 (OB2.out.below B23);obtain⟨L,eL⟩:∃L,rep :: mx :: (hs.length:Int) :: dif hs 1 hs.length=L:=⟨_,rfl⟩;rw[eL]at hO3 NE;have hLl:L.length=3+2 * hs.length:=by rw[← NE.out,z2s]
    have LL:=z7 hLl;have hLm:L.length≤3000000:=by omega
    rw[NE.out]at NX;obtain⟨a3,cap3,rfl,_,_⟩:=hO3.ints (by omega);have O3:=z7 hO3;have MB:=z7 (show zs.length+10 * (numsTo es k).length+10 * L.length≤3900000000 by
     have h1:=ML.out;rw[NX.out,List.length_append]at h1;have:=MOST.out;omega)
    clear hO3 hg3 B23 eL hLl;obtain⟨n3,en3⟩:∃n3,L.length=n3:=⟨_,rfl⟩;rw[en3]at hLm ⊢;rw[en3]at MB;have EN3:=z7 en3;clear en3;have O3':Hid (OwnI w3 w0.heap.size (.slice a3 n3 cap3) L):=by have:=O3.out;rw[EN3.out]at this;exact this
    clear O3;obtain⟨wo,ewo⟩:∃wo:World,wo=wr:=⟨_,rfl⟩;clear ewo wo;go_wp2_with fail
    go_loopw [0,57] (fun o c wr'=>∃j:Nat,j≤n3∧c=.int .i64 j∧OwnB wr' w0.heap.size o (zs ++ joinB (numsTo es k ++ L.take j))∧OwnI wr' w0.heap.size (.slice a3 n3 cap3) L∧Below w0.heap.size w0 wr')
     (fun _ c _=>n3-(intOf c).toNat)
    case atStart=>exact⟨0,Nat.zero_le _,rfl,by simpa using OB3.out,O3'.out,B3.out⟩
    case round=>
     obtain⟨j,hj,rfl,hO4,hT4,hb4⟩:=hrel;have OB4:=z7 hO4;have OT4:=z7 hT4;have B4:=z7 hb4;clear hO4 hT4 hb4;by_cases hjl:j<n3
     ·obtain⟨a4,cap4,e4,hI4,_⟩:=OT4.out.ints (by rw[EN3.out];omega)
      obtain⟨rfl,hx3,rfl⟩:a3=a4∧n3=L.length∧cap3=cap4:=by simpa using e4
      clear hx3;obtain⟨b4,off4,rfl,hbl4,hc4⟩:=hI4.cells j (by rw[EN3.out];exact hjl);have hx:Word (L.getD j 0):=OT4.out.words _ (by
       rw[show L.getD j 0=L[j]'(by rw[EN3.out];exact hjl) by simp[List.getD,List.getElem?_eq_getElem (show j<L.length by rw[EN3.out];exact hjl)]];exact List.getElem_mem _)
      have TK:=z7 (show L.take (j+1)=L.take j ++ [L.getD j 0] by
       have hj':j<L.length:=by rw[EN3.out];exact hjl
       rw[List.take_succ_eq_append_getElem hj'];simp[List.getD,List.getElem?_eq_getElem hj'])
      obtain⟨x,ex⟩:∃x,L.getD j 0=x:=⟨_,rfl⟩;rw[ex]at hc4 hx TK;have HX:=z7 hx;have j0:(0:Int)≤(j:Int):=by omega
      have j1:(j:Int)<(n3:Int):=by omega
      have LT:=z7 (show(L.take j).length≤L.length from by rw[List.length_take];omega);clear e4 hI4 ex hx;go_wp2_with fail
      refine(z1x w0 _ _ x _ OB4.out B4.out HX.out (by
       rw[List.length_append];have h1:=z12 (numsTo es k ++ L.take j);rw[List.length_append]at h1;have h2:=MB.out;have h3:=LT.out;have h4:=EN3.out;omega)).mono ?_
      rintro e w5 ⟨v5,rfl,hO5,hb5,hg5⟩;have O5:Hid (OwnB w5 w0.heap.size v5 (zs ++ joinB (numsTo es k ++ L.take (j+1)))):=z7 (by
       rw[TK.out,← List.append_assoc (numsTo es k),z1m,← List.append_assoc zs];exact hO5)
      have T5:=z7 (OT4.out.only hg5.only (fun q hq hq'=>Typed.ne (zj OB4.out.row hq') (zj OT4.out.row hq) (by decide) rfl));clear hO5 hg5;go_wp2
      go_roundw
      case rel=>first | exact⟨j+1,by omega,by go_num,O5.out,T5.out,hb5⟩ | ((repeat apply Exists.intro);exact⟨⟨j+1,by omega,by go_num,O5.out,T5.out,hb5⟩,rfl⟩)
      case measure=>simp[intOf];omega
     ·obtain rfl:j=n3:=by omega
      have O6:=OB4.out;rw[← EN3.out,List.take_length,← NX.out]at O6;have O6:=z7 O6;go_wp2
      go_roundw
      case rel=>first | exact⟨k+1,by omega,by go_num,O6.out,B4.out⟩ | ((repeat apply Exists.intro);exact⟨⟨k+1,by omega,by go_num,O6.out,B4.out⟩,rfl⟩)
      case measure=>simp[intOf];omega
   ·have hrd:=RD.out
    rw[if_neg hk0]at hrd;obtain⟨b',off',eb,_,d0,_,_⟩:=(E.out.below HB.out).cells (k-1) (by omega);obtain⟨rfl,rfl⟩:b=b'∧off=off':=by simpa using eb
    have hasc:=ASC.out (by omega) hke;rw[← ES.out,z1i]at hrd hasc;have hwp:=(E.out.words _ (E.out.mem (i:=k-1) (by omega))).rep;obtain⟨q,eq⟩:∃q,(l.getD (k-1) EV.z).1.rep=q:=⟨_,rfl⟩;rw[eq]at d0 hrd hasc hwp;simp only at hrd hasc;have KB:=z7 (fun W=>z2j q rep hwp WE.out.rep hasc W);subst hrd;clear eb hasc hwp eq;have n0:(0:Int)<(k:Int):=by omega
    have n3:IntKind.i64.wrap ((k:Int)-1)=(k:Int)-1:=IntWalk.i64_in _ (by omega);have n1:(0:Int)≤(k:Int)-1:=by omega
    have n2:(k:Int)-1<(len:Int):=by omega
    have n4:((k:Int)-1).toNat=k-1:=by omega
    clear hk0;go_wp2_with fail
    go_quiet ((go_at_call 89;exact z44 (KB.out _)))
    go_wp2_with fail
    refine(KD.out _ (HP.out.below (zm (zc (Below.refl _ _) _) _))).mono ?_;rintro e w2 ⟨hb2,hor⟩;obtain⟨_,v2,rfl,hO2⟩:=hor.resolve_right (fun h=>h.1 (cor_apart CANE.out.cor));have B2:=z7 (zf (zm (zc HB.out _) _) hb2);have OB2:=z7 (HO.out.below (zf (zm (zc (Below.refl _ _) _) _) hb2));obtain⟨a2,cap2,rfl,hI2,_⟩:=hO2.ints (by rw[DL.out];omega);have CN2:=z7 (show a2=none→cap2=0 from fun e=>by subst e;exact own_cap0 hO2.row);have M2:=z7 (show(wr.alloc (.cells #[.int .u64 rep,.int .u64 mx,.slice ha hs.length hcap] 96)).heap.size≤w2.heap.size from Nat.le_trans (Nat.le_of_eq (by simp)) hb2.size);have k2:∀j x,(wr.alloc (.cells #[.int .u64 rep,.int .u64 mx,.slice ha hs.length hcap] 96)).cell? ⟨wr.heap.size,j,none⟩=some x→w2.cell? ⟨wr.heap.size,j,none⟩=some x:=fun j x hx=>zg (zf (zm (Below.refl _ _) _) hb2) (by simp) hx;have g0:=k2 0 _ (by simp;rfl);have g1:=k2 1 _ (by simp;rfl);have g2:=k2 2 _ (by simp;rfl);have I2:=z7 hI2;have hs2:=B2.out.size;clear hb2 hor hO2 hI2 KD k2;go_wp2_with(at_builtin;go_loud(refine z2w rfl _ _ rfl w0.heap.size _ [(rep-q-1),mx,(hs.length:Int)] rfl ?o1 a2 (dif hs 1 hs.length).length cap2 (dif hs 1 hs.length) rfl ?o2 CN2.out ?o3 ?o4 ?_))
    case o1=>exact⟨World.ownsRow_lit (base:=w0.heap.size) (e:=57) (size:=1) w2 #[.int .u64 (rep-q-1),.int .u64 mx,.int .u64 (hs.length:Int)] 3 hs2 (by decide) rfl,fun z hz=>by
     simp at hz
     rcases hz with rfl | rfl | rfl
     ·exact hrp.out
     ·exact WE.out.mx
     ·exact WHL.out⟩
    case o2=>exact I2.out.below (zc (Below.refl _ _) _)
    case o3=>rw[DL.out];simp;omega
    case o4=>simp;omega
    intro v3 w3 hO3 hg3;have B23:Below w2.heap.size w2 w3:=(zc (Below.refl _ _) _).grown hg3 (by simp) (fun q hq=>by
     obtain rfl:w2.heap.size=q:=by simpa[Value.ownBlock]using hq
     exact Nat.le_refl _)
    have B3:=z7 (zf B2.out B23);have OB3:=z7 (OB2.out.below B23);obtain⟨L,eL⟩:∃L,(rep-q-1) :: mx :: (hs.length:Int) :: dif hs 1 hs.length=L:=⟨_,rfl⟩;rw[eL]at hO3 NE;have hLl:L.length=3+2 * hs.length:=by rw[← NE.out,z2s]
    have LL:=z7 hLl;have hLm:L.length≤3000000:=by omega
    rw[NE.out]at NX;obtain⟨a3,cap3,rfl,_,_⟩:=hO3.ints (by omega);have O3:=z7 hO3;have MB:=z7 (show zs.length+10 * (numsTo es k).length+10 * L.length≤3900000000 by
     have h1:=ML.out;rw[NX.out,List.length_append]at h1;have:=MOST.out;omega)
    clear hO3 hg3 B23 eL hLl;obtain⟨n3,en3⟩:∃n3,L.length=n3:=⟨_,rfl⟩;rw[en3]at hLm ⊢;rw[en3]at MB;have EN3:=z7 en3;clear en3;have O3':Hid (OwnI w3 w0.heap.size (.slice a3 n3 cap3) L):=by have:=O3.out;rw[EN3.out]at this;exact this
    clear O3;obtain⟨wo,ewo⟩:∃wo:World,wo=wr:=⟨_,rfl⟩;clear ewo wo;go_wp2_with fail
    go_loopw [0,57] (fun o c wr'=>∃j:Nat,j≤n3∧c=.int .i64 j∧OwnB wr' w0.heap.size o (zs ++ joinB (numsTo es k ++ L.take j))∧OwnI wr' w0.heap.size (.slice a3 n3 cap3) L∧Below w0.heap.size w0 wr')
     (fun _ c _=>n3-(intOf c).toNat)
    case atStart=>exact⟨0,Nat.zero_le _,rfl,by simpa using OB3.out,O3'.out,B3.out⟩
    case round=>
     obtain⟨j,hj,rfl,hO4,hT4,hb4⟩:=hrel;have OB4:=z7 hO4;have OT4:=z7 hT4;have B4:=z7 hb4;clear hO4 hT4 hb4;by_cases hjl:j<n3
     ·obtain⟨a4,cap4,e4,hI4,_⟩:=OT4.out.ints (by rw[EN3.out];omega)
      obtain⟨rfl,hx3,rfl⟩:a3=a4∧n3=L.length∧cap3=cap4:=by simpa using e4
      clear hx3;obtain⟨b4,off4,rfl,hbl4,hc4⟩:=hI4.cells j (by rw[EN3.out];exact hjl);have hx:Word (L.getD j 0):=OT4.out.words _ (by
       rw[show L.getD j 0=L[j]'(by rw[EN3.out];exact hjl) by simp[List.getD,List.getElem?_eq_getElem (show j<L.length by rw[EN3.out];exact hjl)]];exact List.getElem_mem _)
      have TK:=z7 (show L.take (j+1)=L.take j ++ [L.getD j 0] by
       have hj':j<L.length:=by rw[EN3.out];exact hjl
       rw[List.take_succ_eq_append_getElem hj'];simp[List.getD,List.getElem?_eq_getElem hj'])
      obtain⟨x,ex⟩:∃x,L.getD j 0=x:=⟨_,rfl⟩;rw[ex]at hc4 hx TK;have HX:=z7 hx;have j0:(0:Int)≤(j:Int):=by omega
      have j1:(j:Int)<(n3:Int):=by omega
      have LT:=z7 (show(L.take j).length≤L.length from by rw[List.length_take];omega);clear e4 hI4 ex hx;go_wp2_with fail
      refine(z1x w0 _ _ x _ OB4.out B4.out HX.out (by
       rw[List.length_append];have h1:=z12 (numsTo es k ++ L.take j);rw[List.length_append]at h1;have h2:=MB.out;have h3:=LT.out;have h4:=EN3.out;omega)).mono ?_
      rintro e w5 ⟨v5,rfl,hO5,hb5,hg5⟩;have O5:Hid (OwnB w5 w0.heap.size v5 (zs ++ joinB (numsTo es k ++ L.take (j+1)))):=z7 (by
       rw[TK.out,← List.append_assoc (numsTo es k),z1m,← List.append_assoc zs];exact hO5)
      have T5:=z7 (OT4.out.only hg5.only (fun q hq hq'=>Typed.ne (zj OB4.out.row hq') (zj OT4.out.row hq) (by decide) rfl));clear hO5 hg5;go_wp2
      go_roundw
      case rel=>first | exact⟨j+1,by omega,by go_num,O5.out,T5.out,hb5⟩ | ((repeat apply Exists.intro);exact⟨⟨j+1,by omega,by go_num,O5.out,T5.out,hb5⟩,rfl⟩)
      case measure=>simp[intOf];omega
     ·obtain rfl:j=n3:=by omega
      have O6:=OB4.out;rw[← EN3.out,List.take_length,← NX.out]at O6;have O6:=z7 O6;go_wp2
      go_roundw
      case rel=>first | exact⟨k+1,by omega,by go_num,O6.out,B4.out⟩ | ((repeat apply Exists.intro);exact⟨⟨k+1,by omega,by go_num,O6.out,B4.out⟩,rfl⟩)
      case measure=>simp[intOf];omega
  ·obtain rfl:k=len:=by omega
   go_wp2
   go_ret
   refine⟨_,rfl,?_,HB.out⟩;have:=HO.out;rw[HL.out]at this;exact this
end Go.Proofs.YtbkkolfpegplgaaGreatDoor
