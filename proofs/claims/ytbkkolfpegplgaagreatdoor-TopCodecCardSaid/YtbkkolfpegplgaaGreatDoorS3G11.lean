/- pack's Reader: the state replica. -/
import Derived.Test.YtbkkolfpegplgaaGreatDoorS3G8
import Derived.Test.YtbkkolfpegplgaaGreatDoorS3G10
set_option maxHeartbeats 3200000
set_option maxRecDepth 100000
namespace Go.Proofs.YtbkkolfpegplgaaGreatDoor
open Go Go.RowKit
theorem z49:(Tryz.prog.info? 96).map (fun i=>(i.zero,i.size,i.bytes))=some (some (.agg #[.int .u64 0,.int .u64 0,.slice none 0 0]),3,40):=by kernel_rfl
theorem zl{w:World}{base:Nat}{e:TypeId}{size:Nat}{v:Value}{n:Nat}{xs:List Value}(h:w.ownsRow base e size v n xs):∃a cap,v=.slice a n cap∧n≤9223372036854775807:=by
 rcases h.2 with⟨hv,rfl⟩ | ⟨g,cap,cur,hv,hg,hc,hle,hm,_⟩
 ·exact⟨_,_,hv,by omega⟩
 ·unfold maxLen at hm
  exact⟨_,_,hv,by omega⟩
theorem own_some{w:World}{base:Nat}{v:Value}{l:List EV}{m:Nat}(h:w.ownsRow base 96 3 v l.length (cellsE l))(hm:l.length=m+1) :
  ∃g cap,v=.slice (some ⟨g,0,none⟩) (m+1) cap∧base≤g∧w.cell? ⟨g,m * 3,none⟩=some (.int .u64 (l.getD m EV.z).1.rep):=by
 rcases h.2 with⟨_,hn⟩ | ⟨g,cap,cur,hv,hg,hc,hle,hmm,_⟩
 ·omega
 ·subst hv
  refine⟨g,cap,by rw[hm],hg,?_⟩;rw[h.cellAt _ (by omega)];exact(cellsE_at l m (by omega)).1
theorem lastRep_map(l:List EV)(m:Nat)(hm:l.length=m+1):lastRep (l.map (·.1))=(l.getD m EV.z).1.rep:=by
 unfold lastRep;rw[List.length_map,hm,Nat.add_sub_cancel];simp[List.getD,List.getElem?_map,List.getElem?_eq_getElem (show m<l.length by omega)]
theorem z4z{w:World}{b:Nat}{x y z:Value}{t:TypeId}(h:w.heap[b]?=some (.cells #[x,y,z] t (0,0))):∀j u,[x,y,z][j]?=some u→w.cell? ((⟨b,0,none⟩:Addr).add j)=some u:=by
 intro j u hj;have ea:∀j,(⟨b,0,none⟩:Addr).add j=⟨b,0+j,none⟩:=by
  intro j;unfold Addr.add;split<;>simp_all
 rw[ea];match j,hj with
 | 0,hj=>simp at hj;subst hj;simp[World.cell?,h]
 | 1,hj=>simp at hj;subst hj;simp[World.cell?,h]
 | 2,hj=>simp at hj;subst hj;simp[World.cell?,h]
theorem nilHoles{w:World}{base:Nat}:OwnL w base 123 (.slice none 0 0) []:=⟨World.ownsRow_nil _ _ _ _,by simp⟩
theorem rep_push{w w3:World}{base r:Nat}{lm:Lim}{fn er v v' cp:Value}{ents hls x:Int}{l:List EV}{o:Obj}(hR:RdR w r lm fn er v ents hls cp)(hF:RowF w base v l)(hbr:base≤r)
  (hown:w3.ownsRow base 96 3 v' (l.length+1) (cellsE l ++ [.int .u64 x,.int .u64 0,.slice none 0 0])) (hg:(w.alloc o).grownBy w3 v.ownBlock) (hx:Word x) :
  RdR w3 r lm fn er v ents hls cp∧RdR (w3.setCell ⟨r,7,none⟩ v') r lm fn er v' ents hls cp∧RowC (w3.setCell ⟨r,7,none⟩ v') base v' l ⟨x,0,[]⟩ w.heap.size (.slice none 0 0)∧Below base w (w3.setCell ⟨r,7,none⟩ v'):=by
 have hlt:=hR.lt;have o1:Only (fun b=>v.ownBlock=some b) w w3:=((Only.refl _ w).alloc o).trans (z2o hg);have nr:¬v.ownBlock=some r:=fun hk=>hR.typed.ne (zj hF.row hk) (by decide) rfl;have hR3:=hR.only o1 nr;have o2:Only (fun b=>b=r) w3 (w3.setCell ⟨r,7,none⟩ v'):=(Only.refl (fun b=>b=r) w3).setCell (p:=⟨r,7,none⟩) (.inl rfl) _;have o3:Only (fun b=>v.ownBlock=some b∨b=r) w (w3.setCell ⟨r,7,none⟩ v'):=(o1.wide (fun _ h=>.inl h)).trans (o2.wide (fun _ h=>.inr h));refine⟨hR3,hR3.s7 v',⟨?_,by omega,o3.size,fun p hp=>?_,hF.words,nilHoles,⟨hx,zero_word,by simp⟩⟩,?_⟩
 ·rw[cellsE_snoc]at hown
  exact zo hown o2 (fun k hk hy=>by subst hy;exact hR3.typed.ne (zj hown hk) (by decide) rfl)
 ·refine(hF.fins p hp).only o3 fun k hk=>.inr ?_
  rcases hk with hk | rfl
  ·exact Typed.not (zj hF.row hk) (by decide)
  ·exact hR.typed.not (by decide)
 ·refine o3.below (by omega) fun k hk=>?_
  rcases hk with hk | rfl
  ·exact(hF.row.lt k hk).1
  ·exact hbr
theorem rep_first(lm:Lim)(base r:Nat)(fn v cp:Value)(ents hls x rest:Int)(w:World)(hbr:base≤r)(hR:RdR w r lm fn .nilIface v ents hls cp)(hF:RowF w base v [])(hx:Word x) :
  Calls Tryz.prog 262 #[.pointer (some ⟨r,0,none⟩),.int .u64 x,.int .i64 rest] w fun e w'=>e=.returned (.tuple #[fnV r 268,.nilIface]) ∧
   Below base w w'∧∃v',RdR w' r lm fn .nilIface v' ents hls cp∧RowC w' base v' [] ⟨x,0,[]⟩ w.heap.size (.slice none 0 0):=by
 obtain⟨i0,hi,hz0,hz1,hz2⟩:=info_parts z49;obtain⟨a,cap,rfl,_⟩:=zl hF.row;have c7:=hR.c7;have fz:=hR.free;have hlt:=hR.lt;have HR:=z7 hR;have HF:=z7 hF;have hx':=z7 hx;clear hR hF hx;go_enter Tryz.func262,Tryz.ntmps262
 go_wp2_with(at_builtin;refine wpList_append_own_at _ rfl _ _ 76 rfl base 96 i0 (.agg #[.int .u64 0,.int .u64 0,.slice none 0 0]) 3 40 Tryz.underlying76 hi hz0 hz1 hz2 rfl (by decide) _ _ _ rfl (HF.out.row.alloc _) ⟨w.heap.size,0,none⟩ 1 1 [.int .u64 x,.int .u64 0,.slice none 0 0] rfl rfl ?z1 ?z2 ?z3 ?z4 ?z5 ?_)
 case z1=>exact z4z (ze _ _ rfl)
 case z2=>intro u hu;simp at hu;rcases hu with rfl | rfl | rfl<;>rfl
 case z3=>simp;unfold maxLen;omega
 case z4=>simp
 case z5=>first | omega | (simp;omega)
 intro v' w3 hown hgrow _ _;obtain⟨a',cap',rfl,_⟩:=zl hown;have K:=z7 (rep_push HR.out HF.out hbr hown hgrow hx'.out);have d7:=K.out.1.c7;have f7:=K.out.1.free;clear hown hgrow;go_wp2
 go_ret2
 exact⟨rfl,K.out.2.2.2,_,K.out.2.1,K.out.2.2.1⟩
theorem getD_mem{l:List EV}{m:Nat}(h:m<l.length):l.getD m EV.z∈l:=by
 have e:l.getD m EV.z=l[m]:=by simp[List.getD,List.getElem?_eq_getElem h]
 rw[e];exact List.getElem_mem _
theorem rep_over(lm:Lim)(base r m:Nat)(fn v cp:Value)(l:List EV)(ents hls x rest:Int)(w:World)(hR:RdR w r lm fn .nilIface v ents hls cp)(hF:RowF w base v l)(hl:l.length=m+1)(hx:Word x)(hs:¬(l.getD m EV.z).1.rep+1+x<18446744073709551616) :
  Calls Tryz.prog 262 #[.pointer (some ⟨r,0,none⟩),.int .u64 x,.int .i64 rest] w fun e w'=>e=.returned (.tuple #[.nilFunc,.iface 42 (.int .i64 8)])∧Below w.heap.size w w':=by
 obtain⟨g,cap,rfl,hbg,hc⟩:=own_some hF.row hl;have hw:EntW (l.getD m EV.z).1:=hF.words _ (getD_mem (by omega));have hlw:=(zl hF.row).choose_spec.choose_spec.2;have c7:=hR.c7;obtain⟨q,eq⟩:∃q,(l.getD m EV.z).1.rep=q:=⟨_,rfl⟩;have hq:Word q:=by rw[← eq];exact hw.rep
 rw[eq]at hc hs;have q0:IntKind.i64.wrap (((m+1:Nat):Int)-1)=(m:Int):=by rw[IntKind.wrap_i64];omega
 have q1:(0:Int)≤(m:Int):=by omega
 have q2:(m:Int)<((m+1:Nat):Int):=by omega
 have q3:(0:Int)<((m+1:Nat):Int):=by omega
 have KS:=z7 (fun(W:World) (b:Nat) (hW:W.heap[b]?=some (.cells #[.int .u64 q,.int .u64 1,.int .u64 x] 57 (0,0)))=>sum_no (some ⟨b,0,none⟩) 3 3 [q,1,x] W (ints3 hq z3p hx hW) (by simp;omega));obtain⟨n,en⟩:∃n,n=m+1:=⟨_,rfl⟩;rw[← en]at c7 q0 q2 q3;clear hs hx hq hw hF hR eq hl en hlw;go_enter Tryz.func262,Tryz.ntmps262
 go_wp2_with fail
 refine(KS.out _ _ (ze _ _ rfl)).mono ?_;rintro e w1 ⟨rfl,b1⟩;go_wp2
 go_ret2
 exact⟨rfl,zf (zc (Below.refl _ _) _) b1⟩
theorem rep_more(lm:Lim)(base r m:Nat)(fn v cp:Value)(l:List EV)(ents hls x rest:Int)(w:World)(hbr:base≤r)(hR:RdR w r lm fn .nilIface v ents hls cp)(hF:RowF w base v l)(hl:l.length=m+1)(hm:m≤4000000000)(hx:Word x)(hs:(l.getD m EV.z).1.rep+1+x<18446744073709551616) :
  Calls Tryz.prog 262 #[.pointer (some ⟨r,0,none⟩),.int .u64 x,.int .i64 rest] w fun e w'=>e=.returned (.tuple #[fnV r 268,.nilIface]) ∧
   Below base w w'∧∃v' B,B≤w'.heap.size∧RdR w' r lm fn .nilIface v' ents hls cp∧RowC w' base v' l ⟨(l.getD m EV.z).1.rep+1+x,0,[]⟩ B (.slice none 0 0):=by
 obtain⟨i0,hi,hz0,hz1,hz2⟩:=info_parts z49;obtain⟨g,cap,rfl,hbg,hc⟩:=own_some hF.row hl;have hw:EntW (l.getD m EV.z).1:=hF.words _ (getD_mem (by omega));have hlw:=(zl hF.row).choose_spec.choose_spec.2;have c7:=hR.c7;obtain⟨q,eq⟩:∃q,(l.getD m EV.z).1.rep=q:=⟨_,rfl⟩;have hq:Word q:=by rw[← eq];exact hw.rep
 rw[eq]at hc hs ⊢;have q0:IntKind.i64.wrap (((m+1:Nat):Int)-1)=(m:Int):=by rw[IntKind.wrap_i64];omega
 have q1:(0:Int)≤(m:Int):=by omega
 have q2:(m:Int)<((m+1:Nat):Int):=by omega
 have q3:(0:Int)<((m+1:Nat):Int):=by omega
 obtain⟨s,es⟩:∃s,q+1+x=s:=⟨_,rfl⟩;have hsw:Word s:=by have:=hx.1;have:=hq.1;exact⟨by omega,by omega⟩
 have KS:=z7 (fun(W:World) (b:Nat) (hW:W.heap[b]?=some (.cells #[.int .u64 q,.int .u64 1,.int .u64 x] 57 (0,0)))=>sum_yes (some ⟨b,0,none⟩) 3 3 [q,1,x] s W (ints3 hq z3p hx hW) (by simp;omega) (by omega));rw[es];have HL:=z7 hl;obtain⟨n,en⟩:∃n,n=m+1:=⟨_,rfl⟩;have hn:n≤4000000001:=by omega
 rw[← en]at c7 q0 q2 q3 hR hF HL;have HR:=z7 hR;have HF:=z7 hF;have HS:=z7 hsw;have hlt:=hR.lt;clear hs hx hq hw hF hR eq hl en hlw es hsw;go_enter Tryz.func262,Tryz.ntmps262
 go_wp2_with fail
 refine(KS.out _ _ (ze _ _ rfl)).mono ?_;rintro e w1 ⟨rfl,b1⟩;have B1:=z7 (zf (zc (Below.refl _ _) _) b1);have hR1:=HR.out.below B1.out;have d7:=hR1.c7;have fz:=hR1.free;have F1:=z7 (HF.out.only (may:=fun _=>False) (Only.of_below B1.out) (fun _ hk=>hk.elim));have HR1:=z7 hR1;have hlt1:=hR1.lt;clear b1 hR1 c7 hc;go_wp2_with(at_builtin;refine wpList_append_own_at _ rfl _ _ 76 rfl base 96 i0 (.agg #[.int .u64 0,.int .u64 0,.slice none 0 0]) 3 40 Tryz.underlying76 hi hz0 hz1 hz2 rfl (by decide) _ _ _ rfl (F1.out.row.alloc _) ⟨w1.heap.size,0,none⟩ 1 1 [.int .u64 s,.int .u64 0,.slice none 0 0] rfl rfl ?z1 ?z2 ?z3 ?z4 ?z5 ?_)
 case z1=>exact z4z (ze _ _ rfl)
 case z2=>intro u hu;simp at hu;rcases hu with rfl | rfl | rfl<;>rfl
 case z3=>rw[HL.out];unfold maxLen;omega
 case z4=>rw[HL.out];omega
 case z5=>first | omega | (simp;omega)
 intro v' w3 hown hgrow _ _;obtain⟨a',cap',rfl,_⟩:=zl hown;have K:=z7 (rep_push HR1.out F1.out hbr hown hgrow HS.out);have e7:=K.out.1.c7;have f7:=K.out.1.free;clear hown hgrow;go_wp2
 go_ret2
 exact⟨rfl,(zq B1.out (by omega)).trans K.out.2.2.2,_,_,K.out.2.2.1.lt,K.out.2.1,K.out.2.2.1⟩
theorem rep_any(lm:Lim)(base r:Nat)(fn:Value)(s:St)(x rest:Int)(w:World)(h:MemF w base r lm fn .nilIface s)(hp:s.ph=.rep)(hx:Word x)(hm:s.es.length≤4000000000) :
  Calls Tryz.prog 262 #[.pointer (some ⟨r,0,none⟩),.int .u64 x,.int .i64 rest] w fun e w'=>StepPost lm base r fn (stepS lm s x rest) w e w':=by
 obtain⟨ph,es,cur,ents,hls⟩:=s;obtain rfl:ph=.rep:=hp;obtain⟨hbr,v,cp,hR,l,hes,hF⟩:=h;have hes':l.map (·.1)=es:=hes;subst hes';have e0:stepS lm ⟨.rep,l.map (·.1),cur,ents,hls⟩ x rest=if l.map (·.1)=[] then .ok ⟨.top,l.map (·.1),⟨x,0,[]⟩,ents,hls⟩else if lastRep (l.map (·.1))+1+x<18446744073709551616 then .ok ⟨.top,l.map (·.1),⟨lastRep (l.map (·.1))+1+x,0,[]⟩,ents,hls⟩else .error 8:=rfl;by_cases g:l=[]
 ·subst g
  refine(rep_first lm base r fn v cp ents hls x rest w hbr hR hF hx).mono ?_;rintro e w' ⟨he,hb,v',h1,h2⟩;exact .ok (e0.trans (if_pos rfl)) hb he ⟨hbr,v',cp,h1,[],_,_,rfl,h2,rfl⟩
 ·obtain⟨m,hl⟩:∃m,l.length=m+1:=⟨l.length-1,by have:=List.length_pos_iff.2 g;omega⟩
  have g':¬l.map (·.1)=[]:=by simpa using g
  rw[if_neg g',lastRep_map l m hl]at e0;have hm':l.length≤4000000000:=by simpa using hm
  by_cases hs:(l.getD m EV.z).1.rep+1+x<18446744073709551616
  ·refine(rep_more lm base r m fn v cp l ents hls x rest w hbr hR hF hl (by omega) hx hs).mono ?_
   rintro e w' ⟨he,hb,v',B,_,h1,h2⟩;exact .ok (e0.trans (if_pos hs)) hb he ⟨hbr,v',cp,h1,l,_,_,rfl,h2,rfl⟩
  ·refine(rep_over lm base r m fn v cp l ents hls x rest w hR hF hl hx hs).mono ?_
   rintro e w' ⟨he,hb⟩;exact .err (e0.trans (if_neg hs)) (zq hb (by have:=hR.lt;omega)) he _ _ _ _ (hR.below hb)
end Go.Proofs.YtbkkolfpegplgaaGreatDoor
