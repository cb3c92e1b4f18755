import Derived.Test.YtbkkolfpegplgaaGreatDoorTG8
import Derived.Test.YtbkkolfpegplgaaGreatDoorTG10
open Go.Proofs.Tryz
set_option maxHeartbeats 3200000
set_option maxRecDepth 100000
namespace Go.Proofs.YtbkkolfpegplgaaGreatDoor
open Go Go.RowKit
theorem iK:(prog.info? 96).map (fun i=>(i.zero,i.size,i.bytes))=some (some (.agg #[.int .u64 0,.int .u64 0,.slice none 0 0]),3,40):=aC
theorem aY{w:World}{base:Nat}{e:TypeId}{size:Nat}{v:Value}{n:Nat}{xs:List Value}(h:w.ownsRow base e size v n xs):∃a cap,v=.slice a n cap∧n≤9223372036854775807:=by
 rcases h.2 with⟨hv,rfl⟩ | ⟨g,cap,cur,hv,hg,hc,hle,hm,_⟩
 ·exact⟨_,_,hv,aA⟩
 unfold maxLen at hm;exact⟨_,_,hv,aA⟩
theorem Gf{w:World}{base:Nat}{v:Value}{l:List EV}{m:Nat}(h:w.ownsRow base 96 3 v l.length (cI l))(b:l.length=m+1) :
  ∃g cap,v=.slice (some ⟨g,0,none⟩) (m+1) cap∧base≤g∧w.cell? ⟨g,m * 3,none⟩=some (.int .u64 (l.getD m EV.z).1.rep):=by
 rcases h.2 with⟨_,hn⟩ | ⟨g,cap,cur,hv,hg,hc,hle,hmm,_⟩
 ·omega
 subst hv;refine⟨g,cap,by rw[b],hg,?_⟩;rw[h.cellAt _ aA];exact(tT l m aA).1
theorem Hb(l:List EV)(m:Nat)(b:l.length=m+1):dR (l.map (·.1))=(l.getD m EV.z).1.rep:=by
 unfold dR;rw[List.length_map,b,Nat.add_sub_cancel];simp[List.getD,List.getElem?_map,List.getElem?_eq_getElem (show m<l.length by omega)]
theorem iI{w:World}{b:Nat}{x y z:Value}{t:TypeId}(h:w.heap[b]?=some (.cells #[x,y,z] t (0,0))):∀j u,[x,y,z][j]?=some u→w.cell? ((⟨b,0,none⟩:Addr).add j)=some u:=by
 intro j u l;have m:∀j,(⟨b,0,none⟩:Addr).add j=⟨b,0+j,none⟩:=by
  intro j;unfold Addr.add;split<;>simp_all
 rw[m];match j,l with
 | 0,l=>simp at l;subst l;simp[World.cell?,h]
 | 1,l=>simp at l;subst l;simp[World.cell?,h]
 | 2,l=>simp at l;subst l;simp[World.cell?,h]
theorem Vh{w:World}{base:Nat}:OwnL w base 123 (.slice none 0 0) []:=⟨World.ownsRow_nil _ _ _ _,aD⟩
theorem Fp{w w3:World}{base r:Nat}{lm:cD}{fn A v n cp:Value}{ents hls x:Int}{l:List EV}{o:Obj}(y:RdR w r lm fn A v ents hls cp)(u:RowF w base v l)(B:base≤r)
  (m:w3.ownsRow base 96 3 n (l.length+1) (cI l ++ [.int .u64 x,.int .u64 0,.slice none 0 0])) (I:(w.alloc o).grownBy w3 v.ownBlock) (J:aL x) :
  RdR w3 r lm fn A v ents hls cp∧RdR (w3.setCell ⟨r,7,none⟩ n) r lm fn A n ents hls cp∧RowC (w3.setCell ⟨r,7,none⟩ n) base n l ⟨x,0,[]⟩ w.heap.size (.slice none 0 0)∧Below base w (w3.setCell ⟨r,7,none⟩ n):=by
 have E:=y.lt;have C:Only (fun b=>v.ownBlock=some b) w w3:=((Only.refl _ w).alloc o).trans (iR I);have F:¬v.ownBlock=some r:=fun j=>y.typed.ne (aR u.row j) aB rfl;have s:=y.only C F;have D:Only (fun b=>b=r) w3 (w3.setCell ⟨r,7,none⟩ n):=(Only.refl (fun b=>b=r) w3).setCell (p:=⟨r,7,none⟩) (.inl rfl) _;have z:Only (fun b=>v.ownBlock=some b∨b=r) w (w3.setCell ⟨r,7,none⟩ n):=(C.wide (fun _ h=>.inl h)).trans (D.wide (fun _ h=>.inr h));refine⟨s,s.s7 n,⟨?_,aA,z.size,fun p G=>?_,u.words,Vh,⟨J,Og,aD⟩⟩,?_⟩
 ·rw[In]at m;exact bF m D (fun k j H=>by subst H;exact s.typed.ne (aR m j) aB rfl)
 ·refine(u.fins p G).only z fun k j=>.inr ?_;rcases j with j | rfl
  ·exact Typed.not (aR u.row j) aB
  exact y.typed.not aB
 refine z.below aA fun k j=>?_;rcases j with j | rfl
 ·exact(u.row.lt k j).1
 exact B
theorem Pm(lm:cD)(base r:Nat)(fn v cp:Value)(ents hls x rest:Int)(w:World)(z:base≤r)(l:RdR w r lm fn .nilIface v ents hls cp)(A:RowF w base v [])(E:aL x) :
  Calls prog 262 #[.pointer (some ⟨r,0,none⟩),.int .u64 x,.int .i64 rest] w fun e w'=>e=.returned (.tuple #[tN r 268,.nilIface]) ∧
   Below base w w'∧∃y,RdR w' r lm fn .nilIface y ents hls cp∧RowC w' base y [] ⟨x,0,[]⟩ w.heap.size (.slice none 0 0):=by
 obtain⟨H,hi,n,p,s⟩:=info_parts iK;obtain⟨a,cap,rfl,_⟩:=aY A.row;have I:=l.c7;have J:=l.free;have F:=l.lt;have G:=aI l;have B:=aI A;have m:=aI E;clear l A E;go_enter func262,ntmps262;go_wp2_with(at_builtin;refine wpList_append_own_at _ rfl _ _ 76 rfl base 96 H (.agg #[.int .u64 0,.int .u64 0,.slice none 0 0]) 3 40 underlying76 hi n p s rfl aB _ _ _ rfl (B.row.alloc _) ⟨w.heap.size,0,none⟩ 1 1 [.int .u64 x,.int .u64 0,.slice none 0 0] rfl rfl ?z1 ?z2 ?z3 ?z4 ?z5 ?_)
 case z1=>exact iI (aK _ _ rfl)
 case z2=>intro u D;simp at D;rcases D with rfl | rfl | rfl<;>rfl
 case z3=>simp;unfold maxLen;omega
 case z4=>simp
 case z5=>first | omega | (simp;omega)
 intro y O b j _ _;obtain⟨N,C,rfl,_⟩:=aY b;have K:=aI (Fp G B z b j m);have L:=K.1.c7;have M:=K.1.free;clear b j;go_wp2;go_ret2;exact⟨rfl,K.2.2.2,_,K.2.1,K.2.2.1⟩
theorem yG{l:List EV}{m:Nat}(h:m<l.length):l.getD m EV.z∈l:=by
 have e:l.getD m EV.z=l[m]:=by simp[List.getD,List.getElem?_eq_getElem h]
 rw[e];exact List.getElem_mem _
theorem rep_over(lm:cD)(base r m:Nat)(fn v cp:Value)(l:List EV)(ents hls x rest:Int)(w:World)(A:RdR w r lm fn .nilIface v ents hls cp)(j:RowF w base v l)(B:l.length=m+1)(C:aL x)(hs:¬(l.getD m EV.z).1.rep+1+x<18446744073709551616) :
  Calls prog 262 #[.pointer (some ⟨r,0,none⟩),.int .u64 x,.int .i64 rest] w fun e w'=>e=.returned (.tuple #[.nilFunc,.iface 42 (.int .i64 8)])∧Below w.heap.size w w':=by
 obtain⟨g,cap,rfl,I,J⟩:=Gf j.row B;have u:EntW (l.getD m EV.z).1:=j.words _ (yG aA);have p:=(aY j.row).choose_spec.choose_spec.2;have D:=A.c7;obtain⟨q,s⟩:=aG ((l.getD m EV.z).1.rep);have y:aL q:=by rw[← s];exact u.rep
 rw[s]at J hs;have E:IntKind.i64.wrap (((m+1:Nat):Int)-1)=(m:Int):=by rw[IntKind.wrap_i64];omega
 have L:(0:Int)≤(m:Int):=aA;have F:(m:Int)<((m+1:Nat):Int):=aA;have G:(0:Int)<((m+1:Nat):Int):=aA;have H:=aI (fun(W:World) (b:Nat) (K:W.heap[b]?=some (.cells #[.int .u64 q,.int .u64 1,.int .u64 x] 57 (0,0)))=>Te (some ⟨b,0,none⟩) 3 3 [q,1,x] W (BX y iV C K) (by simp;omega));obtain⟨n,en⟩:=aH (m+1);rw[← en]at D E F G;clear hs C y u j A s B en p;go_enter func262,ntmps262;go_wp2_with fail;refine(H _ _ (aK _ _ rfl)).mono ?_;rintro e M ⟨rfl,b1⟩;go_wp2;go_ret2;exact⟨rfl,aN (aJ (Below.refl _ _) _) b1⟩
theorem Uf(lm:cD)(base r m:Nat)(fn v cp:Value)(l:List EV)(ents hls x rest:Int)(w:World)(P:base≤r)(D:RdR w r lm fn .nilIface v ents hls cp)(A:RowF w base v l)(Q:l.length=m+1)(hm:m≤4000000000)(R:aL x)(hs:(l.getD m EV.z).1.rep+1+x<18446744073709551616) :
  Calls prog 262 #[.pointer (some ⟨r,0,none⟩),.int .u64 x,.int .i64 rest] w fun e w'=>e=.returned (.tuple #[tN r 268,.nilIface]) ∧
   Below base w w'∧∃O B,B≤w'.heap.size∧RdR w' r lm fn .nilIface O ents hls cp∧RowC w' base O l ⟨(l.getD m EV.z).1.rep+1+x,0,[]⟩ B (.slice none 0 0):=by
 obtain⟨i0,hi,J,L,M⟩:=info_parts iK;obtain⟨g,cap,rfl,A1,X⟩:=Gf A.row Q;have S:EntW (l.getD m EV.z).1:=A.words _ (yG aA);have E:=(aY A.row).choose_spec.choose_spec.2;have T:=D.c7;obtain⟨q,N⟩:=aG ((l.getD m EV.z).1.rep);have F:aL q:=by rw[← N];exact S.rep
 rw[N]at X hs ⊢;have q0:IntKind.i64.wrap (((m+1:Nat):Int)-1)=(m:Int):=by rw[IntKind.wrap_i64];omega
 have q1:(0:Int)≤(m:Int):=aA;have q2:(m:Int)<((m+1:Nat):Int):=aA;have q3:(0:Int)<((m+1:Nat):Int):=aA;obtain⟨s,es⟩:=aG (q+1+x);have C:aL s:=by have:=R.1;have:=F.1;exact⟨aA,aA⟩
 have KS:=aI (fun(W:World) (b:Nat) (hW:W.heap[b]?=some (.cells #[.int .u64 q,.int .u64 1,.int .u64 x] 57 (0,0)))=>Lw (some ⟨b,0,none⟩) 3 3 [q,1,x] s W (BX F iV R hW) (by simp;omega) aA);rw[es];have G:=aI Q;obtain⟨n,en⟩:=aH (m+1);have hn:n≤4000000001:=aA;rw[← en]at T q0 q2 q3 D A G;have HR:=aI D;have HF:=aI A;have HS:=aI C;have A0:=D.lt;clear hs R F S A D N Q en E es C;go_enter func262,ntmps262;go_wp2_with fail;refine(KS _ _ (aK _ _ rfl)).mono ?_;rintro e w1 ⟨rfl,b1⟩;have H:=aI (aN (aJ (Below.refl _ _) _) b1);have j:=HR.below H;have d7:=j.c7;have fz:=j.free;have U:=aI (HF.only (may:=fun _=>False) (Only.of_below H) (fun _ hk=>hk.elim));have I:=aI j;have V:=j.lt;clear b1 j T X;go_wp2_with(at_builtin;refine wpList_append_own_at _ rfl _ _ 76 rfl base 96 i0 (.agg #[.int .u64 0,.int .u64 0,.slice none 0 0]) 3 40 underlying76 hi J L M rfl aB _ _ _ rfl (U.row.alloc _) ⟨w1.heap.size,0,none⟩ 1 1 [.int .u64 s,.int .u64 0,.slice none 0 0] rfl rfl ?z1 ?z2 ?z3 ?z4 ?z5 ?_)
 case z1=>exact iI (aK _ _ rfl)
 case z2=>intro u Z;simp at Z;rcases Z with rfl | rfl | rfl<;>rfl
 case z3=>rw[G.out];unfold maxLen;omega
 case z4=>rw[G.out];omega
 case z5=>first | omega | (simp;omega)
 intro O w3 p y _ _;obtain⟨a',Y,rfl,_⟩:=aY p;have K:=aI (Fp I U P p y HS);have e7:=K.1.c7;have f7:=K.1.free;clear p y;go_wp2;go_ret2;exact⟨rfl,(below_of H aA).trans K.2.2.2,_,_,K.2.2.1.lt,K.2.1,K.2.2.1⟩
theorem Yx(lm:cD)(base r:Nat)(fn:Value)(s:St)(x rest:Int)(w:World)(h:MemF w base r lm fn .nilIface s)(I:s.ph=.rep)(F:aL x)(J:s.es.length≤4000000000) :
  Calls prog 262 #[.pointer (some ⟨r,0,none⟩),.int .u64 x,.int .i64 rest] w fun e w'=>StepPost lm base r fn (bU lm s x rest) w e w':=by
 obtain⟨ph,es,cur,ents,hls⟩:=s;obtain rfl:ph=.rep:=I;obtain⟨b,v,cp,p,l,A,C⟩:=h;have n:l.map (·.1)=es:=A;subst n;have y:bU lm ⟨.rep,l.map (·.1),cur,ents,hls⟩ x rest=if l.map (·.1)=[] then .ok ⟨.top,l.map (·.1),⟨x,0,[]⟩,ents,hls⟩else if dR (l.map (·.1))+1+x<18446744073709551616 then .ok ⟨.top,l.map (·.1),⟨dR (l.map (·.1))+1+x,0,[]⟩,ents,hls⟩else .error 8:=rfl;by_cases g:l=[]
 ·subst g;refine(Pm lm base r fn v cp ents hls x rest w b p C F).mono ?_;rintro e w' ⟨u,j,D,h1,h2⟩;exact .ok (y.trans (if_pos rfl)) j u ⟨b,D,cp,h1,[],_,_,rfl,h2,rfl⟩
 obtain⟨m,E⟩:∃m,l.length=m+1:=⟨l.length-1,by have:=List.length_pos_iff.2 g;omega⟩;have G:¬l.map (·.1)=[]:=by simpa using g
 rw[if_neg G,Hb l m E]at y;have H:l.length≤4000000000:=by simpa using J
 by_cases hs:(l.getD m EV.z).1.rep+1+x<18446744073709551616
 ·refine(Uf lm base r m fn v cp l ents hls x rest w b p C E aA F hs).mono ?_;rintro e w' ⟨u,j,D,B,_,h1,h2⟩;exact .ok (y.trans (if_pos hs)) j u ⟨b,D,cp,h1,l,_,_,rfl,h2,rfl⟩
 refine(rep_over lm base r m fn v cp l ents hls x rest w p C E F hs).mono ?_;rintro e w' ⟨u,j⟩;exact .err (y.trans (if_neg hs)) (below_of j (by have:=p.lt;omega)) u _ _ _ _ (p.below j)
end Go.Proofs.YtbkkolfpegplgaaGreatDoor
