import Derived.Test.YtbkkolfpegplgaaGreatDoorTG7
import Derived.BigQuiet
open Go.RowKit.Below renaming refl→PC
open Go.Proofs.Tryz
set_option maxHeartbeats 3200000
set_option maxRecDepth 100000
namespace Go.Proofs.YtbkkolfpegplgaaGreatDoor
open Go Go.RowKit
theorem dM{w:World}{base:Nat}{v:Value}{l:List EV}{e:Ent}{B:Nat}{hv:Value}(h:RowC w base v l e B hv) :
  ∃g cap,v=.slice (some ⟨g,0,none⟩) (l.length+1) cap∧base≤g∧g<w.heap.size∧Typed w 96 g∧l.length+1≤9223372036854775807∧(∀j,w.frozen? ⟨g,j,none⟩=false) ∧
   w.cell? ⟨g,l.length * 3,none⟩=some (.int .u64 e.rep)∧w.cell? ⟨g,l.length * 3+1,none⟩=some (.int .u64 e.mx)∧w.cell? ⟨g,l.length * 3+2,none⟩=some hv:=by
 have b:=h.row;rcases b.2 with⟨_,hn⟩ | ⟨g,cap,cur,hv',hg,hc,hle,hm,_⟩
 ·omega
 subst hv';obtain⟨m,n,p⟩:=Io l e hv;refine⟨g,cap,rfl,hg,(Array.getElem?_eq_some_iff.1 hc).1,⟨cur,hc⟩,by unfold maxLen at hm;omega,b.frozenAt,?_,?_,?_⟩
 ·rw[b.cellAt _ aA];exact m
 ·rw[b.cellAt _ aA];exact n
 rw[b.cellAt _ aA];exact p
theorem tP(lm:cD)(r g n cap:Nat)(fn s cp:Value)(ents hls:Int)(w:World)(h:RdR w r lm fn s (.slice (some ⟨g,0,none⟩) (n+1) cap) ents hls cp)(u:n+1≤9223372036854775807) :
  Calls prog 270 #[.pointer (some ⟨r,0,none⟩)] w fun e w'=>e=.returned (.pointer (some ⟨g,n * 3,none⟩))∧Below w.heap.size w w':=by
 have j:=h.c7;have l:IntKind.i64.wrap (((n+1:Nat):Int)-1)=(n:Int):=by rw[IntKind.wrap_i64];omega
 have y:(0:Int)≤(n:Int):=aA;have p:(n:Int)<((n+1:Nat):Int):=aA;clear h;obtain⟨m,b⟩:=aH (n+1);rw[← b]at j l p;clear b u;go_enter func270,ntmps270;go_wp2_with fail;go_quiet (fail);go_wp2;go_ret;exact⟨rfl,aU (PC _ _) _⟩
theorem Hs(lm:cD)(r:Nat)(fn z v cp:Value)(ents hls:Int)(w:World)(h:RdR w r lm fn z v ents hls cp)(C:0<ents∧ents<18446744073709551616)(D:0≤hls∧hls<18446744073709551616) :
  Calls prog 272 #[.pointer (some ⟨r,0,none⟩)] w fun e w'=>
   e=.returned (if 0<hls then tN r 273 else if 0<ents-1 then tN r 262 else .nilFunc) ∧
   RdR w' r lm fn z v (if 0<hls then ents else ents-1) (if 0<hls then hls-1 else hls) cp∧Only (fun b=>b=r) w w':=by
 have E:=h.c8;have F:=h.c9;have G:=h.free;have H:=aI h;have y:=aI (Only.refl (fun b=>b=r) w);clear h;obtain⟨l,n⟩:=C;obtain⟨s,u⟩:=D;unfold tN;by_cases g:0<hls
 ·have q:IntKind.u64.wrap (hls-1)=hls-1:=by rw[IntKind.wrap_u64];omega
  rw[if_pos g,if_pos g,if_pos g];obtain⟨m,j⟩:=aH (hls-1);have A:IntKind.u64.wrap (hls-1)=m:=q.trans j.symm;rw[← j];clear j q l n s u;go_enter func272,ntmps272;go_wp2;go_ret;exact⟨rfl,H.s9 _,y.setCell (p:=⟨r,9,none⟩) (.inl rfl) _⟩
 have B:hls=0:=aA;have q:IntKind.u64.wrap (ents-1)=ents-1:=by rw[IntKind.wrap_u64];omega
 rw[if_neg g,if_neg g,if_neg g];subst B;have K:=aI (fun x=>And.intro (H.s8 x) (y.setCell (p:=⟨r,8,none⟩) (.inl rfl) (.int .u64 x)));obtain⟨m,j⟩:=aH (ents-1);have A:IntKind.u64.wrap (ents-1)=m:=q.trans j.symm;rw[← j];have I:(w.setCell ⟨r,8,none⟩ (.int .u64 m)).cell? ⟨r,8,none⟩=some (.int .u64 m):=(K m).1.c8;clear j q l n s u g;by_cases g2:0<m
 ·rw[if_pos g2];go_enter func272,ntmps272;go_wp2;go_ret;exact⟨rfl,(K m).1,(K m).2⟩
 rw[if_neg g2];go_enter func272,ntmps272;go_wp2;go_ret;exact⟨rfl,(K m).1,(K m).2⟩
def Ph.isFin:Ph→Bool
 | .fin=>true
 | _=>false
structure lY (F:FuncId):Prop where
 run:∀(args:Array Value) (w:World),(callFunc F args).run prog w=.ok (.enter F args) w
theorem LY:lY 243:=⟨fun _ _=>aC⟩
theorem LW:lY 262:=⟨fun _ _=>aC⟩
theorem LV:lY 268:=⟨fun _ _=>aC⟩
theorem LU:lY 271:=⟨fun _ _=>aC⟩
theorem LS:lY 273:=⟨fun _ _=>aC⟩
theorem LR:lY 274:=⟨fun _ _=>aC⟩
theorem Nr(F:Fn)(x y:Array Value)(w:World):(binOp .neq 341 (.func F x y) .nilFunc).run prog w=.ok (.bool true) w:=aC
theorem Wo(F:Fn)(x y:Array Value)(w:World):(binOp .eql 341 (.func F x y) .nilFunc).run prog w=.ok (.bool false) w:=aC
theorem Mr(w:World):(binOp .neq 341 .nilFunc .nilFunc).run prog w=.ok (.bool false) w:=aC
theorem Vi(w:World):(binOp .eql 341 .nilFunc .nilFunc).run prog w=.ok (.bool true) w:=aC
theorem Ub(lm:cD)(r:Nat)(F:FuncId)(c:Int)(x rest:Int)(v cp:Value)(ents hls:Int)(P:World→Prop)(w:World)(s:RdR w r lm (tN r F) .nilIface v ents hls cp)
  (u:Calls prog F #[.pointer (some ⟨r,0,none⟩),.int .u64 x,.int .i64 rest] w fun e b=>e=.returned (.tuple #[.nilFunc,(.iface 42 (.int .i64 c))])∧P b) (y:∀b,P b→∃v cp en H,RdR b r lm (tN r F) .nilIface v en H cp) (z:lY F) :
  Calls prog 210 #[.pointer (some ⟨r,0,none⟩),.int .u64 x,.int .i64 rest] w fun e w'=>e=.returned (.tuple #[.bool true,(.iface 42 (.int .i64 c))])∧∃b,P b∧Below ((b.setCell ⟨r,5,none⟩ .nilFunc).setCell ⟨r,6,none⟩ (.iface 42 (.int .i64 c))).heap.size ((b.setCell ⟨r,5,none⟩ .nilFunc).setCell ⟨r,6,none⟩ (.iface 42 (.int .i64 c))) w':=by
 have A:=s.c5;have B:=s.c6;have K:=aI u;have C:=aI y;have I:=z.run;clear u y s z;unfold tN at *;have J:=Nr;have L:=Wo;have M:=Mr;have N:=Vi;go_enter func210,ntmps210;go_wp2_with fail;refine K.mono ?_;rintro e b ⟨rfl,p⟩;obtain⟨V,D,E,G,l⟩:=C.out b p;have O:=l.c5;have Q:=l.free;have j:=l.s5 .nilFunc;have R:=j.c6;have S:=j.free;have m:=j.s6 (.iface 42 (.int .i64 c));have T:=m.c5;have U:=m.c6;have n:=aI p;clear l j m A B p;go_wp2_with fail;go_quiet (fail);go_wp2;go_ret2;exact⟨rfl,b,n,aU (PC _ _) _⟩
theorem Pf(lm:cD)(r:Nat)(F:FuncId)(G:FuncId)(x rest:Int)(v cp:Value)(ents hls:Int)(P:World→Prop)(w:World)(s:RdR w r lm (tN r F) .nilIface v ents hls cp)
  (u:Calls prog F #[.pointer (some ⟨r,0,none⟩),.int .u64 x,.int .i64 rest] w fun e b=>e=.returned (.tuple #[(.func (.func G) #[.pointer (some ⟨r,0,none⟩)] #[]),.nilIface])∧P b) (y:∀b,P b→∃v cp en I,RdR b r lm (tN r F) .nilIface v en I cp) (z:lY F) :
  Calls prog 210 #[.pointer (some ⟨r,0,none⟩),.int .u64 x,.int .i64 rest] w fun e w'=>e=.returned (.tuple #[.bool false,.nilIface])∧∃b,P b∧Below ((b.setCell ⟨r,5,none⟩ (.func (.func G) #[.pointer (some ⟨r,0,none⟩)] #[])).setCell ⟨r,6,none⟩ .nilIface).heap.size ((b.setCell ⟨r,5,none⟩ (.func (.func G) #[.pointer (some ⟨r,0,none⟩)] #[])).setCell ⟨r,6,none⟩ .nilIface) w':=by
 have A:=s.c5;have B:=s.c6;have K:=aI u;have C:=aI y;have J:=z.run;clear u y s z;unfold tN at *;have L:=Nr;have M:=Wo;have N:=Mr;have O:=Vi;go_enter func210,ntmps210;go_wp2_with fail;refine K.mono ?_;rintro e b ⟨rfl,p⟩;obtain⟨W,D,E,H,l⟩:=C.out b p;have Q:=l.c5;have R:=l.free;have j:=l.s5 (.func (.func G) #[.pointer (some ⟨r,0,none⟩)] #[]);have S:=j.c6;have T:=j.free;have m:=j.s6 .nilIface;have U:=m.c5;have V:=m.c6;have n:=aI p;clear l j m A B p;go_wp2_with fail;go_quiet (fail);go_wp2;go_ret2;exact⟨rfl,b,n,aU (PC _ _) _⟩
theorem Ua(lm:cD)(r:Nat)(F:FuncId)(x rest:Int)(v cp:Value)(ents hls:Int)(P:World→Prop)(w:World)(s:RdR w r lm (tN r F) .nilIface v ents hls cp)
  (u:Calls prog F #[.pointer (some ⟨r,0,none⟩),.int .u64 x,.int .i64 rest] w fun e b=>e=.returned (.tuple #[.nilFunc,.nilIface])∧P b) (y:∀b,P b→∃v cp en H,RdR b r lm (tN r F) .nilIface v en H cp) (z:lY F) :
  Calls prog 210 #[.pointer (some ⟨r,0,none⟩),.int .u64 x,.int .i64 rest] w fun e w'=>e=.returned (.tuple #[.bool true,.nilIface])∧∃b,P b∧Below ((b.setCell ⟨r,5,none⟩ .nilFunc).setCell ⟨r,6,none⟩ .nilIface).heap.size ((b.setCell ⟨r,5,none⟩ .nilFunc).setCell ⟨r,6,none⟩ .nilIface) w':=by
 have A:=s.c5;have B:=s.c6;have K:=aI u;have C:=aI y;have I:=z.run;clear u y s z;unfold tN at *;have J:=Nr;have L:=Wo;have M:=Mr;have N:=Vi;go_enter func210,ntmps210;go_wp2_with fail;refine K.mono ?_;rintro e b ⟨rfl,p⟩;obtain⟨V,D,E,G,l⟩:=C.out b p;have O:=l.c5;have Q:=l.free;have j:=l.s5 .nilFunc;have R:=j.c6;have S:=j.free;have m:=j.s6 .nilIface;have T:=m.c5;have U:=m.c6;have n:=aI p;clear l j m A B p;go_wp2_with fail;go_quiet (fail);go_wp2;go_ret2;exact⟨rfl,b,n,aU (PC _ _) _⟩
theorem wJ(lm:cD)(r:Nat)(v cp:Value)(ents hls:Int)(w:World)(b:RdR w r lm .nilFunc .nilIface v ents hls cp) :
  Calls prog 211 #[.pointer (some ⟨r,0,none⟩)] w fun e w'=>e=.returned v∧Below w.heap.size w w':=by
 have j:=b.c5;have l:=b.c6;have m:=b.c7;have n:=Nr;have p:=Mr;go_enter func211,ntmps211;go_wp2;go_ret;exact⟨rfl,PC _ _⟩
theorem pU(w:World) :
  Calls prog 32 #[] w fun e w'=>e=.returned (.agg #[.int .i64 9223372036854775807,.int .i64 9223372036854775807,.int .i64 9223372036854775807,.int .i64 9223372036854775807,.int .i64 9223372036854775807])∧Below w.heap.size w w':=by
 go_enter func32,ntmps32;go_wp2;refine bodyPost_ret (v:=.agg #[.int .i64 9223372036854775807,.int .i64 9223372036854775807,.int .i64 9223372036854775807,.int .i64 9223372036854775807,.int .i64 9223372036854775807]) ?_ rfl ⟨rfl,aJ (PC _ _) _⟩;simp[results,results32,go_sem]
def tZ:St:=⟨.count,[],⟨0,0,[]⟩,0,0⟩
theorem Rw(lm:cD)(base:Nat)(w:World)(b:base≤w.heap.size) :
  Calls prog 209 #[.agg #[.int .i64 lm.f,.int .i64 lm.ve,.int .i64 lm.en,.int .i64 lm.ho,.int .i64 lm.se]] w fun e w'=>∃r,e=.returned (.pointer (some ⟨r,0,none⟩))∧w.heap.size≤r∧MemF w' base r lm (Ph.count.fn r) .nilIface tZ∧Below w.heap.size w w':=by
 go_enter func209,ntmps209;go_wp2;go_ret;exact⟨w.heap.size+1,rfl,aA,⟨aA,.slice none 0 0,.pointer none,aK _ _ aD,rfl,rfl⟩,aJ (aJ (PC _ _) _) _⟩
structure StepPost (lm:cD) (base r:Nat) (fn:Value) (o:Except Int St) (w:World) (e:Ending) (w':World):Prop where
 below:Below base w w'
 bad:∀c,o=.error c→e=.returned (.tuple #[.nilFunc,sN c])∧∃v cp en hl,RdR w' r lm fn .nilIface v en hl cp
 good:∀s',o=.ok s'→e=.returned (.tuple #[s'.ph.fn r,.nilIface])∧MemF w' base r lm fn .nilIface s'
theorem StepPost.err{lm:cD}{base r:Nat}{fn:Value}{o:Except Int St}{w w':World}{e:Ending}{c:Int}(ho:o=.error c)(l:Below base w w')(m:e=.returned (.tuple #[.nilFunc,sN c]))(v cp:Value)(en j:Int)(h:RdR w' r lm fn .nilIface v en j cp):StepPost lm base r fn o w e w':=
 ⟨l,fun c' b=>(by rw[ho]at b;cases b;exact⟨m,v,cp,en,j,h⟩),fun s' hs=>(by rw[ho]at hs;cases hs)⟩
theorem StepPost.ok{lm:cD}{base r:Nat}{fn:Value}{o:Except Int St}{w w':World}{e:Ending}{s':St}(ho:o=.ok s')(l:Below base w w')(m:e=.returned (.tuple #[s'.ph.fn r,.nilIface]))(h:MemF w' base r lm fn .nilIface s'):StepPost lm base r fn o w e w':=
 ⟨l,fun c' b=>(by rw[ho]at b;cases b),fun j hs=>(by rw[ho]at hs;cases hs;exact⟨m,h⟩)⟩
structure uB (lm:cD):Prop where
 en:-9223372036854775808≤lm.en∧lm.en≤9223372036854775807
 ho:-9223372036854775808≤lm.ho∧lm.ho≤9223372036854775807
theorem tJ(x l n:Int):bS x l n=7∨bS x l n=5∨bS x l n=0:=by
 unfold bS;split
 ·exact .inl rfl
 split
 ·exact .inr (.inl rfl)
 exact .inr (.inr rfl)
theorem below_of{n:Nat}{w w':World}(h:Below w.heap.size w w')(b:n≤w.heap.size):Below n w w':=h.mono b
theorem Rn(lm:cD)(A:uB lm)(base r:Nat)(fn:Value)(s:St)(x rest:Int)(w:World)(h:MemF w base r lm fn .nilIface s)(z:s.ph=.count)(D:aL x)(E:-9223372036854775808≤rest∧rest≤9223372036854775807) :
  Calls prog 243 #[.pointer (some ⟨r,0,none⟩),.int .u64 x,.int .i64 rest] w fun e w'=>StepPost lm base r fn (bU lm s x rest) w e w':=by
 obtain⟨ph,es,cur,ents,hls⟩:=s;obtain rfl:ph=.count:=z;obtain⟨u,v,cp,m,rfl,B⟩:=h;obtain rfl:es=[]:=B;have b:bU lm ⟨.count,[],cur,ents,hls⟩ x rest=if bS x lm.en rest≠0 then .error (bS x lm.en rest)else if x=0 then .error 9 else .ok ⟨.rep,[],cur,x,hls⟩:=rfl;have F:=m.lt;have I:=m.c2;have N:=m.c8;have O:=m.free;have H:=aI m;have K:=aI (fun W=>uR x lm.en rest W D A.en E);obtain⟨M,j⟩:=aG (bS x lm.en rest);have n:=tJ x lm.en rest;obtain⟨en,y⟩:=aG lm.en;rw[j]at b n K;rw[y]at I K;have J:=aI D;clear m j y A E D;rcases n with rfl | rfl | rfl
 ·have l:=aI b;clear b;rw[show sN 7=.iface 42 (.int .i64 7)from rfl]at K;go_enter func243,ntmps243;go_wp2_with fail;refine(K _).mono ?_;rintro e C ⟨rfl,rfl⟩;go_wp2;go_ret2;exact .err (l.trans (if_pos aB)) (PC _ _) rfl _ _ _ _ H
 ·have l:=aI b;clear b;rw[show sN 5=.iface 42 (.int .i64 5)from rfl]at K;go_enter func243,ntmps243;go_wp2_with fail;refine(K _).mono ?_;rintro e C ⟨rfl,rfl⟩;go_wp2;go_ret2;exact .err (l.trans (if_pos aB)) (PC _ _) rfl _ _ _ _ H
 rw[if_neg aD]at b;rw[show sN 0=.nilIface from rfl]at K;by_cases g:x=0
 ·have l:=aI b;have L:(x == 0)=true:=by simp[g]
  have G:=aI g;clear b g;go_enter func243,ntmps243;go_wp2_with fail;refine(K _).mono ?_;rintro e C ⟨rfl,rfl⟩;go_wp2;go_ret2;exact .err (l.trans (if_pos G)) (PC _ _) rfl _ _ _ _ H
 have l:=aI b;have L:(x == 0)=false:=by simp[g]
 have G:=aI g;clear b g;go_enter func243,ntmps243;go_wp2_with fail;refine(K _).mono ?_;rintro e C ⟨rfl,rfl⟩;go_wp2;go_ret2;refine .ok (l.trans (if_neg G)) ((PC base _).setCell (p:=⟨r,8,none⟩) u _) rfl ⟨u,_,cp,H.s8 x,[],rfl,World.ownsRow_nil _ _ _ _,?_,?_⟩
 ·intro p z;cases z
 intro p z;cases z
theorem Yj(lm:cD)(base r:Nat)(fn:Value)(s:St)(x rest:Int)(w:World)(h:MemF w base r lm fn .nilIface s)(M:s.ph=.top)(Q:aL x) :
  Calls prog 268 #[.pointer (some ⟨r,0,none⟩),.int .u64 x,.int .i64 rest] w fun e w'=>StepPost lm base r fn (bU lm s x rest) w e w':=by
 obtain⟨ph,es,cur,ents,hls⟩:=s;obtain rfl:ph=.top:=M;obtain⟨G,v,cp,H,l,B,hv,D,I,n⟩:=h;have N:bU lm ⟨.top,es,cur,ents,hls⟩ x rest=.ok ⟨.op,es,{ cur with mx:=x },ents,hls⟩:=rfl;obtain⟨g,cap,rfl,J,y,E,Z,fz,c0,P,c2⟩:=dM I;have K:=aI (tP lm r g l.length cap fn .nilIface cp ents hls w H Z);have R:=aI N;have O:=aI H;have S:=aI I;have T:=aI Q;have U:=aI D;have A:=aI n;have V:=aI E;have W:=aI P;clear H I N c0 P c2 Q n D E;go_enter func268,ntmps268;go_wp2_with fail;refine K.mono ?_;rintro e z ⟨rfl,b1⟩;have X:∀j,z.frozen? ⟨g,j,none⟩=false:=fun j=>(b1.frozen (p:=⟨g,j,none⟩) y).trans (fz j);have d1:z.cell? ⟨g,l.length * 3+1,none⟩=some (.int .u64 cur.mx):=aM b1 y W;have Y:=aI b1;clear b1;go_wp2;go_ret2;have b1:=Y.out;have C:=O.below b1;have m:=S.only (may:=fun _=>False) (Only.of_below b1) (fun _ F=>F.elim);have ho:Only (fun b=>b=g) z (z.setCell ⟨g,l.length * 3+1,none⟩ (.int .u64 x)):=(Only.refl (fun b=>b=g) z).setCell (p:=⟨g,l.length * 3+1,none⟩) (.inl rfl) _;have u:Typed z 96 g:=by obtain⟨L,e⟩:=V.out;exact⟨L,(b1.block g y).trans e⟩
 refine .ok R ((below_of b1 (by have:=O.lt;omega)).setCell (p:=⟨g,l.length * 3+1,none⟩) J _) rfl ⟨G,_,cp,C.only ho (fun e=>(C.typed.ne u aB) e),l,B,hv,U,?_,A⟩;have hs:=m.row.stored (l.length * 3+1) (.int .u64 x);rw[Rq]at hs;exact⟨hs.1,m.le,Nat.le_trans m.lt ho.size,fun p M=>(m.fins p M).only ho (fun k F=>by subst F;exact .inr (u.not aB)),m.words,
  ⟨bF m.own.row ho (fun k F hy=>by subst hy;exact(aR m.own.row F).elim fun L e=>(Typed.ne ⟨L,e⟩ u aB) rfl),m.own.words⟩,⟨m.word.rep,T,m.word.hs⟩⟩
theorem Aw{n w2:World}{base r:Nat}{lm:cD}{fn v cp hv:Value}{ph:Ph}{es:List Ent}{cur:Ent}{ents hls:Int}{l:List EV}{B p:Nat}{lo s u:Int}{D:Bool}{f:FuncId}
  (m:base≤r) (A:Typed n 343 r) (C:l.map (·.1)=es) (H:RowC n base v l cur B hv) (E:CurOk n base cp cur none p lo s u D f)
  (y:RdR w2 r lm fn .nilIface v (if 0<hls then ents else ents-1) (if 0<hls then hls-1 else hls) cp) (ho:Only (fun b=>b=r) n w2) :
  MemF w2 base r lm fn .nilIface (dJ ⟨ph,es,cur,ents,hls⟩):=by
 have F:∀k,k=r→¬Typed n 96 k∧¬Typed n 123 k:=fun k G=>by subst G;exact⟨A.not aB,A.not aB⟩
 have j:=H.only ho F;have z:=E.only ho (fun e=>A.ne E.typed aB e.symm);subst C;unfold dJ;by_cases g:0<hls
 ·rw[if_pos g,if_pos g]at y;simp only[if_pos g];exact⟨m,v,cp,y,l,B,hv,p,lo,s,u,D,f,rfl,j,z⟩
 rw[if_neg g,if_neg g]at y;simp only[if_neg g];by_cases g2:0<ents-1
 ·simp only[if_pos g2];exact⟨m,v,cp,y,l ++ [(cur,hv)],aD,j.finish⟩
 simp only[if_neg g2];exact⟨m,v,cp,y,l ++ [(cur,hv)],aD,j.finish⟩
theorem No(r:Nat)(ph:Ph)(es:List Ent)(cur:Ent)(ents hls:Int) :
  (dJ ⟨ph,es,cur,ents,hls⟩).ph.fn r=if 0<hls then tN r 273 else if 0<ents-1 then tN r 262 else .nilFunc:=by
 unfold dJ;split
 ·rfl
 split<;>rfl
theorem Vc(lm:cD)(V:uB lm)(base r:Nat)(fn:Value)(s:St)(x rest:Int)(w:World)(h:MemF w base r lm fn .nilIface s)(hp:s.ph=.op)(hx:aL x)(hr:-9223372036854775808≤rest∧rest≤9223372036854775807)(he:0<s.ents∧s.ents<18446744073709551616) :
  Calls prog 271 #[.pointer (some ⟨r,0,none⟩),.int .u64 x,.int .i64 rest] w fun e w'=>StepPost lm base r fn (bU lm s x rest) w e w':=by
 obtain⟨ph,es,cur,ents,hls⟩:=s;obtain rfl:ph=.op:=hp;obtain⟨G,v,cp,I,l,B,hv,S,hC,C⟩:=h;have z:bU lm ⟨.op,es,cur,ents,hls⟩ x rest=if bS x lm.ho rest≠0 then .error (bS x lm.ho rest)else .ok (dJ ⟨.op,es,cur,ents,x⟩):=rfl;have A5:=I.lt;have c3:=I.c3;have c9:=I.c9;have Y:=I.c10;have fz:=I.free;have H:=aI I;have HC:=aI hC;have K:=aI (fun W=>uR x lm.ho rest W hx V.ho hr);obtain⟨A9,E⟩:=aG (bS x lm.ho rest);have M:=tJ x lm.ho rest;obtain⟨en,T⟩:=aG lm.ho;rw[E]at z M K;rw[T]at c3 K;have HX:=aI hx;have Z:=aI S;have N:=aI C;have A0:=aI he;clear I E T V hr hx S hC C he;rcases M with rfl | rfl | rfl
 ·have O:=aI z;clear z;rw[show sN 7=.iface 42 (.int .i64 7)from rfl]at K;go_enter func271,ntmps271;go_wp2_with fail;refine(K _).mono ?_;rintro e n ⟨rfl,rfl⟩;go_wp2;go_ret2;exact .err (O.trans (if_pos aB)) (PC _ _) rfl _ _ _ _ H
 ·have O:=aI z;clear z;rw[show sN 5=.iface 42 (.int .i64 5)from rfl]at K;go_enter func271,ntmps271;go_wp2_with fail;refine(K _).mono ?_;rintro e n ⟨rfl,rfl⟩;go_wp2;go_ret2;exact .err (O.trans (if_pos aB)) (PC _ _) rfl _ _ _ _ H
 rw[if_neg aD]at z;rw[show sN 0=.nilIface from rfl]at K;have O:=aI z;clear z;go_enter func271,ntmps271;go_wp2_with fail;refine(K _).mono ?_;rintro e n ⟨rfl,rfl⟩;go_wp2_with fail;refine(zU 1 _).mono ?_;rintro e n ⟨rfl,U,b1⟩;have j:=H.below b1;have d9:=j.c9;have A6:=j.c10;have A7:=j.free;have m:=j.s9 x;have A4:=m.c10;have A8:=m.free;have u:=m.s10 (.pointer (some ⟨w.heap.size,0,none⟩));have X:Only (fun b=>b=r) n ((n.setCell ⟨r,9,none⟩ (.int .u64 x)).setCell ⟨r,10,none⟩ (.pointer (some ⟨w.heap.size,0,none⟩))):=((Only.refl (fun b=>b=r) n).setCell (p:=⟨r,9,none⟩) (.inl rfl) _).setCell (p:=⟨r,10,none⟩) (.inl rfl) _;have y:=j.typed;have hm:∀k,k=r→¬Typed n 96 k∧¬Typed n 123 k:=fun k L=>by subst L;exact⟨y.not aB,y.not aB⟩
 have P:=(HC.only (may:=fun _=>False) (Only.of_below b1) (fun _ L=>L.elim)).only X hm;have F:CurOk n base (.pointer (some ⟨w.heap.size,0,none⟩)) cur none w.heap.size 0 0 0 false 153:=⟨rfl,aA,U,fun l hl=>(by cases hl),.inl ⟨N,rfl,rfl⟩⟩;have Q:=F.only X (fun e=>y.ne F.typed aB e.symm);have KH:=aI (Hs lm r fn .nilIface v (.pointer (some ⟨w.heap.size,0,none⟩)) ents x _ u A0 HX);have D:=aI (fun w2 h1 h2=>Aw (w2:=w2) (ph:=.op) (lm:=lm) (fn:=fn) (ents:=ents) (hls:=x) G u.typed Z P Q h1 h2);have R:Below base w ((n.setCell ⟨r,9,none⟩ (.int .u64 x)).setCell ⟨r,10,none⟩ (.pointer (some ⟨w.heap.size,0,none⟩))):=(below_of b1 aA).trans (X.below (by have:=j.lt;omega) (fun k L=>by subst L;exact G));have HB:=aI R;have A:base≤((n.setCell ⟨r,9,none⟩ (.int .u64 x)).setCell ⟨r,10,none⟩ (.pointer (some ⟨w.heap.size,0,none⟩))).heap.size:=by have:=u.lt;omega
 have A1:=aI A;clear j m u X y hm P F Q U b1 R A c9 Y;rw[← No r .op es cur ents x]at KH;obtain⟨fv,J⟩:=aG ((dJ ⟨.op,es,cur,ents,x⟩).ph.fn r);rw[J]at KH;go_wp2_with fail;refine KH.mono ?_;rintro e w2 ⟨rfl,m,ho⟩;have hM:=aI (D w2 m ho);have A2:=aI (HB.trans (ho.below A1 (fun k L=>by subst L;exact G)));have A3:=aI J;clear m ho J;go_wp2;go_ret2;exact .ok O A2 (by rw[A3.out]<;>rfl) hM
theorem Mz{w w':World}{base r:Nat}{lm:cD}{fn v cp hv:Value}{es:List Ent}{cur:Ent}{ents hls x:Int}{l:List EV}{B p:Nat}{lo j m:Int}{z:Bool}{f:FuncId}
  (A:base≤r) (C:RdR w r lm fn .nilIface v ents hls cp) (D:l.map (·.1)=es) (H:RowC w base v l cur B hv) (n:CurOk w base cp cur none p lo j m z f)
  (E:CurAt w' p 1 x j m z true f) (I:aL x) (ho:Only (fun b=>b=p) w w'):MemF w' base r lm fn .nilIface ⟨.hi x,es,cur,ents,hls⟩∧Below base w w':=by
 have s:=n.typed;have F:∀k,k=p→¬Typed w 96 k∧¬Typed w 123 k:=fun k u=>by subst u;exact⟨s.not aB,s.not aB⟩
 refine⟨⟨A,v,cp,C.only ho (fun e=>C.typed.ne s aB e),l,B,hv,p,x,j,m,z,f,D,H.only ho F,⟨n.ptr,n.le,E,fun y G=>?_,n.nxt⟩⟩,ho.below (by have:=C.lt;omega) (fun k u=>by subst u;exact n.le)⟩;obtain rfl:x=y:=by simpa using G
 exact⟨rfl,I⟩
theorem DQ(lm:cD)(base r:Nat)(fn:Value)(s:St)(x rest:Int)(w:World)(h:MemF w base r lm fn .nilIface s)(S:s.ph=.lo)(F:aL x) :
  Calls prog 273 #[.pointer (some ⟨r,0,none⟩),.int .u64 x,.int .i64 rest] w fun e w'=>StepPost lm base r fn (bU lm s x rest) w e w':=by
 obtain⟨ph,es,cur,ents,hls⟩:=s;obtain rfl:ph=.lo:=S;obtain⟨J,v,cp,C,l,B,hv,p,lo,E,m,P,f,u,K,n⟩:=h;have z:bU lm ⟨.lo,es,cur,ents,hls⟩ x rest=if cur.hs=[] then .ok ⟨.hi x,es,cur,ents,hls⟩else if dW cur.hs+1+1+x<18446744073709551616 then .ok ⟨.hi (dW cur.hs+1+1+x),es,cur,ents,hls⟩else .error 8:=rfl;have M:=n.ptr;have j:l.map (·.1)=es:=u;subst M;have R:=C.c10;have H:=aI C;rcases n.nxt with⟨h1,rfl,rfl⟩ | ⟨h1,rfl,h2,h3⟩
 ·have A:=aI (z.trans (if_pos h1));have G:=aI (Gy p x 1 lo E m w n.cur);have D:=aI (fun w' b ho=>Mz (w':=w') J C j K n b F ho);clear C K n u j z h1 F;go_enter func273,ntmps273;go_wp2_with fail;refine G.mono ?_;rintro e L ⟨rfl,b,ho⟩;have I:=aI (D L b ho);clear b ho;go_wp2;go_ret2;exact .ok A I.2 rfl I.1
 rw[if_neg h1]at z;by_cases hs:dW cur.hs+1+1+x<18446744073709551616
 ·have A:=aI (z.trans (if_pos hs));rw[← h2]at hs;have G:=aI (Gx p x 1 lo E m P w n.cur iV h3 F hs);have N:aL (m+1+1+x):=⟨by have:=h3.1;have:=F.1;omega,hs⟩;have D:=aI (fun w' b ho=>Mz (w':=w') (x:=m+1+1+x) J C j K n b N ho);rw[← h2]at A;obtain⟨y,Q⟩:=aG (m+1+1+x);rw[Q]at G D A;clear C K n u j z h1 F N Q hs h2 h3;go_enter func273,ntmps273;go_wp2_with fail;refine G.mono ?_;rintro e L ⟨rfl,b,ho⟩;have I:=aI (D L b ho);clear b ho;go_wp2;go_ret2;exact .ok A I.2 rfl I.1
 have A:=aI (z.trans (if_neg hs));rw[← h2]at hs;have G:=aI (uQ p x 1 lo E m P w n.cur iV h3 F hs);clear C K n u j z h1 F hs h2 h3;go_enter func273,ntmps273;go_wp2_with fail;refine G.mono ?_;rintro e L ⟨rfl,b1⟩;have O:=aI b1;clear b1;go_wp2;go_ret2;exact .err A (below_of O (by have:=H.lt;omega)) rfl _ _ _ _ (H.below O)
end Go.Proofs.YtbkkolfpegplgaaGreatDoor
