/- pack's Reader: entry, hole, and the functions of its states. pack's Reader: Put over any state function; Vector, Begin, Unlimited. pack's Reader: the states count and top. pack's Reader: the state open; what hole leaves. pack's Reader: the state lo. -/
import Derived.Test.YtbkkolfpegplgaaGreatDoorS3G7
import Derived.BigQuiet
import Derived.Deep.QuietTactic
set_option maxHeartbeats 3200000
set_option maxRecDepth 100000
namespace Go.Proofs.YtbkkolfpegplgaaGreatDoor
open Go Go.RowKit
theorem z1c{w:World}{base:Nat}{v:Value}{l:List EV}{e:Ent}{B:Nat}{hv:Value}(h:RowC w base v l e B hv) :
  ∃g cap,v=.slice (some ⟨g,0,none⟩) (l.length+1) cap∧base≤g∧g<w.heap.size∧Typed w 96 g∧l.length+1≤9223372036854775807∧(∀j,w.frozen? ⟨g,j,none⟩=false) ∧
   w.cell? ⟨g,l.length * 3,none⟩=some (.int .u64 e.rep)∧w.cell? ⟨g,l.length * 3+1,none⟩=some (.int .u64 e.mx)∧w.cell? ⟨g,l.length * 3+2,none⟩=some hv:=by
 have hr:=h.row;rcases hr.2 with⟨_,hn⟩ | ⟨g,cap,cur,hv',hg,hc,hle,hm,_⟩
 ·omega
 ·subst hv'
  obtain⟨c0,c1,c2⟩:=cellsE_last l e hv;refine⟨g,cap,rfl,hg,(Array.getElem?_eq_some_iff.1 hc).1,⟨cur,hc⟩,by unfold maxLen at hm;omega,hr.frozenAt,?_,?_,?_⟩
  ·rw[hr.cellAt _ (by omega)];exact c0
  ·rw[hr.cellAt _ (by omega)];exact c1
  ·rw[hr.cellAt _ (by omega)];exact c2
theorem entry_any(lm:Lim)(r g n cap:Nat)(fn er cp:Value)(ents hls:Int)(w:World)(h:RdR w r lm fn er (.slice (some ⟨g,0,none⟩) (n+1) cap) ents hls cp)(hm:n+1≤9223372036854775807) :
  Calls Tryz.prog 270 #[.pointer (some ⟨r,0,none⟩)] w fun e w'=>e=.returned (.pointer (some ⟨g,n * 3,none⟩))∧Below w.heap.size w w':=by
 have c7:=h.c7;have q0:IntKind.i64.wrap (((n+1:Nat):Int)-1)=(n:Int):=by rw[IntKind.wrap_i64];omega
 have q1:(0:Int)≤(n:Int):=by omega
 have q2:(n:Int)<((n+1:Nat):Int):=by omega
 clear h;obtain⟨m,em⟩:∃m,m=n+1:=⟨_,rfl⟩;rw[← em]at c7 q0 q2;clear em hm;go_enter Tryz.func270,Tryz.ntmps270
 go_wp2_with fail
 go_quiet (fail)
 go_wp2
 go_ret
 exact⟨rfl,zm (Below.refl _ _) _⟩
theorem z4o(lm:Lim)(r:Nat)(fn er v cp:Value)(ents hls:Int)(w:World)(h:RdR w r lm fn er v ents hls cp)(he:0<ents∧ents<18446744073709551616)(hh:0≤hls∧hls<18446744073709551616) :
  Calls Tryz.prog 272 #[.pointer (some ⟨r,0,none⟩)] w fun e w'=>
   e=.returned (if 0<hls then fnV r 273 else if 0<ents-1 then fnV r 262 else .nilFunc) ∧
   RdR w' r lm fn er v (if 0<hls then ents else ents-1) (if 0<hls then hls-1 else hls) cp∧Only (fun b=>b=r) w w':=by
 have c8:=h.c8;have c9:=h.c9;have fz:=h.free;have H:=z7 h;have HO:=z7 (Only.refl (fun b=>b=r) w);clear h;obtain⟨he0,he1⟩:=he;obtain⟨hh0,hh1⟩:=hh;unfold fnV;by_cases g:0<hls
 ·have q:IntKind.u64.wrap (hls-1)=hls-1:=by rw[IntKind.wrap_u64];omega
  rw[if_pos g,if_pos g,if_pos g];obtain⟨m,em⟩:∃m,m=hls-1:=⟨_,rfl⟩;have q':IntKind.u64.wrap (hls-1)=m:=q.trans em.symm;rw[← em];clear em q he0 he1 hh0 hh1;go_enter Tryz.func272,Tryz.ntmps272
  go_wp2
  go_ret
  exact⟨rfl,H.out.s9 _,HO.out.setCell (p:=⟨r,9,none⟩) (.inl rfl) _⟩
 ·have g0:hls=0:=by omega
  have q:IntKind.u64.wrap (ents-1)=ents-1:=by rw[IntKind.wrap_u64];omega
  rw[if_neg g,if_neg g,if_neg g];subst g0;have K:=z7 (fun x=>And.intro (H.out.s8 x) (HO.out.setCell (p:=⟨r,8,none⟩) (.inl rfl) (.int .u64 x)));obtain⟨m,em⟩:∃m,m=ents-1:=⟨_,rfl⟩;have q':IntKind.u64.wrap (ents-1)=m:=q.trans em.symm;rw[← em];have d8:(w.setCell ⟨r,8,none⟩ (.int .u64 m)).cell? ⟨r,8,none⟩=some (.int .u64 m):=(K.out m).1.c8;clear em q he0 he1 hh0 hh1 g;by_cases g2:0<m
  ·rw[if_pos g2]
   go_enter Tryz.func272,Tryz.ntmps272
   go_wp2
   go_ret
   exact⟨rfl,(K.out m).1,(K.out m).2⟩
  ·rw[if_neg g2]
   go_enter Tryz.func272,Tryz.ntmps272
   go_wp2
   go_ret
   exact⟨rfl,(K.out m).1,(K.out m).2⟩
def Ph.isFin:Ph→Bool
 | .fin=>true
 | _=>false
structure Enters (F:FuncId):Prop where
 run:∀(args:Array Value) (w:World),(callFunc F args).run Tryz.prog w=.ok (.enter F args) w
theorem ent0:Enters 243:=⟨fun _ _=>by kernel_rfl⟩
theorem ent1:Enters 262:=⟨fun _ _=>by kernel_rfl⟩
theorem ent2:Enters 268:=⟨fun _ _=>by kernel_rfl⟩
theorem ent3:Enters 271:=⟨fun _ _=>by kernel_rfl⟩
theorem ent4:Enters 273:=⟨fun _ _=>by kernel_rfl⟩
theorem ent5:Enters 274:=⟨fun _ _=>by kernel_rfl⟩
theorem fn_ne(F:Fn)(x y:Array Value)(w:World):(binOp .neq 341 (.func F x y) .nilFunc).run Tryz.prog w=.ok (.bool true) w:=by kernel_rfl
theorem fn_eq(F:Fn)(x y:Array Value)(w:World):(binOp .eql 341 (.func F x y) .nilFunc).run Tryz.prog w=.ok (.bool false) w:=by kernel_rfl
theorem nf_ne(w:World):(binOp .neq 341 .nilFunc .nilFunc).run Tryz.prog w=.ok (.bool false) w:=by kernel_rfl
theorem nf_eq(w:World):(binOp .eql 341 .nilFunc .nilFunc).run Tryz.prog w=.ok (.bool true) w:=by kernel_rfl
theorem rput_err(lm:Lim)(r:Nat)(F:FuncId)(c:Int)(x rest:Int)(v cp:Value)(ents hls:Int)(P:World→Prop)(w:World)(hR:RdR w r lm (fnV r F) .nilIface v ents hls cp)
  (KF:Calls Tryz.prog F #[.pointer (some ⟨r,0,none⟩),.int .u64 x,.int .i64 rest] w fun e w1=>e=.returned (.tuple #[.nilFunc,(.iface 42 (.int .i64 c))])∧P w1) (hP:∀w1,P w1→∃v cp en hl,RdR w1 r lm (fnV r F) .nilIface v en hl cp) (hF:Enters F) :
  Calls Tryz.prog 210 #[.pointer (some ⟨r,0,none⟩),.int .u64 x,.int .i64 rest] w fun e w'=>e=.returned (.tuple #[.bool true,(.iface 42 (.int .i64 c))])∧∃w1,P w1∧Below ((w1.setCell ⟨r,5,none⟩ .nilFunc).setCell ⟨r,6,none⟩ (.iface 42 (.int .i64 c))).heap.size ((w1.setCell ⟨r,5,none⟩ .nilFunc).setCell ⟨r,6,none⟩ (.iface 42 (.int .i64 c))) w':=by
 have c5:=hR.c5;have c6:=hR.c6;have K:=z7 KF;have HP:=z7 hP;have hE:=hF.run;clear KF hP hR hF;unfold fnV at *;have q1:=fn_ne;have q2:=fn_eq;have q3:=nf_ne;have q4:=nf_eq;go_enter Tryz.func210,Tryz.ntmps210
 go_wp2_with fail
 refine K.out.mono ?_;rintro e w1 ⟨rfl,hp⟩;obtain⟨v1,cp1,en1,hl1,hR1⟩:=HP.out w1 hp;have d5:=hR1.c5;have f1:=hR1.free;have hR2:=hR1.s5 .nilFunc;have d6:=hR2.c6;have f2:=hR2.free;have hR3:=hR2.s6 (.iface 42 (.int .i64 c));have e5:=hR3.c5;have e6:=hR3.c6;have HPP:=z7 hp;clear hR1 hR2 hR3 c5 c6 hp;go_wp2_with fail
 go_quiet (fail)
 go_wp2
 go_ret2
 exact⟨rfl,w1,HPP.out,zm (Below.refl _ _) _⟩
theorem rput_next(lm:Lim)(r:Nat)(F:FuncId)(G:FuncId)(x rest:Int)(v cp:Value)(ents hls:Int)(P:World→Prop)(w:World)(hR:RdR w r lm (fnV r F) .nilIface v ents hls cp)
  (KF:Calls Tryz.prog F #[.pointer (some ⟨r,0,none⟩),.int .u64 x,.int .i64 rest] w fun e w1=>e=.returned (.tuple #[(.func (.func G) #[.pointer (some ⟨r,0,none⟩)] #[]),.nilIface])∧P w1) (hP:∀w1,P w1→∃v cp en hl,RdR w1 r lm (fnV r F) .nilIface v en hl cp) (hF:Enters F) :
  Calls Tryz.prog 210 #[.pointer (some ⟨r,0,none⟩),.int .u64 x,.int .i64 rest] w fun e w'=>e=.returned (.tuple #[.bool false,.nilIface])∧∃w1,P w1∧Below ((w1.setCell ⟨r,5,none⟩ (.func (.func G) #[.pointer (some ⟨r,0,none⟩)] #[])).setCell ⟨r,6,none⟩ .nilIface).heap.size ((w1.setCell ⟨r,5,none⟩ (.func (.func G) #[.pointer (some ⟨r,0,none⟩)] #[])).setCell ⟨r,6,none⟩ .nilIface) w':=by
 have c5:=hR.c5;have c6:=hR.c6;have K:=z7 KF;have HP:=z7 hP;have hE:=hF.run;clear KF hP hR hF;unfold fnV at *;have q1:=fn_ne;have q2:=fn_eq;have q3:=nf_ne;have q4:=nf_eq;go_enter Tryz.func210,Tryz.ntmps210
 go_wp2_with fail
 refine K.out.mono ?_;rintro e w1 ⟨rfl,hp⟩;obtain⟨v1,cp1,en1,hl1,hR1⟩:=HP.out w1 hp;have d5:=hR1.c5;have f1:=hR1.free;have hR2:=hR1.s5 (.func (.func G) #[.pointer (some ⟨r,0,none⟩)] #[]);have d6:=hR2.c6;have f2:=hR2.free;have hR3:=hR2.s6 .nilIface;have e5:=hR3.c5;have e6:=hR3.c6;have HPP:=z7 hp;clear hR1 hR2 hR3 c5 c6 hp;go_wp2_with fail
 go_quiet (fail)
 go_wp2
 go_ret2
 exact⟨rfl,w1,HPP.out,zm (Below.refl _ _) _⟩
theorem rput_fin(lm:Lim)(r:Nat)(F:FuncId)(x rest:Int)(v cp:Value)(ents hls:Int)(P:World→Prop)(w:World)(hR:RdR w r lm (fnV r F) .nilIface v ents hls cp)
  (KF:Calls Tryz.prog F #[.pointer (some ⟨r,0,none⟩),.int .u64 x,.int .i64 rest] w fun e w1=>e=.returned (.tuple #[.nilFunc,.nilIface])∧P w1) (hP:∀w1,P w1→∃v cp en hl,RdR w1 r lm (fnV r F) .nilIface v en hl cp) (hF:Enters F) :
  Calls Tryz.prog 210 #[.pointer (some ⟨r,0,none⟩),.int .u64 x,.int .i64 rest] w fun e w'=>e=.returned (.tuple #[.bool true,.nilIface])∧∃w1,P w1∧Below ((w1.setCell ⟨r,5,none⟩ .nilFunc).setCell ⟨r,6,none⟩ .nilIface).heap.size ((w1.setCell ⟨r,5,none⟩ .nilFunc).setCell ⟨r,6,none⟩ .nilIface) w':=by
 have c5:=hR.c5;have c6:=hR.c6;have K:=z7 KF;have HP:=z7 hP;have hE:=hF.run;clear KF hP hR hF;unfold fnV at *;have q1:=fn_ne;have q2:=fn_eq;have q3:=nf_ne;have q4:=nf_eq;go_enter Tryz.func210,Tryz.ntmps210
 go_wp2_with fail
 refine K.out.mono ?_;rintro e w1 ⟨rfl,hp⟩;obtain⟨v1,cp1,en1,hl1,hR1⟩:=HP.out w1 hp;have d5:=hR1.c5;have f1:=hR1.free;have hR2:=hR1.s5 .nilFunc;have d6:=hR2.c6;have f2:=hR2.free;have hR3:=hR2.s6 .nilIface;have e5:=hR3.c5;have e6:=hR3.c6;have HPP:=z7 hp;clear hR1 hR2 hR3 c5 c6 hp;go_wp2_with fail
 go_quiet (fail)
 go_wp2
 go_ret2
 exact⟨rfl,w1,HPP.out,zm (Below.refl _ _) _⟩
theorem vector_fin(lm:Lim)(r:Nat)(v cp:Value)(ents hls:Int)(w:World)(hR:RdR w r lm .nilFunc .nilIface v ents hls cp) :
  Calls Tryz.prog 211 #[.pointer (some ⟨r,0,none⟩)] w fun e w'=>e=.returned v∧Below w.heap.size w w':=by
 have c5:=hR.c5;have c6:=hR.c6;have c7:=hR.c7;have q1:=fn_ne;have q3:=nf_ne;go_enter Tryz.func211,Tryz.ntmps211
 go_wp2
 go_ret
 exact⟨rfl,Below.refl _ _⟩
theorem z5c(w:World) :
  Calls Tryz.prog 32 #[] w fun e w'=>e=.returned (.agg #[.int .i64 9223372036854775807,.int .i64 9223372036854775807,.int .i64 9223372036854775807,.int .i64 9223372036854775807,.int .i64 9223372036854775807])∧Below w.heap.size w w':=by
 go_enter Tryz.func32,Tryz.ntmps32
 go_wp2
 refine bodyPost_ret (v:=.agg #[.int .i64 9223372036854775807,.int .i64 9223372036854775807,.int .i64 9223372036854775807,.int .i64 9223372036854775807,.int .i64 9223372036854775807]) ?_ rfl ⟨rfl,zc (Below.refl _ _) _⟩;simp[results,Tryz.results32,go_sem]
def St0:St:=⟨.count,[],⟨0,0,[]⟩,0,0⟩
theorem begin_any(lm:Lim)(base:Nat)(w:World)(hbase:base≤w.heap.size) :
  Calls Tryz.prog 209 #[.agg #[.int .i64 lm.f,.int .i64 lm.ve,.int .i64 lm.en,.int .i64 lm.ho,.int .i64 lm.se]] w fun e w'=>∃r,e=.returned (.pointer (some ⟨r,0,none⟩))∧w.heap.size≤r∧MemF w' base r lm (Ph.count.fn r) .nilIface St0∧Below w.heap.size w w':=by
 go_enter Tryz.func209,Tryz.ntmps209
 go_wp2
 go_ret
 exact⟨w.heap.size+1,rfl,by omega,⟨by omega,.slice none 0 0,.pointer none,ze _ _ (by simp),rfl,rfl⟩,zc (zc (Below.refl _ _) _) _⟩
structure StepPost (lm:Lim) (base r:Nat) (fn:Value) (o:Except Int St) (w:World) (e:Ending) (w':World):Prop where
 below:Below base w w'
 bad:∀c,o=.error c→e=.returned (.tuple #[.nilFunc,errE c])∧∃v cp en hl,RdR w' r lm fn .nilIface v en hl cp
 good:∀s',o=.ok s'→e=.returned (.tuple #[s'.ph.fn r,.nilIface])∧MemF w' base r lm fn .nilIface s'
theorem StepPost.err{lm:Lim}{base r:Nat}{fn:Value}{o:Except Int St}{w w':World}{e:Ending}{c:Int}(ho:o=.error c)(hb:Below base w w')(he:e=.returned (.tuple #[.nilFunc,errE c]))(v cp:Value)(en hl:Int)(h:RdR w' r lm fn .nilIface v en hl cp):StepPost lm base r fn o w e w':=
 ⟨hb,fun c' hc=>(by rw[ho]at hc;cases hc;exact⟨he,v,cp,en,hl,h⟩),fun s' hs=>(by rw[ho]at hs;cases hs)⟩
theorem StepPost.ok{lm:Lim}{base r:Nat}{fn:Value}{o:Except Int St}{w w':World}{e:Ending}{s':St}(ho:o=.ok s')(hb:Below base w w')(he:e=.returned (.tuple #[s'.ph.fn r,.nilIface]))(h:MemF w' base r lm fn .nilIface s'):StepPost lm base r fn o w e w':=
 ⟨hb,fun c' hc=>(by rw[ho]at hc;cases hc),fun s'' hs=>(by rw[ho]at hs;cases hs;exact⟨he,h⟩)⟩
structure LimW (lm:Lim):Prop where
 en:-9223372036854775808≤lm.en∧lm.en≤9223372036854775807
 ho:-9223372036854775808≤lm.ho∧lm.ho≤9223372036854775807
theorem limitC_or(x l n:Int):limitC x l n=7∨limitC x l n=5∨limitC x l n=0:=by
 unfold limitC;split
 ·exact .inl rfl
 ·split
  ·exact .inr (.inl rfl)
  ·exact .inr (.inr rfl)
theorem zq{n:Nat}{w w':World}(h:Below w.heap.size w w')(hn:n≤w.heap.size):Below n w w':=h.mono hn
theorem count_any(lm:Lim)(hlm:LimW lm)(base r:Nat)(fn:Value)(s:St)(x rest:Int)(w:World)(h:MemF w base r lm fn .nilIface s)(hp:s.ph=.count)(hx:Word x)(hr:-9223372036854775808≤rest∧rest≤9223372036854775807) :
  Calls Tryz.prog 243 #[.pointer (some ⟨r,0,none⟩),.int .u64 x,.int .i64 rest] w fun e w'=>StepPost lm base r fn (stepS lm s x rest) w e w':=by
 obtain⟨ph,es,cur,ents,hls⟩:=s;obtain rfl:ph=.count:=hp;obtain⟨hbr,v,cp,hR,rfl,hes⟩:=h;obtain rfl:es=[]:=hes;have e0:stepS lm ⟨.count,[],cur,ents,hls⟩ x rest=if limitC x lm.en rest≠0 then .error (limitC x lm.en rest)else if x=0 then .error 9 else .ok ⟨.rep,[],cur,x,hls⟩:=rfl;have hlt:=hR.lt;have c2:=hR.c2;have c8:=hR.c8;have fz:=hR.free;have H:=z7 hR;have K:=z7 (fun W=>limited_any x lm.en rest W hx hlm.en hr);obtain⟨lim,elim⟩:∃c,limitC x lm.en rest=c:=⟨_,rfl⟩;have hor:=limitC_or x lm.en rest;obtain⟨en,een⟩:∃en,lm.en=en:=⟨_,rfl⟩;rw[elim]at e0 hor K;rw[een]at c2 K;have hx':=z7 hx;clear hR elim een hlm hr hx;rcases hor with rfl | rfl | rfl
 ·have E0:=z7 e0
  clear e0;rw[show errE 7=.iface 42 (.int .i64 7)from rfl]at K;go_enter Tryz.func243,Tryz.ntmps243
  go_wp2_with fail
  refine(K.out _).mono ?_;rintro e w1 ⟨rfl,rfl⟩;go_wp2
  go_ret2
  exact .err (E0.out.trans (if_pos (by decide))) (Below.refl _ _) rfl _ _ _ _ H.out
 ·have E0:=z7 e0
  clear e0;rw[show errE 5=.iface 42 (.int .i64 5)from rfl]at K;go_enter Tryz.func243,Tryz.ntmps243
  go_wp2_with fail
  refine(K.out _).mono ?_;rintro e w1 ⟨rfl,rfl⟩;go_wp2
  go_ret2
  exact .err (E0.out.trans (if_pos (by decide))) (Below.refl _ _) rfl _ _ _ _ H.out
 ·rw[if_neg (by simp)]at e0
  rw[show errE 0=.nilIface from rfl]at K;by_cases g:x=0
  ·have E0:=z7 e0
   have g':(x == 0)=true:=by simp[g]
   have G:=z7 g;clear e0 g;go_enter Tryz.func243,Tryz.ntmps243
   go_wp2_with fail
   refine(K.out _).mono ?_;rintro e w1 ⟨rfl,rfl⟩;go_wp2
   go_ret2
   exact .err (E0.out.trans (if_pos G.out)) (Below.refl _ _) rfl _ _ _ _ H.out
  ·have E0:=z7 e0
   have g':(x == 0)=false:=by simp[g]
   have G:=z7 g;clear e0 g;go_enter Tryz.func243,Tryz.ntmps243
   go_wp2_with fail
   refine(K.out _).mono ?_;rintro e w1 ⟨rfl,rfl⟩;go_wp2
   go_ret2
   refine .ok (E0.out.trans (if_neg G.out)) ((Below.refl base _).setCell (p:=⟨r,8,none⟩) hbr _) rfl ⟨hbr,_,cp,H.out.s8 x,[],rfl,World.ownsRow_nil _ _ _ _,?_,?_⟩
   ·intro p hp;cases hp
   ·intro p hp;cases hp
theorem top_any(lm:Lim)(base r:Nat)(fn:Value)(s:St)(x rest:Int)(w:World)(h:MemF w base r lm fn .nilIface s)(hp:s.ph=.top)(hx:Word x) :
  Calls Tryz.prog 268 #[.pointer (some ⟨r,0,none⟩),.int .u64 x,.int .i64 rest] w fun e w'=>StepPost lm base r fn (stepS lm s x rest) w e w':=by
 obtain⟨ph,es,cur,ents,hls⟩:=s;obtain rfl:ph=.top:=hp;obtain⟨hbr,v,cp,hR,l,B,hv,hes,hC,hcur⟩:=h;have e0:stepS lm ⟨.top,es,cur,ents,hls⟩ x rest=.ok ⟨.op,es,{ cur with mx:=x },ents,hls⟩:=rfl;obtain⟨g,cap,rfl,hbg,hgl,hty,hm,fz,c0,c1,c2⟩:=z1c hC;have K:=z7 (entry_any lm r g l.length cap fn .nilIface cp ents hls w hR hm);have E0:=z7 e0;have HR:=z7 hR;have HC:=z7 hC;have HX:=z7 hx;have HE:=z7 hes;have HCUR:=z7 hcur;have HT:=z7 hty;have C1:=z7 c1;clear hR hC e0 c0 c1 c2 hx hcur hes hty;go_enter Tryz.func268,Tryz.ntmps268
 go_wp2_with fail
 refine K.out.mono ?_;rintro e w1 ⟨rfl,b1⟩;have fz1:∀j,w1.frozen? ⟨g,j,none⟩=false:=fun j=>(b1.frozen (p:=⟨g,j,none⟩) hgl).trans (fz j);have d1:w1.cell? ⟨g,l.length * 3+1,none⟩=some (.int .u64 cur.mx):=zg b1 hgl C1.out;have B1:=z7 b1;clear b1;go_wp2
 go_ret2
 have b1:=B1.out;have hR1:=HR.out.below b1;have hC1:=HC.out.only (may:=fun _=>False) (Only.of_below b1) (fun _ hk=>hk.elim);have ho:Only (fun b=>b=g) w1 (w1.setCell ⟨g,l.length * 3+1,none⟩ (.int .u64 x)):=(Only.refl (fun b=>b=g) w1).setCell (p:=⟨g,l.length * 3+1,none⟩) (.inl rfl) _;have hT1:Typed w1 96 g:=by obtain⟨cs,e⟩:=HT.out;exact⟨cs,(b1.block g hgl).trans e⟩
 refine .ok E0.out ((zq b1 (by have:=HR.out.lt;omega)).setCell (p:=⟨g,l.length * 3+1,none⟩) hbg _) rfl ⟨hbr,_,cp,hR1.only ho (fun e=>(hR1.typed.ne hT1 (by decide)) e),l,B,hv,HE.out,?_,HCUR.out⟩;have hs:=hC1.row.stored (l.length * 3+1) (.int .u64 x);rw[cellsE_mx]at hs;exact⟨hs.1,hC1.le,Nat.le_trans hC1.lt ho.size,fun p hp=>(hC1.fins p hp).only ho (fun k hk=>by subst hk;exact .inr (hT1.not (by decide))),hC1.words,
  ⟨zo hC1.own.row ho (fun k hk hy=>by subst hy;exact(zj hC1.own.row hk).elim fun cs e=>(Typed.ne ⟨cs,e⟩ hT1 (by decide)) rfl),hC1.own.words⟩,⟨hC1.word.rep,HX.out,hC1.word.hs⟩⟩
theorem z3r{w1 w2:World}{base r:Nat}{lm:Lim}{fn v cp hv:Value}{ph:Ph}{es:List Ent}{cur:Ent}{ents hls:Int}{l:List EV}{B p:Nat}{lo llo lhi:Int}{sm:Bool}{f:FuncId}
  (hbr:base≤r) (ht:Typed w1 343 r) (hes:l.map (·.1)=es) (hC:RowC w1 base v l cur B hv) (hK:CurOk w1 base cp cur none p lo llo lhi sm f)
  (hR:RdR w2 r lm fn .nilIface v (if 0<hls then ents else ents-1) (if 0<hls then hls-1 else hls) cp) (ho:Only (fun b=>b=r) w1 w2) :
  MemF w2 base r lm fn .nilIface (holeS ⟨ph,es,cur,ents,hls⟩):=by
 have hm:∀k,k=r→¬Typed w1 96 k∧¬Typed w1 123 k:=fun k hk=>by subst hk;exact⟨ht.not (by decide),ht.not (by decide)⟩
 have hC2:=hC.only ho hm;have hK2:=hK.only ho (fun e=>ht.ne hK.typed (by decide) e.symm);subst hes;unfold holeS;by_cases g:0<hls
 ·rw[if_pos g,if_pos g]at hR
  simp only[if_pos g];exact⟨hbr,v,cp,hR,l,B,hv,p,lo,llo,lhi,sm,f,rfl,hC2,hK2⟩
 ·rw[if_neg g,if_neg g]at hR
  simp only[if_neg g];by_cases g2:0<ents-1
  ·simp only[if_pos g2]
   exact⟨hbr,v,cp,hR,l ++ [(cur,hv)],by simp,hC2.finish⟩
  ·simp only[if_neg g2]
   exact⟨hbr,v,cp,hR,l ++ [(cur,hv)],by simp,hC2.finish⟩
theorem hole_fn(r:Nat)(ph:Ph)(es:List Ent)(cur:Ent)(ents hls:Int) :
  (holeS ⟨ph,es,cur,ents,hls⟩).ph.fn r=if 0<hls then fnV r 273 else if 0<ents-1 then fnV r 262 else .nilFunc:=by
 unfold holeS;split
 ·rfl
 ·split<;>rfl
theorem open_any(lm:Lim)(hlm:LimW lm)(base r:Nat)(fn:Value)(s:St)(x rest:Int)(w:World)(h:MemF w base r lm fn .nilIface s)(hp:s.ph=.op)(hx:Word x)(hr:-9223372036854775808≤rest∧rest≤9223372036854775807)(he:0<s.ents∧s.ents<18446744073709551616) :
  Calls Tryz.prog 271 #[.pointer (some ⟨r,0,none⟩),.int .u64 x,.int .i64 rest] w fun e w'=>StepPost lm base r fn (stepS lm s x rest) w e w':=by
 obtain⟨ph,es,cur,ents,hls⟩:=s;obtain rfl:ph=.op:=hp;obtain⟨hbr,v,cp,hR,l,B,hv,hes,hC,hcur⟩:=h;have e0:stepS lm ⟨.op,es,cur,ents,hls⟩ x rest=if limitC x lm.ho rest≠0 then .error (limitC x lm.ho rest)else .ok (holeS ⟨.op,es,cur,ents,x⟩):=rfl;have hlt:=hR.lt;have c3:=hR.c3;have c9:=hR.c9;have c10:=hR.c10;have fz:=hR.free;have H:=z7 hR;have HC:=z7 hC;have K:=z7 (fun W=>limited_any x lm.ho rest W hx hlm.ho hr);obtain⟨lim,elim⟩:∃c,limitC x lm.ho rest=c:=⟨_,rfl⟩;have hor:=limitC_or x lm.ho rest;obtain⟨en,een⟩:∃en,lm.ho=en:=⟨_,rfl⟩;rw[elim]at e0 hor K;rw[een]at c3 K;have HX:=z7 hx;have HES:=z7 hes;have HCUR:=z7 hcur;have HEN:=z7 he;clear hR elim een hlm hr hx hes hC hcur he;rcases hor with rfl | rfl | rfl
 ·have E0:=z7 e0
  clear e0;rw[show errE 7=.iface 42 (.int .i64 7)from rfl]at K;go_enter Tryz.func271,Tryz.ntmps271
  go_wp2_with fail
  refine(K.out _).mono ?_;rintro e w1 ⟨rfl,rfl⟩;go_wp2
  go_ret2
  exact .err (E0.out.trans (if_pos (by decide))) (Below.refl _ _) rfl _ _ _ _ H.out
 ·have E0:=z7 e0
  clear e0;rw[show errE 5=.iface 42 (.int .i64 5)from rfl]at K;go_enter Tryz.func271,Tryz.ntmps271
  go_wp2_with fail
  refine(K.out _).mono ?_;rintro e w1 ⟨rfl,rfl⟩;go_wp2
  go_ret2
  exact .err (E0.out.trans (if_pos (by decide))) (Below.refl _ _) rfl _ _ _ _ H.out
 ·rw[if_neg (by simp)]at e0
  rw[show errE 0=.nilIface from rfl]at K;have E0:=z7 e0;clear e0;go_enter Tryz.func271,Tryz.ntmps271
  go_wp2_with fail
  refine(K.out _).mono ?_;rintro e w1 ⟨rfl,rfl⟩;go_wp2_with fail
  refine(start_any 1 _).mono ?_;rintro e w1 ⟨rfl,hcu,b1⟩;have hR1:=H.out.below b1;have d9:=hR1.c9;have d10:=hR1.c10;have fz1:=hR1.free;have hR2:=hR1.s9 x;have d10':=hR2.c10;have fz2:=hR2.free;have hR3:=hR2.s10 (.pointer (some ⟨w.heap.size,0,none⟩));have o1:Only (fun b=>b=r) w1 ((w1.setCell ⟨r,9,none⟩ (.int .u64 x)).setCell ⟨r,10,none⟩ (.pointer (some ⟨w.heap.size,0,none⟩))):=((Only.refl (fun b=>b=r) w1).setCell (p:=⟨r,9,none⟩) (.inl rfl) _).setCell (p:=⟨r,10,none⟩) (.inl rfl) _;have ht1:=hR1.typed;have hm:∀k,k=r→¬Typed w1 96 k∧¬Typed w1 123 k:=fun k hk=>by subst hk;exact⟨ht1.not (by decide),ht1.not (by decide)⟩
  have hC3:=(HC.out.only (may:=fun _=>False) (Only.of_below b1) (fun _ hk=>hk.elim)).only o1 hm;have hK1:CurOk w1 base (.pointer (some ⟨w.heap.size,0,none⟩)) cur none w.heap.size 0 0 0 false 153:=⟨rfl,by omega,hcu,fun l hl=>(by cases hl),.inl ⟨HCUR.out,rfl,rfl⟩⟩;have hK3:=hK1.only o1 (fun e=>ht1.ne hK1.typed (by decide) e.symm);have KH:=z7 (z4o lm r fn .nilIface v (.pointer (some ⟨w.heap.size,0,none⟩)) ents x _ hR3 HEN.out HX.out);have D:=z7 (fun w2 h1 h2=>z3r (w2:=w2) (ph:=.op) (lm:=lm) (fn:=fn) (ents:=ents) (hls:=x) hbr hR3.typed HES.out hC3 hK3 h1 h2);have hbl:Below base w ((w1.setCell ⟨r,9,none⟩ (.int .u64 x)).setCell ⟨r,10,none⟩ (.pointer (some ⟨w.heap.size,0,none⟩))):=(zq b1 (by omega)).trans (o1.below (by have:=hR1.lt;omega) (fun k hk=>by subst hk;exact hbr));have HB:=z7 hbl;have hlt3:base≤((w1.setCell ⟨r,9,none⟩ (.int .u64 x)).setCell ⟨r,10,none⟩ (.pointer (some ⟨w.heap.size,0,none⟩))).heap.size:=by have:=hR3.lt;omega
  have HL3:=z7 hlt3;clear hR1 hR2 hR3 o1 ht1 hm hC3 hK1 hK3 hcu b1 hbl hlt3 c9 c10;rw[← hole_fn r .op es cur ents x]at KH;obtain⟨fv,efv⟩:∃fv,(holeS ⟨.op,es,cur,ents,x⟩).ph.fn r=fv:=⟨_,rfl⟩;rw[efv]at KH;go_wp2_with fail
  refine KH.out.mono ?_;rintro e w2 ⟨rfl,hR2,ho⟩;have hM:=z7 (D.out w2 hR2 ho);have hB2:=z7 (HB.out.trans (ho.below HL3.out (fun k hk=>by subst hk;exact hbr)));have EFV:=z7 efv;clear hR2 ho efv;go_wp2
  go_ret2
  exact .ok E0.out hB2.out (by rw[EFV.out]<;>rfl) hM.out
theorem lo_done{w w':World}{base r:Nat}{lm:Lim}{fn v cp hv:Value}{es:List Ent}{cur:Ent}{ents hls x:Int}{l:List EV}{B p:Nat}{lo llo lhi:Int}{sm:Bool}{f:FuncId}
  (hbr:base≤r) (hR:RdR w r lm fn .nilIface v ents hls cp) (hes:l.map (·.1)=es) (hC:RowC w base v l cur B hv) (hK:CurOk w base cp cur none p lo llo lhi sm f)
  (hcu:CurAt w' p 1 x llo lhi sm true f) (hx:Word x) (ho:Only (fun b=>b=p) w w'):MemF w' base r lm fn .nilIface ⟨.hi x,es,cur,ents,hls⟩∧Below base w w':=by
 have ht:=hK.typed;have hm:∀k,k=p→¬Typed w 96 k∧¬Typed w 123 k:=fun k hk=>by subst hk;exact⟨ht.not (by decide),ht.not (by decide)⟩
 refine⟨⟨hbr,v,cp,hR.only ho (fun e=>hR.typed.ne ht (by decide) e),l,B,hv,p,x,llo,lhi,sm,f,hes,hC.only ho hm,⟨hK.ptr,hK.le,hcu,fun y hy=>?_,hK.nxt⟩⟩,ho.below (by have:=hR.lt;omega) (fun k hk=>by subst hk;exact hK.le)⟩;obtain rfl:x=y:=by simpa using hy
 exact⟨rfl,hx⟩
theorem lo_any(lm:Lim)(base r:Nat)(fn:Value)(s:St)(x rest:Int)(w:World)(h:MemF w base r lm fn .nilIface s)(hp:s.ph=.lo)(hx:Word x) :
  Calls Tryz.prog 273 #[.pointer (some ⟨r,0,none⟩),.int .u64 x,.int .i64 rest] w fun e w'=>StepPost lm base r fn (stepS lm s x rest) w e w':=by
 obtain⟨ph,es,cur,ents,hls⟩:=s;obtain rfl:ph=.lo:=hp;obtain⟨hbr,v,cp,hR,l,B,hv,p,lo,llo,lhi,sm,f,hes,hC,hK⟩:=h;have e0:stepS lm ⟨.lo,es,cur,ents,hls⟩ x rest=if cur.hs=[] then .ok ⟨.hi x,es,cur,ents,hls⟩else if lastHi cur.hs+1+1+x<18446744073709551616 then .ok ⟨.hi (lastHi cur.hs+1+1+x),es,cur,ents,hls⟩else .error 8:=rfl;have hcp:=hK.ptr;have hes':l.map (·.1)=es:=hes;subst hcp;have c10:=hR.c10;have H:=z7 hR;rcases hK.nxt with⟨h1,rfl,rfl⟩ | ⟨h1,rfl,h2,h3⟩
 ·have E0:=z7 (e0.trans (if_pos h1))
  have KL:=z7 (lo_first p x 1 lo llo lhi w hK.cur);have D:=z7 (fun w' hcu ho=>lo_done (w':=w') hbr hR hes' hC hK hcu hx ho);clear hR hC hK hes hes' e0 h1 hx;go_enter Tryz.func273,Tryz.ntmps273
  go_wp2_with fail
  refine KL.out.mono ?_;rintro e w1 ⟨rfl,hcu,ho⟩;have D1:=z7 (D.out w1 hcu ho);clear hcu ho;go_wp2
  go_ret2
  exact .ok E0.out D1.out.2 rfl D1.out.1
 ·rw[if_neg h1]at e0
  by_cases hs:lastHi cur.hs+1+1+x<18446744073709551616
  ·have E0:=z7 (e0.trans (if_pos hs))
   rw[← h2]at hs;have KL:=z7 (lo_later p x 1 lo llo lhi sm w hK.cur z3p h3 hx hs);have hw:Word (lhi+1+1+x):=⟨by have:=h3.1;have:=hx.1;omega,hs⟩;have D:=z7 (fun w' hcu ho=>lo_done (w':=w') (x:=lhi+1+1+x) hbr hR hes' hC hK hcu hw ho);rw[← h2]at E0;obtain⟨y,ey⟩:∃y,lhi+1+1+x=y:=⟨_,rfl⟩;rw[ey]at KL D E0;clear hR hC hK hes hes' e0 h1 hx hw ey hs h2 h3;go_enter Tryz.func273,Tryz.ntmps273
   go_wp2_with fail
   refine KL.out.mono ?_;rintro e w1 ⟨rfl,hcu,ho⟩;have D1:=z7 (D.out w1 hcu ho);clear hcu ho;go_wp2
   go_ret2
   exact .ok E0.out D1.out.2 rfl D1.out.1
  ·have E0:=z7 (e0.trans (if_neg hs))
   rw[← h2]at hs;have KL:=z7 (lo_later_no p x 1 lo llo lhi sm w hK.cur z3p h3 hx hs);clear hR hC hK hes hes' e0 h1 hx hs h2 h3;go_enter Tryz.func273,Tryz.ntmps273
   go_wp2_with fail
   refine KL.out.mono ?_;rintro e w1 ⟨rfl,b1⟩;have B1:=z7 b1;clear b1;go_wp2
   go_ret2
   exact .err E0.out (zq B1.out (by have:=H.out.lt;omega)) rfl _ _ _ _ (H.out.below B1.out)
end Go.Proofs.YtbkkolfpegplgaaGreatDoor
