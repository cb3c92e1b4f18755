import Derived.Test.YtbkkolfpegplgaaGreatDoorTG1
import Derived.Stop.Asserts
import Derived.RowKitTokens
open Go.World renaming cell?_alloc_lt→PC,frozen?_alloc_old→PD,cell?→PE
open Go.Proofs.Tryz
set_option maxHeartbeats 4000000
namespace Go.Proofs.YtbkkolfpegplgaaGreatDoor
open Go.RowKit Go.Extern.Stop Go.Stop Go.Extern
def Laid (w:World):Prop:=w.cell? ⟨0,0,none⟩=some (.iface 249 (.agg #[.pointer (some ⟨1,27,none⟩)]))
theorem Laid.pos{w:World}(h:Laid w):0<w.heap.size:=by
 rcases Nat.eq_zero_or_pos w.heap.size with h0 | h1
 ·unfold Laid at h;simp[PE,h0]at h
 exact h1
theorem Laid.below{w w':World}(h:Laid w)(b:Below w.heap.size w w'):Laid w':=(b.cell (p:=⟨0,0,none⟩) h.pos).trans h
theorem Laid.alloc{w:World}(h:Laid w)(o:Obj):Laid (w.alloc o):=h.below ((Below.refl _ _).alloc (Nat.le_refl _) _)
theorem Kh (h : Value) (w : World) : (Go.method 495 249 (.agg #[h]) "Kind").run prog w = .ok (289, h) w := by kernel_rfl
theorem Ki (h : Value) (w : World) : (Go.method 495 249 (.agg #[h]) "Elem").run prog w = .ok (309, .agg #[h]) w := by kernel_rfl
theorem tD (h : Value) (w : World) : (Go.method 495 249 (.agg #[h]) "Implements").run prog w = .ok (310, .agg #[h]) w := by kernel_rfl
theorem qV (h : Value) (w : World) : (Go.method 495 249 (.agg #[h]) "AssignableTo").run prog w = .ok (307, .agg #[h]) w := by kernel_rfl
theorem MQ(z:Sem Value)(f:TypeId→Addr→Nat→Nat→Sem Value)(v:Value) :
  ReflectliteValue.method z f #[v]=(do match ← ReflectliteValue.parts v with | none=>z | some (t,a,fl)=>f t a fl (fl % 32)):=rfl
theorem NQ(v x:Value):ReflectliteValue.set #[v,x]=(do
  let (some (dst,a,fl),some (src,b,_)):=(← ReflectliteValue.parts v,← ReflectliteValue.parts x)
   | unsupported (.noEntry "extern/(internal/reflectlite.Value).Set.zeroValue")
  if fl / ReflectliteValue.flagAddr % 2 == 0 then unsupported (.noEntry "extern/(internal/reflectlite.Value).Set.unaddressable")
  let val ← loadVar src b
  if ← Rtype.directlyAssignable dst src then storeVar dst a val
  else if ← Rtype.implements dst src then
   if(← Rtype.kind src) == 20 then
    match val with
    | .nilIface => unsupported (.noEntry "extern/reflectlite: a nil value of one interface type handed on as a value of another")
    | _=>storeVar dst a val
   else storeVar dst a (.iface src val)
  else panicString ("reflectlite.Set: value of type " ++ (← Rtype.spelt src) ++ " is not assignable to type " ++ (← Rtype.spelt dst))
  pure (.tuple #[])):=rfl
theorem Lu(v:Value)(w:World):(ReflectliteType.typeOf #[.iface 42 v]).run prog w=.ok (.iface 249 (.agg #[.pointer (some ⟨1,42,none⟩)])) w:=aC
theorem Sq(n:Int)(w:World):(ReflectliteValue.unpack (.iface 42 (.int .i64 n))).run prog w
  = .ok (.agg #[.pointer (some ⟨1,42,none⟩),.pointer (some ⟨w.heap.size,0,none⟩),.int .u64 130]) (w.alloc (.cells #[.int .i64 n] 42)):=aC
theorem Om(t:Addr)(w:World):(ReflectliteValue.unpack (.iface 106 (.pointer (some t)))).run prog w
  = .ok (.agg #[.pointer (some ⟨1,106,none⟩),.pointer (some ⟨w.heap.size,0,none⟩),.int .u64 150]) (w.alloc (.cells #[.pointer (some t)] 106)):=aC
theorem CJ (a : Addr) (w : World) : (ReflectliteValue.methodAny (ReflectliteValue.valueError "reflectlite.Value.Type" 0) (fun t _ _ _ => ReflectliteType.toType t) #[.agg #[.pointer (some ⟨1, 106, none⟩), .pointer (some a), .int .u64 150]]).run prog w
  = .ok (.iface 249 (.agg #[.pointer (some ⟨1,106,none⟩)])) w:=by kernel_rfl
theorem DV(w:World):((ReflectliteType.abiMethod fun t=>Functor.map    (fun a:Nat=>Value.int .u8 a) (Rtype.kind t)) #[.pointer (some ⟨1,106,none⟩)]).run prog w=.ok (.int .u8 22) w:=aC
theorem IF(w:World):((ReflectliteType.abiMethod fun t=>Functor.map    (fun a:Nat=>Value.int .u8 a) (Rtype.kind t)) #[.pointer (some ⟨1,42,none⟩)]).run prog w=.ok (.int .u8 2) w:=aC
theorem Ml(a:Addr)(w:World):(ReflectliteValue.parts (.agg #[.pointer (some ⟨1,106,none⟩),.pointer (some a),.int .u64 150])).run prog w=.ok (some (106,a,150)) w:=aC
theorem Zu(a p:Addr)(W:World)(ha:W.cell? a=some (.pointer (some p))) :
  (ReflectliteValue.method (ReflectliteValue.valueError "reflectlite.Value.IsNil" 0) ReflectliteValue.isNil #[.agg #[.pointer (some ⟨1, 106, none⟩), .pointer (some a), .int .u64 150]]).run prog W = .ok (.bool false) W := by
 rw[MQ];simp only[Sem.run_bind,Ml,Result.andThen];simp[ReflectliteValue.isNil,loadVar,isAgg,underlying,underlying106,ha,Result.andThen]
theorem AM(w:World):(ReflectliteType.method ReflectliteType.elem #[.agg #[.pointer (some ⟨1,106,none⟩)]]).run prog w=.ok (.iface 249 (.agg #[.pointer (some ⟨1,42,none⟩)])) w:=aC
theorem Hp (w : World) : (ReflectliteType.relation "Implements" ReflectliteType.implements_ #[.agg #[.pointer (some ⟨1, 42, none⟩)], .iface 249 (.agg #[.pointer (some ⟨1, 27, none⟩)])]).run prog w = .ok (.bool true) w := by kernel_rfl
theorem Dz (w : World) : (ReflectliteType.relation "AssignableTo" ReflectliteType.assignableTo #[.agg #[.pointer (some ⟨1, 42, none⟩)], .iface 249 (.agg #[.pointer (some ⟨1, 42, none⟩)])]).run prog w = .ok (.bool true) w := by kernel_rfl
theorem Wy(w:World):(Rtype.elem? 106).run prog w=.ok (some 42) w:=aC
theorem NS(p:Addr)(w:World):(ReflectliteValue.mk 42 p ReflectliteValue.flagAddr).run prog w=.ok (.agg #[.pointer (some ⟨1,42,none⟩),.pointer (some p),.int .u64 386]) w:=aC
theorem AK(a p:Addr)(W:World)(ha:W.cell? a=some (.pointer (some p))) :
  (ReflectliteValue.method (ReflectliteValue.valueError "reflectlite.Value.Elem" 0) ReflectliteValue.elem #[.agg #[.pointer (some ⟨1, 106, none⟩), .pointer (some a), .int .u64 150]]).run prog W
    = .ok (.agg #[.pointer (some ⟨1,42,none⟩),.pointer (some p),.int .u64 386]) W:=by
 rw[MQ];simp only[Sem.run_bind,Ml,Result.andThen];simp[ReflectliteValue.elem,loadVar,isAgg,underlying,underlying106,ha,Result.andThen,Wy,NS]
theorem Zd(a:Addr)(w:World):(ReflectliteValue.parts (.agg #[.pointer (some ⟨1,42,none⟩),.pointer (some a),.int .u64 386])).run prog w=.ok (some (42,a,386)) w:=aC
theorem DG(a:Addr)(w:World):(ReflectliteValue.parts (.agg #[.pointer (some ⟨1,42,none⟩),.pointer (some a),.int .u64 130])).run prog w=.ok (some (42,a,130)) w:=aC
theorem Xa(w:World):(Rtype.directlyAssignable 42 42).run prog w=.ok true w:=aC
theorem JV(j b:Addr)(n:Int)(l:Value)(W:World)(m:W.cell? b=some (.int .i64 n))(p:W.cell? j=some l)(r:W.frozen? j=false) :
  (ReflectliteValue.set #[.agg #[.pointer (some ⟨1,42,none⟩),.pointer (some j),.int .u64 386],.agg #[.pointer (some ⟨1,42,none⟩),.pointer (some b),.int .u64 130]]).run prog W
    = .ok (.tuple #[]) (W.setCell j (.int .i64 n)):=by
 rw[NQ];simp only[Sem.run_bind,Zd,DG,Result.andThen];simp[ReflectliteValue.flagAddr,loadVar,isAgg,underlying,underlying42,m,Result.andThen,Xa,storeVar,Value.cells,storeCells,Addr.add];rw[run_store prog W j _ _ (by rfl)];simp[p,r]
theorem IZ(n:Int)(t:Addr)(old:Value)(w:World)(hg:Laid w)(ht0:w.cell? t=some old)(hf0:w.frozen? t=false) :
  Calls prog 57 #[.iface 42 (.int .i64 n),.iface 106 (.pointer (some t))] w fun ev w'=>ev=.returned (.bool true)∧∃w1,Below w.heap.size w w1∧w'=w1.setCell t (.int .i64 n):=by
 have h6:=@run_callFunc_extern prog 100 _ (fun args=>ReflectliteValue.unpack (args.getD 0 (.tuple #[]))) func100 (by kernel_rfl) (by kernel_rfl) (by kernel_rfl) (by kernel_rfl)
 have h7 := @run_callFunc_extern prog 101 _ (ReflectliteValue.methodAny (ReflectliteValue.valueError "reflectlite.Value.Type" 0) (fun t _ _ _ => ReflectliteType.toType t)) func101 (by kernel_rfl) (by kernel_rfl) (by kernel_rfl) (by kernel_rfl)
 have h8 := @run_callFunc_extern prog 102 _ (ReflectliteValue.method (ReflectliteValue.valueError "reflectlite.Value.IsNil" 0) ReflectliteValue.isNil) func102 (by kernel_rfl) (by kernel_rfl) (by kernel_rfl) (by kernel_rfl)
 have h27:=@run_callFunc_extern prog 289 _ (ReflectliteType.abiMethod fun t=>do pure (.int .u8 (← Rtype.kind t))) func289 (by kernel_rfl) (by kernel_rfl) (by kernel_rfl) (by kernel_rfl);have h37:=@run_callFunc_extern prog 309 _ (ReflectliteType.method ReflectliteType.elem) func309 (by kernel_rfl) (by kernel_rfl) (by kernel_rfl) (by kernel_rfl)
 have h38 := @run_callFunc_extern prog 310 _ (ReflectliteType.relation "Implements" ReflectliteType.implements_) func310 (by kernel_rfl) (by kernel_rfl) (by kernel_rfl) (by kernel_rfl)
 have h10:=@run_callFunc_extern prog 158 _ ReflectliteType.typeOf func158 (by kernel_rfl) (by kernel_rfl) (by kernel_rfl) (by kernel_rfl)
 have h35 := @run_callFunc_extern prog 307 _ (ReflectliteType.relation "AssignableTo" ReflectliteType.assignableTo) func307 (by kernel_rfl) (by kernel_rfl) (by kernel_rfl) (by kernel_rfl)
 have h11 := @run_callFunc_extern prog 159 _ (ReflectliteValue.method (ReflectliteValue.valueError "reflectlite.Value.Elem" 0) ReflectliteValue.elem) func159 (by kernel_rfl) (by kernel_rfl) (by kernel_rfl) (by kernel_rfl)
 have h12:=@run_callFunc_extern prog 160 _ ReflectliteValue.set func160 (by kernel_rfl) (by kernel_rfl) (by kernel_rfl) (by kernel_rfl);have tO:=Lu;have mA:=qV;have aE:=Dz;have vE:=Sq;have f6:=Om;have f7:=CJ;have mK:=Kh;have mE:=Ki;have mI:=tD;have kP:=DV;have kE:=IF;have eP:=AM;have iE:=Hp;have n8:=Zu ⟨w.heap.size,0,none⟩ t ((w.alloc (.cells #[.pointer (some t)] 106)).alloc (.cells #[.pointer (some ⟨1,106,none⟩),.pointer (some ⟨w.heap.size,0,none⟩),.int .u64 150] 173)) (by simp);have hg2:((w.alloc (.cells #[.pointer (some t)] 106)).alloc (.cells #[.pointer (some ⟨1,106,none⟩),.pointer (some ⟨w.heap.size,0,none⟩),.int .u64 150] 173)).cell? ⟨0,0,none⟩=some (.iface 249 (.agg #[.pointer (some ⟨1,27,none⟩)])):=(hg.alloc _).alloc _;have htl:t.block<w.heap.size:=by
  rcases Nat.lt_or_ge t.block w.heap.size with h | h
  ·exact h
  simp[PE,Array.getElem?_eq_none h]at ht0
 have el:=AK ⟨w.heap.size,0,none⟩ t (((w.alloc (.cells #[.pointer (some t)] 106)).alloc (.cells #[.pointer (some ⟨1,106,none⟩),.pointer (some ⟨w.heap.size,0,none⟩),.int .u64 150] 173)).alloc (.cells #[.pointer (some ⟨1,106,none⟩),.pointer (some ⟨w.heap.size,0,none⟩),.int .u64 150] 173)) (by rw[PC _ _ ⟨w.heap.size,0,none⟩ (by simp;omega)];simp);have st:=JV t ⟨w.heap.size+1+1+1,0,none⟩ n old ((((w.alloc (.cells #[.pointer (some t)] 106)).alloc (.cells #[.pointer (some ⟨1,106,none⟩),.pointer (some ⟨w.heap.size,0,none⟩),.int .u64 150] 173)).alloc (.cells #[.pointer (some ⟨1,106,none⟩),.pointer (some ⟨w.heap.size,0,none⟩),.int .u64 150] 173)).alloc (.cells #[.int .i64 n] 42))
  (by rw[World.cell?_alloc_at _ _ _ _ (by simp)];rfl)
  (by rw[PC _ _ t (by simp;omega),PC _ _ t (by simp;omega),PC _ _ t (by simp;omega),PC _ _ t htl];exact ht0)
  (by rw[PD _ _ t (by simp;omega),PD _ _ t (by simp;omega),PD _ _ t (by simp;omega),PD _ _ t (Nat.ne_of_lt htl)];exact hf0)
 clear hg ht0 hf0;go_enter func57,ntmps57
 go_wp2
 refine wp_loop_rounds 1 ?_;rw[rounds_succ];go_wp2
 go_ret
 exact⟨rfl,_,aJ (aJ (aJ (aJ (Below.refl _ _) _) _) _) _,rfl⟩
theorem Xg(n:Int)(w:World)(m:Laid w) :
  Calls prog 17 #[.iface 42 (.int .i64 n)] w fun e w'=>e=.returned (.int .i64 n)∧Below w.heap.size w w':=by
 have r:=aI (IZ n ⟨w.heap.size,0,none⟩ (.int .i64 0) (w.alloc (.cells #[.int .i64 0] 42)) (m.alloc _) aD aD);clear m;go_enter func17,ntmps17;go_wp2_with fail;refine r.mono ?_;rintro e w' ⟨rfl,b,b1,rfl⟩;have j:b.heap[w.heap.size]?=some (.cells #[.int .i64 0] 42 (0,0)):=(b1.block _ aD).trans (aK _ _ rfl);have s:(b.setCell ⟨w.heap.size,0,none⟩ (.int .i64 n)).cell? ⟨w.heap.size,0,none⟩=some (.int .i64 n):=by
  have:=heap_setCell_same _ _ 0 _ _ (.int .i64 n) j;simp[PE,this]
 have B:=aI (fO (aN (aJ (Below.refl w.heap.size w) (.cells #[.int .i64 0] 42)) b1) (p:=⟨w.heap.size,0,none⟩) (Nat.le_refl _) (.int .i64 n));clear b1 j;obtain⟨w2,l⟩:=aG (b.setCell ⟨w.heap.size,0,none⟩ (.int .i64 n));rw[l]at s B ⊢;clear l;go_wp2;go_ret;exact⟨rfl,B⟩
theorem GZ(v:Value)(b:TypeId)(w:World):(Instr.typeAssert (.iface 42 v) b 257 true).run prog w=.ok (.tuple #[.nilIface,.bool false]) w:=run_typeAssert_lacksB underlying257 aC aC v b w
theorem DJ(v:Value)(b:TypeId)(w:World):(Instr.typeAssert (.iface 42 v) b 259 true).run prog w=.ok (.tuple #[.nilIface,.bool false]) w:=run_typeAssert_lacksB underlying259 aC aC v b w
theorem EU(v:Value)(b:TypeId)(w:World):(Instr.typeAssert (.iface 107 v) b 257 true).run prog w=.ok (.tuple #[.iface 107 v,.bool true]) w:=run_typeAssert_hasB underlying257 aC v b w
theorem zD (c n : Value) (w : World) : (Go.method 495 107 (.agg #[c, n]) "Unwrap").run prog w = .ok (294, .agg #[c, n]) w := by kernel_rfl
end Go.Proofs.YtbkkolfpegplgaaGreatDoor
