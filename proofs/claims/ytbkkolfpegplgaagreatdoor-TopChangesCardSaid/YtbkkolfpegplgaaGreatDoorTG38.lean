import Derived.Test.YtbkkolfpegplgaaGreatDoorTG24
import Derived.Test.YtbkkolfpegplgaaGreatDoorTG33
import Derived.Shelf.SlSortCmp.WholeK
open Go.Proofs.Tryz
set_option maxHeartbeats 1600000
set_option maxRecDepth 100000
set_option linter.unusedVariables false
set_option linter.unusedSimpArgs false
namespace Go.Proofs.YtbkkolfpegplgaaGreatDoor
open Go Go.RowKit Go.Lib Go.Sort Go.Shelf
def Pz:Go.Shelf.Ren:=⟨fun | 14=>148 | 20=>200 | 21=>201 | 22=>202 | 23=>203 | 24=>204 | 25=>205 | 26=>206 | 27=>207 | 46=>238 | 47=>239 | 48=>240 | 49=>241 | 50=>242 | 15=>149 | 57=>260 | 28=>208 | 29=>147 | n=>n,fun | 24=>123 | 22=>55 | 3=>3 | 25=>151 | 4=>4 | 0=>0 | 46=>302 | 45=>301 | 50=>218 | 66=>335 | 39=>146 | 55=>57 | 70=>338 | 76=>355 | 77=>120 | 53=>197 | 5=>5 | 9=>9 | n=>n,fun | n=>n⟩
theorem GW:SlLaysF0.n14 prog Pz where
 mixed:=aC
 f14:=⟨f148.name,aB,func148.trans (congrArg some aC)⟩
 f15:=func149.trans (congrArg some aC)
 f20:=⟨f200.name,aB,func200.trans (congrArg some aC)⟩
 f21:=⟨f201.name,aB,func201.trans (congrArg some aC)⟩
 f22:=⟨f202.name,aB,func202.trans (congrArg some aC)⟩
 f23:=⟨f203.name,aB,func203.trans (congrArg some aC)⟩
 f24:=⟨f204.name,aB,func204.trans (congrArg some aC)⟩
 f25:=⟨f205.name,aB,func205.trans (congrArg some aC)⟩
 f26:=⟨f206.name,aB,func206.trans (congrArg some aC)⟩
 f27:=⟨f207.name,aB,func207.trans (congrArg some aC)⟩
 f28:=func208.trans (congrArg some aC)
 f29:=func147.trans (congrArg some aC)
 f46:=⟨f238.name,aB,func238.trans (congrArg some aC)⟩
 f47:=func239.trans (congrArg some aC)
 f48:=func240.trans (congrArg some aC)
 f49:=⟨f241.name,aB,func241.trans (congrArg some aC)⟩
 f50:=⟨f242.name,aB,func242.trans (congrArg some aC)⟩
 f57:=⟨f260.name,aB,func260.trans (congrArg some aC)⟩
 t0:=underlying0
 a0:=isAgg0
 z0:=sizeOf0
 v0:=zeroValue0
 t3:=underlying3
 a3:=isAgg3
 z3:=sizeOf3
 v3:=zeroValue3
 t4:=underlying4
 a4:=isAgg4
 z4:=sizeOf4
 v4:=zeroValue4
 t5:=underlying5
 a5:=isAgg5
 z5:=sizeOf5
 v5:=zeroValue5
 t9:=underlying9
 a9:=isAgg9
 z9:=sizeOf9
 v9:=zeroValue9
 t22:=underlying55
 a22:=isAgg55
 z22:=sizeOf55
 v22:=zeroValue55
 t25:=underlying151
 a25:=isAgg151
 z25:=sizeOf151
 v25:=zeroValue151
 t39:=underlying146
 a39:=isAgg146
 z39:=sizeOf146
 v39:=zeroValue146
 t45:=underlying301
 a45:=isAgg301
 z45:=sizeOf301
 v45:=zeroValue301
 t46:=underlying302
 a46:=isAgg302
 z46:=sizeOf302
 v46:=zeroValue302
 t50:=underlying218
 a50:=isAgg218
 z50:=sizeOf218
 v50:=zeroValue218
 t53:=underlying197
 a53:=isAgg197
 z53:=sizeOf197
 v53:=zeroValue197
 t55:=underlying57
 a55:=isAgg57
 z55:=sizeOf57
 v55:=zeroValue57
 t66:=underlying335
 a66:=isAgg335
 z66:=sizeOf335
 v66:=zeroValue335
 t70:=underlying338
 a70:=isAgg338
 z70:=sizeOf338
 v70:=zeroValue338
 t76:=underlying355
 a76:=isAgg355
 z76:=sizeOf355
 v76:=zeroValue355
 t77:=underlying120
 a77:=isAgg120
 z77:=sizeOf120
 v77:=zeroValue120
def sO (x:Int×Int):List Value:=[.int .u64 x.1,.int .u64 x.2]
def oM (x y:Int):Int:=if x<y then -1 else if y<x then 1 else 0
theorem FQ(x:Int)(w:World):Calls prog 92 #[.int .u64 x,.int .u64 x] w fun e w'=>e=.returned (.int .i64 0)∧w=w':=by
 go_enter func92,ntmps92;go_wp2;go_ret;exact⟨rfl,rfl⟩
theorem AQ(x y:Int)(w:World):Calls prog 92 #[.int .u64 x,.int .u64 y] w fun e w'=>e=.returned (.int .i64 (oM x y))∧w=w':=by
 unfold oM;by_cases h1:x<y
 ·rw[if_pos h1];exact Xi x y h1 w
 by_cases h2:y<x
 ·rw[if_neg h1,if_pos h2];exact Lg x y h2 w
 rw[if_neg h1,if_neg h2];obtain rfl:x=y:=aA;exact FQ x w
theorem Jl(x y:Int×Int)(W:World):Calls prog 91 #[.agg #[.int .u64 x.1,.int .u64 x.2],.agg #[.int .u64 y.1,.int .u64 y.2]] W fun e w'=>e=.returned (.int .i64 (oM x.1 y.1))∧∃q os',w'=grow (W.drewN q) os':=by
 have b:=aI (fun l=>AQ x.1 y.1 l);obtain⟨r,j⟩:=aG (oM x.1 y.1);rw[j]at b ⊢;clear j;go_enter func91,ntmps91;go_wp2_with fail;refine(b _).mono ?_;rintro e w' ⟨rfl,rfl⟩;go_wp2;go_ret;exact⟨rfl,0,_,by rw[alloc_eq_grow,alloc_eq_grow,grow_grow];rfl⟩
theorem Xj(blk off size:Nat)(w:World):CmpLays prog 91 #[] sO 2 (fun x y=>oM x.1 y.1) blk off size w:=
 fun _ _ _ _ x y=>Jl x y _
theorem My(x y:Int×Int):ltOf (fun x y:Int×Int=>oM x.1 y.1) x y=decide (x.1<y.1):=by
 unfold ltOf oM;by_cases h1:x.1<y.1
 ·simp[h1]
 by_cases h2:y.1<x.1<;>simp[h1,h2]
theorem Tc:SWO (ltOf fun x y:Int×Int=>oM x.1 y.1) where
 irrefl x:=by rw[My];simp
 trans x y z h1 h2:=by rw[My]at *;simp at *;omega
 ntrans x y z h1 h2:=by rw[My]at *;simp at *;omega
theorem yZ(blk cap:Nat)(d:Array (Int×Int))(w:World)(hH:HoldsK sO 2 w blk 0 d)(hblk:blk<w.heap.size)(hsz:d.size<4611686018427387904) :
  Calls prog 90 #[.slice (some ⟨blk,0,none⟩) d.size cap,.func (.func 91) #[] #[]] w fun e w'=>e=.returned (.tuple #[])∧∃d' n os,PermIn 0 d.size d d'∧SortedIn (ltOf fun x y:Int×Int=>oM x.1 y.1) 0 d.size d'∧w'=sortWorldK sO 2 w blk 0 n d' os:=by
 have s:∀args w,(callFunc 91 args).run prog w=.ok (.enter 91 args) w:=fun _ _=>aC;have p:Lib.bitLen d.size<4611686018427387904:=Nat.lt_of_le_of_lt (Lib.bitLen_le d.size 62 aA aA) aA;have b:=aI (fun w=>(by
  have h:=lC (d.size:Int) w aA aA;rwa [Int.toNat_natCast]at h:Calls prog 149 #[.int .u64 (d.size:Int)] w fun e w'=>e=.returned (.int .i64 (Lib.bitLen d.size:Nat))∧w'=w))
 have j:=AnyQ.pdqsortCmpFunc_all GW 2 isAgg123 sizeOf123 sO (fun x y=>oM x.1 y.1) 91 #[] Tc blk 0 cap d w s (Xj blk 0 d.size w) ⟨fun _=>rfl,fun x v hv=>by simp[sO]at hv;rcases hv with rfl | rfl<;>rfl,hH,hblk⟩ (d.size+1) 0 d.size (Lib.bitLen d.size) d w aA rfl (SWK.start hH) (Nat.zero_le _) (Nat.le_refl _) hsz p (Or.inl rfl);change Calls prog 148 _ _ _ at j
 have r:=aI j;clear j hH;obtain⟨l,m⟩:=aG (Lib.bitLen d.size);have u:=aI m;rw[m]at b r p;clear m;go_enter func90,ntmps90;go_wp2_with fail;refine(b.out _).mono ?_;rintro e w' ⟨rfl,rfl⟩;go_wp2_with fail;refine r.mono ?_;rintro e w' ⟨rfl,n,os,rfl⟩;go_wp2;go_end0;have h:=pdq_sorts (ltOf fun x y:Int×Int=>oM x.1 y.1) Tc d 0 d.size l true true (Nat.zero_le _) (Nat.le_refl _) (Or.inl rfl);exact⟨rfl,_,n,os,h.1,h.2,rfl⟩
end Go.Proofs.YtbkkolfpegplgaaGreatDoor
