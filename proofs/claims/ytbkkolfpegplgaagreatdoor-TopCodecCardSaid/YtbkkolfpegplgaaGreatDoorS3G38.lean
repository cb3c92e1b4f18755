/- slices.SortFunc of intervals by their Lo. (Printed by wip/mksegsort.py.) -/
import Derived.Test.YtbkkolfpegplgaaGreatDoorS3G24
import Derived.Test.YtbkkolfpegplgaaGreatDoorS3G13
import Derived.Test.YtbkkolfpegplgaaGreatDoorS3G33
import Derived.Test.YtbkkolfpegplgaaGreatDoorS3G21
import Derived.Shelf.SlSortCmp.WholeK
set_option maxHeartbeats 1600000
set_option maxRecDepth 100000
set_option linter.unusedVariables false
set_option linter.unusedSimpArgs false
namespace Go.Proofs.YtbkkolfpegplgaaGreatDoor
open Go Go.RowKit Go.Lib Go.Sort Go.Shelf
def pdqIv_ren:Go.Shelf.Ren:=⟨fun | 14=>148 | 20=>200 | 21=>201 | 22=>202 | 23=>203 | 24=>204 | 25=>205 | 26=>206 | 27=>207 | 46=>238 | 47=>239 | 48=>240 | 49=>241 | 50=>242 | 15=>149 | 57=>260 | 28=>208 | 29=>147 | n=>n,fun | 24=>123 | 22=>55 | 3=>3 | 25=>151 | 4=>4 | 0=>0 | 46=>302 | 45=>301 | 50=>218 | 66=>335 | 39=>146 | 55=>57 | 70=>338 | 76=>355 | 77=>120 | 53=>197 | 5=>5 | 9=>9 | n=>n,fun | n=>n⟩
theorem pdqIv:SlLaysF0.n14 Tryz.prog pdqIv_ren where
 mixed:=by kernel_rfl
 f14:=⟨Tryz.f148.name,by decide,Tryz.func148.trans (congrArg some (by kernel_rfl))⟩
 f15:=Tryz.func149.trans (congrArg some (by kernel_rfl))
 f20:=⟨Tryz.f200.name,by decide,Tryz.func200.trans (congrArg some (by kernel_rfl))⟩
 f21:=⟨Tryz.f201.name,by decide,Tryz.func201.trans (congrArg some (by kernel_rfl))⟩
 f22:=⟨Tryz.f202.name,by decide,Tryz.func202.trans (congrArg some (by kernel_rfl))⟩
 f23:=⟨Tryz.f203.name,by decide,Tryz.func203.trans (congrArg some (by kernel_rfl))⟩
 f24:=⟨Tryz.f204.name,by decide,Tryz.func204.trans (congrArg some (by kernel_rfl))⟩
 f25:=⟨Tryz.f205.name,by decide,Tryz.func205.trans (congrArg some (by kernel_rfl))⟩
 f26:=⟨Tryz.f206.name,by decide,Tryz.func206.trans (congrArg some (by kernel_rfl))⟩
 f27:=⟨Tryz.f207.name,by decide,Tryz.func207.trans (congrArg some (by kernel_rfl))⟩
 f28:=Tryz.func208.trans (congrArg some (by kernel_rfl))
 f29:=Tryz.func147.trans (congrArg some (by kernel_rfl))
 f46:=⟨Tryz.f238.name,by decide,Tryz.func238.trans (congrArg some (by kernel_rfl))⟩
 f47:=Tryz.func239.trans (congrArg some (by kernel_rfl))
 f48:=Tryz.func240.trans (congrArg some (by kernel_rfl))
 f49:=⟨Tryz.f241.name,by decide,Tryz.func241.trans (congrArg some (by kernel_rfl))⟩
 f50:=⟨Tryz.f242.name,by decide,Tryz.func242.trans (congrArg some (by kernel_rfl))⟩
 f57:=⟨Tryz.f260.name,by decide,Tryz.func260.trans (congrArg some (by kernel_rfl))⟩
 t0:=Tryz.underlying0
 a0:=Tryz.isAgg0
 z0:=Tryz.sizeOf0
 v0:=Tryz.zeroValue0
 t3:=Tryz.underlying3
 a3:=Tryz.isAgg3
 z3:=Tryz.sizeOf3
 v3:=Tryz.zeroValue3
 t4:=Tryz.underlying4
 a4:=Tryz.isAgg4
 z4:=Tryz.sizeOf4
 v4:=Tryz.zeroValue4
 t5:=Tryz.underlying5
 a5:=Tryz.isAgg5
 z5:=Tryz.sizeOf5
 v5:=Tryz.zeroValue5
 t9:=Tryz.underlying9
 a9:=Tryz.isAgg9
 z9:=Tryz.sizeOf9
 v9:=Tryz.zeroValue9
 t22:=Tryz.underlying55
 a22:=Tryz.isAgg55
 z22:=Tryz.sizeOf55
 v22:=Tryz.zeroValue55
 t25:=Tryz.underlying151
 a25:=Tryz.isAgg151
 z25:=Tryz.sizeOf151
 v25:=Tryz.zeroValue151
 t39:=Tryz.underlying146
 a39:=Tryz.isAgg146
 z39:=Tryz.sizeOf146
 v39:=Tryz.zeroValue146
 t45:=Tryz.underlying301
 a45:=Tryz.isAgg301
 z45:=Tryz.sizeOf301
 v45:=Tryz.zeroValue301
 t46:=Tryz.underlying302
 a46:=Tryz.isAgg302
 z46:=Tryz.sizeOf302
 v46:=Tryz.zeroValue302
 t50:=Tryz.underlying218
 a50:=Tryz.isAgg218
 z50:=Tryz.sizeOf218
 v50:=Tryz.zeroValue218
 t53:=Tryz.underlying197
 a53:=Tryz.isAgg197
 z53:=Tryz.sizeOf197
 v53:=Tryz.zeroValue197
 t55:=Tryz.underlying57
 a55:=Tryz.isAgg57
 z55:=Tryz.sizeOf57
 v55:=Tryz.zeroValue57
 t66:=Tryz.underlying335
 a66:=Tryz.isAgg335
 z66:=Tryz.sizeOf335
 v66:=Tryz.zeroValue335
 t70:=Tryz.underlying338
 a70:=Tryz.isAgg338
 z70:=Tryz.sizeOf338
 v70:=Tryz.zeroValue338
 t76:=Tryz.underlying355
 a76:=Tryz.isAgg355
 z76:=Tryz.sizeOf355
 v76:=Tryz.zeroValue355
 t77:=Tryz.underlying120
 a77:=Tryz.isAgg120
 z77:=Tryz.sizeOf120
 v77:=Tryz.zeroValue120
def encI (x:Int×Int):List Value:=[.int .u64 x.1,.int .u64 x.2]
def cmpLo (x y:Int):Int:=if x<y then -1 else if y<x then 1 else 0
theorem cmp_eq(x:Int)(w:World):Calls Tryz.prog 92 #[.int .u64 x,.int .u64 x] w fun e w'=>e=.returned (.int .i64 0)∧w=w':=by
 go_enter Tryz.func92,Tryz.ntmps92
 go_wp2
 go_ret
 exact⟨rfl,rfl⟩
theorem cmp_any(x y:Int)(w:World):Calls Tryz.prog 92 #[.int .u64 x,.int .u64 y] w fun e w'=>e=.returned (.int .i64 (cmpLo x y))∧w=w':=by
 unfold cmpLo;by_cases h1:x<y
 ·rw[if_pos h1];exact cmp_lt x y h1 w
 ·by_cases h2:y<x
  ·rw[if_neg h1,if_pos h2];exact cmp_gt x y h2 w
  ·rw[if_neg h1,if_neg h2]
   obtain rfl:x=y:=by omega
   exact cmp_eq x w
theorem segcmp_any(x y:Int×Int)(W:World):Calls Tryz.prog 91 #[.agg #[.int .u64 x.1,.int .u64 x.2],.agg #[.int .u64 y.1,.int .u64 y.2]] W fun e w'=>e=.returned (.int .i64 (cmpLo x.1 y.1))∧∃q os',w'=grow (W.drewN q) os':=by
 have hcon:=z7 (fun W'=>cmp_any x.1 y.1 W');obtain⟨r,er⟩:∃r,cmpLo x.1 y.1=r:=⟨_,rfl⟩;rw[er]at hcon ⊢;clear er;go_enter Tryz.func91,Tryz.ntmps91
 go_wp2_with fail
 refine(hcon.out _).mono ?_;rintro e w' ⟨rfl,rfl⟩;go_wp2
 go_ret
 exact⟨rfl,0,_,by rw[alloc_eq_grow,alloc_eq_grow,grow_grow];rfl⟩
theorem cmpLaysI(blk off size:Nat)(w:World):CmpLays Tryz.prog 91 #[] encI 2 (fun x y=>cmpLo x.1 y.1) blk off size w:=
 fun _ _ _ _ x y=>segcmp_any x y _
theorem ltLoI(x y:Int×Int):ltOf (fun x y:Int×Int=>cmpLo x.1 y.1) x y=decide (x.1<y.1):=by
 unfold ltOf cmpLo;by_cases h1:x.1<y.1
 ·simp[h1]
 ·by_cases h2:y.1<x.1<;>simp[h1,h2]
theorem swoLoI:SWO (ltOf fun x y:Int×Int=>cmpLo x.1 y.1) where
 irrefl x:=by rw[ltLoI];simp
 trans x y z h1 h2:=by rw[ltLoI]at *;simp at *;omega
 ntrans x y z h1 h2:=by rw[ltLoI]at *;simp at *;omega
theorem segsort_world(blk cap:Nat)(d:Array (Int×Int))(w:World)(hH:HoldsK encI 2 w blk 0 d)(hblk:blk<w.heap.size)(hsz:d.size<4611686018427387904) :
  Calls Tryz.prog 90 #[.slice (some ⟨blk,0,none⟩) d.size cap,.func (.func 91) #[] #[]] w fun e w'=>e=.returned (.tuple #[])∧∃d' n os,PermIn 0 d.size d d'∧SortedIn (ltOf fun x y:Int×Int=>cmpLo x.1 y.1) 0 d.size d'∧w'=sortWorldK encI 2 w blk 0 n d' os:=by
 have eg:∀args w,(callFunc 91 args).run Tryz.prog w=.ok (.enter 91 args) w:=fun _ _=>by kernel_rfl
 have hk:Lib.bitLen d.size<4611686018427387904:=Nat.lt_of_le_of_lt (Lib.bitLen_le d.size 62 (by omega) (by omega)) (by omega);have hLen:=z7 (fun w=>(by
  have h:=z3f (d.size:Int) w (by omega) (by omega);rwa [Int.toNat_natCast]at h:Calls Tryz.prog 149 #[.int .u64 (d.size:Int)] w fun e w'=>e=.returned (.int .i64 (Lib.bitLen d.size:Nat))∧w'=w))
 have hp:=AnyQ.pdqsortCmpFunc_all pdqIv 2 Tryz.isAgg123 Tryz.sizeOf123 encI (fun x y=>cmpLo x.1 y.1) 91 #[] swoLoI blk 0 cap d w eg (cmpLaysI blk 0 d.size w) ⟨fun _=>rfl,fun x v hv=>by simp[encI]at hv;rcases hv with rfl | rfl<;>rfl,hH,hblk⟩ (d.size+1) 0 d.size (Lib.bitLen d.size) d w (by omega) rfl (SWK.start hH) (Nat.zero_le _) (Nat.le_refl _) hsz hk (Or.inl rfl);change Calls Tryz.prog 148 _ _ _ at hp
 have HP:=z7 hp;clear hp hH;obtain⟨l,el⟩:∃l,Lib.bitLen d.size=l:=⟨_,rfl⟩;have EL:=z7 el;rw[el]at hLen HP hk;clear el;go_enter Tryz.func90,Tryz.ntmps90
 go_wp2_with fail
 refine(hLen.out _).mono ?_;rintro e w' ⟨rfl,rfl⟩;go_wp2_with fail
 refine HP.out.mono ?_;rintro e w' ⟨rfl,n,os,rfl⟩;go_wp2
 go_end0
 have h:=pdq_sorts (ltOf fun x y:Int×Int=>cmpLo x.1 y.1) swoLoI d 0 d.size l true true (Nat.zero_le _) (Nat.le_refl _) (Or.inl rfl);exact⟨rfl,_,n,os,h.1,h.2,rfl⟩
end Go.Proofs.YtbkkolfpegplgaaGreatDoor
