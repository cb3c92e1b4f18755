/- slices.Sort at uint64: turned from the worked walks of the library's sort at int (its plain half is imported). (Printed by wip/mksort.py.) -/
import Derived.Test.YtbkkolfpegplgaaGreatDoorS3G31
import Derived.Test.YtbkkolfpegplgaaGreatDoorS3G32
import Derived.Test.YtbkkolfpegplgaaGreatDoorS3G33
import Derived.Test.YtbkkolfpegplgaaGreatDoorS3G34
import Derived.Sort.AssemblyPlain
import Derived.Sort.WalkA14
set_option maxRecDepth 100000
set_option linter.unusedVariables false
set_option linter.unusedSimpArgs false
namespace Go.Proofs.YtbkkolfpegplgaaGreatDoor
open Go Go.RowKit Go.Sort
def pdqWalk_int:Prop:=∀(blk off cap a b limit:Nat) (d:Array Int) (w:World),Holds (Value.int .u64) w blk off d→blk<w.heap.size→a≤b→b≤d.size→d.size<4611686018427387904→limit<4611686018427387904→Below ltInt a b d →
 Calls Tryz.prog 228 #[.slice (some ⟨blk,off,none⟩) d.size cap,.int .i64 a,.int .i64 b,.int .i64 limit] w fun e w'=>
  e=.returned (.tuple #[])∧∃n os,w'=grow (putRow (Value.int .u64) (Sort.ahead w n) blk off (Sort.pdq ltInt d a b limit true true)) os
theorem su_Sort_int(hpdq:pdqWalk_int)(blk off cap:Nat)(d:Array Int)(w:World)(hH:Holds (Value.int .u64) w blk off d)(hblk:blk<w.heap.size)(hsz:d.size<4611686018427387904) :
  Calls Tryz.prog 187 #[.slice (some ⟨blk,off,none⟩) d.size cap] w fun e w'=>e=.returned (.tuple #[])∧∃n os,w'=grow (putRow (Value.int .u64) (Sort.ahead w n) blk off (Sort.sort ltInt d)) os:=by
 have HH:Hid (Holds (Value.int .u64) w blk off d):=hH;clear hH;have hLen:∀w,Calls Tryz.prog 149 #[.int .u64 (d.size:Int)] w fun e w'=>e=.returned (.int .i64 (bitsLen d.size:Nat))∧w'=w:=fun w=>by
  have h:=z3f (d.size:Int) w (by omega) (by omega);rwa [Int.toNat_natCast,bitLen_eq _ (by omega)]at h
 have hk:bitsLen d.size≤62:=(bitsLen_le_iff d.size 62).2 (by omega);go_enter Tryz.func187,Tryz.ntmps187
 go_wp2_with(first
  | (go_at_call 149;refine(hLen _).mono ?_;rintro e w' ⟨rfl,rfl⟩)
  | (go_at_call 228;refine(hpdq blk off cap 0 d.size (bitsLen d.size) d _ (by exact HH.out) (by exact hblk) (Nat.zero_le _) (Nat.le_refl _) hsz (by omega) (Or.inl rfl)).mono ?_;rintro e w' ⟨rfl,n,os,rfl⟩))
 go_end0
 exact⟨rfl,n,os,rfl⟩
theorem callees13:Callees13 where
 ins:=z4r
 brk:=z4q
 piv:=z5i
 par:=z2x
 peq:=z2v
 prt:=z3u
theorem plain13:Plain13 where
 swo:=swo_ltInt
 ins:=insertionSort_holds
 par:=partialInsertionSort_holds
 prt:=partition_holds _
 peq:=partitionEqual_holds _
 pdq:=pdq_sorts _
theorem pdqWalkInt:pdqWalk_int:=fun blk off cap a b limit d w hH hb hab hbd hsz hl hB=>
 su_pdqsort_int callees13 plain13 (b-a+1) blk off cap a b limit d w (by omega) hH hb hab hbd hsz hl hB
theorem sort_int_eq(zs:List Int):Sort.sort ltInt zs.toArray=(zs.mergeSort fun x y=>decide (x≤y)).toArray:=by
 rw[← sortInt zs]
theorem z5h(blk off cap:Nat)(zs:List Int)(w:World)(hH:Holds (Value.int .u64) w blk off zs.toArray)(hblk:blk<w.heap.size)(hsz:zs.length<4611686018427387904) :
  Calls Tryz.prog 187 #[.slice (some ⟨blk,off,none⟩) zs.length cap] w fun e w'=>
   e=.returned (.tuple #[])∧∃n os,w'=grow (putRow (Value.int .u64) (Sort.ahead w n) blk off (zs.mergeSort fun x y=>decide (x≤y)).toArray) os:=by
 have h:=su_Sort_int pdqWalkInt blk off cap zs.toArray w hH hblk (by simpa using hsz);rw[sort_int_eq]at h;simpa using h
end Go.Proofs.YtbkkolfpegplgaaGreatDoor
