import Derived.Test.YtbkkolfpegplgaaGreatDoorTG31
import Derived.Test.YtbkkolfpegplgaaGreatDoorTG32
import Derived.Test.YtbkkolfpegplgaaGreatDoorTG33
import Derived.Test.YtbkkolfpegplgaaGreatDoorTG34
import Derived.Sort.AssemblyPlain
open Go.Value renaming int→PC
open Go.Proofs.Tryz
set_option maxRecDepth 100000
set_option linter.unusedVariables false
set_option linter.unusedSimpArgs false
namespace Go.Proofs.YtbkkolfpegplgaaGreatDoor
open Go Go.RowKit Go.Sort
def uM:Prop:=∀(blk off cap a b limit:Nat) (d:Array Int) (w:World),Holds (PC .u64) w blk off d→blk<w.heap.size→a≤b→b≤d.size→d.size<4611686018427387904→limit<4611686018427387904→Below ltInt a b d →
 Calls prog 228 #[.slice (some ⟨blk,off,none⟩) d.size cap,.int .i64 a,.int .i64 b,.int .i64 limit] w fun e w'=>
  e=.returned (.tuple #[])∧∃n os,w'=grow (putRow (PC .u64) (Sort.ahead w n) blk off (Sort.pdq ltInt d a b limit true true)) os
theorem Fa(j:uM)(blk off cap:Nat)(d:Array Int)(w:World)(p:Holds (PC .u64) w blk off d)(l:blk<w.heap.size)(m:d.size<4611686018427387904) :
  Calls prog 187 #[.slice (some ⟨blk,off,none⟩) d.size cap] w fun e w'=>e=.returned (.tuple #[])∧∃n os,w'=grow (putRow (PC .u64) (Sort.ahead w n) blk off (Sort.sort ltInt d)) os:=by
 have r:Hid (Holds (PC .u64) w blk off d):=p;clear p;have b:∀w,Calls prog 149 #[.int .u64 (d.size:Int)] w fun e w'=>e=.returned (.int .i64 (bitsLen d.size:Nat))∧w'=w:=fun w=>by
  have h:=lC (d.size:Int) w aA aA;rwa [Int.toNat_natCast,bitLen_eq _ aA]at h
 have s:bitsLen d.size≤62:=(bitsLen_le_iff d.size 62).2 aA;go_enter func187,ntmps187;go_wp2_with(first
  | (go_at_call 149;refine(b _).mono ?_;rintro e w' ⟨rfl,rfl⟩)
  | (go_at_call 228;refine(j blk off cap 0 d.size (bitsLen d.size) d _ (by exact r) (by exact l) (Nat.zero_le _) (Nat.le_refl _) m aA (Or.inl rfl)).mono ?_;rintro e w' ⟨rfl,n,os,rfl⟩))
 go_end0;exact⟨rfl,n,os,rfl⟩
theorem Rt:Bn where
 ins:=nX
 brk:=nY
 piv:=qP
 par:=jI
 peq:=jD
 prt:=lZ
theorem Zc:Plain13 where
 swo:=swo_ltInt
 ins:=insertionSort_holds
 par:=partialInsertionSort_holds
 prt:=partition_holds _
 peq:=partitionEqual_holds _
 pdq:=pdq_sorts _
theorem Jy:uM:=fun blk off cap a b limit d w n p j l m r s=>
 wO Rt Zc (b-a+1) blk off cap a b limit d w aA n p j l m r s
theorem Fb(zs:List Int):Sort.sort ltInt zs.toArray=(zs.mergeSort fun x y=>decide (x≤y)).toArray:=by
 rw[← sortInt zs]
theorem qO(blk off cap:Nat)(zs:List Int)(w:World)(l:Holds (PC .u64) w blk off zs.toArray)(b:blk<w.heap.size)(j:zs.length<4611686018427387904) :
  Calls prog 187 #[.slice (some ⟨blk,off,none⟩) zs.length cap] w fun e w'=>
   e=.returned (.tuple #[])∧∃n os,w'=grow (putRow (PC .u64) (Sort.ahead w n) blk off (zs.mergeSort fun x y=>decide (x≤y)).toArray) os:=by
 have h:=Fa Jy blk off cap zs.toArray w l b (by simpa using j);rw[Fb]at h;simpa using h
end Go.Proofs.YtbkkolfpegplgaaGreatDoor
