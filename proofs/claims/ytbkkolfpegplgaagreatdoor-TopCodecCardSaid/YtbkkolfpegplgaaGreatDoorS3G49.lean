/- Where what is known changes; canonical knowledge has no more intervals than that. (Plain lists.) -/
import Derived.Test.YtbkkolfpegplgaaGreatDoorS3G37
import Derived.Test.YtbkkolfpegplgaaGreatDoorS3G39
set_option linter.unusedVariables false
set_option linter.unusedSimpArgs false
namespace Go.Proofs.YtbkkolfpegplgaaGreatDoor
open Go Go.RowKit
def ChgP (K:Int→Int→Int→Prop) (S:List Int):Prop:=∀x,0<x→x ∉ S→∀r c,K x r c↔K (x-1) r c
def endsL (zs:List Iv):List Int:=zs.flatMap fun z=>[z.1,z.2+1]
def endsK (l:List FV):List Int:=l.flatMap fun f=>endsL f.items
theorem can_len{l:List FV}(h:CanL l):l.length≤totI l:=by
 have main:∀(m:List FV),(∀f∈m,f.items≠[])→m.length≤totI m:=by
  intro m;induction m with
  | nil=>intro _;exact Nat.le_refl _
  | cons f m ih=>
    intro hm;have h1:=List.length_pos_iff.2 (hm f (by simp));have h2:=ih (fun g hg=>hm g (by simp[hg]));simp only[totI,List.length_cons];omega
 exact main l fun f hf=>(h.at f hf).2.1
end Go.Proofs.YtbkkolfpegplgaaGreatDoor
