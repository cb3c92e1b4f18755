import Derived.KernelRfl
namespace Go.Proofs.YtbkkolfpegplgaaGreatDoor
theorem aA{p:Prop}(h:p:=by omega):p:=h
theorem aB{p:Prop}(h:p:=by decide):p:=h
theorem aC{p:Prop}(h:p:=by kernel_rfl):p:=h
theorem aD{p:Prop}(h:p:=by simp):p:=h
theorem aF{p:Prop}(h:p:=by assumption):p:=h
theorem aG{α:Sort _}(x:α):∃y,x=y:=⟨x,rfl⟩
theorem aH{α:Sort _}(x:α):∃y,y=x:=⟨x,rfl⟩
end Go.Proofs.YtbkkolfpegplgaaGreatDoor
