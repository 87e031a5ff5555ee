/- Part of the proof that TopPassedCard holds. -/
import Derived.Test.YtaepagegdgdlhaaGreatDoorProg
import Derived.Test.YtaepagegdgdlhaaGreatDoorAmTo
import Derived.KernelRfl
set_option linter.all false
namespace Go.Proofs.YtaepagegdgdlhaaGreatDoor
open Go.Am
def itT:IT:=.op (some 8) (.mv (.t 2)) (.op (some 9) (.mv (.t 8)) (.sc 14 true 9 10 13 (.op (some 10) (.mv (.t 1)) (.op (some 11) (.mki 174 (.t 0)) (.op (some 12) (.call 93 [(.t 10),(.t 11)]) (.op (some 13) (.un .not (.t 12)) (.nil))))) (.t 13) (.nil)))
def okT:acq Tryz.prog 38 92 32 20 171 itT where
 fn:=⟨Tryz.f38,_,_,_,_,_,_,Tryz.func38,rfl,rfl,ai,rfl,ai,ai,ai,rfl,rfl,rfl,rfl,rfl,rfl⟩
 gn:=⟨Tryz.f92,_,_,_,_,_,_,_,_,_,_,Tryz.func92,rfl,rfl,ai,rfl,ai,rfl,rfl,rfl,rfl,rfl,rfl,rfl,rfl,rfl,rfl,rfl,rfl,rfl,rfl,rfl,rfl,rfl,rfl,rfl,rfl,rfl⟩
 tyX:=⟨_,Tryz.underlying171⟩
 zX:=Tryz.zeroValue171
 szE:=ai
 agE:=ai
 uZ:=λΓ e h he=>by
  refine⟨_,by simp only[itT,uZ,exec,AO.get,St.put,Env.put,he,bX];rfl,?_⟩
  simp
def Y1(Γ:kP)(hΓ:mH Tryz.prog Γ)(args:List AV)(h:AH)(r:AV)(h':AH)(hr:Dp Γ args h=some (r,h')):zl Tryz.prog 38 args h r h':=Ug ai okT hΓ hr
end Go.Proofs.YtaepagegdgdlhaaGreatDoor
