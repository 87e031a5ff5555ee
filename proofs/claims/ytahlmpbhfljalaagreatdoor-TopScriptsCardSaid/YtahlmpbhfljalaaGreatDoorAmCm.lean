/- Part of the proof that TopScriptsCard holds. -/
import Derived.Test.YtahlmpbhfljalaaGreatDoorAl0
import Derived.Calls
set_option linter.all false
namespace Go.Am.S
abbrev d(n:Nat):Edge:=⟨n,.data⟩
abbrev c(n:Nat):Edge:=⟨n,.chain⟩
abbrev g(n:Nat):Edge:=⟨n,.guard⟩
abbrev p(n:Nat):Edge:=⟨n,.phase⟩
abbrev t(n:Nat):Operand:=.tmp n
abbrev k(f:Callee)(a:Array Operand)(b:Array TypeId):Op:=.call {callee:=f,args:=a,argTypes:=b}
abbrev J(d:Option Nat)(o:Op)(ty:TypeId)(p:String)(a:Array Edge)(g:Option (Nat×Bool)):Oper:=⟨d,o,ty,p,a,g⟩
abbrev j(d:Nat)(o:Op)(ty:TypeId)(p:String)(a:Array Edge):Oper:=J (some d) o ty p a none
abbrev m(d i:Nat)(ty:TypeId)(p:String)(a:Array Edge):Oper:=j d (.move (t i)) ty p a
abbrev a(d i:Nat)(ty:TypeId)(p:String)(a:Array Edge):Oper:=j d (.assign (t i)) ty p a
abbrev R(n:Nat)(o:Array Oper):Code:=.region n o false
abbrev I(c:Operand)(x y:Code):Code:=.cond c x y
abbrev V{α:Type}(x:α){y:α}(_:x=y):α:=y
end Go.Am.S
