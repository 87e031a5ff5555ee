/- Part of the proof that TopScriptsCard holds. -/
import Derived.Test.YtahlmpbhfljalaaGreatDoorWw32
import Derived.SevenTiedAt
set_option linter.all false
namespace Go.Proofs.YtahlmpbhfljalaaGreatDoor
def akP:(Tryz.prog.funcs.toList.all λfn=>!fn.goes)=true:=ai
def akO(f:FuncId):Tryz.prog.goes f=false:=by
 have b:∀(g:Nat)(fn:Func),Tryz.prog.funcs[g]? = some fn->fn.goes=false:=λg fn h=>by
  have l:fn∈Tryz.prog.funcs.toList:=bE (by rw[cI];exact h)
  have:=aJ.1 akP fn l
  simpa using this
 have h1:((Tryz.prog.closure f).any λg=>(Tryz.prog.funcs[g]?).any Func.goes)=false:=by
  rw[List.any_eq_false];intro g _ hg;cases i:Tryz.prog.funcs[g]? with
  |none=>rw[i]at hg;cases hg
  |some fn=>rw[i]at hg;rw[Option.any_some,b g fn i]at hg;cases hg
 have h2:Tryz.prog.funcs.any Func.goes=false:=by
  rw[<-Array.any_toList,List.any_eq_false];intro fn l hg;have:=aJ.1 akP fn l;rw[hg]at this;cases this
 unfold Program.goes;rw[h1,h2,Bool.and_false];rfl
def gU:false=Rows.topScriptsRow.goesBy Tryz.pinned.checked.prog:=by
 show false=((Tryz.prog.funcNamed Rows.topScriptsRow.func).any Tryz.prog.goes||false);cases Tryz.prog.funcNamed Rows.topScriptsRow.func with
 |none=>rfl
 |some f=>rw[Option.any_some,akO,eO]
end Go.Proofs.YtahlmpbhfljalaaGreatDoor
