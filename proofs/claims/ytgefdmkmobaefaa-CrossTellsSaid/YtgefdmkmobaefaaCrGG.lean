/-
 What a message does, as a table.
-/
import Derived.Test.YtgefdmkmobaefaaCrGA
set_option linter.unusedSimpArgs false
set_option linter.unusedVariables false
namespace Go.Cr
section
variable {isP : List UInt8 → Bool} {clash : List UInt8 → List UInt8 → Bool} {PS : List (List UInt8)} {w w' : Wd}
end
end Go.Cr

namespace Go.Cr
section
variable {isP : List UInt8 → Bool} {clash : List UInt8 → List UInt8 → Bool} {PS : List (List UInt8)} {w w' : Wd}
end
end Go.Cr

/-
 Messages run out; what a round comes to.
-/
namespace Go.Cr
section
variable {isP : List UInt8 → Bool} {clash : List UInt8 → List UInt8 → Bool} {PS : List (List UInt8)} {w w' : Wd}
end
end Go.Cr

/-
 What is asked is answered: unsure cases, sure ones, questions.
-/
namespace Go.Cr
section
variable {isP : List UInt8 → Bool} {clash : List UInt8 → List UInt8 → Bool} {PS : List (List UInt8)} {w w' : Wd}
end
end Go.Cr

/-
 Rounds: after six of them all is done.
-/
namespace Go.Cr
section
variable {isP : List UInt8 → Bool} {clash : List UInt8 → List UInt8 → Bool} {PS : List (List UInt8)} {w w' : Wd}
def agL (w : Wd) (k : Nat) : List Mg := ((w.bs[k]?).map againP).getD []
def akL (w : Wd) (k : Nat) : List Mg := ((w.ps[k]?).map askP).getD []
def wr (w : Wd) : List Nat → List Mg → List Mg
 | [], l => l
 | g :: gs, l => wr w gs (sendL (sendL l (agL w g)) (akL w g))
end
end Go.Cr
