/-
  strings.Join, at this program: what the library asks of it.
-/
import Derived.Test.YtlooipgkklaijaaProg
import Derived.Test.YtlooipgkklaijaaAmBl
import Derived.KernelRfl
set_option linter.unusedSimpArgs false
set_option linter.unusedVariables false
set_option maxRecDepth 100000
namespace Go.Proofs.Ytlooipgkklaijaa
open Go.Am Go.Am.Nm Go.Shelf Go.Proofs

def joinRen : Ren := ⟨fun | 156 => 72 | 165 => 77 | 166 => 78 | 169 => 79 | 240 => 82 | 241 => 83 | 276 => 86 | 277 => 87 | n => n, fun | 0 => 0 | 3 => 3 | 4 => 4 | 5 => 5 | 9 => 9 | 20 => 20 | 31 => 44 | 37 => 93 | 70 => 92 | 72 => 95 | 75 => 98 | 76 => 99 | 80 => 101 | 127 => 102 | 164 => 103 | n => n, fun n => n⟩
theorem joinLays : Lays.n156 Try.prog joinRen where
  mixed := by kernel_rfl
  f156 := Try.func72.trans (congrArg some (by kernel_rfl))
  f165 := Try.func77.trans (congrArg some (by kernel_rfl))
  f166 := Try.func78.trans (congrArg some (by kernel_rfl))
  f169 := Try.func79.trans (congrArg some (by kernel_rfl))
  f240 := Try.func82.trans (congrArg some (by kernel_rfl))
  f241 := Try.func83.trans (congrArg some (by kernel_rfl))
  f276 := Try.func86.trans (congrArg some (by kernel_rfl))
  f277 := Try.func87.trans (congrArg some (by kernel_rfl))
  t0 := Try.underlying0
  a0 := Try.isAgg0
  z0 := Try.sizeOf0
  v0 := Try.zeroValue0
  t3 := Try.underlying3
  a3 := Try.isAgg3
  z3 := Try.sizeOf3
  v3 := Try.zeroValue3
  t4 := Try.underlying4
  a4 := Try.isAgg4
  z4 := Try.sizeOf4
  v4 := Try.zeroValue4
  t9 := Try.underlying9
  a9 := Try.isAgg9
  z9 := Try.sizeOf9
  v9 := Try.zeroValue9
  t20 := Try.underlying20
  a20 := Try.isAgg20
  z20 := Try.sizeOf20
  v20 := Try.zeroValue20
  t31 := Try.underlying44
  a31 := Try.isAgg44
  z31 := Try.sizeOf44
  v31 := Try.zeroValue44
  t37 := Try.underlying93
  a37 := Try.isAgg93
  z37 := Try.sizeOf93
  v37 := Try.zeroValue93
  t70 := Try.underlying92
  a70 := Try.isAgg92
  z70 := Try.sizeOf92
  v70 := Try.zeroValue92
  t72 := Try.underlying95
  a72 := Try.isAgg95
  z72 := Try.sizeOf95
  v72 := Try.zeroValue95
  t75 := Try.underlying98
  a75 := Try.isAgg98
  z75 := Try.sizeOf98
  v75 := Try.zeroValue98
  t76 := Try.underlying99
  a76 := Try.isAgg99
  z76 := Try.sizeOf99
  v76 := Try.zeroValue99
  t127 := Try.underlying102
  a127 := Try.isAgg102
  z127 := Try.sizeOf102
  v127 := Try.zeroValue102
  t164 := Try.underlying103
  a164 := Try.isAgg103
  z164 := Try.sizeOf103
  v164 := Try.zeroValue103
theorem joinExtra : Builder.Extra Try.prog joinRen where
  sizeBuilder := by kernel_rfl
  liesBuilder := by kernel_rfl
  t5 := Try.underlying5
  a5 := Try.isAgg5
  z5 := Try.sizeOf5
  v5 := Try.zeroValue5
  infoByte := by kernel_rfl
  cellsByte := by kernel_rfl
  sizeByte := by kernel_rfl
  neB5 := by decide
theorem joinC : Callable Try.prog 72 := ⟨_, Try.func72, by kernel_rfl, by kernel_rfl⟩
theorem join_y (args : List AV) (r : AV) (h : AH) (hr : joinY args = some r) : Snd Try.prog 72 args h r h := join_snd joinLays joinExtra joinC h hr
end Go.Proofs.Ytlooipgkklaijaa
