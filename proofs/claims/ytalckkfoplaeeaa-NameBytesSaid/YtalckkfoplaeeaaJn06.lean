/-
  strings.Join, at this program: what the library asks of it.
-/
import Derived.Test.YtalckkfoplaeeaaProg
import Derived.Test.YtalckkfoplaeeaaAmBl
import Derived.KernelRfl
set_option linter.unusedSimpArgs false
set_option linter.unusedVariables false
set_option maxRecDepth 100000
namespace Go.Proofs.Ytalckkfoplaeeaa
open Go.Am Go.Am.Nm Go.Shelf Go.Proofs

def joinRen : Ren := ⟨fun | 156 => 26 | 165 => 30 | 166 => 31 | 169 => 32 | 240 => 35 | 241 => 36 | 276 => 39 | 277 => 40 | n => n, fun | 0 => 0 | 3 => 3 | 4 => 4 | 5 => 5 | 9 => 9 | 20 => 20 | 31 => 22 | 37 => 39 | 70 => 50 | 72 => 52 | 75 => 55 | 76 => 56 | 80 => 58 | 127 => 59 | 164 => 60 | n => n, fun n => n⟩
theorem joinLays : Lays.n156 Try.prog joinRen where
  mixed := by kernel_rfl
  f156 := Try.func26.trans (congrArg some (by kernel_rfl))
  f165 := Try.func30.trans (congrArg some (by kernel_rfl))
  f166 := Try.func31.trans (congrArg some (by kernel_rfl))
  f169 := Try.func32.trans (congrArg some (by kernel_rfl))
  f240 := Try.func35.trans (congrArg some (by kernel_rfl))
  f241 := Try.func36.trans (congrArg some (by kernel_rfl))
  f276 := Try.func39.trans (congrArg some (by kernel_rfl))
  f277 := Try.func40.trans (congrArg some (by kernel_rfl))
  t0 := Try.underlying0
  a0 := Try.isAgg0
  z0 := Try.sizeOf0
  v0 := Try.zeroValue0
  t3 := Try.underlying3
  a3 := Try.isAgg3
  z3 := Try.sizeOf3
  v3 := Try.zeroValue3
  t4 := Try.underlying4
  a4 := Try.isAgg4
  z4 := Try.sizeOf4
  v4 := Try.zeroValue4
  t9 := Try.underlying9
  a9 := Try.isAgg9
  z9 := Try.sizeOf9
  v9 := Try.zeroValue9
  t20 := Try.underlying20
  a20 := Try.isAgg20
  z20 := Try.sizeOf20
  v20 := Try.zeroValue20
  t31 := Try.underlying22
  a31 := Try.isAgg22
  z31 := Try.sizeOf22
  v31 := Try.zeroValue22
  t37 := Try.underlying39
  a37 := Try.isAgg39
  z37 := Try.sizeOf39
  v37 := Try.zeroValue39
  t70 := Try.underlying50
  a70 := Try.isAgg50
  z70 := Try.sizeOf50
  v70 := Try.zeroValue50
  t72 := Try.underlying52
  a72 := Try.isAgg52
  z72 := Try.sizeOf52
  v72 := Try.zeroValue52
  t75 := Try.underlying55
  a75 := Try.isAgg55
  z75 := Try.sizeOf55
  v75 := Try.zeroValue55
  t76 := Try.underlying56
  a76 := Try.isAgg56
  z76 := Try.sizeOf56
  v76 := Try.zeroValue56
  t127 := Try.underlying59
  a127 := Try.isAgg59
  z127 := Try.sizeOf59
  v127 := Try.zeroValue59
  t164 := Try.underlying60
  a164 := Try.isAgg60
  z164 := Try.sizeOf60
  v164 := Try.zeroValue60
theorem joinExtra : Builder.Extra Try.prog joinRen where
  sizeBuilder := by kernel_rfl
  liesBuilder := by kernel_rfl
  t5 := Try.underlying5
  a5 := Try.isAgg5
  z5 := Try.sizeOf5
  v5 := Try.zeroValue5
  infoByte := by kernel_rfl
  cellsByte := by kernel_rfl
  sizeByte := by kernel_rfl
  neB5 := by decide
theorem joinC : Callable Try.prog 26 := ⟨_, Try.func26, by kernel_rfl, by kernel_rfl⟩
theorem join_y (args : List AV) (r : AV) (h : AH) (hr : joinY args = some r) : Snd Try.prog 26 args h r h := join_snd joinLays joinExtra joinC h hr
end Go.Proofs.Ytalckkfoplaeeaa
