/- Part of the proof that TopTwoPartsCard holds. -/
import Derived.Test.YtghgbehknhmnaaaGreatDoorProg
import Derived.Test.YtghgbehknhmnaaaGreatDoorL06
import Derived.KernelRfl
set_option linter.all false
set_option maxRecDepth 100000
namespace Go.Proofs.YtghgbehknhmnaaaGreatDoor
open Go.Am Go.Am.Nm Go.Shelf Go.Proofs
def Jg:Ren:=⟨λ| 156=>275 | 165=>302 | 166=>303 | 169=>304 | 240=>325 | 241=>326 | 276=>333 | 277=>334 | n=>n,λ| 0=>0 | 3=>3 | 4=>4 | 5=>5 | 9=>9 | 20=>20 | 31=>46 | 37=>24 | 70=>361 | 72=>363 | 75=>74 | 76=>364 | 80=>366 | 127=>381 | 164=>137 | n=>n,λn=>n⟩
def NB:Lays.n156 Tryz.prog Jg where
 mixed:=aj
 f156:=Tryz.func275.trans (congrArg some aj)
 f165:=Tryz.func302.trans (congrArg some aj)
 f166:=Tryz.func303.trans (congrArg some aj)
 f169:=Tryz.func304.trans (congrArg some aj)
 f240:=Tryz.func325.trans (congrArg some aj)
 f241:=Tryz.func326.trans (congrArg some aj)
 f276:=Tryz.func333.trans (congrArg some aj)
 f277:=Tryz.func334.trans (congrArg some aj)
 t0:=Tryz.underlying0
 a0:=Tryz.isAgg0
 z0:=Tryz.sizeOf0
 v0:=Tryz.zeroValue0
 t3:=Tryz.underlying3
 a3:=Tryz.isAgg3
 z3:=Tryz.sizeOf3
 v3:=Tryz.zeroValue3
 t4:=Tryz.underlying4
 a4:=Tryz.isAgg4
 z4:=Tryz.sizeOf4
 v4:=Tryz.zeroValue4
 t9:=Tryz.underlying9
 a9:=Tryz.isAgg9
 z9:=Tryz.sizeOf9
 v9:=Tryz.zeroValue9
 t20:=Tryz.underlying20
 a20:=Tryz.isAgg20
 z20:=Tryz.sizeOf20
 v20:=Tryz.zeroValue20
 t31:=Tryz.underlying46
 a31:=Tryz.isAgg46
 z31:=Tryz.sizeOf46
 v31:=Tryz.zeroValue46
 t37:=Tryz.underlying24
 a37:=Tryz.isAgg24
 z37:=Tryz.sizeOf24
 v37:=Tryz.zeroValue24
 t70:=Tryz.underlying361
 a70:=Tryz.isAgg361
 z70:=Tryz.sizeOf361
 v70:=Tryz.zeroValue361
 t72:=Tryz.underlying363
 a72:=Tryz.isAgg363
 z72:=Tryz.sizeOf363
 v72:=Tryz.zeroValue363
 t75:=Tryz.underlying74
 a75:=Tryz.isAgg74
 z75:=Tryz.sizeOf74
 v75:=Tryz.zeroValue74
 t76:=Tryz.underlying364
 a76:=Tryz.isAgg364
 z76:=Tryz.sizeOf364
 v76:=Tryz.zeroValue364
 t127:=Tryz.underlying381
 a127:=Tryz.isAgg381
 z127:=Tryz.sizeOf381
 v127:=Tryz.zeroValue381
 t164:=Tryz.underlying137
 a164:=Tryz.isAgg137
 z164:=Tryz.sizeOf137
 v164:=Tryz.zeroValue137
def KJ:Builder.Extra Tryz.prog Jg where
 sizeBuilder:=aj
 liesBuilder:=aj
 t5:=Tryz.underlying5
 a5:=Tryz.isAgg5
 z5:=Tryz.sizeOf5
 v5:=Tryz.zeroValue5
 infoByte:=aj
 cellsByte:=aj
 sizeByte:=aj
 neB5:=ah
def adr:oO Tryz.prog 275:=⟨_,Tryz.func275,aj,aj⟩
def Wp(args:List AV)(r:AV)(h:AH)(b:AU args=some r):ux Tryz.prog 275 args h r h:=NA NB KJ adr h b
end Go.Proofs.YtghgbehknhmnaaaGreatDoor
