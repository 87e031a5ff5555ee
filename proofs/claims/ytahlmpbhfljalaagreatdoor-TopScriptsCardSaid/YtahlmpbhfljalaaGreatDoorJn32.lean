/- Part of the proof that TopScriptsCard holds. -/
import Derived.Test.YtahlmpbhfljalaaGreatDoorProg
import Derived.Test.YtahlmpbhfljalaaGreatDoorL06
import Derived.KernelRfl
set_option linter.all false
set_option maxRecDepth 100000
namespace Go.Proofs.YtahlmpbhfljalaaGreatDoor
open Go.Am Go.Am.Nm Go.Shelf Go.Proofs
def I8:Ren:=⟨λ| 156=>38 | 165=>82 | 166=>40 | 169=>43 | 240=>84 | 241=>143 | 276=>144 | 277=>247 | n=>n,λ| 0=>0 | 3=>3 | 4=>4 | 5=>5 | 9=>9 | 20=>20 | 31=>45 | 37=>38 | 70=>104 | 72=>106 | 75=>73 | 76=>74 | 80=>114 | 127=>155 | 164=>132 | n=>n,λn=>n⟩
def Nb:Lays.n156 Tryz.prog I8 where
 mixed:=ai
 f156:=Tryz.func38.trans (congrArg some ai)
 f165:=Tryz.func82.trans (congrArg some ai)
 f166:=Tryz.func40.trans (congrArg some ai)
 f169:=Tryz.func43.trans (congrArg some ai)
 f240:=Tryz.func84.trans (congrArg some ai)
 f241:=Tryz.func143.trans (congrArg some ai)
 f276:=Tryz.func144.trans (congrArg some ai)
 f277:=Tryz.func247.trans (congrArg some ai)
 t0:=Tryz.underlying0
 a0:=Tryz.isAgg0
 z0:=Tryz.sizeOf0
 v0:=Tryz.zeroValue0
 t3:=Tryz.underlying3
 a3:=Tryz.isAgg3
 z3:=Tryz.sizeOf3
 v3:=Tryz.zeroValue3
 t4:=Tryz.underlying4
 a4:=Tryz.isAgg4
 z4:=Tryz.sizeOf4
 v4:=Tryz.zeroValue4
 t9:=Tryz.underlying9
 a9:=Tryz.isAgg9
 z9:=Tryz.sizeOf9
 v9:=Tryz.zeroValue9
 t20:=Tryz.underlying20
 a20:=Tryz.isAgg20
 z20:=Tryz.sizeOf20
 v20:=Tryz.zeroValue20
 t31:=Tryz.underlying45
 a31:=Tryz.isAgg45
 z31:=Tryz.sizeOf45
 v31:=Tryz.zeroValue45
 t37:=Tryz.underlying38
 a37:=Tryz.isAgg38
 z37:=Tryz.sizeOf38
 v37:=Tryz.zeroValue38
 t70:=Tryz.underlying104
 a70:=Tryz.isAgg104
 z70:=Tryz.sizeOf104
 v70:=Tryz.zeroValue104
 t72:=Tryz.underlying106
 a72:=Tryz.isAgg106
 z72:=Tryz.sizeOf106
 v72:=Tryz.zeroValue106
 t75:=Tryz.underlying73
 a75:=Tryz.isAgg73
 z75:=Tryz.sizeOf73
 v75:=Tryz.zeroValue73
 t76:=Tryz.underlying74
 a76:=Tryz.isAgg74
 z76:=Tryz.sizeOf74
 v76:=Tryz.zeroValue74
 t127:=Tryz.underlying155
 a127:=Tryz.isAgg155
 z127:=Tryz.sizeOf155
 v127:=Tryz.zeroValue155
 t164:=Tryz.underlying132
 a164:=Tryz.isAgg132
 z164:=Tryz.sizeOf132
 v164:=Tryz.zeroValue132
def Kk:Builder.Extra Tryz.prog I8 where
 sizeBuilder:=ai
 liesBuilder:=ai
 t5:=Tryz.underlying5
 a5:=Tryz.isAgg5
 z5:=Tryz.sizeOf5
 v5:=Tryz.zeroValue5
 infoByte:=ai
 cellsByte:=ai
 sizeByte:=ai
 neB5:=af
def adm:jH Tryz.prog 38:=⟨_,Tryz.func38,ai,ai⟩
def VY(args:List AV)(r:AV)(h:AH)(b:xA args=some r):nC Tryz.prog 38 args h r h:=Na Nb Kk adm h b
end Go.Proofs.YtahlmpbhfljalaaGreatDoor
