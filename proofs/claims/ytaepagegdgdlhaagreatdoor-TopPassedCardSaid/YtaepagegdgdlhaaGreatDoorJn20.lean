/- Part of the proof that TopPassedCard holds. -/
import Derived.Test.YtaepagegdgdlhaaGreatDoorProg
import Derived.Test.YtaepagegdgdlhaaGreatDoorYm20
import Derived.KernelRfl
set_option linter.all false
set_option maxRecDepth 100000
namespace Go.Proofs.YtaepagegdgdlhaaGreatDoor
open Go.Am Go.Am.Nm Go.Shelf Go.Proofs
def Qh:Ren:=⟨λ| 156=>106 | 165=>158 | 166=>159 | 169=>160 | 240=>230 | 241=>231 | 276=>272 | 277=>273 | n=>n,λ| 0=>0 | 3=>3 | 4=>4 | 5=>5 | 9=>9 | 20=>20 | 31=>47 | 37=>44 | 70=>248 | 72=>250 | 75=>171 | 76=>251 | 80=>253 | 127=>319 | 164=>215 | n=>n,λn=>n⟩
def VS:Lays.n156 Tryz.prog Qh where
 mixed:=ai
 f156:=Tryz.func106.trans (congrArg some ai)
 f165:=Tryz.func158.trans (congrArg some ai)
 f166:=Tryz.func159.trans (congrArg some ai)
 f169:=Tryz.func160.trans (congrArg some ai)
 f240:=Tryz.func230.trans (congrArg some ai)
 f241:=Tryz.func231.trans (congrArg some ai)
 f276:=Tryz.func272.trans (congrArg some ai)
 f277:=Tryz.func273.trans (congrArg some ai)
 t0:=Tryz.underlying0
 a0:=Tryz.isAgg0
 z0:=Tryz.sizeOf0
 v0:=Tryz.zeroValue0
 t3:=Tryz.underlying3
 a3:=Tryz.isAgg3
 z3:=Tryz.sizeOf3
 v3:=Tryz.zeroValue3
 t4:=Tryz.underlying4
 a4:=Tryz.isAgg4
 z4:=Tryz.sizeOf4
 v4:=Tryz.zeroValue4
 t9:=Tryz.underlying9
 a9:=Tryz.isAgg9
 z9:=Tryz.sizeOf9
 v9:=Tryz.zeroValue9
 t20:=Tryz.underlying20
 a20:=Tryz.isAgg20
 z20:=Tryz.sizeOf20
 v20:=Tryz.zeroValue20
 t31:=Tryz.underlying47
 a31:=Tryz.isAgg47
 z31:=Tryz.sizeOf47
 v31:=Tryz.zeroValue47
 t37:=Tryz.underlying44
 a37:=Tryz.isAgg44
 z37:=Tryz.sizeOf44
 v37:=Tryz.zeroValue44
 t70:=Tryz.underlying248
 a70:=Tryz.isAgg248
 z70:=Tryz.sizeOf248
 v70:=Tryz.zeroValue248
 t72:=Tryz.underlying250
 a72:=Tryz.isAgg250
 z72:=Tryz.sizeOf250
 v72:=Tryz.zeroValue250
 t75:=Tryz.underlying171
 a75:=Tryz.isAgg171
 z75:=Tryz.sizeOf171
 v75:=Tryz.zeroValue171
 t76:=Tryz.underlying251
 a76:=Tryz.isAgg251
 z76:=Tryz.sizeOf251
 v76:=Tryz.zeroValue251
 t127:=Tryz.underlying319
 a127:=Tryz.isAgg319
 z127:=Tryz.sizeOf319
 v127:=Tryz.zeroValue319
 t164:=Tryz.underlying215
 a164:=Tryz.isAgg215
 z164:=Tryz.sizeOf215
 v164:=Tryz.zeroValue215
def SN:Builder.Extra Tryz.prog Qh where
 sizeBuilder:=ai
 liesBuilder:=ai
 t5:=Tryz.underlying5
 a5:=Tryz.isAgg5
 z5:=Tryz.sizeOf5
 v5:=Tryz.zeroValue5
 infoByte:=ai
 cellsByte:=ai
 sizeByte:=ai
 neB5:=af
def ajV:tw Tryz.prog 106:=⟨_,Tryz.func106,ai,ai⟩
def ad5(args:List AV)(r:AV)(h:AH)(hr:Et args=some r):zl Tryz.prog 106 args h r h:=VQ VS SN ajV h hr
end Go.Proofs.YtaepagegdgdlhaaGreatDoor
