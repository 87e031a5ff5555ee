/- Part of the proof that TopScriptsCard holds. -/
import Derived.Test.YtahlmpbhfljalaaGreatDoorProg
import Derived.Test.YtahlmpbhfljalaaGreatDoorAmBs
import Derived.Test.YtahlmpbhfljalaaGreatDoorL06
import Derived.KernelRfl
set_option linter.all false
set_option maxRecDepth 100000
namespace Go.Proofs.YtahlmpbhfljalaaGreatDoor
open Go.Am Go.Am.Nm Go.Shelf Go.Proofs
def OK:Ren:=⟨λ| 156=>38 | 165=>82 | 166=>40 | 167=>57 | 169=>43 | 240=>84 | 241=>143 | 276=>144 | 277=>247 | n=>n,λ| 0=>0 | 3=>3 | 4=>4 | 5=>5 | 9=>9 | 20=>20 | 31=>45 | 37=>38 | 70=>104 | 72=>106 | 75=>73 | 76=>74 | 80=>114 | 127=>155 | 164=>132 | n=>n,λn=>n⟩
def aj6:Lays.n166 Tryz.prog OK where
 mixed:=ai
 f166:=Tryz.func40.trans (congrArg some ai)
 f240:=Tryz.func84.trans (congrArg some ai)
 f276:=Tryz.func144.trans (congrArg some ai)
 t0:=Tryz.underlying0
 a0:=Tryz.isAgg0
 z0:=Tryz.sizeOf0
 v0:=Tryz.zeroValue0
 t3:=Tryz.underlying3
 a3:=Tryz.isAgg3
 z3:=Tryz.sizeOf3
 v3:=Tryz.zeroValue3
 t4:=Tryz.underlying4
 a4:=Tryz.isAgg4
 z4:=Tryz.sizeOf4
 v4:=Tryz.zeroValue4
 t9:=Tryz.underlying9
 a9:=Tryz.isAgg9
 z9:=Tryz.sizeOf9
 v9:=Tryz.zeroValue9
 t20:=Tryz.underlying20
 a20:=Tryz.isAgg20
 z20:=Tryz.sizeOf20
 v20:=Tryz.zeroValue20
 t37:=Tryz.underlying38
 a37:=Tryz.isAgg38
 z37:=Tryz.sizeOf38
 v37:=Tryz.zeroValue38
 t70:=Tryz.underlying104
 a70:=Tryz.isAgg104
 z70:=Tryz.sizeOf104
 v70:=Tryz.zeroValue104
 t72:=Tryz.underlying106
 a72:=Tryz.isAgg106
 z72:=Tryz.sizeOf106
 v72:=Tryz.zeroValue106
 t75:=Tryz.underlying73
 a75:=Tryz.isAgg73
 z75:=Tryz.sizeOf73
 v75:=Tryz.zeroValue73
 t164:=Tryz.underlying132
 a164:=Tryz.isAgg132
 z164:=Tryz.sizeOf132
 v164:=Tryz.zeroValue132
def aj5:Lays.n167 Tryz.prog OK where
 mixed:=ai
 f167:=Tryz.func57.trans (congrArg some ai)
 f240:=Tryz.func84.trans (congrArg some ai)
 f276:=Tryz.func144.trans (congrArg some ai)
 t0:=Tryz.underlying0
 a0:=Tryz.isAgg0
 z0:=Tryz.sizeOf0
 v0:=Tryz.zeroValue0
 t4:=Tryz.underlying4
 a4:=Tryz.isAgg4
 z4:=Tryz.sizeOf4
 v4:=Tryz.zeroValue4
 t5:=Tryz.underlying5
 a5:=Tryz.isAgg5
 z5:=Tryz.sizeOf5
 v5:=Tryz.zeroValue5
 t9:=Tryz.underlying9
 a9:=Tryz.isAgg9
 z9:=Tryz.sizeOf9
 v9:=Tryz.zeroValue9
 t20:=Tryz.underlying20
 a20:=Tryz.isAgg20
 z20:=Tryz.sizeOf20
 v20:=Tryz.zeroValue20
 t37:=Tryz.underlying38
 a37:=Tryz.isAgg38
 z37:=Tryz.sizeOf38
 v37:=Tryz.zeroValue38
 t70:=Tryz.underlying104
 a70:=Tryz.isAgg104
 z70:=Tryz.sizeOf104
 v70:=Tryz.zeroValue104
 t72:=Tryz.underlying106
 a72:=Tryz.isAgg106
 z72:=Tryz.sizeOf106
 v72:=Tryz.zeroValue106
 t75:=Tryz.underlying73
 a75:=Tryz.isAgg73
 z75:=Tryz.sizeOf73
 v75:=Tryz.zeroValue73
 t164:=Tryz.underlying132
 a164:=Tryz.isAgg132
 z164:=Tryz.sizeOf132
 v164:=Tryz.zeroValue132
def aj4:Lays.n169 Tryz.prog OK where
 mixed:=ai
 f169:=Tryz.func43.trans (congrArg some ai)
 t0:=Tryz.underlying0
 a0:=Tryz.isAgg0
 z0:=Tryz.sizeOf0
 v0:=Tryz.zeroValue0
 t3:=Tryz.underlying3
 a3:=Tryz.isAgg3
 z3:=Tryz.sizeOf3
 v3:=Tryz.zeroValue3
 t9:=Tryz.underlying9
 a9:=Tryz.isAgg9
 z9:=Tryz.sizeOf9
 v9:=Tryz.zeroValue9
 t37:=Tryz.underlying38
 a37:=Tryz.isAgg38
 z37:=Tryz.sizeOf38
 v37:=Tryz.zeroValue38
 t70:=Tryz.underlying104
 a70:=Tryz.isAgg104
 z70:=Tryz.sizeOf104
 v70:=Tryz.zeroValue104
 t72:=Tryz.underlying106
 a72:=Tryz.isAgg106
 z72:=Tryz.sizeOf106
 v72:=Tryz.zeroValue106
 t127:=Tryz.underlying155
 a127:=Tryz.isAgg155
 z127:=Tryz.sizeOf155
 v127:=Tryz.zeroValue155
def Ib:Builder.Extra Tryz.prog OK where
 sizeBuilder:=ai
 liesBuilder:=ai
 t5:=Tryz.underlying5
 a5:=Tryz.isAgg5
 z5:=Tryz.sizeOf5
 v5:=Tryz.zeroValue5
 infoByte:=ai
 cellsByte:=ai
 sizeByte:=ai
 neB5:=af
def oJ:List (TypeId×Nat×Nat):=[(106,2,0),(108,3,0)]
def bdL:BdL Tryz.prog OK oJ:=by
 refine⟨λp b=>?_,ai⟩
 rcases aY.1 b with rfl | b
 .kernel_rfl
 .obtain rfl:=bS.1 b
  kernel_rfl
def agH(args:List AV)(h:AH)(r:AV)(h':AH)(b:TJ oJ 5 args h=some (r,h')):nC Tryz.prog 40 args h r h':=TI aj6 Ib bdL ⟨_,Tryz.func40,ai,ai⟩ b
def agM(args:List AV)(h:AH)(r:AV)(h':AH)(b:TM oJ 5 args h=some (r,h')):nC Tryz.prog 57 args h r h':=TL aj5 Ib bdL ⟨_,Tryz.func57,ai,ai⟩ b
def agW(args:List AV)(h:AH)(r:AV)(h':AH)(b:Ss 5 args h=some (r,h')):nC Tryz.prog 43 args h r h':=Ue aj4 Ib ⟨_,Tryz.func43,ai,ai⟩ b
end Go.Proofs.YtahlmpbhfljalaaGreatDoor
