/- Part of the proof that TopTwoPartsCard holds. -/
import Derived.Test.YtghgbehknhmnaaaGreatDoorLit30
import Derived.Test.YtghgbehknhmnaaaGreatDoorAmDel
import Derived.Test.YtghgbehknhmnaaaGreatDoorL06
set_option linter.all false
namespace Go.Proofs.YtghgbehknhmnaaaGreatDoor.Sp
open Go.Am Go.Am.Nm
attribute [simp] Go.Am.oB Go.Am.uT Go.Am.uU Go.Am.uV Go.Am.uW Go.Am.uN Go.Am.uO Go.Am.uP Go.Am.uQ Go.Am.uX Go.Am.uY Go.Am.qB Go.Am.qA Go.Am.qD Go.Am.qC Go.Am.lS Go.Am.j6
def oM:Tryz.prog.follows .mixedOrders=true:=aj
def Hr:Ez Tryz.prog 189 9 4 3 21 0:=⟨oM,⟨Tryz.f189.name,Tryz.f189.targs,aj,aj⟩,aj,aj,aj,aj⟩
def U7:YZ Tryz.prog 301 9 5 3 324:=⟨oM,⟨Tryz.f301.name,Tryz.f301.targs,aj,aj⟩,⟨Tryz.f324,aj,aj,aj,aj,aj⟩⟩
noncomputable def Wo:FuncId->Kd
 |189=>.y xg
 |221=>.h RW
 |323=>.p Lh
 |300=>.p Lj
 |271=>.p RU
 |301=>.y NJ
 |272=>.p RT
 |_=>.no
def aco:FuncId->Nat
 |189=>0
 |221=>1
 |323=>2
 |300=>3
 |271=>4
 |301=>5
 |272=>6
 |_=>0
noncomputable def yC:iW:=⟨Wo,aco⟩
abbrev NSp:Nat:=7
def QK:∀f,(yC.kd f).ok Tryz.prog f:=by
 intro f;show (Wo f).ok Tryz.prog f;unfold Wo;split
 .exact λ_ _ h b=>Cu Hr h b
 .exact acP
 .exact acL
 .exact acM
 .exact acO
 .exact λ_ _ h b=>Q1 U7 h b
 .exact acN
 .trivial
def L6(n:Nat):j3 Tryz.prog (yC.cz n):=iW.GY oM QK n
variable{n:Nat}
def U2(b:0<n)(args:List AV):(yC.cz n).p 189 args=xg args:=iW.yH rfl rfl b args
def alc(args:List AV)(h:AH):eT (yC.cz n) 189 args h=vC (jT h args) (yC.cz n) 189 args h:=lB _ _ _ _
def aiR(b:1<n)(args:List AV)(h:AH):eT (yC.cz n) 221 args h=kU (yC.cz 1) RW args h:=(jf (λ_=>iW.nq rfl _ _)).trans (iW.oH rfl rfl b args h)
def aix(b:2<n)(args:List AV):(yC.cz n).p 323 args=pg (yC.cz 2) Lh args:=iW.oG rfl rfl b args
def YX(args:List AV)(h:AH):eT (yC.cz n) 323 args h=vC (jT h args) (yC.cz n) 323 args h:=lB _ _ _ _
def aiz(b:3<n)(args:List AV):(yC.cz n).p 300 args=pg (yC.cz 3) Lj args:=iW.oG rfl rfl b args
def aku(args:List AV)(h:AH):eT (yC.cz n) 300 args h=vC (jT h args) (yC.cz n) 300 args h:=lB _ _ _ _
def aiG(b:4<n)(args:List AV):(yC.cz n).p 271 args=pg (yC.cz 4) RU args:=iW.oG rfl rfl b args
def aiy(b:5<n)(args:List AV):(yC.cz n).p 301 args=NJ args:=iW.yH rfl rfl b args
def akt(args:List AV)(h:AH):eT (yC.cz n) 301 args h=vC (jT h args) (yC.cz n) 301 args h:=lB _ _ _ _
def aiF(b:6<n)(args:List AV):(yC.cz n).p 272 args=pg (yC.cz 6) RT args:=iW.oG rfl rfl b args
def ahg(i:2<n)(s:au):(yC.cz n).p 323 [.str s,.str [47]]=some (.bool (nK s)):=by
 rw[aix i,b8,b6];cases s with
 |nil=>simp(disch:=omega)[Lh,nK]
 |cons b t =>
  by_cases h:b=47
  .simp(disch:=omega)[Lh,nK,j9,h]
  .simp(disch:=omega)[Lh,nK,j9,h]
def abk(i:3<n)(s:au):(yC.cz n).p 300 [.str s,.str [47]]=some (.jg [.str (lE s),.bool (nK s)]):=by
 rw[aiz i,b8,b6];have h1:=ahg (n:=3) ah
 cases s with
 |nil=>simp(disch:=omega)[Lj,YX,h1,lE,nK]
 |cons b t =>
  by_cases h:b=47
  .simp(disch:=omega)[Lj,YX,h1,lE,nK,h]
  .simp(disch:=omega)[Lj,YX,h1,lE,nK,h]
def ahh(b:4<n)(s:au):(yC.cz n).p 271 [.str s,.str [47]]=some (.jg [.str (lE s),.bool (nK s)]):=by
 rw[aiG b,b8,b6];have h1:=abk (n:=4) ah
 simp(disch:=omega)[RU,aku,h1]
def ahf(b:6<n)(s:au):(yC.cz n).p 272 [.str s,.int .u8 47]=some (.int .i64 (sY s)):=by
 rw[aiF b,b8,b6];have h1:=aiy (n:=6) ah
 have h2:NJ [.str s,.int .u8 47]=some (.int .i64 (sY s)):=by
  show some (AV.int .i64 (Lib.indexByte s 47))=_;rw[Q2]
 simp(disch:=omega)[RT,akt,h1,h2]
def ahe(b:1<n)(s:au)(h:AH):eT (yC.cz n) 221 [.str s] h=some (.fn (.func 270) [] [.ptr h.length 0 0 0],h++[.var [.str s]]):=by
 rw[aiR b,b6];simp(disch:=omega)[RW]
def okS:zw Tryz.prog 136 221 189=true:=aj
def ai5:Hq Tryz.prog 270 271 272=true:=aj
def zW(args:List AV)(v:AV)(h:AH)(b:xb iN args=some v):ux Tryz.prog 136 args h v h :=
 Qb oM (L6 NSp) okS ai5 (ahh ah) (ahf ah) (λs=>by rw[U2 ah];rfl) (ahe ah) args v h b
end Go.Proofs.YtghgbehknhmnaaaGreatDoor.Sp
namespace Go.Proofs.YtghgbehknhmnaaaGreatDoor
def zW(args:List Go.Am.AV)(v:Go.Am.AV)(h:Go.Am.AH)(b:Go.Am.Nm.xb Go.Am.Nm.iN args=some v):Go.Am.ux Tryz.prog 136 args h v h:=Sp.zW args v h b
end Go.Proofs.YtghgbehknhmnaaaGreatDoor
