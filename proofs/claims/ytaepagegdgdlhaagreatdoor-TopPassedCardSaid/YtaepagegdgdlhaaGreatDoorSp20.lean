/- Part of the proof that TopPassedCard holds. -/
import Derived.Test.YtaepagegdgdlhaaGreatDoorLit20
import Derived.Test.YtaepagegdgdlhaaGreatDoorAmDel
import Derived.Test.YtaepagegdgdlhaaGreatDoorYm20
set_option linter.all false
namespace Go.Proofs.YtaepagegdgdlhaaGreatDoor.Sp
open Go.Am Go.Am.Nm
attribute [simp] Go.Am.kS Go.Am.nG Go.Am.nH Go.Am.nI Go.Am.nJ Go.Am.nC Go.Am.nD Go.Am.nE Go.Am.nF Go.Am.nK Go.Am.nL Go.Am.lX Go.Am.lW Go.Am.lZ Go.Am.lY Go.Am.kg Go.Am.jT
attribute [simp] Go.Am.kS Go.Am.nG Go.Am.nH Go.Am.nI Go.Am.nJ Go.Am.nC Go.Am.nD Go.Am.nE Go.Am.nF Go.Am.nK Go.Am.nL Go.Am.lX Go.Am.lW Go.Am.lZ Go.Am.lY Go.Am.kg Go.Am.jT
def rZ:Tryz.prog.follows .mixedOrders=true:=ai
def Oc:KJ Tryz.prog 105 9 4 3 21 0:=⟨rZ,⟨Tryz.f105.name,Tryz.f105.targs,ai,ai⟩,ai,ai,ai,ai⟩
def adk:agr Tryz.prog 229 9 5 3 271:=⟨rZ,⟨Tryz.f229.name,Tryz.f229.targs,ai,ai⟩,⟨Tryz.f271,ai,ai,ai,ai,ai⟩⟩
noncomputable def ad4:FuncId->Kd
 |104=>.h aa3
 |105=>.y DN
 |270=>.p Tx
 |228=>.p TB
 |156=>.p aa0
 |229=>.y V7
 |157=>.p aaZ
 |_=>.no
def ai7:FuncId->Nat
 |104=>0
 |105=>1
 |270=>2
 |228=>3
 |156=>4
 |229=>5
 |157=>6
 |_=>0
noncomputable def CR:k8:=⟨ad4,ai7⟩
abbrev NSp:Nat:=7
def ZT:∀f,(CR.kd f).ok Tryz.prog f:=by
 intro f;show (ad4 f).ok Tryz.prog f;unfold ad4;split
 .exact ajs
 .exact λ_ _ h hr=>G3 Oc h hr
 .exact ajo
 .exact ajp
 .exact ajr
 .exact λ_ _ h hr=>ZZ adk h hr
 .exact ajq
 .trivial
def Ul(n:Nat):mH Tryz.prog (CR.jG n):=k8.NN rZ ZT n
variable{n:Nat}
def aoM(hn:0<n)(args:List AV)(h:AH):jM (CR.jG n) 104 args h=rE (CR.jG 0) aa3 args h:=(oO (λ_=>k8.Ip rfl _ _)).trans (k8.K8 rfl rfl hn args h)
def aoL(hn:1<n)(args:List AV):(CR.jG n).p 105 args=DN args:=k8.Dt rfl rfl hn args
def aoA(hn:2<n)(args:List AV):(CR.jG n).p 270 args=rV (CR.jG 2) Tx args:=k8.qZ rfl rfl hn args
def agn(args:List AV)(h:AH):jM (CR.jG n) 270 args h=vC (kY h args) (CR.jG n) 270 args h:=mG _ _ _ _
def aoD(hn:3<n)(args:List AV):(CR.jG n).p 228 args=rV (CR.jG 3) TB args:=k8.qZ rfl rfl hn args
def a228(args:List AV)(h:AH):jM (CR.jG n) 228 args h=vC (kY h args) (CR.jG n) 228 args h:=mG _ _ _ _
def aoH(hn:4<n)(args:List AV):(CR.jG n).p 156 args=rV (CR.jG 4) aa0 args:=k8.qZ rfl rfl hn args
def aoC(hn:5<n)(args:List AV):(CR.jG n).p 229 args=V7 args:=k8.Dt rfl rfl hn args
def a229(args:List AV)(h:AH):jM (CR.jG n) 229 args h=vC (kY h args) (CR.jG n) 229 args h:=mG _ _ _ _
def aoG(hn:6<n)(args:List AV):(CR.jG n).p 157 args=rV (CR.jG 6) aaZ args:=k8.qZ rfl rfl hn args
def anK(hn:2<n)(s:au):(CR.jG n).p 270 [.str s,.str [47]]=some (.bool (pW s)):=by
 rw[aoA hn,jA,jy];cases s with
 |nil=>simp(disch:=omega)[Tx,pW]
 |cons b t =>
  by_cases hb:b=47
  .simp(disch:=omega)[Tx,pW,lB,hb]
  .simp(disch:=omega)[Tx,pW,lB,hb]
def ail(hn:3<n)(s:au):(CR.jG n).p 228 [.str s,.str [47]]=some (.kT [.str (nB s),.bool (pW s)]):=by
 rw[aoD hn,jA,jy];have h1:=anK (n:=3) af
 cases s with
 |nil=>simp(disch:=omega)[TB,agn,h1,nB,pW]
 |cons b t =>
  by_cases hb:b=47
  .simp(disch:=omega)[TB,agn,h1,nB,pW,hb]
  .simp(disch:=omega)[TB,agn,h1,nB,pW,hb]
def anL(hn:4<n)(s:au):(CR.jG n).p 156 [.str s,.str [47]]=some (.kT [.str (nB s),.bool (pW s)]):=by
 rw[aoH hn,jA,jy];have h1:=ail (n:=4) af
 simp(disch:=omega)[aa0,a228,h1]
def anJ(hn:6<n)(s:au):(CR.jG n).p 157 [.str s,.int .u8 47]=some (.int .i64 (xh s)):=by
 rw[aoG hn,jA,jy];have h1:=aoC (n:=6) af
 have h2:V7 [.str s,.int .u8 47]=some (.int .i64 (xh s)):=by
  show some (AV.int .i64 (Lib.indexByte s 47))=_;rw[Z1]
 simp(disch:=omega)[aaZ,a229,h1,h2]
def anI(hn:0<n)(s:au)(h:AH):jM (CR.jG n) 104 [.str s] h=some (.fn (.func 155) [] [.ptr h.length 0 0 0],h++[.var [.str s]]):=by
 rw[aoM hn,jy];simp(disch:=omega)[aa3]
def okS:CX Tryz.prog 46 104 105=true:=ai
def aoQ:Oa Tryz.prog 155 156 157=true:=ai
def Dz(args:List AV)(v:AV)(h:AH)(hr:AD jL args=some v):zl Tryz.prog 46 args h v h :=
 Y8 rZ (Ul NSp) okS aoQ (anL af) (anJ af) (λs=>by rw[aoL af];rfl) (anI af) args v h hr
end Go.Proofs.YtaepagegdgdlhaaGreatDoor.Sp
namespace Go.Proofs.YtaepagegdgdlhaaGreatDoor
def Dz(args:List Go.Am.AV)(v:Go.Am.AV)(h:Go.Am.AH)(hr:Go.Am.Nm.AD Go.Am.Nm.jL args=some v):Go.Am.zl Tryz.prog 46 args h v h:=Sp.Dz args v h hr
end Go.Proofs.YtaepagegdgdlhaaGreatDoor
