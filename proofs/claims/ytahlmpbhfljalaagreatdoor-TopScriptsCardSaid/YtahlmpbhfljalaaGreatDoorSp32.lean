/- Part of the proof that TopScriptsCard holds. -/
import Derived.Test.YtahlmpbhfljalaaGreatDoorLit32
import Derived.Test.YtahlmpbhfljalaaGreatDoorAmDel
import Derived.Test.YtahlmpbhfljalaaGreatDoorL06
set_option linter.all false
namespace Go.Proofs.YtahlmpbhfljalaaGreatDoor.Sp
open Go.Am Go.Am.Nm
attribute [simp] Go.Am.mN Go.Am.sI Go.Am.sJ Go.Am.sK Go.Am.sL Go.Am.sg Go.Am.si Go.Am.sj Go.Am.su Go.Am.sM Go.Am.sN Go.Am.oR Go.Am.oQ Go.Am.oT Go.Am.oS Go.Am.ko Go.Am.jx
def nr:Tryz.prog.follows .mixedOrders=true:=ai
def G6:Sa Tryz.prog 142 9 5 3 246:=⟨nr,⟨Tryz.f142.name,Tryz.f142.targs,ai,ai⟩,⟨Tryz.f246,ai,ai,ai,ai,ai⟩⟩
def G5:DM Tryz.prog 206 9 4 3 21 0:=⟨nr,⟨Tryz.f206.name,Tryz.f206.targs,ai,ai⟩,ai,ai,ai,ai⟩
noncomputable def VV:FuncId->Kd
 |142=>.y Df
 |81=>.p c81
 |109=>.p c109
 |206=>.y wg
 |239=>.h Rz
 |359=>.p KW
 |324=>.p Rx
 |_=>.no
def acg:FuncId->Nat
 |142=>0
 |81=>1
 |109=>2
 |206=>3
 |239=>4
 |359=>5
 |324=>6
 |_=>0
noncomputable def vS:iu:=⟨VV,acg⟩
abbrev NSp:Nat:=7
def Qo:∀f,(vS.kd f).ok Tryz.prog f:=by
 intro f;show (VV f).ok Tryz.prog f;unfold VV;split
 .exact λ_ _ h b=>Jc G6 h b
 .exact aiH
 .exact acK
 .exact λ_ _ h b=>Bq G5 h b
 .exact acJ
 .exact acH
 .exact acI
 .trivial
def LN(n:Nat):js Tryz.prog (vS.fk n):=iu.yG nr Qo n
variable{n:Nat}
def U3(b:0<n)(args:List AV):(vS.fk n).p 142 args=Df args:=iu.oc rfl rfl b args
def aj9(args:List AV)(h:AH):rF (vS.fk n) 142 args h=vC (jk h args) (vS.fk n) 142 args h:=kF _ _ _ _
def p81(b:1<n)(args:List AV):(vS.fk n).p 81 args=qP (vS.fk 1) c81 args:=iu.pZ rfl rfl b args
def a81(args:List AV)(h:AH):rF (vS.fk n) 81 args h=vC (jk h args) (vS.fk n) 81 args h:=kF _ _ _ _
def aiy(b:2<n)(args:List AV):(vS.fk n).p 109 args=qP (vS.fk 2) c109 args:=iu.pZ rfl rfl b args
def a109(args:List AV)(h:AH):rF (vS.fk n) 109 args h=vC (jk h args) (vS.fk n) 109 args h:=kF _ _ _ _
def U1(b:3<n)(args:List AV):(vS.fk n).p 206 args=wg args:=iu.oc rfl rfl b args
def a206(args:List AV)(h:AH):rF (vS.fk n) 206 args h=vC (jk h args) (vS.fk n) 206 args h:=kF _ _ _ _
def aim(b:4<n)(args:List AV)(h:AH):rF (vS.fk n) 239 args h=jU (vS.fk 4) Rz args h:=(iE (λ_=>iu.lW rfl _ _)).trans (iu.nu rfl rfl b args h)
def ah5(b:5<n)(args:List AV):(vS.fk n).p 359 args=qP (vS.fk 5) KW args:=iu.pZ rfl rfl b args
def aj8(args:List AV)(h:AH):rF (vS.fk n) 359 args h=vC (jk h args) (vS.fk n) 359 args h:=kF _ _ _ _
def aia(b:6<n)(args:List AV):(vS.fk n).p 324 args=qP (vS.fk 6) Rx args:=iu.pZ rfl rfl b args
def agZ(i:2<n)(s:aq):(vS.fk n).p 109 [.str s,.str [47]]=some (.bool (mK s)):=by
 rw[aiy i,gd,b6];cases s with
 |nil=>simp(disch:=omega)[c109,mK]
 |cons b t =>
  by_cases h:b=47
  .simp(disch:=omega)[c109,mK,mw,h]
  .simp(disch:=omega)[c109,mK,mw,h]
def abc(i:5<n)(s:aq):(vS.fk n).p 359 [.str s,.str [47]]=some (.iV [.str (kH s),.bool (mK s)]):=by
 rw[ah5 i,gd,b6];have h1:=agZ (n:=5) af
 cases s with
 |nil=>simp(disch:=omega)[KW,a109,h1,kH,mK]
 |cons b t =>
  by_cases h:b=47
  .simp(disch:=omega)[KW,a109,h1,kH,mK,h]
  .simp(disch:=omega)[KW,a109,h1,kH,mK,h]
def ag0(b:6<n)(s:aq):(vS.fk n).p 324 [.str s,.str [47]]=some (.iV [.str (kH s),.bool (mK s)]):=by
 rw[aia b,gd,b6];have h1:=abc (n:=6) af
 simp(disch:=omega)[Rx,aj8,h1]
def agY(b:1<n)(s:aq):(vS.fk n).p 81 [.str s,.int .u8 47]=some (.int .i64 (sO s)):=by
 rw[p81 b,gd,b6];have h1:=U3 (n:=1) af
 have h2:Df [.str s,.int .u8 47]=some (.int .i64 (sO s)):=by
  show some (AV.int .i64 (Lib.indexByte s 47))=_;rw[QE]
 simp(disch:=omega)[c81,aj9,h1,h2]
def agX(b:4<n)(s:aq)(h:AH):rF (vS.fk n) 239 [.str s] h=some (.fn (.func 323) [] [.ptr h.length 0 0 0],h++[.var [.str s]]):=by
 rw[aim b,b6];simp(disch:=omega)[Rz]
def okS:ye Tryz.prog 134 239 206=true:=ai
def aiF:G4 Tryz.prog 323 324 81=true:=ai
def yN(args:List AV)(v:AV)(h:AH)(b:v7 iN args=some v):nC Tryz.prog 134 args h v h :=
 PK nr (LN NSp) okS aiF (ag0 af) (agY af) (λs=>by rw[U1 af];rfl) (agX af) args v h b
end Go.Proofs.YtahlmpbhfljalaaGreatDoor.Sp
namespace Go.Proofs.YtahlmpbhfljalaaGreatDoor
def yN(args:List Go.Am.AV)(v:Go.Am.AV)(h:Go.Am.AH)(b:Go.Am.Nm.v7 Go.Am.Nm.iN args=some v):Go.Am.nC Tryz.prog 134 args h v h:=Sp.yN args v h b
end Go.Proofs.YtahlmpbhfljalaaGreatDoor
