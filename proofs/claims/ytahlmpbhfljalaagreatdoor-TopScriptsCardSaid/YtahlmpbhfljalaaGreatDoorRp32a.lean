/- Part of the proof that TopScriptsCard holds. -/
import Derived.Test.YtahlmpbhfljalaaGreatDoorSp32
import Derived.Test.YtahlmpbhfljalaaGreatDoorJn32
import Derived.Test.YtahlmpbhfljalaaGreatDoorSo32
import Derived.Test.YtahlmpbhfljalaaGreatDoorDo32
import Derived.Test.YtahlmpbhfljalaaGreatDoorLz32
import Derived.Test.YtahlmpbhfljalaaGreatDoorBl32
set_option linter.all false
namespace Go.Proofs.YtahlmpbhfljalaaGreatDoor
open Go.Am Go.Am.Nm
def nr:Tryz.prog.follows .mixedOrders=true:=ai
def Vb:YP Tryz.prog 344 9 3 364:=⟨nr,⟨Tryz.f344.name,Tryz.f344.targs,ai,ai⟩,⟨Tryz.f364,ai,ai,ai,ai,ai⟩⟩
def G5:DM Tryz.prog 206 9 4 3 21 0:=⟨nr,⟨Tryz.f206.name,Tryz.f206.targs,ai,ai⟩,ai,ai,ai,ai⟩
def Vg:okF Tryz.prog 290 (nM 6 80 (.agg [.int .i64 0,.int .i64 0,.int .i64 0,.en false [],.en false [],.int .i64 0]))=true:=ai
def Vf:Gu Tryz.prog 291 25 3 4 111 0 337 338 6 80:=⟨nr,⟨Tryz.f291.name,Tryz.f291.targs,ai,ai⟩,⟨Tryz.f337,ai,ai,ai,ai,ai⟩,ai,ai,ai,ai,ai,af⟩
def Vp:okF Tryz.prog 213 (nM 3 32 (.agg [.str [],.int .i64 0,.int .i64 0]))=true:=ai
def Ve:Gu Tryz.prog 292 109 3 4 154 0 339 340 3 32:=⟨nr,⟨Tryz.f292.name,Tryz.f292.targs,ai,ai⟩,⟨Tryz.f339,ai,ai,ai,ai,ai⟩,ai,ai,ai,ai,ai,af⟩
def Vo:Gu Tryz.prog 222 33 3 4 99 0 309 310 3 24:=⟨nr,⟨Tryz.f222.name,Tryz.f222.targs,ai,ai⟩,⟨Tryz.f309,ai,ai,ai,ai,ai⟩,ai,ai,ai,ai,ai,af⟩
def Vn:okF Tryz.prog 223 (nM 3 24 (.agg [.int .i64 0,.int .i64 0,.int .i64 0]))=true:=ai
def Vh:okF Tryz.prog 237 (nM 3 24 (.agg [.int .i64 0,.int .i64 0,.int .i64 0]))=true:=ai
def Vl:okF Tryz.prog 228 (nM 8 96 (.agg [.int .i64 0,.int .i64 0,.int .i64 0,.int .i64 0,.int .i64 0,.en false [],.en false [],.int .i64 0]))=true:=ai
def ML:((Tryz.prog.info? 111).getD default).size=6:=ai
def Vc:Lg Tryz.prog 341 25 3 4 111 0 ((Tryz.prog.info? 111).getD default) (((Tryz.prog.info? 111).getD default).zero.getD .nilFunc):=⟨nr,⟨Tryz.f341.name,Tryz.f341.targs,ai,ai⟩,ai,ai,ai,ai,ai,ai,ai,ai,by rw[ML];decide⟩
def MO:((Tryz.prog.info? 99).getD default).size=3:=ai
def Vm:Lg Tryz.prog 226 33 3 4 99 0 ((Tryz.prog.info? 99).getD default) (((Tryz.prog.info? 99).getD default).zero.getD .nilFunc):=⟨nr,⟨Tryz.f226.name,Tryz.f226.targs,ai,ai⟩,ai,ai,ai,ai,ai,ai,ai,ai,by rw[MO];decide⟩
def Vr:okF Tryz.prog 129 (nM 1 1 (.int .u8 0))=true:=ai
def Vq:okF Tryz.prog 197 (nM 3 24 (.agg [.int .i64 0,.int .i64 0,.int .i64 0]))=true:=ai
def MM:((Tryz.prog.info? 154).getD default).size=3:=ai
def Vd:Lg Tryz.prog 297 109 3 4 154 0 ((Tryz.prog.info? 154).getD default) (((Tryz.prog.info? 154).getD default).zero.getD .nilFunc):=⟨nr,⟨Tryz.f297.name,Tryz.f297.targs,ai,ai⟩,ai,ai,ai,ai,ai,ai,ai,ai,by rw[MM];decide⟩
def MN:((Tryz.prog.info? 101).getD default).size=3:=ai
def Vk:Lg Tryz.prog 235 34 3 4 101 0 ((Tryz.prog.info? 101).getD default) (((Tryz.prog.info? 101).getD default).zero.getD .nilFunc):=⟨nr,⟨Tryz.f235.name,Tryz.f235.targs,ai,ai⟩,ai,ai,ai,ai,ai,ai,ai,ai,by rw[MN];decide⟩
def Vj:Gu Tryz.prog 236 34 3 4 101 0 318 319 3 24:=⟨nr,⟨Tryz.f236.name,Tryz.f236.targs,ai,ai⟩,⟨Tryz.f318,ai,ai,ai,ai,ai⟩,ai,ai,ai,ai,ai,af⟩
def G6:Sa Tryz.prog 142 9 5 3 246:=⟨nr,⟨Tryz.f142.name,Tryz.f142.targs,ai,ai⟩,⟨Tryz.f246,ai,ai,ai,ai,ai⟩⟩
def Mo:aq:=[98,101,103,105,110,32,48,58,32,109,97,107,101,32,112,97,116,104,61,47,97,32,110,61,50,10,101,110,100,32,48,58,32,111,107,32,105,110,111,61,50,32,107,105,110,100,61,50,10]
def Zf:AV:=.iV [.en false [.agg [.int .i64 1,.int .i64 0,.int .i64 2,.int .i64 0,.str [47,97],.str [],.int .i64 2,.int .i64 0,.int .i64 0,.en false [],.int .i64 0,.int .i64 0,.int .i64 0,.int .i64 0,.int .i64 0,.en false [],.en false []],
 .agg [.int .i64 2,.int .i64 0,.int .i64 0,.int .i64 0,.str [],.str [],.int .i64 0,.int .i64 0,.int .i64 0,.en false [],.int .i64 0,.int .i64 2,.int .i64 2,.int .i64 0,.int .i64 0,.en true [],.en false []]],.int .i64 0]
def rhY:List AV->Option AV
 | [.str s]=>if s=Mo then some Zf else none
 |_=>none
def hdY:List AV->Option AV
 | []=>some (.bool true)
 |_=>none
noncomputable def ai8:List Kd:=[.no,.no,.no,.p c3,.no,.y hdY,.p c6,.p c7,.p c8,.p c9,.d d12,.p c11,.p c12,.p c13,.p c14,.p c15,.p c16,.no,.p c18,.y rhY,.p c20,.p c21,.p c22,.p c23,.p c24,.p c25,.y Gq,.y D6,.y Fh,.p c29,.p c30,.no,.x asH,.h c33,.u c34,.p c35,.y yO,.p c37,.y xA,.p c39,.x (TJ oJ 5),.r GC 13,.h c42,.x (Ss 5),.no,.no,.p c46,.no,.h c48,.p c49,.p c50,.y Oh,.no,.no,.no,.no,.p Tw,.x (TM oJ 5),.no,.no,.no,.no,.u c62,.u c63,.u XX,.u c65,.u Tu,.u c67,.u c68,.u c69,.u c70,.u c71,.u c72,.u c73,.u c74,.u c75,.u c76,.u c77,.u c78,.u c79,.no,.p c81,.no,.p c83,.no,.no,.no,.no,.no,.no,.no,.no,.no,.no,.no,.p c95,.no,.p c97,.r c98 100,.h c99,.h aj3,.p aj2,.p aj1,.no,.no,.no,.no,.no,.no,.no,.no,.no,.no,.no,.u RH,.u Oy,.p c116,.u c117,.p KZ,.p c119,.p Ox,.p uT,.p HY,.p afC,.p c124,.p Gf,.p KY,.p c127,.u Ow,.x (iL 1 1),.u c130,.p c131,.p KX,.p afB,.y (v7 iN),.h afA,.h afz,.p RG,.p c138,.no,.no,.no,.y Df,.no,.no,.no,.no,.no,.no,.no,.no,.no,.no,.no,.no,.no,.no,.no,.no,.no,.no,.no,.no,.no,.no,.no,.no,.no,.h c168,.p aj0,.p RF,.p c171,.h ajZ,.p c173,.p ajY,.p c175,.p ajX,.p ajW,.no,.no,.no,.no,.no,.no,.no,.no,.p Ys,.h afy,.p RE,.h FZ,.h Yr,.h afx,.p afw,.h c193,.h c194,.p Ou,.h c196,.x (iL 3 24),.h c198,.p Yp,.p afv,.p c201,.h AY,.h c203,.h Yo,.h RD,.y wg,.p afu,.h c208,.p Yn,.p c210,.h aft,.h c212,.x (iL 3 32),.h afs,.x (qb 2 3 [216]),.p ajV,.p RC,.p c218,.h afr,.p afq,.p RB,.x (kP 3 24),.x (iL 3 24),.h afp,.p RA,.x (jW 3),.p c227,.x (iL 8 96),.p c229,.p HX,.p afo,.p c232,.p c233,.p c234,.x (jW 3),.x (kP 3 24),.x (iL 3 24),.p afn,.no,.h afm,.h afl,.h ajU,.h Yj,.no,.no,.no,.no,.no,.no,.no,.no,.no,.no,.no,.no,.no,.no,.no,.no,.no,.no,.no,.no,.no,.no,.no,.no,.no,.no,.no,.no,.no,.p HW,.p Yi,.p Yh,.h Yg,.no,.no,.no,.no,.no,.no,.no,.no,.no,.no,.p Yf,.h afk,.h afj,.x (iL 6 80),.x (kP 6 80),.x (kP 3 32),.h Ry,.h afi,.p afh,.r xZ 300,.x (jW 3),.h afg,.p aff,.p afe,.p X8,.h afd,.h HV,.no,.no,.p afc,.p afb,.p afa,.no,.no,.h ae9,.h ajT,.p ae8,.h ae7,.h X5,.h ae6,.p ae5,.no,.no,.r AW 1000000,.x (qb 0 6 [322]),.p ajS,.no,.no,.no,.no,.no,.no,.no,.no,.no,.no,.no,.no,.no,.p ae4,.no,.no,.no,.no,.x (jW 6),.h X4,.h X2,.y Rn,.h ae3,.no,.no,.no,.no,.no,.no,.no,.no,.no,.no,.h ae2,.no,.no,.no,.no,.no]
def ah4:au:=[0,0,0,195,264,0,1,4,182,12,175,184,183,185,191,194,0,263,188,0,267,2,3,16,18,20,13,21,5,8,11,0,268,174,86,17,14,19,73,190,6,193,192,7,198,262,187,0,269,270,266,15,0,0,0,0,9,10,0,0,0,0,72,135,137,142,156,173,88,95,120,124,146,147,151,98,169,111,126,22,0,1,0,189,0,196,197,199,240,248,254,259,260,261,218,186,0,265,181,177,164,163,180,0,0,0,0,0,0,0,0,0,0,0,71,76,85,134,136,141,67,155,172,157,87,94,119,105,122,123,145,150,97,167,68,168,23,110,125,0,0,0,0,0,0,207,210,216,231,232,235,205,239,201,241,242,245,246,247,250,251,252,253,258,206,217,0,0,176,107,101,158,159,160,161,162,178,179,0,0,0,0,0,0,0,0,69,70,75,78,81,84,106,113,24,116,128,129,60,59,132,133,56,139,140,57,58,66,61,63,143,154,170,82,25,171,28,27,89,90,31,91,92,93,112,32,117,118,102,103,104,48,121,144,52,148,149,96,166,0,108,33,109,49,0,0,0,0,209,213,215,214,230,233,234,202,203,204,236,237,211,238,200,243,244,225,228,222,249,220,256,257,0,36,34,35,100,0,0,0,0,0,0,0,0,0,0,74,77,55,79,80,83,115,127,131,99,138,65,39,38,62,153,64,0,0,26,29,30,0,0,40,54,41,47,42,51,43,0,0,50,165,44,0,0,208,212,221,224,229,219,227,255,0,0,0,45,0,0,0,0,114,130,53,37,152,0,0,0,0,0,0,0,0,0,0,46,0,0,0,223,226]
noncomputable def gV:iu:=⟨λf=>nth ai8 f .no,λf=>nth ah4 f 0⟩
def C8:∀f,f≠5->f≠19->(gV.kd f).ok Tryz.prog f :=
 MR (p:=λf k=>f≠5->f≠19->k.ok Tryz.prog f) (λ_ _ h _ _=>Kd.Vt h) (λ_ _ _=>trivial) [5,10,19,26,27,28,32,36,38,40,43,51,57,129,134,142,197,206,213,215,222,223,226,228,235,236,237,290,291,292,297,321,341,344] ai ⟨λh _=>absurd rfl h,λ_ _=>aeO,λ_ h=>absurd rfl h,λ_ _=>YF,λ_ _=>TX,λ_ _=>VZ,λ_ _=>TE,λ_ _=>L4,λ_ _=>VY,λ_ _=>agH,λ_ _=>agW,λ_ _=>aeV,λ_ _=>agM,λ_ _=>nF nr Vr,λ_ _=>yN,λ_ _=>λ_ _ h b=>Jc G6 h b,λ_ _=>nF nr Vq,λ_ _=>λ_ _ h b=>Bq G5 h b,λ_ _=>nF nr Vp,λ_ _=>L7,λ_ _=>qM Vo,λ_ _=>nF nr Vn,λ_ _=>λargs h r h' b=>rj Vm (by rw[MO];exact b),λ_ _=>nF nr Vl,λ_ _=>λargs h r h' b=>rj Vk (by rw[MN];exact b),λ_ _=>qM Vj,λ_ _=>nF nr Vh,λ_ _=>nF nr Vg,λ_ _=>qM Vf,λ_ _=>qM Ve,λ_ _=>λargs h r h' b=>rj Vd (by rw[MM];exact b),λ_ _=>L6,λ_ _=>λargs h r h' b=>rj Vc (by rw[ML];exact b),λ_ _=>λ_ _ h b=>Rl Vb h b,trivial⟩
def BF:∀f,(gV.kd f).mono :=
 MR (b:=λ_ k=>match k with | .z _=>false | _=>true) (p:=λ_ k=>k.mono) (λ_ k h=>by cases k<;>first | trivial | cases h) (λ_=>trivial) [] ai trivial
variable{n:Nat}
def p6(b:1<n)(args:List AV):(gV.fk n).p 6 args=qP (gV.fk 1) c6 args:=iu.pZ rfl rfl b args
theorem a6(args:List AV)(h:AH):rF (gV.fk n) 6 args h=vC (jk h args) (gV.fk n) 6 args h:=kF _ _ _ _
def p7(b:4<n)(args:List AV):(gV.fk n).p 7 args=qP (gV.fk 4) c7 args:=iu.pZ rfl rfl b args
def a7(args:List AV)(h:AH):rF (gV.fk n) 7 args h=vC (jk h args) (gV.fk n) 7 args h:=kF _ _ _ _
def p28(b:5<n)(args:List AV):(gV.fk n).p 28 args=Fh args:=iu.oc rfl rfl b args
def UY(b:6<n)(args:List AV)(h:AH):rF (gV.fk n) 40 args h=(TJ oJ 5) args h:=(iE (λ_=>iu.kf rfl _ _)).trans (iu.lD rfl rfl b args h)
def p43(b:7<n)(args:List AV)(h:AH):rF (gV.fk n) 43 args h=(Ss 5) args h:=(iE (λ_=>iu.kf rfl _ _)).trans (iu.lD rfl rfl b args h)
def p57(b:10<n)(args:List AV)(h:AH):rF (gV.fk n) 57 args h=(TM oJ 5) args h:=(iE (λ_=>iu.kf rfl _ _)).trans (iu.lD rfl rfl b args h)
def p9(b:12<n)(args:List AV):(gV.fk n).p 9 args=qP (gV.fk 12) c9 args:=iu.pZ rfl rfl b args
def a9(args:List AV)(h:AH):rF (gV.fk n) 9 args h=vC (jk h args) (gV.fk n) 9 args h:=kF _ _ _ _
def p26(b:13<n)(args:List AV):(gV.fk n).p 26 args=Gq args:=iu.oc rfl rfl b args
def p36(b:14<n)(args:List AV):(gV.fk n).p 36 args=yO args:=iu.oc rfl rfl b args
def p51(b:15<n)(args:List AV):(gV.fk n).p 51 args=Oh args:=iu.oc rfl rfl b args
def p27(b:21<n)(args:List AV):(gV.fk n).p 27 args=D6 args:=iu.oc rfl rfl b args
def p79(b:22<n)(args:List AV)(h:AH):(gV.fk n).x 79 args h=lZ (gV.fk 22) c79 args h:=iu.kK rfl rfl b args h
def ah8(b:37<n)(args:List AV):(gV.fk n).p 344 args=Rn args:=iu.oc rfl rfl b args
def ah6(b:46<n)(args:List AV)(h:AH):rF (gV.fk n) 356 args h=jU (gV.fk 46) ae2 args h:=(iE (λ_=>iu.lW rfl _ _)).trans (iu.nu rfl rfl b args h)
def aic(b:47<n)(args:List AV)(h:AH):rF (gV.fk n) 314 args h=jU (gV.fk 47) ae7 args h:=(iE (λ_=>iu.lW rfl _ _)).trans (iu.nu rfl rfl b args h)
def aib(b:50<n)(args:List AV)(h:AH):rF (gV.fk n) 320 args h=jU (kT (gV.fk 50) 320 AW 1000000) AW args h:=(iE (λ_=>iu.CC rfl _ _)).trans (iu.D8 rfl rfl b args h)
def U2(b:56<n)(args:List AV)(h:AH):rF (gV.fk n) 202 args h=jU (gV.fk 56) AY args h:=(iE (λ_=>iu.lW rfl _ _)).trans (iu.nu rfl rfl b args h)
def U1(b:58<n)(args:List AV):(gV.fk n).p 206 args=wg args:=iu.oc rfl rfl b args
def acm(b:61<n)(args:List AV)(h:AH):rF (gV.fk n) 208 args h=jU (gV.fk 61) c208 args h:=(iE (λ_=>iu.lW rfl _ _)).trans (iu.nu rfl rfl b args h)
def aie(b:62<n)(args:List AV):(gV.fk n).p 301 args=qP (gV.fk 62) X8 args:=iu.pZ rfl rfl b args
def aiu(b:68<n)(args:List AV):(gV.fk n).p 134 args=(v7 iN) args:=iu.oc rfl rfl b args
def acq(b:71<n)(args:List AV)(h:AH):(gV.fk n).x 114 args h=lZ (gV.fk 71) RH args h:=iu.kK rfl rfl b args h
def p62(b:72<n)(args:List AV)(h:AH):(gV.fk n).x 62 args h=lZ (gV.fk 72) c62 args h:=iu.kK rfl rfl b args h
theorem p38(b:73<n)(args:List AV):(gV.fk n).p 38 args=xA args:=iu.oc rfl rfl b args
def U4(b:76<n)(args:List AV)(h:AH):(gV.fk n).x 115 args h=lZ (gV.fk 76) Oy args h:=iu.kK rfl rfl b args h
def UZ(b:79<n)(args:List AV)(h:AH):rF (gV.fk n) 290 args h=iL 6 80 args h:=(iE (λ_=>iu.kf rfl _ _)).trans (iu.lD rfl rfl b args h)
def aik(b:80<n)(args:List AV)(h:AH):rF (gV.fk n) 291 args h=kP 6 80 args h:=(iE (λ_=>iu.kf rfl _ _)).trans (iu.lD rfl rfl b args h)
def U0(b:82<n)(args:List AV)(h:AH):rF (gV.fk n) 213 args h=iL 3 32 args h:=(iE (λ_=>iu.kf rfl _ _)).trans (iu.lD rfl rfl b args h)
def aij(b:83<n)(args:List AV)(h:AH):rF (gV.fk n) 292 args h=kP 3 32 args h:=(iE (λ_=>iu.kf rfl _ _)).trans (iu.lD rfl rfl b args h)
def p34(b:86<n)(args:List AV)(h:AH):(gV.fk n).x 34 args h=lZ (gV.fk 86) c34 args h:=iu.kK rfl rfl b args h
def p68(b:88<n)(args:List AV)(h:AH):(gV.fk n).x 68 args h=lZ (gV.fk 88) c68 args h:=iu.kK rfl rfl b args h
def ais(b:92<n)(args:List AV)(h:AH):rF (gV.fk n) 222 args h=kP 3 24 args h:=(iE (λ_=>iu.kf rfl _ _)).trans (iu.lD rfl rfl b args h)
def ack(b:93<n)(args:List AV)(h:AH):rF (gV.fk n) 223 args h=iL 3 24 args h:=(iE (λ_=>iu.kf rfl _ _)).trans (iu.lD rfl rfl b args h)
def p69(b:95<n)(args:List AV)(h:AH):(gV.fk n).x 69 args h=lZ (gV.fk 95) c69 args h:=iu.kK rfl rfl b args h
def ain(b:96<n)(args:List AV)(h:AH):rF (gV.fk n) 237 args h=iL 3 24 args h:=(iE (λ_=>iu.kf rfl _ _)).trans (iu.lD rfl rfl b args h)
def p75(b:98<n)(args:List AV)(h:AH):(gV.fk n).x 75 args h=lZ (gV.fk 98) c75 args h:=iu.kK rfl rfl b args h
def aih(b:99<n)(args:List AV)(h:AH):rF (gV.fk n) 296 args h=jU (kT (gV.fk 99) 296 xZ 300) xZ args h:=(iE (λ_=>iu.CC rfl _ _)).trans (iu.D8 rfl rfl b args h)
def aiq(b:102<n)(args:List AV)(h:AH):rF (gV.fk n) 228 args h=iL 8 96 args h:=(iE (λ_=>iu.kf rfl _ _)).trans (iu.lD rfl rfl b args h)
def ail(b:108<n)(args:List AV)(h:AH):rF (gV.fk n) 240 args h=jU (gV.fk 108) afm args h:=(iE (λ_=>iu.lW rfl _ _)).trans (iu.nu rfl rfl b args h)
def p77(b:111<n)(args:List AV)(h:AH):(gV.fk n).x 77 args h=lZ (gV.fk 111) c77 args h:=iu.kK rfl rfl b args h
def ach(b:114<n)(args:List AV)(h:AH):rF (gV.fk n) 341 args h=jW 6 args h:=(iE (λ_=>iu.kf rfl _ _)).trans (iu.lD rfl rfl b args h)
def acj(b:115<n)(args:List AV)(h:AH):rF (gV.fk n) 293 args h=jU (gV.fk 115) Ry args h:=(iE (λ_=>iu.lW rfl _ _)).trans (iu.nu rfl rfl b args h)
def air(b:117<n)(args:List AV)(h:AH):rF (gV.fk n) 226 args h=jW 3 args h:=(iE (λ_=>iu.kf rfl _ _)).trans (iu.lD rfl rfl b args h)
def p70(b:120<n)(args:List AV)(h:AH):(gV.fk n).x 70 args h=lZ (gV.fk 120) c70 args h:=iu.kK rfl rfl b args h
def aiw(b:122<n)(args:List AV)(h:AH):(gV.fk n).x 128 args h=lZ (gV.fk 122) Ow args h:=iu.kK rfl rfl b args h
def acp(b:123<n)(args:List AV)(h:AH):rF (gV.fk n) 129 args h=iL 1 1 args h:=(iE (λ_=>iu.kf rfl _ _)).trans (iu.lD rfl rfl b args h)
def ah1(b:123<n)(args:List AV)(h:AH):(gV.fk n).h 129 args h=iL 1 1 args h:=iu.lD rfl rfl b args h
def p71(b:124<n)(args:List AV)(h:AH):(gV.fk n).x 71 args h=lZ (gV.fk 124) c71 args h:=iu.kK rfl rfl b args h
def p78(b:126<n)(args:List AV)(h:AH):(gV.fk n).x 78 args h=lZ (gV.fk 126) c78 args h:=iu.kK rfl rfl b args h
def aii(b:127<n)(args:List AV)(h:AH):rF (gV.fk n) 294 args h=jU (gV.fk 127) afi args h:=(iE (λ_=>iu.lW rfl _ _)).trans (iu.nu rfl rfl b args h)
def acn(b:129<n)(args:List AV)(h:AH):rF (gV.fk n) 197 args h=iL 3 24 args h:=(iE (λ_=>iu.kf rfl _ _)).trans (iu.lD rfl rfl b args h)
def ah9(b:130<n)(args:List AV)(h:AH):rF (gV.fk n) 342 args h=jU (gV.fk 130) X4 args h:=(iE (λ_=>iu.lW rfl _ _)).trans (iu.nu rfl rfl b args h)
def aix(b:134<n)(args:List AV)(h:AH):(gV.fk n).x 117 args h=lZ (gV.fk 134) c117 args h:=iu.kK rfl rfl b args h
def p63(b:135<n)(args:List AV)(h:AH):(gV.fk n).x 63 args h=lZ (gV.fk 135) c63 args h:=iu.kK rfl rfl b args h
def p64(b:137<n)(args:List AV)(h:AH):(gV.fk n).x 64 args h=lZ (gV.fk 137) XX args h:=iu.kK rfl rfl b args h
def aif(b:138<n)(args:List AV)(h:AH):rF (gV.fk n) 297 args h=jW 3 args h:=(iE (λ_=>iu.kf rfl _ _)).trans (iu.lD rfl rfl b args h)
def p65(b:142<n)(args:List AV)(h:AH):(gV.fk n).x 65 args h=lZ (gV.fk 142) c65 args h:=iu.kK rfl rfl b args h
def aiv(b:145<n)(args:List AV)(h:AH):(gV.fk n).x 130 args h=lZ (gV.fk 145) c130 args h:=iu.kK rfl rfl b args h
def p72(b:146<n)(args:List AV)(h:AH):(gV.fk n).x 72 args h=lZ (gV.fk 146) c72 args h:=iu.kK rfl rfl b args h
def p73(b:147<n)(args:List AV)(h:AH):(gV.fk n).x 73 args h=lZ (gV.fk 147) c73 args h:=iu.kK rfl rfl b args h
def aip(b:148<n)(args:List AV)(h:AH):rF (gV.fk n) 235 args h=jW 3 args h:=(iE (λ_=>iu.kf rfl _ _)).trans (iu.lD rfl rfl b args h)
def aio(b:149<n)(args:List AV)(h:AH):rF (gV.fk n) 236 args h=kP 3 24 args h:=(iE (λ_=>iu.kf rfl _ _)).trans (iu.lD rfl rfl b args h)
def p74(b:151<n)(args:List AV)(h:AH):(gV.fk n).x 74 args h=lZ (gV.fk 151) c74 args h:=iu.kK rfl rfl b args h
def ah7(b:152<n)(args:List AV)(h:AH):rF (gV.fk n) 345 args h=jU (gV.fk 152) ae3 args h:=(iE (λ_=>iu.lW rfl _ _)).trans (iu.nu rfl rfl b args h)
def aid(b:153<n)(args:List AV)(h:AH):rF (gV.fk n) 302 args h=jU (gV.fk 153) afd args h:=(iE (λ_=>iu.lW rfl _ _)).trans (iu.nu rfl rfl b args h)
def p66(b:156<n)(args:List AV)(h:AH):(gV.fk n).x 66 args h=lZ (gV.fk 156) Tu args h:=iu.kK rfl rfl b args h
def aci(b:165<n)(args:List AV)(h:AH):rF (gV.fk n) 321 args h=qb 0 6 [322] args h:=(iE (λ_=>iu.kf rfl _ _)).trans (iu.lD rfl rfl b args h)
def aco(b:168<n)(args:List AV)(h:AH):rF (gV.fk n) 135 args h=jU (gV.fk 168) afA args h:=(iE (λ_=>iu.lW rfl _ _)).trans (iu.nu rfl rfl b args h)
def p76(b:169<n)(args:List AV)(h:AH):(gV.fk n).x 76 args h=lZ (gV.fk 169) c76 args h:=iu.kK rfl rfl b args h
def ait(b:171<n)(args:List AV)(h:AH):rF (gV.fk n) 215 args h=qb 2 3 [216] args h:=(iE (λ_=>iu.kf rfl _ _)).trans (iu.lD rfl rfl b args h)
def p67(b:173<n)(args:List AV)(h:AH):(gV.fk n).x 67 args h=lZ (gV.fk 173) c67 args h:=iu.kK rfl rfl b args h
def p10(b:175<n)(args:List AV):(gV.fk n).p 10 args=Es (gV.fk 175) d12 args:=iu.LM rfl rfl b args
def a10(args:List AV)(h:AH):rF (gV.fk n) 10 args h=vC (jk h args) (gV.fk n) 10 args h:=kF _ _ _ _
def p8(b:182<n)(args:List AV):(gV.fk n).p 8 args=qP (gV.fk 182) c8 args:=iu.pZ rfl rfl b args
def a8(args:List AV)(h:AH):rF (gV.fk n) 8 args h=vC (jk h args) (gV.fk n) 8 args h:=kF _ _ _ _
def p41(b:193<n)(args:List AV)(h:AH):rF (gV.fk n) 41 args h=jU (kT (gV.fk 193) 41 GC 13) GC args h:=(iE (λ_=>iu.CC rfl _ _)).trans (iu.D8 rfl rfl b args h)
def p3(b:195<n)(args:List AV):(gV.fk n).p 3 args=qP (gV.fk 195) c3 args:=iu.pZ rfl rfl b args
def a3(args:List AV)(h:AH):rF (gV.fk n) 3 args h=vC (jk h args) (gV.fk n) 3 args h:=kF _ _ _ _
def p5(b:0<n)(args:List AV):(gV.fk n).p 5 args=hdY args:=iu.oc rfl rfl b args
def a5(args:List AV)(h:AH):rF (gV.fk n) 5 args h=vC (jk h args) (gV.fk n) 5 args h:=kF _ _ _ _
def U3(b:0<n)(args:List AV):(gV.fk n).p 142 args=Df args:=iu.oc rfl rfl b args
def pp(f:FuncId){F:AF}(hk:gV.kd f = .p F){k:Nat}(h:k<n)(b:gV.pos f=k)(args:List AV):(gV.fk n).p f args=qP (gV.fk k) F args:=iu.pZ hk b h args
def ca(f:FuncId)(args:List AV)(h:AH):rF (gV.fk n) f args h=vC (jk h args) (gV.fk n) f args h:=kF _ _ _ _
def ph(f:FuncId){F:AF}(hk:gV.kd f = .h F){k:Nat}(i:k<n)(b:gV.pos f=k)(args:List AV)(h:AH):rF (gV.fk n) f args h=jU (gV.fk k) F args h:=(iE (λ_=>iu.lW hk _ _)).trans (iu.nu hk b i args h)
open Go.Am Go.Tr
abbrev I(n:Int):AV:=.int .i64 n
abbrev B(b:UInt8):AV:=.int .u8 (b.toNat:Int)
@[simp]def En(e:Tr.Ent):AV:=.agg [.str e.name,.int .i64 e.ino,.int .i64 e.gr]
@[simp]def Nd(n:Tr.Node):AV:=.agg [.int .i64 n.ino,.int .i64 n.kind,.int .i64 n.links,.en false (n.data.map B),.en false (n.ek.map En),.int .i64 n.up]
@[simp]def Tv(t:Tr.Tree):AV:=.agg [.en false (t.nodes.map Nd),.int .i64 t.next,.int .i64 t.gr]
@[simp]def szI(l:ax):iU 1 (l.map I)=true:=by simp[iU]
@[simp]def szB(l:aq):iU 1 (l.map B)=true:=by simp[iU]
@[simp]def aks(l:List Tr.Ent):iU 3 (l.map En)=true:=by simp[iU]
@[simp]def akp(l:List Tr.Node):iU 6 (l.map Nd)=true:=by simp[iU]
structure Bt(t:Tr.Tree):Prop where
 len:t.nodes.length<=1000
 ek:∀n∈t.nodes,n.ek.length<=1000
 ck0:0<=t.gr
 ck:t.gr<=4398046511104
 nx0:0<=t.next
 nx:t.next<=4398046511104
def ud(o:Option Tr.Node):AV:=o.elim (.iV [Nd jb,.bool false]) λn=>.iV [Nd n,.bool true]
def jo:∀l:aq,nO (l.map B)=some l
 | []=>rfl
 |b::l=>by simp[nO,jo l]
def Cu{α:Type}[DecidableEq α]:∀ {a b:List α},a.length=b.length->((a.zip b).all (λx=>decide (x.1=x.2))=true↔a=b)
 | [],[],_=>ah
 |x::a,y::b,h=>by
  have:=Cu (a:=a) (b:=b) (ak h)
  simp only[eR,cm,aC,this,decide_eq_true_eq,fF]
def l95{Γ:ja}(a b:List Tr.Ent)(hl:a.length=b.length)(r:a.length<=1000)(f g:Bool)(e0:Env)(h0:e0 0 = .en f (a.map En))(h1:e0 1 = .en g (b.map En)):
  iter (round Γ [5] [(.exit 0,[]),(.ret,[4])] xO e0 0 []) ([.int .i64 0],[])=some (if (a.zip b).all (λx=>decide (x.1=x.2))=true then(.exit 0,[],[])else(.ret,[.bool false],[])) :=
 Dm (f:=round Γ [5] [(.exit 0,[]),(.ret,[4])] xO e0 0 []) (λi=>([.int .i64 i],[])) a b hl (λx y=>decide (x=y)) _ _
  (λi q o=>by
   obtain⟨x,hx⟩:∃x,x=a[i]:=⟨_,rfl⟩;obtain⟨y,h⟩:∃y,y=b[i]:=⟨_,rfl⟩;rw[<-hx,<-h];obtain⟨x1,x2,x3⟩:=x;let⟨y1,y2,y3⟩:=y
   by_cases n:x1=y1
   .by_cases c2 : x2 = y2
    .by_cases l:x3=y3
     .simp(disch:=omega)[round_eq,xO,h0,h1,<-hx,<-h,iO,n,c2,l]
     .simp(disch:=omega)[round_eq,xO,h0,h1,<-hx,<-h,iO,n,c2,l]
    .simp(disch:=omega)[round_eq,xO,h0,h1,<-hx,<-h,iO,n,c2]
   .simp(disch:=omega)[round_eq,xO,h0,h1,<-hx,<-h,iO,n])
  (by simp(disch:=omega)[round_eq,xO,h0])
variable{n:Nat}
def s95(o:186<n)(a b:List Tr.Ent)(f g:Bool)(r:a.length<=1000)(q:b.length<=1000):
  (gV.fk n).p 95 [.en f (a.map En),.en g (b.map En)]=some (.bool (decide (a=b))):=by
 rw[pp 95 rfl o rfl,gd,b6]
 by_cases hl:a.length=b.length
 .have l:=Cu hl;simp(disch:=omega)[c95,hl];rw[l95 a b hl aa f g _ an an]
  by_cases i:a=b
  .rw[if_pos (l.2 i)];simp(disch:=omega)[i]
  .rw[if_neg (λh=>i (l.1 h))]
   simp(disch:=omega)[i]
 .have i:a≠b:=λh=>hl (by rw[h])
  simp(disch:=omega)[c95,i]
def je(q:Tr.Node):Tr.Node:={q with fd:=true,fe:=true}
def s46(F:187<n)(x y:Tr.Node)(hx:x.ek.length<=1000)(E:y.ek.length<=1000):
  (gV.fk n).p 46 [Nd x,Nd y]=some (.bool (decide (je x=je y))):=by
 rw[pp 46 rfl F rfl,gd,b6];have z:=s95 (n:=187) af x.ek y.ek false false hx E
 have r:=jo x.data;have t2:=jo y.data
 have l:∀x y:Tr.Node,je x=je y↔x.ino=y.ino/\x.kind=y.kind/\x.links=y.links/\x.up=y.up/\x.data=y.data/\x.ek=y.ek:=λx y=>by
  unfold je;rw[Tr.Node.mk.injEq]
  constructor
  .rintro⟨h1,h2,h3,_,h4,_,h5,v⟩;exact⟨h1,h2,h3,v,h4,h5⟩
  .rintro⟨h1,h2,h3,v,h4,h5⟩;exact⟨h1,h2,h3,rfl,h4,rfl,h5,v⟩
 have o:decide (je x=je y)=decide (x.ino=y.ino/\x.kind=y.kind/\x.links=y.links/\x.up=y.up/\x.data=y.data/\x.ek=y.ek):=decide_eq_decide.2 (l x y);rw[o];clear o l;obtain⟨x1,x2,x3,x4,x5,x6,x7,x8⟩:=x;let⟨y1,y2,y3,y4,y5,y6,y7,A⟩:=y;simp only at z r t2
 by_cases i:x1=y1
 .by_cases c2 : x2 = y2
  .by_cases b : x3 = y3
   .by_cases h : x8 = A
    .by_cases q:x5=y5
     .subst q;simp(disch:=omega)[c46,i,c2,b,h,r,mw,ca 95,z]
     .simp(disch:=omega)[c46,i,c2,b,h,r,t2,mw,q]
    .simp(disch:=omega)[c46,i,c2,b,h]
   .simp(disch:=omega)[c46,i,c2,b]
  .simp(disch:=omega)[c46,i,c2]
 .simp(disch:=omega)[c46,i]
def l18(A:187<n)(a b:List Tr.Node)(hl:a.length=b.length)(E:a.length<=1000)(r:∀q∈a,q.ek.length<=1000)(o:∀q∈b,q.ek.length<=1000)(f g:Bool)(e0:Env)(h0:e0 0 = .en f (a.map Nd))(h1:e0 1 = .en g (b.map Nd)):
  iter (round (gV.fk n) [5] [(.exit 0,[]),(.ret,[4])] Cm e0 0 []) ([.int .i64 0],[])=some (if (a.zip b).all (λx=>decide (je x.1=je x.2))=true then(.exit 0,[],[])else(.ret,[.bool false],[])) :=
 Dm (f:=round (gV.fk n) [5] [(.exit 0,[]),(.ret,[4])] Cm e0 0 []) (λi=>([.int .i64 i],[])) a b hl (λx y=>decide (je x=je y)) _ _
  (λi z l=>by
   obtain⟨x,hx⟩:∃x,x=a[i]:=⟨_,rfl⟩;obtain⟨y,h⟩:∃y,y=b[i]:=⟨_,rfl⟩;rw[<-hx,<-h];have v:=s46 (n:=n) aa x y (by rw[hx];exact r _ (aU z)) (by rw[h];exact o _ (aU l))
   simp only[Nd]at v
   by_cases c:je x=je y
   .simp(disch:=omega)[round_eq,Cm,h0,h1,<-hx,<-h,v,c]
   .simp(disch:=omega)[round_eq,Cm,h0,h1,<-hx,<-h,v,c])
  (by simp(disch:=omega)[round_eq,Cm,h0])
def vT:∀ {a b:List Tr.Node},a.length=b.length->((a.zip b).all (λx=>decide (je x.1=je x.2))=true↔a.map je=b.map je)
 | [],[],_=>ah
 |x::a,y::b,h=>by
  have:=vT (a:=a) (b:=b) (ak h)
  simp only[eR,cm,aC,this,decide_eq_true_eq,bF,fF]
def s18(v:188<n)(a b:List Tr.Node)(y:a.length<=1000)(x:b.length<=1000)(o:∀q∈a,q.ek.length<=1000)(l:∀q∈b,q.ek.length<=1000)(f g:Bool):
  (gV.fk n).p 18 [.en f (a.map Nd),.en g (b.map Nd)]=some (.bool (decide (a.map je=b.map je))):=by
 rw[pp 18 rfl v rfl,gd,b6]
 by_cases hl:a.length=b.length
 .have r:=vT hl;simp(disch:=omega)[c18,hl];rw[l18 af a b hl aa o l f g _ an an]
  by_cases i:a.map je=b.map je
  .rw[if_pos (r.2 i)];simp(disch:=omega)[i]
  .rw[if_neg (λh=>i (r.1 h))]
   simp(disch:=omega)[i]
 .have i:a.map je≠b.map je:=λh=>hl (by have:=congrArg List.length h;simpa using this)
  simp(disch:=omega)[c18,i]
def yV(a b:Tr.Tree):Bool:=decide (a.next=b.next)&&(decide (a.gr=b.gr)&&decide (a.nodes.map je=b.nodes.map je))
def s83(o:189<n)(a b:Tr.Tree)(l:Bt a)(i:Bt b):(gV.fk n).p 83 [Tv a,Tv b]=some (.bool (yV a b)):=by
 rw[pp 83 rfl o rfl,gd,b6];have q:=s18 (n:=189) af a.nodes b.nodes l.len i.len l.ek i.ek false false
 unfold yV
 by_cases h:a.next=b.next
 .by_cases c2:a.gr=b.gr
  .simp(disch:=omega)[c83,h,c2,ca 18,q]
  .simp(disch:=omega)[c83,h,c2]
 .simp(disch:=omega)[c83,h]
def UG{n:Nat}(b:1<n)(s:aq)(c:UInt8):(gV.fk n).p 81 [.str s,.int .u8 (c.toNat:Int)]=some (I (Lib.indexByte s c)):=by
 rw[pp 81 rfl b rfl,gd,b6];have h1:=U3 (n:=1) af
 have h2:Df [.str s,.int .u8 (c.toNat:Int)]=some (I (Lib.indexByte s c)):=by
  have e:(c.toNat:Int).toNat.toUInt8=c:=ah
  simp only[Df,e]
 simp(disch:=omega)[c81,ca 142,h1,h2]
def nZ{p:ay}(h:∀k:Fin 256,p k.val)(c:UInt8):p c.toNat:=h ⟨c.toNat,c.toNat_lt⟩
def OG(c:UInt8):bin .shr (B c) (.int .u64 4)=some (.int .u8 ((c.toNat / 16:Nat):Int)):=by
 have h:(c.toNat:Int).fdiv (2 ^ min (4:Int).toNat IntKind.u8.bits)=((c.toNat / 16:Nat):Int):=nZ (p:=λk=>(k:Int).fdiv (2 ^ min (4:Int).toNat IntKind.u8.bits)=((k / 16:Nat):Int)) (by decide +kernel) c
 show (if (4:Int)<0 then none else some (AV.int .u8 ((c.toNat:Int).fdiv (2 ^ min (4:Int).toNat IntKind.u8.bits))))=_
 rw[if_neg af,h]
def K7(c:UInt8):bin .and (B c) (.int .u8 15)=some (.int .u8 ((c.toNat%16:Nat):Int)):=by
 have h:IntKind.u8.wrap ((BitVec.ofInt IntKind.u8.bits (c.toNat:Int) &&& BitVec.ofInt IntKind.u8.bits 15).toNat:Nat)=((c.toNat%16:Nat):Int):=nZ (p:=λk=>IntKind.u8.wrap ((BitVec.ofInt IntKind.u8.bits (k:Int) &&& BitVec.ofInt IntKind.u8.bits 15).toNat:Nat)=((k%16:Nat):Int)) (by decide +kernel) c
 show some (AV.int .u8 (IntKind.u8.wrap ((BitVec.ofInt IntKind.u8.bits (c.toNat:Int) &&& BitVec.ofInt IntKind.u8.bits 15).toNat:Nat)))=_;rw[h]
abbrev Od:aq:=[48,49,50,51,52,53,54,55,56,57,97,98,99,100,101,102]
def agK(c:UInt8):IntKind.u8.wrap ((c.toNat:Int) / 16+1)=(c.toNat:Int) / 16+1:=nZ (p:=λk=>IntKind.u8.wrap ((k:Int) / 16+1)=(k:Int) / 16+1) (by decide +kernel) c
def agJ(c:UInt8):IntKind.u8.wrap ((c.toNat:Int)%16+1)=(c.toNat:Int)%16+1:=nZ (p:=λk=>IntKind.u8.wrap ((k:Int)%16+1)=(k:Int)%16+1) (by decide +kernel) c
def ajQ(c:UInt8):List.drop ((c.toNat:Int) / 16).toNat (List.take ((c.toNat:Int) / 16+1).toNat [48,49,50,51,52,53,54,55,56,57,97,98,99,100,101,102])=[Re.hx (c.toNat / 16)] :=
 nZ (p:=λk=>List.drop ((k:Int) / 16).toNat (List.take ((k:Int) / 16+1).toNat [48,49,50,51,52,53,54,55,56,57,97,98,99,100,101,102])=[Re.hx (k / 16)]) (by decide +kernel) c
def ajP(c:UInt8):List.drop ((c.toNat:Int)%16).toNat (List.take ((c.toNat:Int)%16+1).toNat [48,49,50,51,52,53,54,55,56,57,97,98,99,100,101,102])=[Re.hx (c.toNat%16)] :=
 nZ (p:=λk=>List.drop ((k:Int)%16).toNat (List.take ((k:Int)%16+1).toNat [48,49,50,51,52,53,54,55,56,57,97,98,99,100,101,102])=[Re.hx (k%16)]) (by decide +kernel) c
def OI(c:UInt8):bin .or (B c) (.int .u8 32)=some (.int .u8 ((c.toNat ||| 32:Nat):Int)):=by
 have h:IntKind.u8.wrap ((BitVec.ofInt IntKind.u8.bits (c.toNat:Int) ||| BitVec.ofInt IntKind.u8.bits 32).toNat:Nat)=((c.toNat ||| 32:Nat):Int):=nZ (p:=λk=>IntKind.u8.wrap ((BitVec.ofInt IntKind.u8.bits (k:Int) ||| BitVec.ofInt IntKind.u8.bits 32).toNat:Nat)=((k ||| 32:Nat):Int)) (by decide +kernel) c
 show some (AV.int .u8 (IntKind.u8.wrap ((BitVec.ofInt IntKind.u8.bits (c.toNat:Int) ||| BitVec.ofInt IntKind.u8.bits 32).toNat:Nat)))=_;rw[h]
def UT(c:UInt8):Re.zF c=((decide ((97:Int)<=((c.toNat ||| 32:Nat):Int))&&decide (((c.toNat ||| 32:Nat):Int)<=122))||((decide ((48:Int)<=(c.toNat:Int))&&decide ((c.toNat:Int)<=57))||decide (0<=Lib.indexByte [47,46,95,45] c))):=by
 have h:=nZ (p:=λk=>Re.zF (UInt8.ofNat k)=((decide ((97:Int)<=((k ||| 32:Nat):Int))&&decide (((k ||| 32:Nat):Int)<=122))||((decide ((48:Int)<=(k:Int))&&decide ((k:Int)<=57))||decide (0<=Lib.indexByte [47,46,95,45] (UInt8.ofNat k))))) (by decide +kernel) c
 simpa using h
def ahM{n:Nat}(h:9<n)(c:UInt8):(gV.fk n).p 56 [B c]=some (.bool (Re.zF c)):=by
 rw[pp 56 rfl h rfl,gd,b6,UT];have h1:=UG (n:=9) af [47,46,95,45] c
 have h2:=OI c;generalize((c.toNat ||| 32:Nat):Int)=o at *
 generalize Lib.indexByte [47,46,95,45] c=q at *
 by_cases b:97<=o
 .by_cases a2 : o <= 122
  .simp(disch:=omega)[Tw,ca 81,h1,h2,b,a2]
  .by_cases a3 : (48 : Int) <= (c.toNat : Int)
   .by_cases a4:(c.toNat:Int)<=57
    .simp(disch:=omega)[Tw,ca 81,h1,h2,b,a2,a3,a4]
    .simp(disch:=omega)[Tw,ca 81,h1,h2,b,a2,a3,a4]
   .simp(disch:=omega)[Tw,ca 81,h1,h2,b,a2,a3]
 .by_cases a3 : (48 : Int) <= (c.toNat : Int)
  .by_cases a4:(c.toNat:Int)<=57
   .simp(disch:=omega)[Tw,ca 81,h1,h2,b,a3,a4]
   .simp(disch:=omega)[Tw,ca 81,h1,h2,b,a3,a4]
  .simp(disch:=omega)[Tw,ca 81,h1,h2,b,a3]
def FK{s:aq}{i:Nat}(b:i<s.length):Re.esc (s.take (i+1))=Re.esc (s.take i)++Re.e1 s[i]:=by
 rw[bu b];simp only[Re.esc,cL,bZ,cZ,b9]
def acS{s:aq}(hs:s.length<=4294967296)(e0:Env)(h0:e0 0 = .str s)(h3:e0 3 = .ptr 0 0 0 0)(A:e0 7=I (s.length:Int))(h:AH)(K:u7 oJ 5 h 0 [] []):
  ∃y,(∃h',u7 oJ 5 h' 0 [] (Re.esc s)/\y=(AX.exit 0,[],h'))/\iter (jY (gV.fk 11) [8] [(.exit 0,[])] Cj e0 1) ([I 0],h)=some y :=
 ji (f:=jY (gV.fk 11) [8] [(.exit 0,[])] Cj e0 1) s.length (λi (x:AH)=>([I (i:Int)],x)) (λy=>∃h',u7 oJ 5 h' 0 [] (Re.esc s)/\y=(AX.exit 0,[],h')) (λi x=>u7 oJ 5 x 0 [] (Re.esc (s.take i)))
  (λi x G q=>by
   left;obtain⟨c,v⟩:∃c,c=s[i]:=⟨_,rfl⟩;have E:=FK G;rw[<-v]at E;have hl:=Re.mq (s.take i);have F:(s.take i).length<=s.length:=by rw[bI];omega
   have o:=ahM (n:=11) af c
   rw[E]
   by_cases l:Re.zF c=true
   .let⟨h',r,b,_⟩:=aaP q c aa
    have z:=(p57 (n:=11) af _ x).trans r
    rw[l]at o;exact⟨h',by simpa[Re.e1,l]using b,by simp(disch:=omega)[ia,Cj,h0,h3,A,<-v,ca 56,o,z]⟩
   .let⟨h',r,b,_⟩:=yD q [37,Re.hx (c.toNat / 16),Re.hx (c.toNat%16)] (by simp only[aK,aR];omega)
    have z:=(UY (n:=11) af _ x).trans r
    rw[Bool.eq_false_iff.2 l]at o;have L:c.toNat / 16<16:=by have:=c.toNat_lt;omega
    have H:c.toNat%16<16:=aa
    exact⟨h',by simpa[Re.e1,l]using b,by simp(disch:=omega)[ia,Cj,h0,h3,A,<-v,ca 56,o,z,OG,K7,agK,agJ,ajQ,ajP]⟩)
  (λx q=>⟨_,⟨x,ak q,rfl⟩,by simp(disch:=omega)[ia,Cj,A]⟩) (bp _) h (by simpa[Re.esc]using K)
def GW{n:Nat}(b:11<n)(s:aq)(hs:s.length<=4294967296):(gV.fk n).p 30 [.str s]=some (.str (Re.esc s)):=by
 rw[pp 30 rfl b rfl,gd,b6];have hl:=Re.mq s;have h:u7 oJ 5 [.var (rL 0 106 [.kG,.yl])] 0 [] []:=.inl ⟨rfl,106,none,rfl,.inr ⟨rfl,af⟩⟩
 simp(disch:=omega)[c30];generalize hx:iter _ _=o
 obtain⟨_,⟨h',q,rfl⟩,rfl⟩:∃y,(∃h',u7 oJ 5 h' 0 [] (Re.esc s)/\y=(AX.exit 0,[],h'))/\o=some y:=by
  rw[<-hx];exact acS hs _ an an an _ h
 let⟨r,i⟩:=LX q aa
 have l:=(p43 (n:=11) af _ h').trans i
 simp(disch:=omega)[l]
def WJ(t:Tr.Tree)(i:Int):∃b,ud (find t.nodes i) = .iV [Nd (iq t i),.bool b]/\(iq t i=jb\/iq t i∈t.nodes):=by
 unfold iq ud;cases h:find t.nodes i with
 |none=>exact⟨false,rfl,.inl rfl⟩
 |some q=>exact⟨true,rfl,.inr (gZ h).1⟩
def okB(b:UInt8):Bool:=decide (32<=b.toNat) && !decide (b.toNat=47)
def mT(s:aq):Bool:=decide (1<=s.length/\s.length<=32/\s≠[46]/\s≠[46,46])&&s.all okB
def hg(t:Tr.Tree)(i at_:Int)(m:Int)(n:Tr.Node):Int:=if n.kind=2/\below t n.ino i=true then max m (at_+depth t n.ino-depth t i+if 0<n.ek.length then 1 else 0)else m
def Ty{k:Nat}{t:Tr.Tree}(h:Bg k t)(hk:k<=700):Bt t :=
 ⟨by have:=h.len;omega,λn b=>by have:=h.ek n b;omega,h.ck0,by have:=h.ck;omega,h.nx0,by have:=h.nx;omega⟩
abbrev nB(t:Tr.Tree):Prop:=WF mT ij t
def Pw{t:Tr.Tree}(w:nB t)(i:Int)(s:aq):((Tr.look mT t i s).2=0->Bt (left t i s))/\∀q,find (left t i s).nodes (Tr.look mT t i s).1=some q->-4398046511104<=q.links/\q.links<=4398046511104:=by
 have h1:=w.bg.left i s;refine⟨λ_=>Ty h1 aa,λq b=>?_⟩
 have:=h1.lk q (gZ b).1;omega
end Go.Proofs.YtahlmpbhfljalaaGreatDoor
