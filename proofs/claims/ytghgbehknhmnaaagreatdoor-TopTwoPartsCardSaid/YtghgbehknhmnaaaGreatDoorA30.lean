/- Part of the proof that TopTwoPartsCard holds. -/
import Derived.Test.YtghgbehknhmnaaaGreatDoorSp30
import Derived.Test.YtghgbehknhmnaaaGreatDoorJn30
import Derived.Test.YtghgbehknhmnaaaGreatDoorSo30
import Derived.Test.YtghgbehknhmnaaaGreatDoorDo30
set_option linter.all false
namespace Go.Proofs.YtghgbehknhmnaaaGreatDoor
open Go.Am Go.Am.Nm
def oM:Tryz.prog.follows .mixedOrders=true:=aj
def U8:Y1 Tryz.prog 284 9 3 307:=⟨oM,⟨Tryz.f284.name,Tryz.f284.targs,aj,aj⟩,⟨Tryz.f307,aj,aj,aj,aj,aj⟩⟩
def Hr:Ez Tryz.prog 189 9 4 3 21 0:=⟨oM,⟨Tryz.f189.name,Tryz.f189.targs,aj,aj⟩,aj,aj,aj,aj⟩
def Vd:okF Tryz.prog 238 (nT 6 80 (.agg [.int .i64 0,.int .i64 0,.int .i64 0,.b9 false [],.b9 false [],.int .i64 0]))=true:=aj
def Vc:Dj Tryz.prog 239 27 3 4 118 0 277 278 6 80:=⟨oM,⟨Tryz.f239.name,Tryz.f239.targs,aj,aj⟩,⟨Tryz.f277,aj,aj,aj,aj,aj⟩,aj,aj,aj,aj,aj,ah⟩
def Vm:okF Tryz.prog 196 (nT 3 32 (.agg [.str [],.int .i64 0,.int .i64 0]))=true:=aj
def Vb:Dj Tryz.prog 240 116 3 4 162 0 279 280 3 32:=⟨oM,⟨Tryz.f240.name,Tryz.f240.targs,aj,aj⟩,⟨Tryz.f279,aj,aj,aj,aj,aj⟩,aj,aj,aj,aj,aj,ah⟩
def Vl:Dj Tryz.prog 204 35 3 4 88 0 256 257 3 24:=⟨oM,⟨Tryz.f204.name,Tryz.f204.targs,aj,aj⟩,⟨Tryz.f256,aj,aj,aj,aj,aj⟩,aj,aj,aj,aj,aj,ah⟩
def Vk:okF Tryz.prog 205 (nT 3 24 (.agg [.int .i64 0,.int .i64 0,.int .i64 0]))=true:=aj
def Ve:okF Tryz.prog 219 (nT 3 24 (.agg [.int .i64 0,.int .i64 0,.int .i64 0]))=true:=aj
def Vo:okF Tryz.prog 131 (nT 1 1 (.int .u8 0))=true:=aj
def Vh:okF Tryz.prog 210 (nT 8 96 (.agg [.int .i64 0,.int .i64 0,.int .i64 0,.int .i64 0,.int .i64 0,.b9 false [],.b9 false [],.int .i64 0]))=true:=aj
def M3:((Tryz.prog.info? 118).getD default).size=6:=aj
def U9:LA Tryz.prog 281 27 3 4 118 0 ((Tryz.prog.info? 118).getD default) (((Tryz.prog.info? 118).getD default).zero.getD .nilFunc):=⟨oM,⟨Tryz.f281.name,Tryz.f281.targs,aj,aj⟩,aj,aj,aj,aj,aj,aj,aj,aj,by rw[M3];decide⟩
def M6:((Tryz.prog.info? 88).getD default).size=3:=aj
def Vj:LA Tryz.prog 208 35 3 4 88 0 ((Tryz.prog.info? 88).getD default) (((Tryz.prog.info? 88).getD default).zero.getD .nilFunc):=⟨oM,⟨Tryz.f208.name,Tryz.f208.targs,aj,aj⟩,aj,aj,aj,aj,aj,aj,aj,aj,by rw[M6];decide⟩
def Vn:okF Tryz.prog 180 (nT 3 24 (.agg [.int .i64 0,.int .i64 0,.int .i64 0]))=true:=aj
def M4:((Tryz.prog.info? 162).getD default).size=3:=aj
def Va:LA Tryz.prog 245 116 3 4 162 0 ((Tryz.prog.info? 162).getD default) (((Tryz.prog.info? 162).getD default).zero.getD .nilFunc):=⟨oM,⟨Tryz.f245.name,Tryz.f245.targs,aj,aj⟩,aj,aj,aj,aj,aj,aj,aj,aj,by rw[M4];decide⟩
def M5:((Tryz.prog.info? 90).getD default).size=3:=aj
def Vg:LA Tryz.prog 217 36 3 4 90 0 ((Tryz.prog.info? 90).getD default) (((Tryz.prog.info? 90).getD default).zero.getD .nilFunc):=⟨oM,⟨Tryz.f217.name,Tryz.f217.targs,aj,aj⟩,aj,aj,aj,aj,aj,aj,aj,aj,by rw[M5];decide⟩
def Vf:Dj Tryz.prog 218 36 3 4 90 0 265 266 3 24:=⟨oM,⟨Tryz.f218.name,Tryz.f218.targs,aj,aj⟩,⟨Tryz.f265,aj,aj,aj,aj,aj⟩,aj,aj,aj,aj,aj,ah⟩
def acC:okF Tryz.prog 30 (nT 9 104 (.agg [.int .i64 0,.int .i64 0,.int .i64 0,.int .i64 0,.int .i64 0,.int .i64 0,.int .i64 0,.b9 false [],.b9 false []]))=true:=aj
def acB:Dj Tryz.prog 31 63 3 4 95 0 83 84 9 104:=⟨oM,⟨Tryz.f31.name,Tryz.f31.targs,aj,aj⟩,⟨Tryz.f83,aj,aj,aj,aj,aj⟩,aj,aj,aj,aj,aj,ah⟩
noncomputable def ajL:List Kd:=[.no,.no,.no,.no,.no,.p c5,.p c6,.p c7,.p c8,.no,.p zb,.p sE,.d d12,.no,.h c14,.p YD,.p c16,.p c17,.p PS,.p c19,.p c20,.p c21,.p Ll,.no,.x LL,.h c25,.u c26,.no,.p c28,.h TK,.x (jd 9 104),.x (kO 9 104),.p c32,.p c33,.p c34,.r OR 100,.h c36,.h c37,.p RS,.p c39,.p c40,.p c41,.h c42,.p c43,.p c44,.p Ie,.p c46,.p c47,.p c48,.p RQ,.p OP,.p LK,.p c52,.p c53,.p c54,.p c55,.no,.no,.no,.no,.u c60,.u W9,.u X6,.u W0,.u TJ,.u c65,.u WD,.u c67,.u c68,.u Ws,.u X5,.u c71,.u Wn,.u c73,.u c74,.u c75,.u c76,.u c77,.p c78,.p X4,.h c80,.p c81,.p c82,.no,.no,.h c85,.p c86,.p c87,.p X2,.p c89,.p c90,.h c91,.p c92,.p c93,.p TI,.p c95,.p PR,.p c97,.p c98,.p tD,.p YM,.p YL,.p Ls,.p vL,.p El,.p Lr,.p O2,.p YK,.p YJ,.p O1,.p afZ,.p O0,.p afY,.no,.no,.no,.u Sg,.u OZ,.p Ce,.u YI,.p Lq,.p Sf,.p OY,.p vI,.p Ij,.p afX,.p afW,.p GI,.p Lp,.p YH,.u OX,.x (jd 1 1),.u GH,.p zo,.p Lo,.p afV,.y (xb iN),.h afU,.h afT,.p Se,.p afS,.p YF,.p YE,.p afR,.no,.p Sd,.p Ln,.p afQ,.p afP,.p afO,.p YC,.p afN,.p Sb,.p BE,.p afM,.p afL,.p GD,.p afK,.p afJ,.p afI,.p OW,.p afH,.p Sa,.p YB,.p afG,.p afF,.p OV,.p afE,.p afD,.p YA,.h afC,.p R9,.h GC,.h Yz,.h afB,.p afA,.h Yy,.h afz,.p OU,.h aks,.x (jd 3 24),.h Yw,.p Yv,.p afy,.p R8,.h Cd,.h afx,.h Yu,.h R7,.y xg,.p afw,.h R5,.p Yt,.p Ii,.h afv,.h akr,.x (jd 3 32),.h afu,.x (qN 2 3 [199]),.p akq,.p Lm,.h aft,.p afs,.p RZ,.x (kO 3 24),.x (jd 3 24),.h afr,.p RY,.x (kP 3),.p afq,.x (jd 8 96),.p Yr,.p Ih,.p afp,.p Yq,.p OT,.p afo,.x (kP 3),.x (kO 3 24),.x (jd 3 24),.p afn,.no,.h afm,.h afl,.h akp,.h Yn,.no,.p Ym,.p OS,.p afk,.p afj,.p afi,.p afh,.p afg,.p aff,.p Yl,.h afe,.h afd,.x (jd 6 80),.x (kO 6 80),.x (kO 3 32),.h RV,.h afc,.p afb,.r zn 300,.x (kP 3),.h afa,.p ae9,.p ae8,.p Yj,.h ae7,.h Ig,.no,.no,.p ae6,.p ae5,.no,.no,.h ae4,.h ako,.p ae3,.h ae2,.h Yh,.h ae1,.p ae0,.no,.no,.r Cc 1000000,.x (qN 0 6 [269]),.p akn,.no,.no,.no,.p aeZ,.p aeY,.y AU,.p aeX,.no,.no,.no,.no,.x (kP 6),.h Yg,.h Yf,.y RJ,.h aeW,.no,.no,.no,.no,.no,.no,.no,.no,.no,.no,.no,.h aeV]
def aiw:ax:=[0,0,0,254,256,257,174,177,249,252,0,253,155,251,255,168,171,173,153,176,175,180,248,0,156,147,66,250,164,165,166,167,169,170,172,162,158,154,161,110,100,148,149,150,151,152,178,179,181,226,234,240,245,246,247,204,0,0,0,0,52,125,127,132,146,98,68,75,114,88,136,137,141,78,94,83,116,1,202,200,163,4,3,0,0,157,159,160,7,5,6,99,189,192,198,217,218,221,187,225,183,227,228,231,232,233,236,237,238,239,244,188,203,0,0,0,51,56,65,124,126,131,47,145,97,89,67,74,113,104,86,87,135,140,77,92,48,93,8,82,115,201,199,2,0,191,195,197,196,216,219,220,184,185,186,222,223,193,224,182,229,230,211,214,208,235,206,242,243,49,50,55,58,61,64,105,106,9,109,118,119,40,39,122,123,36,129,130,37,38,46,41,43,133,144,95,62,10,96,11,69,70,14,71,72,73,84,15,111,112,101,102,103,28,85,134,32,138,139,76,91,0,80,16,81,29,0,190,194,207,210,215,205,213,241,54,57,35,59,60,63,108,117,121,79,128,45,19,18,42,143,44,0,0,12,13,0,0,20,34,21,27,22,31,23,0,0,30,90,24,0,0,0,209,212,53,25,0,0,0,0,107,120,33,17,142,0,0,0,0,0,0,0,0,0,0,0,26]
noncomputable def en:iW:=⟨λf=>nth ajL f .no,λf=>nth aiw f 0⟩
set_option maxHeartbeats 4000000 in
def Jf:∀f,(en.kd f).ok Tryz.prog f :=
 M9 (p:=λf k=>k.ok Tryz.prog f) (λ_ _=>Kd.Vp) (λ_=>trivial) [12,24,30,31,131,136,180,189,196,198,204,205,208,210,217,218,219,238,239,240,245,268,275,281,284] aj ⟨aeI,TP,nw oM acC,pS acB,nw oM Vo,zW,nw oM Vn,λ_ _ h b=>Cu Hr h b,nw oM Vm,Mm,pS Vl,nw oM Vk,λargs h r h' b=>r7 Vj (by rw[M6];exact b),nw oM Vh,λargs h r h' b=>r7 Vg (by rw[M5];exact b),pS Vf,nw oM Ve,nw oM Vd,pS Vc,pS Vb,λargs h r h' b=>r7 Va (by rw[M4];exact b),Ml,Wp,λargs h r h' b=>r7 U9 (by rw[M3];exact b),λ_ _ h b=>RH U8 h b,trivial⟩
def L8(n:Nat):j3 Tryz.prog (en.cz n):=iW.GY oM Jf n
variable{n:Nat}
def p10(b:0<n)(args:List AV):(en.cz n).p 10 args=pg (en.cz 0) zb args:=iW.oG rfl rfl b args
def a10(args:List AV)(h:AH):eT (en.cz n) 10 args h=vC (jT h args) (en.cz n) 10 args h:=lB _ _ _ _
def p77(b:1<n)(args:List AV)(h:AH):(en.cz n).x 77 args h=mQ (en.cz 1) c77 args h:=iW.lG rfl rfl b args h
def aiC(b:17<n)(args:List AV):(en.cz n).p 284 args=RJ args:=iW.yH rfl rfl b args
def aiA(b:26<n)(args:List AV)(h:AH):eT (en.cz n) 297 args h=kU (en.cz 26) aeV args h:=(jf (λ_=>iW.nq rfl _ _)).trans (iW.oH rfl rfl b args h)
def aiI(b:27<n)(args:List AV)(h:AH):eT (en.cz n) 261 args h=kU (en.cz 27) ae2 args h:=(jf (λ_=>iW.nq rfl _ _)).trans (iW.oH rfl rfl b args h)
def aiH(b:30<n)(args:List AV)(h:AH):eT (en.cz n) 267 args h=kU (mG (en.cz 30) 267 Cc 1000000) Cc args h:=(jf (λ_=>iW.Dt rfl _ _)).trans (iW.EM rfl rfl b args h)
def U3(b:36<n)(args:List AV)(h:AH):eT (en.cz n) 185 args h=kU (en.cz 36) Cd args h:=(jf (λ_=>iW.nq rfl _ _)).trans (iW.oH rfl rfl b args h)
def U2(b:38<n)(args:List AV):(en.cz n).p 189 args=xg args:=iW.yH rfl rfl b args
def acu(b:41<n)(args:List AV)(h:AH):eT (en.cz n) 191 args h=kU (en.cz 41) R5 args h:=(jf (λ_=>iW.nq rfl _ _)).trans (iW.oH rfl rfl b args h)
def aiK(b:42<n)(args:List AV):(en.cz n).p 249 args=pg (en.cz 42) Yj args:=iW.oG rfl rfl b args
def aiZ(b:48<n)(args:List AV):(en.cz n).p 136 args=(xb iN) args:=iW.yH rfl rfl b args
def acz(b:51<n)(args:List AV)(h:AH):(en.cz n).x 116 args h=mQ (en.cz 51) Sg args h:=iW.lG rfl rfl b args h
def p60(b:52<n)(args:List AV)(h:AH):(en.cz n).x 60 args h=mQ (en.cz 52) c60 args h:=iW.lG rfl rfl b args h
theorem aiE(b:53<n)(args:List AV):(en.cz n).p 275 args=AU args:=iW.yH rfl rfl b args
def U4(b:56<n)(args:List AV)(h:AH):(en.cz n).x 117 args h=mQ (en.cz 56) OZ args h:=iW.lG rfl rfl b args h
def U0(b:59<n)(args:List AV)(h:AH):eT (en.cz n) 238 args h=jd 6 80 args h:=(jf (λ_=>iW.k9 rfl _ _)).trans (iW.mq rfl rfl b args h)
def aiP(b:60<n)(args:List AV)(h:AH):eT (en.cz n) 239 args h=kO 6 80 args h:=(jf (λ_=>iW.k9 rfl _ _)).trans (iW.mq rfl rfl b args h)
def U1(b:62<n)(args:List AV)(h:AH):eT (en.cz n) 196 args h=jd 3 32 args h:=(jf (λ_=>iW.k9 rfl _ _)).trans (iW.mq rfl rfl b args h)
def aiO(b:63<n)(args:List AV)(h:AH):eT (en.cz n) 240 args h=kO 3 32 args h:=(jf (λ_=>iW.k9 rfl _ _)).trans (iW.mq rfl rfl b args h)
def p26(b:66<n)(args:List AV)(h:AH):(en.cz n).x 26 args h=mQ (en.cz 66) c26 args h:=iW.lG rfl rfl b args h
def p66(b:68<n)(args:List AV)(h:AH):(en.cz n).x 66 args h=mQ (en.cz 68) WD args h:=iW.lG rfl rfl b args h
def aiX(b:72<n)(args:List AV)(h:AH):eT (en.cz n) 204 args h=kO 3 24 args h:=(jf (λ_=>iW.k9 rfl _ _)).trans (iW.mq rfl rfl b args h)
def acs(b:73<n)(args:List AV)(h:AH):eT (en.cz n) 205 args h=jd 3 24 args h:=(jf (λ_=>iW.k9 rfl _ _)).trans (iW.mq rfl rfl b args h)
def p67(b:75<n)(args:List AV)(h:AH):(en.cz n).x 67 args h=mQ (en.cz 75) c67 args h:=iW.lG rfl rfl b args h
def aiS(b:76<n)(args:List AV)(h:AH):eT (en.cz n) 219 args h=jd 3 24 args h:=(jf (λ_=>iW.k9 rfl _ _)).trans (iW.mq rfl rfl b args h)
def p73(b:78<n)(args:List AV)(h:AH):(en.cz n).x 73 args h=mQ (en.cz 78) c73 args h:=iW.lG rfl rfl b args h
def aiM(b:79<n)(args:List AV)(h:AH):eT (en.cz n) 244 args h=kU (mG (en.cz 79) 244 zn 300) zn args h:=(jf (λ_=>iW.Dt rfl _ _)).trans (iW.EM rfl rfl b args h)
def aiQ(b:80<n)(args:List AV)(h:AH):eT (en.cz n) 222 args h=kU (en.cz 80) afm args h:=(jf (λ_=>iW.nq rfl _ _)).trans (iW.oH rfl rfl b args h)
def p75(b:83<n)(args:List AV)(h:AH):(en.cz n).x 75 args h=mQ (en.cz 83) c75 args h:=iW.lG rfl rfl b args h
def ai1(b:86<n)(args:List AV)(h:AH):(en.cz n).x 130 args h=mQ (en.cz 86) OX args h:=iW.lG rfl rfl b args h
def acy(b:87<n)(args:List AV)(h:AH):eT (en.cz n) 131 args h=jd 1 1 args h:=(jf (λ_=>iW.k9 rfl _ _)).trans (iW.mq rfl rfl b args h)
def aiu(b:87<n)(args:List AV)(h:AH):(en.cz n).h 131 args h=jd 1 1 args h:=iW.mq rfl rfl b args h
def p69(b:88<n)(args:List AV)(h:AH):(en.cz n).x 69 args h=mQ (en.cz 88) Ws args h:=iW.lG rfl rfl b args h
def acq(b:90<n)(args:List AV)(h:AH):eT (en.cz n) 268 args h=qN 0 6 [269] args h:=(jf (λ_=>iW.k9 rfl _ _)).trans (iW.mq rfl rfl b args h)
def acw(b:93<n)(args:List AV)(h:AH):eT (en.cz n) 137 args h=kU (en.cz 93) afU args h:=(jf (λ_=>iW.nq rfl _ _)).trans (iW.oH rfl rfl b args h)
def p74(b:94<n)(args:List AV)(h:AH):(en.cz n).x 74 args h=mQ (en.cz 94) c74 args h:=iW.lG rfl rfl b args h
def aiY(b:96<n)(args:List AV)(h:AH):eT (en.cz n) 198 args h=qN 2 3 [199] args h:=(jf (λ_=>iW.k9 rfl _ _)).trans (iW.mq rfl rfl b args h)
def p65(b:98<n)(args:List AV)(h:AH):(en.cz n).x 65 args h=mQ (en.cz 98) c65 args h:=iW.lG rfl rfl b args h
def aiV(b:101<n)(args:List AV)(h:AH):eT (en.cz n) 210 args h=jd 8 96 args h:=(jf (λ_=>iW.k9 rfl _ _)).trans (iW.mq rfl rfl b args h)
def acp(b:107<n)(args:List AV)(h:AH):eT (en.cz n) 281 args h=kP 6 args h:=(jf (λ_=>iW.k9 rfl _ _)).trans (iW.mq rfl rfl b args h)
def acr(b:108<n)(args:List AV)(h:AH):eT (en.cz n) 241 args h=kU (en.cz 108) RV args h:=(jf (λ_=>iW.nq rfl _ _)).trans (iW.oH rfl rfl b args h)
def aiW(b:111<n)(args:List AV)(h:AH):eT (en.cz n) 208 args h=kP 3 args h:=(jf (λ_=>iW.k9 rfl _ _)).trans (iW.mq rfl rfl b args h)
def p68(b:114<n)(args:List AV)(h:AH):(en.cz n).x 68 args h=mQ (en.cz 114) c68 args h:=iW.lG rfl rfl b args h
def p76(b:116<n)(args:List AV)(h:AH):(en.cz n).x 76 args h=mQ (en.cz 116) c76 args h:=iW.lG rfl rfl b args h
def aiN(b:117<n)(args:List AV)(h:AH):eT (en.cz n) 242 args h=kU (en.cz 117) afc args h:=(jf (λ_=>iW.nq rfl _ _)).trans (iW.oH rfl rfl b args h)
def acv(b:119<n)(args:List AV)(h:AH):eT (en.cz n) 180 args h=jd 3 24 args h:=(jf (λ_=>iW.k9 rfl _ _)).trans (iW.mq rfl rfl b args h)
def aiD(b:120<n)(args:List AV)(h:AH):eT (en.cz n) 282 args h=kU (en.cz 120) Yg args h:=(jf (λ_=>iW.nq rfl _ _)).trans (iW.oH rfl rfl b args h)
def ai2(b:124<n)(args:List AV)(h:AH):(en.cz n).x 119 args h=mQ (en.cz 124) YI args h:=iW.lG rfl rfl b args h
def p61(b:125<n)(args:List AV)(h:AH):(en.cz n).x 61 args h=mQ (en.cz 125) W9 args h:=iW.lG rfl rfl b args h
def p62(b:127<n)(args:List AV)(h:AH):(en.cz n).x 62 args h=mQ (en.cz 127) X6 args h:=iW.lG rfl rfl b args h
def aiL(b:128<n)(args:List AV)(h:AH):eT (en.cz n) 245 args h=kP 3 args h:=(jf (λ_=>iW.k9 rfl _ _)).trans (iW.mq rfl rfl b args h)
def p63(b:132<n)(args:List AV)(h:AH):(en.cz n).x 63 args h=mQ (en.cz 132) W0 args h:=iW.lG rfl rfl b args h
def ai0(b:135<n)(args:List AV)(h:AH):(en.cz n).x 132 args h=mQ (en.cz 135) GH args h:=iW.lG rfl rfl b args h
def p70(b:136<n)(args:List AV)(h:AH):(en.cz n).x 70 args h=mQ (en.cz 136) X5 args h:=iW.lG rfl rfl b args h
def p71(b:137<n)(args:List AV)(h:AH):(en.cz n).x 71 args h=mQ (en.cz 137) c71 args h:=iW.lG rfl rfl b args h
def aiU(b:138<n)(args:List AV)(h:AH):eT (en.cz n) 217 args h=kP 3 args h:=(jf (λ_=>iW.k9 rfl _ _)).trans (iW.mq rfl rfl b args h)
def aiT(b:139<n)(args:List AV)(h:AH):eT (en.cz n) 218 args h=kO 3 24 args h:=(jf (λ_=>iW.k9 rfl _ _)).trans (iW.mq rfl rfl b args h)
def p72(b:141<n)(args:List AV)(h:AH):(en.cz n).x 72 args h=mQ (en.cz 141) Wn args h:=iW.lG rfl rfl b args h
def aiB(b:142<n)(args:List AV)(h:AH):eT (en.cz n) 285 args h=kU (en.cz 142) aeW args h:=(jf (λ_=>iW.nq rfl _ _)).trans (iW.oH rfl rfl b args h)
def aiJ(b:143<n)(args:List AV)(h:AH):eT (en.cz n) 250 args h=kU (en.cz 143) ae7 args h:=(jf (λ_=>iW.nq rfl _ _)).trans (iW.oH rfl rfl b args h)
def p64(b:146<n)(args:List AV)(h:AH):(en.cz n).x 64 args h=mQ (en.cz 146) TJ args h:=iW.lG rfl rfl b args h
def p12(b:155<n)(args:List AV):(en.cz n).p 12 args=Ae (en.cz 155) d12 args:=iW.L5 rfl rfl b args
def p85(b:157<n)(args:List AV)(h:AH):eT (en.cz n) 85 args h=kU (en.cz 157) c85 args h:=(jf (λ_=>iW.nq rfl _ _)).trans (iW.oH rfl rfl b args h)
def p38(b:161<n)(args:List AV):(en.cz n).p 38 args=pg (en.cz 161) RS args:=iW.oG rfl rfl b args
def p35(b:162<n)(args:List AV)(h:AH):eT (en.cz n) 35 args h=kU (mG (en.cz 162) 35 OR 100) OR args h:=(jf (λ_=>iW.Dt rfl _ _)).trans (iW.EM rfl rfl b args h)
def p6(b:174<n)(args:List AV):(en.cz n).p 6 args=pg (en.cz 174) c6 args:=iW.oG rfl rfl b args
theorem a6(args:List AV)(h:AH):eT (en.cz n) 6 args h=vC (jT h args) (en.cz n) 6 args h:=lB _ _ _ _
def p7(b:177<n)(args:List AV):(en.cz n).p 7 args=pg (en.cz 177) c7 args:=iW.oG rfl rfl b args
def a7(args:List AV)(h:AH):eT (en.cz n) 7 args h=vC (jT h args) (en.cz n) 7 args h:=lB _ _ _ _
def p46(b:178<n)(args:List AV):(en.cz n).p 46 args=pg (en.cz 178) c46 args:=iW.oG rfl rfl b args
def p8(b:249<n)(args:List AV):(en.cz n).p 8 args=pg (en.cz 249) c8 args:=iW.oG rfl rfl b args
def a8(args:List AV)(h:AH):eT (en.cz n) 8 args h=vC (jT h args) (en.cz n) 8 args h:=lB _ _ _ _
def p5(b:257<n)(args:List AV):(en.cz n).p 5 args=pg (en.cz 257) c5 args:=iW.oG rfl rfl b args
def a5(args:List AV)(h:AH):eT (en.cz n) 5 args h=vC (jT h args) (en.cz n) 5 args h:=lB _ _ _ _
def pp(f:FuncId){F:AF}(hk:en.kd f = .p F){k:Nat}(h:k<n)(b:en.pos f=k)(args:List AV):(en.cz n).p f args=pg (en.cz k) F args:=iW.oG hk b h args
def ca(f:FuncId)(args:List AV)(h:AH):eT (en.cz n) f args h=vC (jT h args) (en.cz n) f args h:=lB _ _ _ _
def ph(f:FuncId){F:AF}(hk:en.kd f = .h F){k:Nat}(i:k<n)(b:en.pos f=k)(args:List AV)(h:AH):eT (en.cz n) f args h=kU (en.cz k) F args h:=(jf (λ_=>iW.nq hk _ _)).trans (iW.oH hk b i args h)
attribute [local simp] Go.Am.oB Go.Am.uT Go.Am.uU Go.Am.uV Go.Am.uW Go.Am.uN Go.Am.uO Go.Am.uP Go.Am.uQ Go.Am.uX Go.Am.uY Go.Am.qB Go.Am.qA Go.Am.qD Go.Am.qC Go.Am.lS Go.Am.j6
open Go.Am Go.Am.Nm Go.Lib
def spV(p:au):AV:=match split p with
 |some l=>.jg [.b9 (decide (p=[47])) (l.map AV.str),.int .i64 0]
 |none=>.jg [.b9 true [],.int .i64 60]
def spR(p:au):AV:=match split p with
 |some l=>.jg [.b9 (decide (p=[47])) (l.map AV.str),.int .i64 0]
 |none=>.jg [.b9 false [],.int .i64 60]
variable{n:Nat}
def UJ(b:48<n)(p:au):(en.cz n).p 136 [.str p]=some (spV p):=by
 rw[aiZ b];show some (rF iN p)=_;unfold rF spV;rw[Mj];cases split p<;>rfl
def Fits(l:List au):Prop:=(joinTail [47] l).length<=1000000
def Fits.two{l:List au}(h:Fits l):l.length<=1000000/\(join l [47]).length<=1000000:=by
 unfold Fits at h;have h1:=joinTail_length [47] l;have h2:([47]:au).length=1:=rfl;rw[h2,dB]at h1;refine⟨af,?_⟩
 cases l with
 |nil=>simp[join_nil]
 |cons x r =>
  grind[mU,join_cons,List.length_cons]
def ahy(i:54<n)(l:List au)(f:Bool)(h:Fits l):(en.cz n).p 235 [.b9 f (l.map AV.str)]=some (.str (jn l)):=by
 rw[pp 235 rfl i rfl,b8,b6];let⟨h1,h2⟩:=h.two
 have b:∀g,(en.cz 54).p 275 [.b9 g (l.map AV.str),.str [47]]=some (.str (join l [47])):=λg=>by
  grind[aiE,KH]
 cases l with
 |nil=>simp(disch:=omega)[Yl,jn]
 |cons x r =>
  simp only[bN]at b;simp(disch:=omega)[Yl,ca 275,b,jn]
def ED{α:Type}[DecidableEq α]:∀ {a b:List α},a.length=b.length->((a.zip b).all (λx=>decide (x.1=x.2))=true↔a=b)
 | [],[],_=>ai
 |x::a,y::b,h=>by
  have:=ED (a:=a) (b:=b) (an h)
  simp_all
def l86(a b:List au)(hl:a.length=b.length)(z:a.length<=9223372036854775806)(f g:Bool)(e0:Env)(h0:e0 0 = .b9 f (a.map AV.str))(h1:e0 1 = .b9 g (b.map AV.str))(h:e0 12 = .int .i64 a.length):
  iter (round (en.cz n) [13] [(.exit 0,[]),(.ret,[4])] C6 e0 0 []) ([.int .i64 0],[])=some (if (a.zip b).all (λx=>decide (x.1=x.2))=true then(.exit 0,[],[])else(.ret,[.bool false],[])) :=
 wI (f:=round (en.cz n) [13] [(.exit 0,[]),(.ret,[4])] C6 e0 0 []) (λi=>([.int .i64 i],[])) a b hl (λx y=>decide (x=y)) _ _
  (λi v r=>by
   obtain⟨x,q⟩:∃x,x=a[i]:=⟨_,rfl⟩;obtain⟨y,o⟩:∃y,y=b[i]:=⟨_,rfl⟩;rw[<-q,<-o]
   by_cases l:x=y
   .simp(disch:=omega)[round_eq,C6,h0,h1,h,<-q,<-o,j9,l]
   .simp(disch:=omega)[round_eq,C6,h0,h1,h,<-q,<-o,j9,l])
  (by simp[round_eq,C6,h])
def s86(o:159<n)(a b:List au)(f g:Bool)(r:a.length<=1000000000)(q:b.length<=1000000000):
  (en.cz n).p 86 [.b9 f (a.map AV.str),.b9 g (b.map AV.str)]=some (.bool (decide (a=b))):=by
 rw[pp 86 rfl o rfl,b8,b6]
 by_cases hl:a.length=b.length
 .have l:=ED hl;simp(disch:=omega)[c86,hl];rw[l86 a b hl af f g _ aq aq (by simp(disch:=omega)[hl])]
  by_cases i:a=b
  .rw[if_pos (l.2 i)];simp(disch:=omega)[i]
  .rw[if_neg (λh=>i (l.1 h))]
   simp(disch:=omega)[i]
 .have i:a≠b:=λh=>hl (by rw[h])
  simp(disch:=omega)[c86,i]
def adk(s:au)(hl:s.length<=9223372036854775806)(e0:Env)(h0:e0 0 = .str s):
  iter (round (en.cz n) [3] [(.exit 0,[]),(.ret,[2])] oz e0 0 []) ([.int .i64 0],[])=some (if s.all CA=true then(.exit 0,[],[])else(.ret,[.bool false],[])) :=
 Jr (f:=round (en.cz n) [3] [(.exit 0,[]),(.ret,[2])] oz e0 0 []) (λi=>([.int .i64 i],[])) s CA _ _
  (λi h=>by
   obtain⟨x,b⟩:∃x,x=s[i]:=⟨_,rfl⟩;rw[<-b]
   by_cases h1:x.toNat<32
   .have:¬CA x=true:=by simp[CA,h1]
    rw[if_neg this];simp(disch:=omega)[round_eq,oz,h0,<-b]
   .by_cases h2 : x.toNat = 47
    .have:¬CA x=true:=by simp[CA,h2]
     rw[if_neg this];simp(disch:=omega)[round_eq,oz,h0,<-b,h2]
    .have:CA x=true:=by simp[CA,h1,h2]
     rw[if_pos this];simp(disch:=omega)[round_eq,oz,h0,<-b])
  (by simp(disch:=omega)[round_eq,oz,h0])
def abO(h:185<n)(s:au):(en.cz n).p 153 [.str s]=some (.bool (iN s)):=by
 rw[pp 153 rfl h rfl,b8,b6]
 by_cases h0:s=[]
 .subst h0;simp -implicitDefEqProofs [BE,iN]
 .have i:0<s.length:=gj.2 h0
  by_cases h1:32<s.length
  .simp(disch:=omega)[BE,iN,h0,h1]
  .by_cases h2 : s = [46]
   .subst h2;simp -implicitDefEqProofs [BE,iN,j9]
   .by_cases h3 : s = [46, 46]
    .subst h3;simp -implicitDefEqProofs [BE,iN,j9]
    .simp(disch:=omega)[BE,j9,h2,h3];rw[adk s af _ (by simp_all)]
     by_cases b:s.all CA=true
     .have:iN s=true:=by simp only[iN,h0,h1,h2,h3,b];rfl
      simp_all
     .have:iN s=false:=by
       have:s.all CA=false:=by simpa using b
       simp only[iN,this,Bool.and_false]
      rw[if_neg b]
      simp_all
def ajq(l:List au)(f:Bool)(hl:Fits l)(e0:Env)(h0:e0 0 = .b9 f (l.map AV.str)):
  iter (round (en.cz n) [3,4] [(.exit 0,[3])] BB e0 0 []) ([.str [],.int .i64 0],[])=some (.exit 0,[.str (joinTail [47] l)],[]):=by
 let⟨o,_⟩:=hl.two;unfold Fits at hl
 have:=kN (f:=round (en.cz n) [3,4] [(.exit 0,[3])] BB e0 0 []) (λi (a:au)=>([.str a,.int .i64 i],[])) l (λa x=>a++[47]++x) (λa=>(.exit 0,[.str a],[])) (λi a=>a=joinTail [47] (l.take i))
  (λi v a q=>by
   obtain⟨x,h⟩:∃x,x=l[i]:=⟨_,rfl⟩;rw[<-h];have hs:=joinTail_take_succ [47] l i x (by grind)
   have b:=joinTail_take_le [47] l (i+1);rw[hs]at b;rw[<-q]at hs b;simp only[aU,aS,bt]at b;refine⟨hs.symm,?_⟩;simp(disch:=omega)[round_eq,BB,h0,<-h])
  (λa _=>by simp(disch:=omega)[round_eq,BB,h0]) [] rfl
 simp only[eC]at this;rw[this]
 have e:∀(l:List au)(a:au),l.foldl (λa x=>a++[47]++x) a=a++joinTail [47] l:=by
  intro l
  induction l with
  |nil=>grind[joinTail]
  |cons d l r=>grind[mU]
 rw[e];rfl
def ahE(b:190<n)(l:List au)(f:Bool)(hl:Fits l):(en.cz n).p 227 [.b9 f (l.map AV.str)]=some (.str (jn l)):=by
 rw[pp 227 rfl b rfl,b8,b6];let⟨h,_⟩:=hl.two
 by_cases h0:l=[]
 .subst h0;simp[Ym,jn]
 .have i:0<l.length:=gj.2 h0;have:jn l=joinTail [47] l:=by
   unfold jn;rw[if_neg h0];cases l with
   |nil=>exact absurd rfl h0
   |cons x r=>rw[join_cons,mU]
  simp[Ym,h0];rw[ajq l f hl _ rfl];simp[this]
def tw(s:List au×au)(b:UInt8):(List au×au)⊕Unit :=
 if b=47 then if iN s.2=true/\s.1.length<12 then .inl (s.1++[s.2],[])else .inr ()else .inl (s.1,s.2++[b])
def RG:au->List au×au->List au
 | [],s=>s.1
 |b::l,s=>match tw s b with
  | .inl s'=>RG l s'
  | .inr _=>s.1
def Ef:∀(t:au)(out:List au)(cur:au)(x:au)(r:List au),mw t=x::r->out.length<=12->
  mg tw (t++[47]) (out,cur)=if out.length+(r.length+1)<=12/\((cur++x)::r).all iN=true then .inl (out++((cur++x)::r),[])else .inr ()
 | [],out,cur,x,r,h,i=>by
  cases h;simp only[aL,mg,tw,if_true]
  grind
 |b::t,out,cur,x,r,h,i=>by
  obtain⟨y,q,l⟩:∃y q,mw t=y::q:=by
   cases h:mw t with
   |nil=>exact absurd h (vZ t)
   |cons x r=>exact⟨x,r,rfl⟩
  simp only[aK,mg,tw]
  by_cases n:b=47
  .subst n;rw[vg,l]at h;cases h;rw[if_pos rfl]
   by_cases o:iN cur=true/\out.length<12
   .rw[if_pos o];simp only;rw[Ef t _ _ _ _ l ak]
    grind
   grind
  .rw[rJ n l]at h;cases h;rw[if_neg n];simp only;rw[Ef t _ _ _ _ l i];simp
def D7{t:au}{i:Nat}(h:i<(t++[47]).length):(t++[47])[i]=if h:i<t.length then t[i]else 47:=by
 grind
def adn(X:185<n)(t:au)(hl:t.length<=1000000000)(e0:Env)(h0:e0 0 = .str (47::t)):
  (∀s,mg tw (t++[47]) ([],[]) = .inl s->iter (round (en.cz n) [4,5,6] [(.exit 0,[4]),(.ret,[2,3])] nU e0 1 [0]) ([.own 0 0 0 0,.int .i64 1,.int .i64 1],[.row 0 1 []]) =
   some (.exit 0,[.own 0 0 0 s.1.length],[.row 0 1 (s.1.map AV.str)]))/\
  (mg tw (t++[47]) ([],[]) = .inr ()->iter (round (en.cz n) [4,5,6] [(.exit 0,[4]),(.ret,[2,3])] nU e0 1 [0]) ([.own 0 0 0 0,.int .i64 1,.int .i64 1],[.row 0 1 []]) =
   some (.ret,[.b9 false [],.int .i64 60],[.row 0 1 ((RG (t++[47]) ([],[])).map AV.str)])):=by
 have := xE (f := round (en.cz n) [4, 5, 6] [(.exit 0, [4]), (.ret, [2, 3])] nU e0 1 [0]) (λi (s : List au × au) => ([.own 0 0 0 s.1.length, .int .i64 ((i + 1 - s.2.length : Nat) : Int), .int .i64 ((i + 1 : Nat) : Int)], [.row 0 1 (s.1.map AV.str)])) (t ++ [47])
  (λs b=>(tw s b).elim .inl λ_=>.inr (.ret,[.b9 false [],.int .i64 60],[.row 0 1 (s.1.map AV.str)])) (λs=>(.exit 0,[.own 0 0 0 s.1.length],[.row 0 1 (s.1.map AV.str)])) (λi s=>s.1.length<=12/\s.2.length<=i/\(t.take i).drop (i-s.2.length)=s.2)
  (λi U s hs=>by
   let⟨out,cur⟩:=s;let⟨M,P,F⟩:=hs;simp only at M P F;have Y:i<t.length+1:=by simpa using U
   have A:(47::t.take i).drop (i+1-cur.length)=cur:=by
    rw[show i+1-cur.length=(i-cur.length)+1 by omega,List.drop_succ_cons,F]
   obtain⟨fr,L⟩:∃fr:Nat,fr=i+1-cur.length:=⟨_,rfl⟩;have v:(i+1-cur.length:Nat)=fr:=L.symm;rw[<-L]at A;have q:fr<=i+1:=af
   have r:=abO (n:=n) X cur;rw[D7 U]
   have push:∀(N:(decide (i+1<(47::t).length)&&(((47::t)[i+1]?).elim true λb=>!decide (b.toNat=47)))=false),
     (iN cur=true/\out.length<12->round (en.cz n) [4,5,6] [(.exit 0,[4]),(.ret,[2,3])] nU e0 1 [0] ([.own 0 0 0 out.length,.int .i64 (fr:Int),.int .i64 ((i+1:Nat):Int)],[.row 0 1 (out.map AV.str)]) =
      some (.inl ([.own 0 0 0 (out.length+1),.int .i64 ((i+2:Nat):Int),.int .i64 ((i+2:Nat):Int)],[.row 0 1 ((out++[cur]).map AV.str)])))/\
     (¬(iN cur=true/\out.length<12)->round (en.cz n) [4,5,6] [(.exit 0,[4]),(.ret,[2,3])] nU e0 1 [0] ([.own 0 0 0 out.length,.int .i64 (fr:Int),.int .i64 ((i+1:Nat):Int)],[.row 0 1 (out.map AV.str)]) =
      some (.inr (.ret,[.b9 false [],.int .i64 60],[.row 0 1 (out.map AV.str)]))):=by
    intro N
    have H:(i<t.length/\∃b,(47::t)[i+1]? = some b/\b.toNat=47)\/¬i<t.length:=by
     by_cases o:i<t.length
     .left;refine⟨o,t[i],?_⟩;have hg:(47::t)[i+1]? = some t[i]:=by rw[cA];exact aH o
      refine⟨hg,?_⟩;rw[hg]at N
      simpa[o]using N
     .exact .inr o
    refine⟨λE=>?_,λE=>?_⟩
    .let⟨K,G⟩:=E;rw[K]at r
     rcases H with⟨o,b,hg,z⟩ | o
     .simp(disch:=omega)[round_eq,nU,h0,hg,z,q,A,ca 153,r]
     .simp(disch:=omega)[round_eq,nU,h0,q,A,ca 153,r]
    .cases K:iN cur with
     |true =>
      have G:out.length=12:=by
       have:¬out.length<12:=λh=>E ⟨K,h⟩
       omega
      rw[K]at r
      rcases H with⟨o,b,hg,z⟩ | o
      .simp(disch:=omega)[round_eq,nU,h0,hg,z,q,A,ca 153,r,G]
      .simp(disch:=omega)[round_eq,nU,h0,q,A,ca 153,r,G]
     |false =>
      rw[K]at r
      rcases H with⟨o,b,hg,z⟩ | o
      .simp(disch:=omega)[round_eq,nU,h0,hg,z,q,A,ca 153,r]
      .simp(disch:=omega)[round_eq,nU,h0,q,A,ca 153,r]
   by_cases o:i<t.length
   .rw[dif_pos o];obtain⟨b,Q⟩:∃b,b=t[i]:=⟨_,rfl⟩;rw[<-Q];have hg:(47::t)[i+1]? = some b:=by rw[cA,Q];exact aH o
    by_cases y:b=47
    .have z:b.toNat=47:=by rw[y];rfl
     let⟨T,S⟩:=push (by rw[hg];simp[z])
     by_cases E:iN cur=true/\out.length<12
     .simp only[tw,if_pos y,if_pos E,Sum.elim_inl];refine⟨⟨ak,ai,ai⟩,?_⟩
      rw[v,T E];simp;omega
     .simp only[tw,if_pos y,if_neg E,Sum.elim_inr];rw[v,S E]
    .have z:¬b.toNat=47:=λh=>y (ga.1 h)
     simp only[tw,if_neg y,Sum.elim_inl];refine⟨⟨M,ak,?_⟩,?_⟩
     .rw[cG o,<-Q];simp only[aU,aS,bt];rw[show i+1-(cur.length+(0+1))=i-cur.length by omega,List.drop_append_of_le_length ak,F]
     .have Z:(i+1+1-(cur++[b]).length:Nat)=fr:=by simp;omega
      rw[v,Z];simp(disch:=omega)[round_eq,nU,h0,hg]
   .rw[dif_neg o];let⟨T,S⟩:=push (by simp[o])
    by_cases E:iN cur=true/\out.length<12
    .simp only[tw,if_true,if_pos E,Sum.elim_inl];refine⟨⟨ak,ai,ai⟩,?_⟩
     rw[v,T E];simp;omega
    .simp only[tw,if_true,if_neg E,Sum.elim_inr];rw[v,S E])
  (λs hs=>by
   simp(disch:=omega)[round_eq,nU,h0]) ([],[]) ⟨ai,ai,ai⟩
 simp only[bt,aN,bW,Nat.sub_zero,Int.natCast_one]at this;rw[this]
 have e:∀(l:au)(s:List au×au),(∀t,mg tw l s = .inl t->mg (λs b=>(tw s b).elim .inl λ_=>.inr ((AX.ret,[AV.b9 false [],AV.int .i64 60],[AB.row 0 1 (s.1.map AV.str)]):AX×List AV×AH)) l s = .inl t)/\
   (mg tw l s = .inr ()->mg (λs b=>(tw s b).elim .inl λ_=>.inr ((AX.ret,[AV.b9 false [],AV.int .i64 60],[AB.row 0 1 (s.1.map AV.str)]):AX×List AV×AH)) l s = .inr (AX.ret,[AV.b9 false [],AV.int .i64 60],[AB.row 0 1 ((RG l s).map AV.str)])):=by
  intro l
  induction l with
  |nil=>intro s;exact⟨λt h=>(by cases h;rfl),λh=>(by cases h)⟩
  |cons x l W =>
   intro s;simp only[mg,RG];cases tw s x with
   |inl s'=>exact W s'
   |inr u=>exact⟨λt h=>(by cases h),λ_=>rfl⟩
 refine⟨λs O=>?_,λO=>?_⟩
 .rw[(e _ _).1 s O]
 .rw[(e _ _).2 O]
def UN(z:188<n)(p:au)(hl:p.length<=1000000000):(en.cz n).p 111 [.str p]=some (spR p):=by
 rw[pp 111 rfl z rfl,b8,b6];unfold spR
 by_cases h1:p=[47]
 .subst h1;simp(disch:=omega)[O0,j9];rfl
 .cases p with
  |nil=>simp(disch:=omega)[O0,j9,split]
  |cons b t =>
   by_cases q:b=47
   .subst q;have y:t≠[]:=λh=>h1 (by rw[h])
    obtain⟨x,r,v⟩:∃x r,mw t=x::r:=by
     cases h:mw t with
     |nil=>exact absurd h (vZ t)
     |cons x r=>exact⟨x,r,rfl⟩
    simp(disch:=omega)[O0,j9,y];have o:t.length<=1000000000:=by simp at hl;omega
    have i:=Ef t [] [] x r v ai
    by_cases l:(mw t).length<=12/\(mw t).all iN=true
    .have hs:split (47::t)=some (mw t):=by
      unfold split;rw[if_neg h1];simp only[gT,iF];rw[if_pos ⟨trivial,l.1,l.2⟩]
     rw[hs];rw[v]at l⊢;rw[if_pos ⟨an l.1,an l.2⟩]at i
     rw[(adn ah t o _ aq).1 _ i]
     simp(disch:=omega)
    .have hs:split (47::t)=none:=by
      unfold split;rw[if_neg h1];simp only[gT,iF];rw[if_neg λh=>l ⟨h.2.1,h.2.2⟩]
     rw[hs];rw[v]at l;rw[if_neg λh=>l ⟨(by have:=h.1;simpa using this),an h.2⟩]at i
     rw[(adn ah t o _ aq).2 i]
     simp(disch:=omega)
   .have A:¬b.toNat=47:=λh=>q (ga.1 h)
    have hs:split (b::t)=none:=by
     unfold split;rw[if_neg h1,if_neg];simp[q]
    rw[hs];simp(disch:=omega)[O0,j9,q]
@[simp]def szS(l:List au):jw 1 (l.map AV.str)=true:=by simp[jw]
@[simp]def acX(m:List au)(x:au):(m.map AV.str++[AV.str x])[m.length]? = some (.str x):=ai
@[simp]def aae(m:List au)(x:au):(m.map AV.str++[AV.str x]).take m.length=m.map AV.str:=by
 grind
theorem yP{l:List au}(h:l≠[]):joinTail [47] l=jn l:=by
 unfold jn;rw[if_neg h];cases l with
 |nil=>exact absurd rfl h
 |cons x r=>rw[join_cons,mU]
def Of:Fits []:=by simp[Fits,joinTail]
def D8{p:au}{l:List au}(h:split p=some l)(b:p.length<=1000000):Fits l:=by
 let⟨h1,_⟩:=rE h
 by_cases h0:l=[]
 .rw[h0];exact Of
 grind[Fits,yP]
def Fits.take{l:List au}(h:Fits l)(k:Nat):Fits (l.take k):=bJ (joinTail_take_le [47] l k) h
def AM(p:au):Option (au×au):=match split p with
 |some l=>if l=[]then none else some (l.getLast?.getD [],jn l.dropLast)
 |none=>none
def CE(p:au):AV:=match AM p with
 |some x=>.jg [.str x.1,.str x.2,.int .i64 0]
 |none=>.jg [.str [],.str [],.int .i64 60]
def ahV(q:55<n)(p:au)(o:p.length<=1000000):(en.cz n).p 171 [.str p]=some (CE p):=by
 rw[pp 171 rfl q rfl,b8,b6];have b:=UJ (n:=55) ah p
 unfold CE AM;unfold spV at b;cases hs:split p with
 |none =>
  rw[hs]at b;simp(disch:=omega)[R9,ca 136,b]
 |some l =>
  rw[hs]at b;have i:=D8 hs o
  rcases gX l with h0 | ⟨m,x,h0⟩
  .subst h0;simp(disch:=omega)[R9,ca 136,b]
  .have r:Fits m:=by
    have:=i.take m.length
    grind
   have hl:=i.two.1;rw[h0]at hl b⊢;simp only[eO,aU,aS,bt]at hl;have h:=λf=>ahy (n:=55) ah m f r
   simp only[eO,List.map_append,bN,aN]at b⊢;have e1:m++[x]≠[]:=ai
   rw[if_neg e1];simp(disch:=omega)[R9,ca 136,b,h]
def ah1(q:191<n)(p:au)(o:p.length<=1000000):(en.cz n).p 145 [.str p]=some (CE p):=by
 rw[pp 145 rfl q rfl,b8,b6];have b:=UN (n:=191) ah p af
 unfold CE AM;unfold spR at b;cases hs:split p with
 |none =>
  rw[hs]at b;simp(disch:=omega)[Sd,ca 111,b]
 |some l =>
  rw[hs]at b;have i:=D8 hs o
  rcases gX l with h0 | ⟨m,x,h0⟩
  .subst h0;simp(disch:=omega)[Sd,ca 111,b]
  .have r:Fits m:=by
    have:=i.take m.length
    grind
   have hl:=i.two.1;rw[h0]at hl b⊢;simp only[eO,aU,aS,bt]at hl;have h:=λf=>ahE (n:=191) ah m f r
   simp only[eO,List.map_append,bN,aN]at b⊢;have e1:m++[x]≠[]:=ai
   rw[if_neg e1];simp(disch:=omega)[Sd,ca 111,b,h]
def vW{p:au}{l:List au}(h:split p=some l):l.length<=12:=(rE h).2.1
end Go.Proofs.YtghgbehknhmnaaaGreatDoor
