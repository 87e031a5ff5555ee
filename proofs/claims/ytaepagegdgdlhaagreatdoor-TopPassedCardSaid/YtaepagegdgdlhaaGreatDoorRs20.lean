/- Part of the proof that TopPassedCard holds. -/
import Derived.Test.YtaepagegdgdlhaaGreatDoorSp20
import Derived.Test.YtaepagegdgdlhaaGreatDoorJn20
import Derived.Test.YtaepagegdgdlhaaGreatDoorSo20
import Derived.Test.YtaepagegdgdlhaaGreatDoorTo20
import Derived.Test.YtaepagegdgdlhaaGreatDoorFeB
set_option linter.all false
namespace Go.Proofs.YtaepagegdgdlhaaGreatDoor
open Go.Am Go.Am.Nm
def rZ:Tryz.prog.follows .mixedOrders=true:=ai
def adq:ags Tryz.prog 177 9 3 248:=⟨rZ,⟨Tryz.f177.name,Tryz.f177.targs,ai,ai⟩,⟨Tryz.f248,ai,ai,ai,ai,ai⟩⟩
def Vj:((Tryz.prog.info? 147).getD default).size=5:=ai
def adj:TS Tryz.prog 250 82 3 4 147 0 ((Tryz.prog.info? 147).getD default) (((Tryz.prog.info? 147).getD default).zero.getD .nilFunc):=⟨rZ,⟨Tryz.f250.name,Tryz.f250.targs,ai,ai⟩,ai,ai,ai,ai,ai,ai,ai,ai,by rw[Vj];decide⟩
def aji:okF Tryz.prog 67 (qN 1 8 (.int .i64 0))=true:=ai
def adf:Nu Tryz.prog 278 38 3 4 3 0 296 297 1 8:=⟨rZ,⟨Tryz.f278.name,Tryz.f278.targs,ai,ai⟩,⟨Tryz.f296,ai,ai,ai,ai,ai⟩,ai,ai,ai,ai,ai,af⟩
def Vl:((Tryz.prog.info? 163).getD default).size=2:=ai
def adp:TS Tryz.prog 186 98 3 4 163 0 ((Tryz.prog.info? 163).getD default) (((Tryz.prog.info? 163).getD default).zero.getD .nilFunc):=⟨rZ,⟨Tryz.f186.name,Tryz.f186.targs,ai,ai⟩,ai,ai,ai,ai,ai,ai,ai,ai,by rw[Vl];decide⟩
def ado:okF Tryz.prog 187 (qN 2 24 (.agg [.int .i64 0,.str []]))=true:=ai
def Oc:KJ Tryz.prog 105 9 4 3 21 0:=⟨rZ,⟨Tryz.f105.name,Tryz.f105.targs,ai,ai⟩,ai,ai,ai,ai⟩
def adl:okF Tryz.prog 227 (qN 6 80 (.agg [.int .i64 0,.int .i64 0,.int .i64 0,.jB true [],.jB true [],.int .i64 0]))=true:=ai
def adi:Nu Tryz.prog 260 53 3 4 133 0 289 290 6 80:=⟨rZ,⟨Tryz.f260.name,Tryz.f260.targs,ai,ai⟩,⟨Tryz.f289,ai,ai,ai,ai,ai⟩,ai,ai,ai,ai,ai,af⟩
def adn:okF Tryz.prog 210 (qN 3 32 (.agg [.str [],.int .i64 0,.int .i64 0]))=true:=ai
def adh:Nu Tryz.prog 261 131 3 4 137 0 291 292 3 32:=⟨rZ,⟨Tryz.f261.name,Tryz.f261.targs,ai,ai⟩,⟨Tryz.f291,ai,ai,ai,ai,ai⟩,ai,ai,ai,ai,ai,af⟩
def ajh:okF Tryz.prog 68 (qN 1 16 (.str []))=true:=ai
def Vi:((Tryz.prog.info? 137).getD default).size=3:=ai
def adg:TS Tryz.prog 263 131 3 4 137 0 ((Tryz.prog.info? 137).getD default) (((Tryz.prog.info? 137).getD default).zero.getD .nilFunc):=⟨rZ,⟨Tryz.f263.name,Tryz.f263.targs,ai,ai⟩,ai,ai,ai,ai,ai,ai,ai,ai,by rw[Vi];decide⟩
def Vk:((Tryz.prog.info? 133).getD default).size=6:=ai
def adm:TS Tryz.prog 226 53 3 4 133 0 ((Tryz.prog.info? 133).getD default) (((Tryz.prog.info? 133).getD default).zero.getD .nilFunc):=⟨rZ,⟨Tryz.f226.name,Tryz.f226.targs,ai,ai⟩,ai,ai,ai,ai,ai,ai,ai,ai,by rw[Vk];decide⟩
def ads:okF Tryz.prog 121 (qN 3 32 (.agg [.str [],.int .i64 0,.int .i64 0]))=true:=ai
def adr:Nu Tryz.prog 136 26 3 4 40 0 193 194 3 32:=⟨rZ,⟨Tryz.f136.name,Tryz.f136.targs,ai,ai⟩,⟨Tryz.f193,ai,ai,ai,ai,ai⟩,ai,ai,ai,ai,ai,af⟩
def ajg:okF Tryz.prog 69 (qN 5 88 (.agg [.int .i64 0,.jB true [],.jB true [],.bool false,.jB true []]))=true:=ai
noncomputable def aps:List Kd:=[.no,.no,.no,.p c3,.p c4,.p c5,.p c6,.p c7,.p c8,.p c9,.p GH,.p yj,.p c12,.p c13,.p c14,.p c15,.p c16,.p c17,.p c18,.p c19,.p c20,.h c21,.h c22,.p c23,.p c24,.p c25,.p c26,.h c27,.h c28,.p c29,.h c30,.h Rk,.h c32,.p c33,.p c34,.p c35,.p c36,.p c37,.z Dp,.h c39,.h c40,.p c41,.p c42,.h c43,.p c44,.h c45,.y (AD jL),.p c47,.p c48,.p c49,.p c50,.p c51,.p c52,.p c53,.p c54,.p c55,.p c56,.h c57,.h c58,.p c59,.p c60,.p c61,.p c62,.h c63,.p c64,.p c65,.p c66,.x (mO 1 8),.x (mO 1 16),.x (mO 5 88),.p c70,.h c71,.p c72,.p c73,.h c74,.h c75,.p c76,.p c77,.p c78,.p c79,.h c80,.h c81,.p c82,.p c83,.p c84,.h c85,.h c86,.p c87,.p c88,.x (GS 0 6 [90]),.p c90,.p c91,.no,.no,.h c94,.h c95,.h c96,.h c97,.h c98,.h c99,.h arP,.p arO,.r BP 13,.p af7,.no,.y DN,.y Et,.p amw,.p amv,.p afZ,.p afY,.p Ke,.p aa2,.p TC,.p Pd,.p MY,.p J7,.p CO,.h amu,.p amt,.p ams,.x (mO 3 32),.h afX,.h amr,.p amq,.p afW,.p MX,.p MW,.p J5,.p amo,.h afV,.h afU,.h amn,.h amm,.p arN,.h arM,.x (rY 3 32),.no,.no,.p afT,.no,.no,.no,.no,.p arL,.h arK,.h arJ,.p arI,.p arH,.h arG,.p arF,.p arE,.p arD,.h aa1,.h arC,.no,.no,.no,.no,.no,.no,.p afS,.p aml,.p XR,.p XQ,.p amk,.p amj,.p aaY,.p afR,.p afQ,.p Pb,.p afP,.p MV,.p afO,.p GG,.p aaX,.p oA,.y aaL,.h ami,.p amh,.h aaW,.h aaV,.h afN,.h amg,.h amf,.h ame,.x (qU 2),.x (mO 2 24),.h afM,.h amd,.h amc,.h amb,.h ama,.no,.no,.no,.no,.no,.no,.no,.no,.no,.no,.no,.no,.no,.no,.no,.h arB,.h arA,.x (mO 3 32),.h arz,.no,.p ary,.p arx,.h arw,.h arv,.h aru,.p art,.h ars,.h arq,.p arp,.h aro,.p arn,.h arl,.h al9,.x (qU 6),.x (mO 6 80),.no,.no,.no,.no,.p TA,.p afL,.p Ff,.p aaU,.p al8,.p Tz,.p Ty,.p al7,.p al6,.p al5,.p afK,.p al4,.p al3,.p MU,.p al2,.p al1,.no,.h afJ,.x (qU 5),.no,.no,.no,.no,.no,.no,.h ark,.no,.h arj,.x (rY 6 80),.x (rY 3 32),.h ari,.x (qU 3),.h arh,.p arf,.h ard,.h arc,.h al0,.p alZ,.no,.no,.no,.no,.p XL,.p XK,.p alY,.p alX,.x (rY 1 8),.no,.no,.no,.no,.no,.no,.no,.no,.no,.no,.no,.no,.no,.no,.h arb,.p alW,.p alV]
def aoy:ax:=[0,0,0,231,168,170,226,227,230,104,125,156,166,161,167,169,183,225,228,229,92,93,6,5,89,88,90,124,128,134,146,152,155,153,143,164,165,158,159,123,111,91,113,114,160,105,3,65,180,181,182,192,195,197,224,115,117,119,7,4,2,0,1,87,126,127,131,28,85,132,133,135,136,137,145,148,149,151,154,17,142,9,8,162,163,122,61,121,13,157,12,11,0,0,62,63,84,78,80,102,110,112,86,50,0,51,64,179,184,188,176,190,191,194,196,198,201,223,116,16,15,118,130,18,20,54,140,144,147,139,24,150,25,141,60,26,120,0,0,10,0,0,0,0,83,67,68,77,79,95,101,59,109,49,99,0,0,0,0,0,0,174,178,172,187,175,189,193,199,200,203,204,210,214,215,218,222,14,129,53,34,35,27,36,37,40,38,39,138,41,19,21,23,0,0,0,0,0,0,0,0,0,0,0,0,0,0,0,52,82,74,42,0,43,66,70,73,76,94,97,100,58,55,103,108,48,98,71,0,0,0,0,173,177,171,185,186,202,207,209,208,213,216,217,219,220,205,221,0,33,22,0,0,0,0,0,0,81,0,69,72,75,44,96,57,45,107,56,47,46,0,0,0,0,206,212,211,31,32,0,0,0,0,0,0,0,0,0,0,0,0,0,0,106,29,30]
noncomputable def jJ:k8:=⟨λf=>nth aps f .no,λf=>nth aoy f 0⟩
def Qf:∀f,(jJ.kd f).ok Tryz.prog f :=
 Vn (p:=λf k=>k.ok Tryz.prog f) (λ_ _=>Kd.adv) (λ_=>trivial) [38,46,67,68,69,89,105,106,121,136,177,186,187,210,226,227,250,260,261,263,278] ai ⟨Y1,Dz,qG rZ aji,qG rZ ajh,qG rZ ajg,Y9,λ_ _ h hr=>G3 Oc h hr,ad5,qG rZ ads,vg adr,λ_ _ h hr=>aaJ adq h hr,λargs h r h' hr=>vJ adp (by rw[Vl];exact hr),qG rZ ado,qG rZ adn,λargs h r h' hr=>vJ adm (by rw[Vk];exact hr),qG rZ adl,λargs h r h' hr=>vJ adj (by rw[Vj];exact hr),vg adi,vg adh,λargs h r h' hr=>vJ adg (by rw[Vi];exact hr),vg adf,trivial⟩
def Um(n:Nat):mH Tryz.prog (jJ.jG n):=k8.NN rZ Qf n
variable{n:Nat}
def p46(hn:3<n)(args:List AV):(jJ.jG n).p 46 args=(AD jL) args:=k8.Dt rfl rfl hn args
def aoF(hn:14<n)(args:List AV):(jJ.jG n).p 177 args=aaL args:=k8.Dt rfl rfl hn args
def aoB(hn:22<n)(args:List AV)(h:AH):jM (jJ.jG n) 250 args h=qU 5 args h:=(oO (λ_=>k8.ua rfl _ _)).trans (k8.vU rfl rfl hn args h)
def p67(hn:28<n)(args:List AV)(h:AH):jM (jJ.jG n) 67 args h=mO 1 8 args h:=(oO (λ_=>k8.ua rfl _ _)).trans (k8.vU rfl rfl hn args h)
def q67(hn:28<n)(args:List AV)(h:AH):(jJ.jG n).h 67 args h=mO 1 8 args h:=k8.vU rfl rfl hn args h
def aoz(hn:32<n)(args:List AV)(h:AH):jM (jJ.jG n) 278 args h=rY 1 8 args h:=(oO (λ_=>k8.ua rfl _ _)).trans (k8.vU rfl rfl hn args h)
def aoE(hn:38<n)(args:List AV)(h:AH):jM (jJ.jG n) 186 args h=qU 2 args h:=(oO (λ_=>k8.ua rfl _ _)).trans (k8.vU rfl rfl hn args h)
def ajc(hn:39<n)(args:List AV)(h:AH):jM (jJ.jG n) 187 args h=mO 2 24 args h:=(oO (λ_=>k8.ua rfl _ _)).trans (k8.vU rfl rfl hn args h)
def aoI(hn:49<n)(args:List AV)(h:AH):jM (jJ.jG n) 153 args h=rE (jJ.jG 49) aa1 args h:=(oO (λ_=>k8.Ip rfl _ _)).trans (k8.K8 rfl rfl hn args h)
def aoK(hn:64<n)(args:List AV):(jJ.jG n).p 106 args=Et args:=k8.Dt rfl rfl hn args
def p47(hn:65<n)(args:List AV):(jJ.jG n).p 47 args=rV (jJ.jG 65) c47 args:=k8.qZ rfl rfl hn args
def q68(hn:85<n)(args:List AV)(h:AH):(jJ.jG n).h 68 args h=mO 1 16 args h:=k8.vU rfl rfl hn args h
def aoN(hn:86<n)(args:List AV)(h:AH):jM (jJ.jG n) 102 args h=rE (qH (jJ.jG 86) 102 BP 13) BP args h:=(oO (λ_=>k8.Uj rfl _ _)).trans (k8.Uk rfl rfl hn args h)
def p9(hn:104<n)(args:List AV):(jJ.jG n).p 9 args=rV (jJ.jG 104) c9 args:=k8.qZ rfl rfl hn args
def a9(args:List AV)(h:AH):jM (jJ.jG n) 9 args h=vC (kY h args) (jJ.jG n) 9 args h:=mG _ _ _ _
def aoJ(hn:118<n)(args:List AV)(h:AH):jM (jJ.jG n) 121 args h=mO 3 32 args h:=(oO (λ_=>k8.ua rfl _ _)).trans (k8.vU rfl rfl hn args h)
def p10(hn:125<n)(args:List AV):(jJ.jG n).p 10 args=rV (jJ.jG 125) GH args:=k8.qZ rfl rfl hn args
def a10(args:List AV)(h:AH):jM (jJ.jG n) 10 args h=vC (kY h args) (jJ.jG n) 10 args h:=mG _ _ _ _
def p69(hn:132<n)(args:List AV)(h:AH):jM (jJ.jG n) 69 args h=mO 5 88 args h:=(oO (λ_=>k8.ua rfl _ _)).trans (k8.vU rfl rfl hn args h)
def p11(hn:156<n)(args:List AV):(jJ.jG n).p 11 args=rV (jJ.jG 156) yj args:=k8.qZ rfl rfl hn args
def p89(hn:157<n)(args:List AV)(h:AH):jM (jJ.jG n) 89 args h=GS 0 6 [90] args h:=(oO (λ_=>k8.ua rfl _ _)).trans (k8.vU rfl rfl hn args h)
def p4(hn:168<n)(args:List AV):(jJ.jG n).p 4 args=rV (jJ.jG 168) c4 args:=k8.qZ rfl rfl hn args
def a4(args:List AV)(h:AH):jM (jJ.jG n) 4 args h=vC (kY h args) (jJ.jG n) 4 args h:=mG _ _ _ _
def p5(hn:170<n)(args:List AV):(jJ.jG n).p 5 args=rV (jJ.jG 170) c5 args:=k8.qZ rfl rfl hn args
def a5(args:List AV)(h:AH):jM (jJ.jG n) 5 args h=vC (kY h args) (jJ.jG n) 5 args h:=mG _ _ _ _
def p6(hn:226<n)(args:List AV):(jJ.jG n).p 6 args=rV (jJ.jG 226) c6 args:=k8.qZ rfl rfl hn args
def a6(args:List AV)(h:AH):jM (jJ.jG n) 6 args h=vC (kY h args) (jJ.jG n) 6 args h:=mG _ _ _ _
def p7(hn:227<n)(args:List AV):(jJ.jG n).p 7 args=rV (jJ.jG 227) c7 args:=k8.qZ rfl rfl hn args
def a7(args:List AV)(h:AH):jM (jJ.jG n) 7 args h=vC (kY h args) (jJ.jG n) 7 args h:=mG _ _ _ _
def p8(hn:230<n)(args:List AV):(jJ.jG n).p 8 args=rV (jJ.jG 230) c8 args:=k8.qZ rfl rfl hn args
def a8(args:List AV)(h:AH):jM (jJ.jG n) 8 args h=vC (kY h args) (jJ.jG n) 8 args h:=mG _ _ _ _
def p3(hn:231<n)(args:List AV):(jJ.jG n).p 3 args=rV (jJ.jG 231) c3 args:=k8.qZ rfl rfl hn args
def a3(args:List AV)(h:AH):jM (jJ.jG n) 3 args h=vC (kY h args) (jJ.jG n) 3 args h:=mG _ _ _ _
def pp(f:FuncId){F:AF}(hk:jJ.kd f = .p F){k:Nat}(hn:k<n)(hp:jJ.pos f=k)(args:List AV):(jJ.jG n).p f args=rV (jJ.jG k) F args:=k8.qZ hk hp hn args
def ca(f:FuncId)(args:List AV)(h:AH):jM (jJ.jG n) f args h=vC (kY h args) (jJ.jG n) f args h:=mG _ _ _ _
def ph(f:FuncId){F:AF}(hk:jJ.kd f = .h F){k:Nat}(hn:k<n)(hp:jJ.pos f=k)(args:List AV)(h:AH):jM (jJ.jG n) f args h=rE (jJ.jG k) F args h:=(oO (λ_=>k8.Ip hk _ _)).trans (k8.K8 hk hp hn args h)
open Go.Am Go.Am.Nm Go.Lib
def PF(p:au):AV:=match split p with
 |some l=>.kT [.jB (decide (p=[47])) (l.map AV.str),.int .i64 0]
 |none=>.kT [.jB true [],.int .i64 60]
variable{n:Nat}
def s46(hn:3<n)(p:au):(jJ.jG n).p 46 [.str p]=some (PF p):=by
 rw[p46 hn];show some (ve jL p)=_;unfold ve PF;rw[Uu];cases split p<;>rfl
def Fits(l:List au):Prop:=(joinTail [47] l).length<=1000000
def Fits.two{l:List au}(h:Fits l):l.length<=1000000/\(join l [47]).length<=1000000:=by
 unfold Fits at h;have h1:=joinTail_length [47] l;have h2:([47]:au).length=1:=rfl;rw[h2,dL]at h1;refine⟨aa,?_⟩
 cases l with
 |nil=>simp[join_nil]
 |cons x r =>
  rw[mW]at h;rw[join_cons];simp only[aQ]at h;omega
def s47(hn:65<n)(l:List au)(f:Bool)(h:Fits l):(jJ.jG n).p 47 [.jB f (l.map AV.str)]=some (.str (jn l)):=by
 rw[p47 hn,jA,jy];let⟨h1,h2⟩:=h.two
 have hj:∀g,(jJ.jG 65).p 106 [.jB g (l.map AV.str),.str [47]]=some (.str (join l [47])):=λg=>by
  rw[aoK af]
  exact SM g l [47] aa aa
 cases l with
 |nil=>simp(disch:=omega)[c47,jn]
 |cons x r =>
  simp only[bF]at hj;simp(disch:=omega)[c47,ca 106,hj,jn]
def Ie{α:Type}[DecidableEq α]:∀ {a b:List α},a.length=b.length->((a.zip b).all (λx=>decide (x.1=x.2))=true↔a=b)
 | [],[],_=>ah
 |x::a,y::b,h=>by
  have:=Ie (a:=a) (b:=b) (an h)
  simp only[iC,bH,aH,this,decide_eq_true_eq,dm]
def l59(a b:List au)(hl:a.length=b.length)(ha:a.length<=9223372036854775806)(f g:Bool)(e0:Env)(h0:e0 0 = .jB f (a.map AV.str))(h1:e0 1 = .jB g (b.map AV.str))(h12:e0 12 = .int .i64 a.length):
  iter (round (jJ.jG n) [13] [(.exit 0,[]),(.ret,[4])] Rb e0 0 []) ([.int .i64 0],[])=some (if (a.zip b).all (λx=>decide (x.1=x.2))=true then(.exit 0,[],[])else(.ret,[.bool false],[])) :=
 QE (f:=round (jJ.jG n) [13] [(.exit 0,[]),(.ret,[4])] Rb e0 0 []) (λi=>([.int .i64 i],[])) a b hl (λx y=>decide (x=y)) _ _
  (λi hi hi'=>by
   obtain⟨x,hx⟩:∃x,x=a[i]:=⟨_,rfl⟩;obtain⟨y,hy⟩:∃y,y=b[i]:=⟨_,rfl⟩;rw[<-hx,<-hy]
   by_cases hxy:x=y
   .simp(disch:=omega)[round_eq,Na,h0,h1,h12,<-hx,<-hy,lB,hxy]
   .simp(disch:=omega)[round_eq,Na,h0,h1,h12,<-hx,<-hy,lB,hxy])
  (by simp[round_eq,Na,h12])
def s59(hn:4<n)(a b:List au)(f g:Bool)(ha:a.length<=1000000000)(hb:b.length<=1000000000):
  (jJ.jG n).p 59 [.jB f (a.map AV.str),.jB g (b.map AV.str)]=some (.bool (decide (a=b))):=by
 rw[pp 59 rfl hn rfl,jA,jy]
 by_cases hl:a.length=b.length
 .have hz:=Ie hl;simp(disch:=omega)[c59,hl];rw[l59 a b hl aa f g _ aq aq (by simp(disch:=omega)[hl])]
  by_cases hab:a=b
  .rw[if_pos (hz.2 hab)];simp(disch:=omega)[hab]
  .rw[if_neg (λh=>hab (hz.1 h))]
   simp(disch:=omega)[hab]
 .have hab:a≠b:=λh=>hl (by rw[h])
  simp(disch:=omega)[c59,hab]
def apb(s:au)(hl:s.length<=9223372036854775806)(e0:Env)(h0:e0 0 = .str s):
  iter (round (jJ.jG n) [3] [(.exit 0,[]),(.ret,[2])] BM e0 0 []) ([.int .i64 0],[])=some (if s.all IF=true then(.exit 0,[],[])else(.ret,[.bool false],[])) :=
 qm (f:=round (jJ.jG n) [3] [(.exit 0,[]),(.ret,[2])] BM e0 0 []) (λi=>([.int .i64 i],[])) s IF _ _
  (λi hi=>by
   obtain⟨x,hx⟩:∃x,x=s[i]:=⟨_,rfl⟩;rw[<-hx]
   by_cases h1:x.toNat<32
   .have:¬IF x=true:=by simp[IF,h1]
    rw[if_neg this];simp(disch:=omega)[round_eq,uk,h0,<-hx]
   .by_cases h2 : x.toNat = 47
    .have:¬IF x=true:=by simp[IF,h2]
     rw[if_neg this];simp(disch:=omega)[round_eq,uk,h0,<-hx,h2]
    .have:IF x=true:=by simp[IF,h1,h2]
     rw[if_pos this];simp(disch:=omega)[round_eq,uk,h0,<-hx])
  (by simp(disch:=omega)[round_eq,uk,h0])
def aiu(hn:171<n)(s:au):(jJ.jG n).p 234 [.str s]=some (.bool (jL s)):=by
 rw[pp 234 rfl hn rfl,jA,jy]
 by_cases h0:s=[]
 .subst h0;simp -implicitDefEqProofs [Ff,jL]
 .have h0':0<s.length:=dX.2 h0
  by_cases h1:32<s.length
  .simp(disch:=omega)[Ff,jL,h0,h1]
  .by_cases h2 : s = [46]
   .subst h2;simp -implicitDefEqProofs [Ff,jL,lB]
   .by_cases h3 : s = [46, 46]
    .subst h3;simp -implicitDefEqProofs [Ff,jL,lB]
    .simp(disch:=omega)[Ff,lB,h2,h3];rw[apb s aa _ (by simp -implicitDefEqProofs)]
     by_cases ha:s.all IF=true
     .have:jL s=true:=by simp only[jL,h0,h1,h2,h3,ha];rfl
      rw[if_pos ha];simp -implicitDefEqProofs [this]
     .have:jL s=false:=by
       have:s.all IF=false:=by simpa using ha
       simp only[jL,this,Bool.and_false]
      rw[if_neg ha];simp -implicitDefEqProofs [this]
def apc(l:List au)(f:Bool)(hl:Fits l)(e0:Env)(h0:e0 0 = .jB f (l.map AV.str)):
  iter (round (jJ.jG n) [3,4] [(.exit 0,[3])] JS e0 0 []) ([.str [],.int .i64 0],[])=some (.exit 0,[.str (joinTail [47] l)],[]):=by
 let⟨hl1,_⟩:=hl.two;unfold Fits at hl
 have:=jU (f:=round (jJ.jG n) [3,4] [(.exit 0,[3])] JS e0 0 []) (λi (a:au)=>([.str a,.int .i64 i],[])) l (λa x=>a++[47]++x) (λa=>(.exit 0,[.str a],[])) (λi a=>a=joinTail [47] (l.take i))
  (λi hi a ha=>by
   obtain⟨x,hx⟩:∃x,x=l[i]:=⟨_,rfl⟩;rw[<-hx];have hs:=joinTail_take_succ [47] l i x (by rw[hx];exact aG hi)
   have hle:=joinTail_take_le [47] l (i+1);rw[hs]at hle;rw[<-ha]at hs hle;simp only[aL,aQ,bq]at hle;refine⟨hs.symm,?_⟩;simp(disch:=omega)[round_eq,Kq,h0,<-hx])
  (λa _=>by simp(disch:=omega)[round_eq,Kq,h0]) [] rfl
 simp only[cW]at this;rw[this]
 have e:∀(l:List au)(a:au),l.foldl (λa x=>a++[47]++x) a=a++joinTail [47] l:=by
  intro l
  induction l with
  |nil=>intro a;simp[joinTail]
  |cons d l ih=>intro a;rw[aT,ih,mW];simp
 rw[e];rfl
def aiv(hn:177<n)(l:List au)(f:Bool)(hl:Fits l):(jJ.jG n).p 233 [.jB f (l.map AV.str)]=some (.str (jn l)):=by
 rw[pp 233 rfl hn rfl,jA,jy];let⟨hl1,_⟩:=hl.two
 by_cases h0:l=[]
 .subst h0;simp[afL,jn]
 .have h0':0<l.length:=dX.2 h0;have:jn l=joinTail [47] l:=by
   unfold jn;rw[if_neg h0];cases l with
   |nil=>exact absurd rfl h0
   |cons x r=>rw[join_cons,mW]
  simp[afL,h0];rw[apc l f hl _ rfl];simp[this]
def xB(s:List au×au)(b:UInt8):(List au×au)⊕Unit :=
 if b=47 then if jL s.2=true/\s.1.length<12 then .inl (s.1++[s.2],[])else .inr ()else .inl (s.1,s.2++[b])
def aaH:au->List au×au->List au
 | [],s=>s.1
 |b::l,s=>match xB s b with
  | .inl s'=>aaH l s'
  | .inr _=>s.1
def JC:∀(t:au)(out:List au)(cur:au)(x:au)(r:List au),nY t=x::r->out.length<=12->
  rq xB (t++[47]) (out,cur)=if out.length+(r.length+1)<=12/\((cur++x)::r).all jL=true then .inl (out++((cur++x)::r),[])else .inr ()
 | [],out,cur,x,r,h,h12=>by
  cases h;simp only[bB,rq,xB,if_true]
  by_cases hc:jL cur=true/\out.length<12
  .rw[if_pos hc,if_pos]
   .simp
   .exact⟨aj,by simp[hc.1]⟩
  .rw[if_neg hc,if_neg]
   rintro⟨h1,h2⟩
   exact hc ⟨an h2,by simp at h1;omega⟩
 |b::t,out,cur,x,r,h,h12=>by
  obtain⟨y,q,hy⟩:∃y q,nY t=y::q:=by
   cases h:nY t with
   |nil=>exact absurd h (zu t)
   |cons x r=>exact⟨x,r,rfl⟩
  simp only[bK,rq,xB]
  by_cases hb:b=47
  .subst hb;rw[yJ,hy]at h;cases h;rw[if_pos rfl]
   by_cases hc:jL cur=true/\out.length<12
   .rw[if_pos hc];simp only;rw[JC t _ _ _ _ hy aj]
    simp only[bB,dz,aL,aQ,bq,bH,hc.1,eP,cF,ja]
    congr 1
    simp only[eq_iff_iff,and_congr_left_iff];intro _;omega
   .rw[if_neg hc];simp only;rw[if_neg]
    rintro⟨h1,h2⟩
    simp only[dz,bH,aH]at h2;exact hc ⟨h2.1,by simp at h1;omega⟩
  .rw[vi hb hy]at h;cases h;rw[if_neg hb];simp only;rw[JC t _ _ _ _ hy h12];simp
def Jr{t:au}{i:Nat}(h:i<(t++[47]).length):(t++[47])[i]=if h:i<t.length then t[i]else 47:=by
 by_cases ht:i<t.length
 .rw[dif_pos ht,gD ht]
 .rw[dif_neg ht,iG aa]
  simp
def ajM(hn:171<n)(t:au)(hl:t.length<=1000000000)(e0:Env)(h0:e0 0 = .str (47::t)):
  (∀s,rq xB (t++[47]) ([],[]) = .inl s->iter (round (jJ.jG n) [4,5,6] [(.exit 0,[4]),(.ret,[2,3])] yY e0 1 [0]) ([.own 0 0 0 0,.int .i64 1,.int .i64 1],[.row 0 1 []]) =
   some (.exit 0,[.own 0 0 0 s.1.length],[.row 0 1 (s.1.map AV.str)]))/\
  (rq xB (t++[47]) ([],[]) = .inr ()->iter (round (jJ.jG n) [4,5,6] [(.exit 0,[4]),(.ret,[2,3])] yY e0 1 [0]) ([.own 0 0 0 0,.int .i64 1,.int .i64 1],[.row 0 1 []]) =
   some (.ret,[.jB true [],.int .i64 60],[.row 0 1 ((aaH (t++[47]) ([],[])).map AV.str)])):=by
 have := HC (f := round (jJ.jG n) [4, 5, 6] [(.exit 0, [4]), (.ret, [2, 3])] yY e0 1 [0]) (λi (s : List au × au) => ([.own 0 0 0 s.1.length, .int .i64 ((i + 1 - s.2.length : Nat) : Int), .int .i64 ((i + 1 : Nat) : Int)], [.row 0 1 (s.1.map AV.str)])) (t ++ [47])
  (λs b=>(xB s b).elim .inl λ_=>.inr (.ret,[.jB true [],.int .i64 60],[.row 0 1 (s.1.map AV.str)])) (λs=>(.exit 0,[.own 0 0 0 s.1.length],[.row 0 1 (s.1.map AV.str)])) (λi s=>s.1.length<=12/\s.2.length<=i/\(t.take i).drop (i-s.2.length)=s.2)
  (λi hi s hs=>by
   let⟨out,cur⟩:=s;let⟨h12,S7,sS⟩:=hs;simp only at h12 S7 sS;have hi':i<t.length+1:=by simpa using hi
   have hc1:(47::t.take i).drop (i+1-cur.length)=cur:=by
    rw[show i+1-cur.length=(i-cur.length)+1 by omega,List.drop_succ_cons,sS]
   obtain⟨fr,hfr⟩:∃fr:Nat,fr=i+1-cur.length:=⟨_,rfl⟩;have Wq:(i+1-cur.length:Nat)=fr:=hfr.symm;rw[<-hfr]at hc1;have S4:fr<=i+1:=aa
   have Bx:=aiu (n:=n) hn cur;rw[Jr hi]
   have push:∀(hx:(decide (i+1<(47::t).length)&&(((47::t)[i+1]?).elim true λb=>!decide (b.toNat=47)))=false),
     (jL cur=true/\out.length<12->round (jJ.jG n) [4,5,6] [(.exit 0,[4]),(.ret,[2,3])] yY e0 1 [0] ([.own 0 0 0 out.length,.int .i64 (fr:Int),.int .i64 ((i+1:Nat):Int)],[.row 0 1 (out.map AV.str)]) =
      some (.inl ([.own 0 0 0 (out.length+1),.int .i64 ((i+2:Nat):Int),.int .i64 ((i+2:Nat):Int)],[.row 0 1 ((out++[cur]).map AV.str)])))/\
     (¬(jL cur=true/\out.length<12)->round (jJ.jG n) [4,5,6] [(.exit 0,[4]),(.ret,[2,3])] yY e0 1 [0] ([.own 0 0 0 out.length,.int .i64 (fr:Int),.int .i64 ((i+1:Nat):Int)],[.row 0 1 (out.map AV.str)]) =
      some (.inr (.ret,[.jB true [],.int .i64 60],[.row 0 1 (out.map AV.str)]))):=by
    intro hx
    have hcs:(i<t.length/\∃b,(47::t)[i+1]? = some b/\b.toNat=47)\/¬i<t.length:=by
     by_cases hit:i<t.length
     .left;refine⟨hit,t[i],?_⟩;have hg:(47::t)[i+1]? = some t[i]:=by rw[bG];exact aG hit
      refine⟨hg,?_⟩;rw[hg]at hx
      simpa[hit]using hx
     .exact .inr hit
    refine⟨λhc=>?_,λhc=>?_⟩
    .let⟨hr,hlt⟩:=hc;rw[hr]at Bx
     rcases hcs with⟨hit,b,hg,xl⟩ | hit
     .simp(disch:=omega)[round_eq,um,h0,hg,xl,S4,hc1,ca 234,Bx]
     .simp(disch:=omega)[round_eq,um,h0,S4,hc1,ca 234,Bx]
    .cases hr:jL cur with
     |true =>
      have hlt:out.length=12:=by
       have:¬out.length<12:=λh=>hc ⟨hr,h⟩
       omega
      rw[hr]at Bx
      rcases hcs with⟨hit,b,hg,xl⟩ | hit
      .simp(disch:=omega)[round_eq,um,h0,hg,xl,S4,hc1,ca 234,Bx,hlt]
      .simp(disch:=omega)[round_eq,um,h0,S4,hc1,ca 234,Bx,hlt]
     |false =>
      rw[hr]at Bx
      rcases hcs with⟨hit,b,hg,xl⟩ | hit
      .simp(disch:=omega)[round_eq,um,h0,hg,xl,S4,hc1,ca 234,Bx]
      .simp(disch:=omega)[round_eq,um,h0,S4,hc1,ca 234,Bx]
   by_cases hit:i<t.length
   .rw[dif_pos hit];obtain⟨b,hb⟩:∃b,b=t[i]:=⟨_,rfl⟩;rw[<-hb];have hg:(47::t)[i+1]? = some b:=by rw[bG,hb];exact aG hit
    by_cases hb47:b=47
    .have xl:b.toNat=47:=by rw[hb47];rfl
     let⟨g1,g2⟩:=push (by rw[hg];simp[xl])
     by_cases hc:jL cur=true/\out.length<12
     .simp only[xB,if_pos hb47,if_pos hc,Sum.elim_inl];refine⟨⟨aj,ah,ah⟩,?_⟩
      rw[Wq,g1 hc];simp;omega
     .simp only[xB,if_pos hb47,if_neg hc,Sum.elim_inr];rw[Wq,g2 hc]
    .have xl:¬b.toNat=47:=λh=>hb47 (gF.1 h)
     simp only[xB,if_neg hb47,Sum.elim_inl];refine⟨⟨h12,aj,?_⟩,?_⟩
     .rw[bC hit,<-hb];simp only[aL,aQ,bq];rw[show i+1-(cur.length+(0+1))=i-cur.length by omega,eF aj,sS]
     .have e2:(i+1+1-(cur++[b]).length:Nat)=fr:=by simp;omega
      rw[Wq,e2];simp(disch:=omega)[round_eq,um,h0,hg]
   .rw[dif_neg hit];let⟨g1,g2⟩:=push (by simp[hit])
    by_cases hc:jL cur=true/\out.length<12
    .simp only[xB,if_true,if_pos hc,Sum.elim_inl];refine⟨⟨aj,ah,ah⟩,?_⟩
     rw[Wq,g1 hc];simp;omega
    .simp only[xB,if_true,if_neg hc,Sum.elim_inr];rw[Wq,g2 hc])
  (λs hs=>by
   simp(disch:=omega)[round_eq,um,h0]) ([],[]) ⟨ah,ah,ah⟩
 simp only[bq,bQ,bE,js,iX]at this;rw[this]
 have e:∀(l:au)(s:List au×au),(∀t,rq xB l s = .inl t->rq (λs b=>(xB s b).elim .inl λ_=>.inr ((AX.ret,[AV.jB true [],AV.int .i64 60],[AB.row 0 1 (s.1.map AV.str)]):AX×List AV×AH)) l s = .inl t)/\
   (rq xB l s = .inr ()->rq (λs b=>(xB s b).elim .inl λ_=>.inr ((AX.ret,[AV.jB true [],AV.int .i64 60],[AB.row 0 1 (s.1.map AV.str)]):AX×List AV×AH)) l s = .inr (AX.ret,[AV.jB true [],AV.int .i64 60],[AB.row 0 1 ((aaH l s).map AV.str)])):=by
  intro l
  induction l with
  |nil=>intro s;exact⟨λt h=>(by cases h;rfl),λh=>(by cases h)⟩
  |cons x l ih =>
   intro s;simp only[rq,aaH];cases xB s x with
   |inl s'=>exact ih s'
   |inr u=>exact⟨λt h=>(by cases h),λ_=>rfl⟩
 refine⟨λs hf=>?_,λhf=>?_⟩
 .rw[(e _ _).1 s hf]
 .rw[(e _ _).2 hf]
def Li(hn:172<n)(p:au)(hl:p.length<=1000000000):(jJ.jG n).p 163 [.str p]=some (PF p):=by
 rw[pp 163 rfl hn rfl,jA,jy];unfold PF
 by_cases h1:p=[47]
 .subst h1;simp(disch:=omega)[XR,lB];rfl
 .cases p with
  |nil=>simp(disch:=omega)[XR,lB,split]
  |cons b t =>
   by_cases hb:b=47
   .subst hb;have ht:t≠[]:=λh=>h1 (by rw[h])
    obtain⟨x,r,hx⟩:∃x r,nY t=x::r:=by
     cases h:nY t with
     |nil=>exact absurd h (zu t)
     |cons x r=>exact⟨x,r,rfl⟩
    simp(disch:=omega)[XR,lB,ht];have hl':t.length<=1000000000:=by simp at hl;omega
    have aae:=JC t [] [] x r hx ah
    by_cases hc:(nY t).length<=12/\(nY t).all jL=true
    .have hs:split (47::t)=some (nY t):=by
      unfold split;rw[if_neg h1];simp only[ij,iD];rw[if_pos ⟨trivial,hc.1,hc.2⟩]
     rw[hs];rw[hx]at hc⊢;rw[if_pos ⟨an hc.1,an hc.2⟩]at aae
     rw[(ajM af t hl' _ aq).1 _ aae]
     simp(disch:=omega)
    .have hs:split (47::t)=none:=by
      unfold split;rw[if_neg h1];simp only[ij,iD];rw[if_neg λh=>hc ⟨h.2.1,h.2.2⟩]
     rw[hs];rw[hx]at hc;rw[if_neg λh=>hc ⟨(by have:=h.1;simpa using this),an h.2⟩]at aae
     rw[(ajM af t hl' _ aq).2 aae]
     simp(disch:=omega)
   .have xl:¬b.toNat=47:=λh=>hb (gF.1 h)
    have hs:split (b::t)=none:=by
     unfold split;rw[if_neg h1,if_neg];simp[hb]
    rw[hs];simp(disch:=omega)[XR,lB,hb]
@[simp]def szS(l:List au):kK 1 (l.map AV.str)=true:=by simp[kK]
@[simp]def ajC(m:List au)(x:au):(m.map AV.str++[AV.str x])[m.length]? = some (.str x):=ah
@[simp]def ahk(m:List au)(x:au):(m.map AV.str++[AV.str x]).take m.length=m.map AV.str:=by
 rw[dw ah,br ah]
def tO{l:List au}(h:l≠[]):joinTail [47] l=jn l:=by
 unfold jn;rw[if_neg h];cases l with
 |nil=>exact absurd rfl h
 |cons x r=>rw[join_cons,mW]
def Xf:Fits []:=by simp[Fits,joinTail]
def aaq{p:au}{l:List au}(h:split p=some l)(hp:p.length<=1000000):Fits l:=by
 let⟨h1,_⟩:=k9 h
 by_cases h0:l=[]
 .rw[h0];exact Xf
 .unfold Fits;rw[tO h0,h1];exact hp
def Fits.take{l:List au}(h:Fits l)(k:Nat):Fits (l.take k):=cQ (joinTail_take_le [47] l k) h
def sO(p:au):Option (au×au):=match split p with
 |some l=>if l=[]then none else some (l.getLast?.getD [],jn l.dropLast)
 |none=>none
def LW(p:au):AV:=match sO p with
 |some x=>.kT [.str x.1,.str x.2,.int .i64 0]
 |none=>.kT [.str [],.str [],.int .i64 60]
def acW(hn:193<n)(p:au)(hp:p.length<=1000000):(jJ.jG n).p 167 [.str p]=some (LW p):=by
 rw[pp 167 rfl hn rfl,jA,jy];have Tc:=Li (n:=193) af p aa
 unfold LW sO;unfold PF at Tc;cases hs:split p with
 |none =>
  rw[hs]at Tc;simp(disch:=omega)[aaY,ca 163,Tc]
 |some l =>
  rw[hs]at Tc;have hf:=aaq hs hp
  rcases gR l with h0 | ⟨m,x,h0⟩
  .subst h0;simp(disch:=omega)[aaY,ca 163,Tc]
  .have hm:Fits m:=by
    have:=hf.take m.length;rw[h0]at this
    simpa using this
   have hl:=hf.two.1;rw[h0]at hl Tc⊢;simp only[fV,aL,aQ,bq]at hl;have Ta:=λf=>aiv (n:=193) af m f hm
   simp only[fV,cZ,bF,bQ]at Tc⊢;have e1:m++[x]≠[]:=ah
   rw[if_neg e1];simp(disch:=omega)[aaY,ca 163,Tc,Ta]
def zn{p:au}{l:List au}(h:split p=some l):l.length<=12:=(k9 h).2.1
def s23(hn:5<n)(a b:au):(jJ.jG n).p 23 [.str a,.str b]=some (.bool (qC a b)):=by
 rw[pp 23 rfl hn rfl,jA,jy];have ha:=s46 (n:=5) af a
 have hb:=s46 (n:=5) af b
 unfold qC;unfold PF at ha hb;cases hsa:split a with
 |none =>
  rw[hsa]at ha;cases hsb:split b with
  |none=>rw[hsb]at hb;simp -implicitDefEqProofs [c23,ca 46,ha,hb]
  |some y=>rw[hsb]at hb;simp -implicitDefEqProofs [c23,ca 46,ha,hb]
 |some x =>
  rw[hsa]at ha;have h1:=zn hsa;cases hsb:split b with
  |none=>rw[hsb]at hb;simp -implicitDefEqProofs [c23,ca 46,ha,hb]
  |some y =>
   rw[hsb]at hb;have h2:=zn hsb
   by_cases hl:x.length<=y.length
   .have wD:=λf g=>s59 (n:=5) af x (y.take x.length) f g aa aj
    simp only[fT]at wD;simp -implicitDefEqProofs [c23,ca 46,ha,hb,ca 59,wD,hl]
   .simp -implicitDefEqProofs [c23,ca 46,ha,hb,hl]
def apd(x y:List au)(hl:x.length<=y.length)(hx:x.length<=1000000)(f g:Bool)(e0:Env)(h5:e0 5 = .jB f (x.map AV.str))(h7:e0 7 = .jB g (y.map AV.str)):
  iter (round (jJ.jG n) [9] [(.exit 0,[]),(.ret,[4])] JT e0 0 []) ([.int .i64 0],[])=some (if (x.zip (y.take x.length)).all (λx=>decide (x.1=x.2))=true then(.exit 0,[],[])else(.ret,[.bool false],[])) :=
 QE (f:=round (jJ.jG n) [9] [(.exit 0,[]),(.ret,[4])] JT e0 0 []) (λi=>([.int .i64 i],[])) x (y.take x.length) aj (λx y=>decide (x=y)) _ _
  (λi hi hi'=>by
   have e:(y.take x.length)[i]=y[i]'aa:=ah
   rw[e];have hiy:i<y.length:=aa
   obtain⟨u,hu⟩:∃u,u=x[i]:=⟨_,rfl⟩;obtain⟨v,hv⟩:∃v,v=y[i]:=⟨_,rfl⟩;rw[<-hu,<-hv]
   by_cases huv:u=v
   .simp(disch:=omega)[round_eq,Fu,h5,h7,<-hu,<-hv,lB,huv]
   .simp(disch:=omega)[round_eq,Fu,h5,h7,<-hu,<-hv,lB,huv])
  (by simp[round_eq,Fu,h5])
def aiw(hn:173<n)(a b:au)(hla:a.length<=1000000000)(hlb:b.length<=1000000000):(jJ.jG n).p 232 [.str a,.str b]=some (.bool (qC a b)):=by
 rw[pp 232 rfl hn rfl,jA,jy];have ha:=Li (n:=173) af a hla
 have hb:=Li (n:=173) af b hlb
 unfold qC;unfold PF at ha hb;cases hsa:split a with
 |none =>
  rw[hsa]at ha;cases hsb:split b with
  |none=>rw[hsb]at hb;simp[TA,ca 163,ha,hb]
  |some y=>rw[hsb]at hb;simp[TA,ca 163,ha,hb]
 |some x =>
  rw[hsa]at ha;have h1:=zn hsa;cases hsb:split b with
  |none=>rw[hsb]at hb;simp[TA,ca 163,ha,hb]
  |some y =>
   rw[hsb]at hb;have h2:=zn hsb
   by_cases hl:x.length<=y.length
   .have hz:=Ie (a:=x) (b:=y.take x.length) aj
    simp[TA,ca 163,ha,hb,hl];rw[apd x y hl aa (decide (a=[47])) (decide (b=[47])) _ rfl rfl]
    by_cases hxy:x=y.take x.length
    .rw[if_pos (hz.2 hxy)];have:decide (x.length<=y.length/\x=y.take x.length)=true:=decide_eq_true ⟨hl,hxy⟩;simp[<-hxy]
    .rw[if_neg (λh=>hxy (hz.1 h))]
     simp[hxy]
   .simp[TA,ca 163,ha,hb,hl]
end Go.Proofs.YtaepagegdgdlhaaGreatDoor
namespace Go.Proofs.YtaepagegdgdlhaaGreatDoor.T
open Go.Am Go.Tr
abbrev I(n:Int):AV:=.int .i64 n
abbrev B(b:UInt8):AV:=.int .u8 (b.toNat:Int)
@[simp]def En(e:Tr.Ent):AV:=.agg [.str e.name,.int .i64 e.ino,.int .i64 e.jC]
@[simp]def Nd(n:Tr.Node):AV:=.agg [.int .i64 n.ino,.int .i64 n.kind,.int .i64 n.links,.jB n.fd (n.data.map B),.jB n.fe (n.jF.map En),.int .i64 n.up]
@[simp]def Tv(t:Tr.Tree):AV:=.agg [.jB t.fn (t.nodes.map Nd),.int .i64 t.next,.int .i64 t.jC]
@[simp]def szI(l:ay):kK 1 (l.map I)=true:=by simp[kK]
@[simp]def szB(l:au):kK 1 (l.map B)=true:=by simp[kK]
@[simp]def asI(l:List Tr.Ent):kK 3 (l.map En)=true:=by simp[kK]
@[simp]def asG(l:List Tr.Node):kK 6 (l.map Nd)=true:=by simp[kK]
structure Bt(t:Tr.Tree):Prop where
 len:t.nodes.length<=1000
 jF:∀n∈t.nodes,n.jF.length<=1000
 YT:0<=t.jC
 ck:t.jC<=4398046511104
 nx0:0<=t.next
 nx:t.next<=4398046511104
def SV(l:List Tr.Node)(i:Int):Int:=(find l i).elim (-1) λ_=>((l.findIdx λn=>decide (n.ino=i):Nat):Int)
def apk{Γ:kP}(t:Tr.Tree)(hb:Bt t)(i:Int)(e0:Env)(h2:e0 2 = .kE [.jB t.fn (t.nodes.map Nd),.int .i64 t.next,.int .i64 t.jC])(h1:e0 1=I i):
  iter (round Γ [5] [(.exit 0,[]),(.ret,[4])] JZ e0 0 []) ([.int .i64 0],[])=some ((t.nodes.find? λn=>decide (n.ino=i)).elim (.exit 0,[],[]) λ_=>(.ret,[.int .i64 (t.nodes.findIdx λn=>decide (n.ino=i):Nat)],[])) :=
 qS (f:=round Γ [5] [(.exit 0,[]),(.ret,[4])] JZ e0 0 []) (λi=>([.int .i64 (i:Int)],[])) t.nodes (λn=>decide (n.ino=i)) (λk _=>(.ret,[.int .i64 (k:Int)],[])) (.exit 0,[],[])
  (λk hk=>by
   have hl:=hb.len;obtain⟨y,hy⟩:∃y,y=t.nodes[k]:=⟨_,rfl⟩;rw[<-hy]
   by_cases h:y.ino=i
   .simp(disch:=omega)[round_eq,FC,h2,h1,<-hy,h]
   .simp(disch:=omega)[round_eq,FC,h2,h1,<-hy,h])
  (by simp[round_eq,FC,h2])
def aoc{n:Nat}(hn:175<n)(t:Tr.Tree)(hb:Bt t)(i:Int):(jJ.jG n).p 165 [Tv t,I i]=some (I (SV t.nodes i)):=by
 rw[pp 165 rfl hn rfl,jA,jy];have h:=apk (Γ:=jJ.jG 175) t hb i;have hl:=hb.len;unfold SV find;simp[amk];rw[h _ rfl rfl];cases t.nodes.find? λn=>decide (n.ino=i)with
 |none=>simp
 |some y=>simp
def aar{l:List Tr.Node}{i:Int}{q:Tr.Node}(h:find l i=some q):∃k:Nat,SV l i=k/\k<l.length/\l[k]? = some q:=by
 have hf:(l.findIdx λn=>decide (n.ino=i))<l.length:=dH ⟨q,(jY h).1,by simpa using(jY h).2⟩
 refine⟨l.findIdx λn=>decide (n.ino=i),by unfold SV;rw[h];rfl,hf,?_⟩
 rw[lQ];exact h
def mB(o:Option Tr.Node):AV:=o.elim (.kT [Nd mq,.bool false]) λn=>.kT [Nd n,.bool true]
def wN{n:Nat}(hn:176<n)(t:Tr.Tree)(hb:Bt t)(i:Int):(jJ.jG n).p 110 [Tv t,I i]=some (mB (find t.nodes i)):=by
 rw[pp 110 rfl hn rfl,jA,jy];have h:=aoc (n:=176) af t hb i
 have hl:=hb.len;simp only[Tv]at h;unfold mB;cases hf:find t.nodes i with
 |none =>
  have e:SV t.nodes i = -1:=by unfold SV;rw[hf];rfl
  rw[e]at h;simp(disch:=omega)[afY,ca 165,h,mq]
 |some q =>
  let⟨k,hk,yS,hq⟩:=aar hf;rw[hk]at h;have YD:q=t.nodes[k]:=by rw[aG yS]at hq;exact(cu hq).symm
  simp(disch:=omega)[afY,ca 165,h,<-YD]
def Sl{n:Nat}(hn:185<n)(t:Tr.Tree)(hb:Bt t)(i:Int):(jJ.jG n).p 235 [Tv t,I i]=some (.kT [Nd (mK t i),I (oN t i)]):=by
 rw[pp 235 rfl hn rfl,jA,jy];have h:=wN (n:=185) af t hb i
 simp only[Tv]at h;unfold mK oN;unfold mB at h;cases hf:find t.nodes i with
 |none =>
  rw[hf]at h;simp only[cK]at h;simp[aaU,ca 110,h,mq]
 |some q =>
  rw[hf]at h;simp only[bw,Nd]at h
  by_cases hk:q.kind=2
  .simp[aaU,ca 110,h,hk]
  .simp[aaU,ca 110,h,hk,mq]
def zT(l:List Tr.Ent)(s:au):Int:=(l.find? λe=>decide (e.name=s)).elim (-1) λ_=>((l.findIdx λe=>decide (e.name=s):Nat):Int)
def apa{Γ:kP}(q:Tr.Node)(hq:q.jF.length<=1000)(s:au)(e0:Env)(h2:e0 2 = .kE [.int .i64 q.ino,.int .i64 q.kind,.int .i64 q.links,.jB q.fd (q.data.map B),.jB q.fe (q.jF.map En),.int .i64 q.up])(h1:e0 1 = .str s):
  iter (round Γ [5] [(.exit 0,[]),(.ret,[4])] JR e0 0 []) ([.int .i64 0],[])=some ((q.jF.find? λe=>decide (e.name=s)).elim (.exit 0,[],[]) λ_=>(.ret,[.int .i64 (q.jF.findIdx λe=>decide (e.name=s):Nat)],[])) :=
 qS (f:=round Γ [5] [(.exit 0,[]),(.ret,[4])] JR e0 0 []) (λi=>([.int .i64 (i:Int)],[])) q.jF (λe=>decide (e.name=s)) (λk _=>(.ret,[.int .i64 (k:Int)],[])) (.exit 0,[],[])
  (λk hk=>by
   obtain⟨y,hy⟩:∃y,y=q.jF[k]:=⟨_,rfl⟩;rw[<-hy]
   by_cases h:y.name=s
   .simp(disch:=omega)[round_eq,Ft,h2,h1,<-hy,h]
   .simp(disch:=omega)[round_eq,Ft,h2,h1,<-hy,h])
  (by simp[round_eq,Ft,h2])
def UD{n:Nat}(hn:186<n)(q:Tr.Node)(hq:q.jF.length<=1000)(s:au):(jJ.jG n).p 236 [Nd q,.str s]=some (I (zT q.jF s)):=by
 rw[pp 236 rfl hn rfl,jA,jy];have h:=apa (Γ:=jJ.jG 186) q hq s;unfold zT;simp[al8];rw[h _ rfl rfl];cases q.jF.find? λe=>decide (e.name=s)with
 |none=>simp
 |some y=>simp
end Go.Proofs.YtaepagegdgdlhaaGreatDoor.T
namespace Go.Proofs.YtaepagegdgdlhaaGreatDoor.R
open Go.Am Go.Am.Nm Go.Tr
open T (Bt Tv Nd En I B)
def GN:∀l:au,pG (l.map B)=some l
 | []=>rfl
 |b::l=>by simp[pG,GN l]
variable{n:Nat}
def s61(hn:0<n)(l:au)(f g:Bool):(jJ.jG n).p 61 [.jB f (l.map B),.jB g (l.map B)]=some (.bool true):=by
 rw[pp 61 rfl hn rfl,jA,jy];simp[c61,GN]
def s62(hn:1<n)(l:List Tr.Ent)(hl:l.length<=1000)(f g:Bool):(jJ.jG n).p 62 [.jB f (l.map En),.jB g (l.map En)]=some (.bool true):=by
 rw[pp 62 rfl hn rfl,jA,jy]
 have h:∀e0:Env,e0 0 = .jB f (l.map En)->e0 1 = .jB g (l.map En)->e0 12=I l.length->iter (round (jJ.jG 1) [13] [(.exit 0,[]),(.ret,[4])] Ra e0 0 []) ([.int .i64 0],[])=some (if l.all (λ_=>true)=true then(.exit 0,[],[])else(.ret,[.bool false],[])):=λe0 h0 h1 h12 =>
  qm (f:=round (jJ.jG 1) [13] [(.exit 0,[]),(.ret,[4])] Ra e0 0 []) (λi=>([.int .i64 i],[])) l (λ_=>true) _ _
   (λi hi=>by
    obtain⟨x,hx⟩:∃x,x=l[i]:=⟨_,rfl⟩;simp(disch:=omega)[round_eq,RG,h0,h1,h12,<-hx,lK])
   (by simp(disch:=omega)[round_eq,RG,h12])
 simp(disch:=omega)[c62];rw[h _ aq aq aq]
 simp(disch:=omega)
def s26(hn:90<n)(l:List Sh.P)(hl:l.length<=1000000)(f g:Bool):(jJ.jG n).p 26 [.jB f (l.map Sh.D),.jB g (l.map Sh.D)]=some (.bool true):=by
 rw[pp 26 rfl hn rfl,jA,jy]
 have h:∀e0:Env,e0 0 = .jB f (l.map Sh.D)->e0 1 = .jB g (l.map Sh.D)->e0 12=I l.length->iter (round (jJ.jG 90) [13] [(.exit 0,[]),(.ret,[4])] Rr e0 0 []) ([.int .i64 0],[])=some (if l.all (λ_=>true)=true then(.exit 0,[],[])else(.ret,[.bool false],[])):=λe0 h0 h1 h12 =>
  qm (f:=round (jJ.jG 90) [13] [(.exit 0,[]),(.ret,[4])] Rr e0 0 []) (λi=>([.int .i64 i],[])) l (λ_=>true) _ _
   (λi hi=>by
    obtain⟨x,hx⟩:∃x,x=l[i]:=⟨_,rfl⟩;simp(disch:=omega)[round_eq,RN,h0,h1,h12,<-hx,lK])
   (by simp(disch:=omega)[round_eq,RN,h12])
 simp(disch:=omega)[c26];rw[h _ aq aq aq]
 simp(disch:=omega)
def s60(hn:2<n)(q:Tr.Node)(hq:q.jF.length<=1000):(jJ.jG n).p 60 [Nd q,Nd q]=some (.bool true):=by
 rw[pp 60 rfl hn rfl,jA,jy];have h1:=s61 (n:=2) af q.data q.fd q.fd
 have h2:=s62 (n:=2) af q.jF hq q.fe q.fe
 simp[c60,ca 61,ca 62,h1,h2]
def s63(hn:87<n)(l:List Tr.Node)(hl:l.length<=1000)(he:∀q∈l,q.jF.length<=1000)(f g:Bool)(h:AH)(hh:h.all lE=true):jM (jJ.jG n) 63 [.jB f (l.map Nd),.jB g (l.map Nd),.fn (.func 60) [] []] h=some (.bool true,h):=by
 rw[ph 63 rfl hn rfl,jy]
 have hx:∀e0:Env,e0 0 = .jB f (l.map Nd)->e0 1 = .jB g (l.map Nd)->e0 2 = .fn (.func 60) [] []->e0 15 = .jB f (l.map Nd)->e0 16=I l.length->iter (round (jJ.jG 87) [17] [(.exit 0,[]),(.ret,[6])] Q9 e0 h.length []) ([.int .i64 0],h)=some (if l.all (λ_=>true)=true then(.exit 0,[],h)else(.ret,[.bool false],h)):=λe0 h0 h1 h2 YQ Jp =>
  qm (f:=round (jJ.jG 87) [17] [(.exit 0,[]),(.ret,[6])] Q9 e0 h.length []) (λi=>([.int .i64 i],h)) l (λ_=>true) _ _
   (λi hi=>by
    have hq:=he _ (aS hi);obtain⟨x,hx⟩:∃x,x=l[i]:=⟨_,rfl⟩;rw[<-hx]at hq;have hnp:=λX=>kH h.length X h 0 hh
    have h60:=s60 (n:=87) af x hq
    simp only[Nd]at h60;simp(disch:=omega)[round_eq,RF,h1,h2,YQ,Jp,<-hx,ca 60,h60,hnp])
   (by simp(disch:=omega)[round_eq,RF,Jp])
 have hnp:=λX=>kH h.length X h 0 hh
 simp(disch:=omega)[c63,hnp];rw[hx _ aq aq aq aq aq]
 simp(disch:=omega)
def s25(hn:88<n)(l:List Tr.Node)(hl:l.length<=1000)(he:∀q∈l,q.jF.length<=1000)(f g:Bool)(a b:Int):(jJ.jG n).p 25 [.agg [.jB f (l.map Nd),I a,I b],.agg [.jB g (l.map Nd),I a,I b]]=some (.bool true):=by
 rw[pp 25 rfl hn rfl,jA,jy];have h:=s63 (n:=88) af l hl he f g [] rfl
 simp[c25,h]
@[simp]def Lv(x:Ar):AV:=.agg [I x.1,.jB false (x.2.map Nd)]
@[simp]def asH(l:List Ar):kK 2 (l.map Lv)=true:=by simp[kK]
def s24(hn:89<n)(x:Ar)(hl:x.2.length<=1000)(he:∀q∈x.2,q.jF.length<=1000):(jJ.jG n).p 24 [Lv x,Lv x]=some (.bool true):=by
 rw[pp 24 rfl hn rfl,jA,jy];have h:=s25 (n:=89) af x.2 hl he false false 0 0
 simp[c24,ca 25,h]
def s27(hn:124<n)(l:List Ar)(hl:l.length<=1000)(he:∀x∈l,x.2.length<=1000/\∀q∈x.2,q.jF.length<=1000)(f g:Bool)(h:AH)(hh:h.all lE=true):jM (jJ.jG n) 27 [.jB f (l.map Lv),.jB g (l.map Lv),.fn (.func 24) [] []] h=some (.bool true,h):=by
 rw[ph 27 rfl hn rfl,jy]
 have hx:∀e0:Env,e0 0 = .jB f (l.map Lv)->e0 1 = .jB g (l.map Lv)->e0 2 = .fn (.func 24) [] []->e0 15 = .jB f (l.map Lv)->e0 16=I l.length->iter (round (jJ.jG 124) [17] [(.exit 0,[]),(.ret,[6])] Rq e0 h.length []) ([.int .i64 0],h)=some (if l.all (λ_=>true)=true then(.exit 0,[],h)else(.ret,[.bool false],h)):=λe0 h0 h1 h2 YQ Jp =>
  qm (f:=round (jJ.jG 124) [17] [(.exit 0,[]),(.ret,[6])] Rq e0 h.length []) (λi=>([.int .i64 i],h)) l (λ_=>true) _ _
   (λi hi=>by
    have hq:=he _ (aS hi);obtain⟨x,hx⟩:∃x,x=l[i]:=⟨_,rfl⟩;rw[<-hx]at hq;have hnp:=λX=>kH h.length X h 0 hh
    have h24:=s24 (n:=124) af x hq.1 hq.2
    simp only[Lv]at h24;simp(disch:=omega)[round_eq,RM,h1,h2,YQ,Jp,<-hx,ca 24,h24,hnp])
   (by simp(disch:=omega)[round_eq,RM,Jp])
 have hnp:=λX=>kH h.length X h 0 hh
 simp(disch:=omega)[c27,hnp];rw[hx _ aq aq aq aq aq]
 simp(disch:=omega)
structure Fd where
 fp:Bool
 ps:List Sh.P
 fl:Bool
 ls:List Ar
 next:Int
 jC:Int
@[simp]def Fv(f:Fd):AV:=.agg [.jB f.fp (f.ps.map Sh.D),.jB f.fl (f.ls.map Lv),I f.next,I f.jC]
def s10(hn:125<n)(f:Fd)(hp:f.ps.length<=1000000)(hl:f.ls.length<=1000)(he:∀x∈f.ls,x.2.length<=1000/\∀q∈x.2,q.jF.length<=1000)(a b:Bool):
  (jJ.jG n).p 10 [.agg [.jB a (f.ps.map Sh.D),.jB b (f.ls.map Lv),I f.next,I f.jC],Fv f]=some (.bool true):=by
 rw[p10 hn,jA,jy];have h1:=s26 (n:=125) af f.ps hp a f.fp
 have h2:=s27 (n:=125) af f.ls hl he b f.fl [] rfl
 simp[GH,ca 26,h1,h2]
end Go.Proofs.YtaepagegdgdlhaaGreatDoor.R
