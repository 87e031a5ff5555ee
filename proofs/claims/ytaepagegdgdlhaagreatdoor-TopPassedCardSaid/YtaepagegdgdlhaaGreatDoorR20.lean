/- Part of the proof that TopPassedCard holds. -/
import Derived.Test.YtaepagegdgdlhaaGreatDoorRs20
set_option linter.all false
namespace Go.Proofs.YtaepagegdgdlhaaGreatDoor.X
open Go.Am Go.Am.Nm Go.Lib Go.Cr
abbrev I(n:Int):AV:=.int .i64 n
def Bs(s:au):List AV:=s.map λc=>.int .u8 (c.toNat:Int)
def Mv(m:Mg):AV:=.agg [I m.fr,I m.to,I m.kind,.jB m.fn (m.oU.map I),.jB m.fd (Bs m.data)]
def Cv(c:Ca):AV:=.agg [I c.de.id,.jB c.de.fg (c.de.jN.map I),.jB c.de.fp (c.de.lu.map AV.str),.bool c.sure,.jB c.fh (c.heard.map I)]
def Dv(d:De):AV:=.agg [I d.id,.jB d.fg (d.jN.map I),.jB d.fp (d.lu.map AV.str)]
def Bv(b:Bo):AV:=.agg [I b.id,I b.next,.jB b.fc (b.cases.map Cv)]
def Rv(r:Rd):AV:=.agg [I r.id,.str r.path]
def Pv(p:Pt):AV:=.agg [I p.id,.jB p.fr (p.ready.map Rv),.jB p.fd (p.did.map I)]
def jH(s:au):Bool:=(split s).isSome
def kr(a b:au):Bool:=qC a b||qC b a
variable{n:Nat}
def N3(hn:20<n)(fr to k id:Int):(jJ.jG n).p 124 [I fr,I to,I k,I id]=some (Mv (lF fr to k id)):=by
 rw[pp 124 rfl hn rfl,jA,jy];simp[amq,Mv,lF,Bs]
def s70(hn:133<n)(fr to id:Int)(s:au):(jJ.jG n).p 70 [I fr,I to,I id,.str s]=some (Mv (yq fr to id s)):=by
 rw[pp 70 rfl hn rfl,jA,jy];have h:=N3 (n:=133) af fr to 1 id
 simp only[Mv]at h;simp[c70,ca 124,h,Mv,lF,yq,Bs]
def s79(hn:17<n)(s:au):(jJ.jG n).p 79 [.str s]=some (.bool (jH s)):=by
 rw[pp 79 rfl hn rfl,jA,jy];have h:=s46 (n:=17) af s
 unfold PF at h;unfold jH;cases hs:split s with
 |none=>rw[hs]at h;simp[c79,ca 46,h]
 |some l=>rw[hs]at h;simp[c79,ca 46,h]
def s82(hn:8<n)(a b:au):(jJ.jG n).p 82 [.str a,.str b]=some (.bool (kr a b)):=by
 rw[pp 82 rfl hn rfl,jA,jy];have h1:=s23 (n:=8) af a b
 have h2:=s23 (n:=8) af b a
 unfold kr;cases hab:qC a b
 .rw[hab]at h1;simp[c82,ca 23,h1,h2]
 .rw[hab]at h1;simp[c82,ca 23,h1]
def apg{Γ:kP}(l:ay)(x:Int)(hl:l.length<=1000000)(f:Bool)(e0:Env)(h0:e0 0 = .jB f (l.map I))(h1:e0 1=I x)(h7:e0 7 = .int .i64 l.length):
  iter (round Γ [8] [(.exit 0,[]),(.ret,[4])] JV e0 0 []) ([.int .i64 0],[])=some ((l.find? λy=>decide (x=y)).elim (.exit 0,[],[]) λ_=>(.ret,[.int .i64 (l.findIdx λy=>decide (x=y):Nat)],[])) :=
 qS (f:=round Γ [8] [(.exit 0,[]),(.ret,[4])] JV e0 0 []) (λi=>([.int .i64 (i:Int)],[])) l (λy=>decide (x=y)) (λi _=>(.ret,[.int .i64 (i:Int)],[])) (.exit 0,[],[])
  (λi hi=>by
   obtain⟨y,hy⟩:∃y,y=l[i]:=⟨_,rfl⟩;rw[<-hy]
   by_cases h:x=y
   .simp(disch:=omega)[round_eq,Fx,h0,h1,h7,<-hy,h]
   .simp(disch:=omega)[round_eq,Fx,h0,h1,h7,<-hy,h])
  (by simp[round_eq,Fx,h7])
def an4(hn:53<n)(l:ay)(x:Int)(hl:l.length<=1000000)(f:Bool):(jJ.jG n).p 179 [.jB f (l.map I),I x]=some (I ((l.find? λy=>decide (x=y)).elim (-1) λ_=>((l.findIdx λy=>decide (x=y):Nat):Int))):=by
 rw[pp 179 rfl hn rfl,jA,jy];have h:=apg (Γ:=jJ.jG 53) l x hl f;simp[amh];rw[h _ rfl rfl rfl];cases hf:l.find? λy=>decide (x=y)with
 |none=>simp
 |some y=>simp
def jY{l:ay}{x:Int}:(l.find? λy=>decide (x=y)).isSome=decide (x∈l):=by
 induction l with
 |nil=>rfl
 |cons y l ih =>
  rw[eO]
  by_cases h:x=y
  .simp[h]
  .simp[h,ih]
def ac1(hn:54<n)(l:ay)(x:Int)(hl:l.length<=1000000)(f:Bool):(jJ.jG n).p 125 [.jB f (l.map I),I x]=some (.bool (decide (x∈l))):=by
 rw[pp 125 rfl hn rfl,jA,jy];have h:=an4 (n:=54) af l x hl f
 rw[<-jY];cases hf:l.find? λy=>decide (x=y)with
 |none =>
  rw[hf]at h;simp only[cK]at h;simp[afW,ca 179,h]
 |some y =>
  rw[hf]at h;simp only[bw]at h;simp[afW,ca 179,h]
open Go.Am Go.Am.Nm Go.Lib Go.Cr
def OkC(c:Ca):Prop:=c.de.jN.length<=1000000/\c.de.lu.length<=1000000/\c.heard.length<=1000000
def Dq:∀s:au,pG (Bs s)=some s
 | []=>rfl
 |c::s=>by
  have h:=Dq s;unfold Bs at h⊢;simp only[bF,pG,h,bX,eG,UInt8.ofNat_toNat]
open Go.Am Go.Am.Nm Go.Lib Go.Cr
open Go.Am Go.Am.Nm Go.Lib Go.Cr
def aof{n:Nat}(hn:18<n)(s:au)(h:AH):jM (jJ.jG n) 123 [.str s] h=some (.bool (!jH s),h):=by
 rw[ph 123 rfl hn rfl,jy];have h1:=s79 (n:=18) af s
 simp[amr,ca 79,h1]
def an5{n:Nat}(hn:129<n)(l:List au)(f:Bool)(hl:l.length<=1000000):
  jM (jJ.jG n) 178 [.jB f (l.map AV.str),.fn (.func 123) [] []] []=some (I ((l.find? λy=>!jH y).elim (-1) λ_=>((l.findIdx λy=>!jH y:Nat):Int)),[]):=by
 rw[ph 178 rfl hn rfl,jy]
 have h:∀e0:Env,e0 0 = .jB f (l.map AV.str)->e0 1 = .fn (.func 123) [] []->e0 7 = .int .i64 l.length->iter (round (jJ.jG 129) [8] [(.exit 0,[]),(.ret,[4])] JW e0 0 []) ([.int .i64 0],[])=some ((l.find? λy=>!jH y).elim (.exit 0,[],[]) λ_=>(.ret,[.int .i64 (l.findIdx λy=>!jH y:Nat)],[])):=λe0 h0 h1 h7 =>
  qS (f:=round (jJ.jG 129) [8] [(.exit 0,[]),(.ret,[4])] JW e0 0 []) (λi=>([.int .i64 (i:Int)],[])) l (λy=>!jH y) (λi _=>(.ret,[.int .i64 (i:Int)],[])) (.exit 0,[],[])
   (λi hi=>by
    obtain⟨y,hy⟩:∃y,y=l[i]:=⟨_,rfl⟩;rw[<-hy];have h76:=aof (n:=129) af y
    cases h:jH y
    .rw[h]at h76;simp(disch:=omega)[round_eq,Fy,h0,h1,h7,<-hy,h76]
    .rw[h]at h76;simp(disch:=omega)[round_eq,Fy,h0,h1,h7,<-hy,h76])
   (by simp[round_eq,Fy,h7])
 simp[ami];rw[h _ rfl rfl rfl];cases hf:l.find? λy=>!jH y with
 |none=>simp
 |some y=>simp
def Ag{α:Type}(p:α->Bool)(l:List α):(l.find? p).isSome=l.any p:=by
 induction l with
 |nil=>rfl
 |cons y l ih=>rw[eO,jq];cases p y<;>simp[ih]
def aog{n:Nat}(hn:130<n)(l:List au)(f:Bool)(hl:l.length<=1000000):
  jM (jJ.jG n) 122 [.jB f (l.map AV.str),.fn (.func 123) [] []] []=some (.bool (!l.all jH),[]):=by
 rw[ph 122 rfl hn rfl,jy];have h:=an5 (n:=130) af l f hl
 have e:(!l.all jH)=(l.find? λy=>!jH y).isSome:=by
  rw[Ag];simp[List.all_eq_not_any_not]
 rw[e];cases hf:l.find? λy=>!jH y with
 |none=>rw[hf]at h;simp only[cK]at h;simp[afX,h]
 |some y=>rw[hf]at h;simp only[bw]at h;simp[afX,h]
def l66{Γ:kP}(l:ay)(f:Bool)(hl:l.length<=1000000)(e0:Env)(h1:e0 1 = .jB f (l.map I))(h19:e0 19 = .jB f (l.map I))(KU:e0 20 = .int .i64 l.length):
  iter (round Γ [21] [(.exit 0,[]),(.ret,[6])] Q8 e0 0 []) ([.int .i64 0],[])=some (if yD l=true then(.exit 0,[],[])else(.ret,[.int .i64 1],[])):=by
 have := qm (f := round Γ [21] [(.exit 0, []), (.ret, [6])] Q8 e0 0 []) (λi => ([.int .i64 (i : Int)], [])) (List.range l.length) (W6 l) (.exit 0, [], []) (.ret, [.int .i64 1], [])
  (λi hi=>by
   have hi:i<l.length:=by simpa using hi
   rw[bZ];obtain⟨x,hx⟩:∃x,x=l[i]:=⟨_,rfl⟩;have hx':l[i]? = some x:=by rw[hx];exact aG hi
   unfold W6;simp only[hx',bO]
   by_cases c1:x<0
   .have:¬(0<=x/\x<8):=by omega
    simp(disch:=omega)[round_eq,CD,h19,KU,<-hx,c1]
   .by_cases c2 : 8 <= x
    .have:¬(0<=x/\x<8):=by omega
     simp(disch:=omega)[round_eq,CD,h19,KU,<-hx,c1,c2]
    .have yF:0<=x/\x<8:=by omega
     cases i with
     |zero=>simp(disch:=omega)[round_eq,CD,h19,KU,hi,<-hx,c1,c2,yF]
     |succ k =>
      have hk:k<l.length:=aa
      obtain⟨y,hy⟩:∃y,y=l[k]:=⟨_,rfl⟩;have hy':l[k]? = some y:=by rw[hy];exact aG hk
      have e1:((k+1:Nat):Int)-1=(k:Int):=aa
      by_cases QU:x<=y
      .have Ts:¬y<x:=by omega
       simp(disch:=omega)[round_eq,CD,h1,h19,KU,<-hx,<-hy,c1,c2,yF,QU,Ts]
      .have Ts:y<x:=by omega
       simp(disch:=omega)[round_eq,CD,h1,h19,KU,<-hx,<-hy,c1,c2,yF,QU,Ts])
  (by simp(disch:=omega)[round_eq,CD,KU])
 unfold yD;exact this
def s66{n:Nat}(hn:131<n)(b:Bo)(jN:ay)(lu:List au)(f g:Bool)(hg:jN.length<=1000000)(hp:lu.length<=1000000)(hc:b.cases.length<=1000000):
  (jJ.jG n).p 66 [Bv b,.jB f (jN.map I),.jB g (lu.map AV.str)]=some (I (sM jH b jN lu)):=by
 rw[pp 66 rfl hn rfl,jA,jy];have h75:=aog (n:=131) af lu g hp
 have TY:=l66 (Γ:=jJ.jG 131) jN f hg;unfold sM;obtain⟨pb,hpb⟩:∃pb,pb=lu.all jH:=⟨_,rfl⟩;rw[<-hpb]at h75⊢
 by_cases c1:jN=[]
 .have c1':jN.length=0:=by rw[c1];rfl
  simp[c66,Bv,c1]
 .have c1':jN.length≠0:=by simpa using c1
  by_cases c2:jN.length=lu.length
  .simp[c66,Bv,c1,c2];rw[TY _ rfl rfl (by simp[c2])]
   by_cases yF:yD jN=true
   .rw[if_pos yF];have YS:¬lu=[]:=by intro e;rw[e]at c2;exact c1' c2
    cases pb with
    |true =>
     by_cases Ts:16<=b.cases.length
     .simp(disch:=omega)[h75,yF,Ts,YS]
     .by_cases co6:4294967296<=b.next
      .simp[h75,yF,Ts,co6,YS]
      .simp(disch:=omega)[h75,yF,Ts,co6,YS]
    |false=>simp[h75,yF,YS]
   .have c3':yD jN=false:=by simpa using yF
    rw[if_neg yF];have YS:¬lu=[]:=by intro e;rw[e]at c2;exact c1' c2
    simp[c3',YS]
  .simp(disch:=omega)[c66,Bv,c1,c2]
open Go.Am Go.Am.Nm Go.Lib Go.Cr
def szM(l:List Mg):kK 5 (l.map Mv)=true:=by simp[kK,Mv]
def szC(l:List Ca):kK 5 (l.map Cv)=true:=by simp[kK,Cv]
def szR(l:List Rd):kK 2 (l.map Rv)=true:=by simp[kK,Rv]
def zL{jO:au->Bool}{b:Bo}{jN:ay}{lu:List au}(h:sM jO b jN lu=0):
  jN≠[]/\jN.length=lu.length/\yD jN=true/\lu.all jO=true/\b.cases.length<16/\b.next<4294967296:=by
 unfold sM at h
 by_cases c1:jN=[]\/jN.length≠lu.length
 .rw[if_pos c1]at h;omega
 .rw[if_neg c1]at h
  by_cases c2:yD jN=false
  .rw[if_pos c2]at h;omega
  .rw[if_neg c2]at h
   by_cases yF:lu.all jO=false
   .rw[if_pos yF]at h;omega
   .rw[if_neg yF]at h
    by_cases QU:16<=b.cases.length\/4294967296<=b.next
    .rw[if_pos QU]at h;omega
    .exact⟨λe=>c1 (Or.inl e),iI λe=>c1 (Or.inr e),an c2,an yF,aa,aa⟩
def qK{α β:Type}(f:α->β):∀(l:List α)(s:List β),l.foldl (λs x=>s++[f x]) s=s++l.map f
 | [],s=>ah
 |x::l,s=>by rw[aT,qK f l,bF,cF];rfl
def l29{n:Nat}(hn:133<n)(jN:ay)(lu:List au)(f g:Bool)(hl:jN.length=lu.length)(hg:jN.length<=1000000)(bi id nx:Int)(m:Nat)(l1 l2 cs:List AV)(e0:Env)
  (h2:e0 2 = .jB g (lu.map AV.str)) (h3:e0 3 = .ptr 0 0 0 0) (h11:e0 11 = .ptr 2 0 0 0) (h46:e0 46 = .jB f (jN.map I)) (h47:e0 47 = .int .i64 jN.length) :
  iter (round (jJ.jG n) [12,48] [(.exit 0,[12])] HV e0 5 [4]) ([.own 4 0 0 0,.int .i64 0],[.var [I bi,I nx,.own 3 1 0 m],.var [.int .i64 0,.int .i64 0,.jB true []],.var [I id,.jB false l1,.jB false l2],.row 1 5 cs,.row 0 5 []]) =
   some (.exit 0,[.own 4 0 0 jN.length],[.var [I bi,I nx,.own 3 1 0 m],.var [.int .i64 0,.int .i64 0,.jB true []],.var [I id,.jB false l1,.jB false l2],.row 1 5 cs,.row 0 5 (((jN.zip lu).map λx=>yq bi x.1 id x.2).map Mv)]):=by
 have hz:(jN.zip lu).length=jN.length:=by simp[hl]
 have:=jU (f:=round (jJ.jG n) [12,48] [(.exit 0,[12])] HV e0 5 [4]) (λi (s:List Mg)=>([.own 4 0 0 s.length,.int .i64 (i:Int)],[.var [I bi,I nx,.own 3 1 0 m],.var [.int .i64 0,.int .i64 0,.jB true []],.var [I id,.jB false l1,.jB false l2],.row 1 5 cs,.row 0 5 (s.map Mv)])) (jN.zip lu)
  (λs x=>s++[yq bi x.1 id x.2]) (λs=>(.exit 0,[.own 4 0 0 s.length],[.var [I bi,I nx,.own 3 1 0 m],.var [.int .i64 0,.int .i64 0,.jB true []],.var [I id,.jB false l1,.jB false l2],.row 1 5 cs,.row 0 5 (s.map Mv)])) (λi s=>s.length=i)
  (λi hi s hs=>by
   have hi':i<jN.length:=aa
   have hi2:i<lu.length:=aa
   refine⟨by simp[hs],?_⟩
   rw[iQ];obtain⟨x,hx⟩:∃x,x=jN[i]:=⟨_,rfl⟩;obtain⟨y,hy⟩:∃y,y=lu[i]:=⟨_,rfl⟩;have OP:=s70 (n:=n) hn bi x id y;simp only[Mv]at OP;rw[<-hx,<-hy];simp(disch:=omega)[round_eq,H6,h2,h3,h11,h46,h47,<-hx,<-hy,OP,hs,Mv]
   done)
  (λs hs=>by
   simp(disch:=omega)[round_eq,H6,h47,hs,hz]
   done) [] rfl
 rw[qK]at this
 simpa[hl]using this
def s29{n:Nat}(hn:134<n)(b:Bo)(jN:ay)(lu:List au)(f g:Bool)(hg:jN.length<=1000000)(hp:lu.length<=1000000)(hc:b.cases.length<=1000000)
  (hi:0<=b.id/\b.id<8) (hx:0<=b.next) :
  (jJ.jG n).p 29 [Bv b,.jB f (jN.map I),.jB g (lu.map AV.str)]=some (.kT [Bv (nX jH b jN lu).1,I (nX jH b jN lu).2.1,.jB (decide (sM jH b jN lu≠0)) ((nX jH b jN lu).2.2.1.map Mv),I (nX jH b jN lu).2.2.2]):=by
 rw[pp 29 rfl hn rfl,jA,jy];have TY:=s66 (n:=134) af b jN lu f g hg hp hc
 have Qs:=λa h=>q67 (n:=134) af a h
 have h41:=λa h=>q68 (n:=134) af a h
 have YO:=λa h=>p69 (n:=134) af a h
 obtain⟨bi,bn,bf,bc⟩:=b;simp only[Bv]at TY hi hx hc⊢;unfold nX
 by_cases hm:sM jH ⟨bi,bn,bf,bc⟩ jN lu=0
 .rw[if_pos hm];rw[hm]at TY;obtain⟨q1,q2,qo3,qo4,qo5,qo6⟩:=zL hm;simp only at qo5 qo6;have Ti:(bn+1)*8+bi=8*(bn+1)+bi:=by omega
  have ez:(jN.zip lu).length=jN.length:=by simp[q2]
  simp(disch:=omega)[c29,ca 66,TY,Qs,h41,YO,szC,szS];rw[l29 (n:=134) af jN lu f g q2 hg _ _ _ _ _ _ _ _ aq aq aq aq aq]
  simp(disch:=omega)[Cv,Ti,ez]
  done
 .rw[if_neg hm];simp(disch:=omega)[c29,ca 66,TY,hm]
open Go.Am Go.Am.Nm Go.Lib Go.Cr
open Go.Am Go.Am.Nm Go.Lib Go.Cr
def Pm(l:ay):Prop:=∀i j (_:i<j) (h:j<l.length),l[i]<l[j]
def Pm.of{l:ay}(h:l.Pairwise (· < ·)):Pm l:=λi j hij hj=>bY.1 h i j aa hj hij
def Da(l:ay)(s:Int):qo l s<=l.length:=gM
variable{n i:Nat}
def Fa{l:ay}(hi:Pm l)(s:Int)(h:i<l.length):i<qo l s↔l[i]<s:=by
 constructor
 .intro hlt;have:=fN hlt
  simpa using this
 .intro hlt;refine iI λhge=>?_
  have oZ:qo l s<l.length:=aa
  have hn:=gm (w:=oZ);have hn':s<=l[qo l s]:=of_decide_eq_true hn
  rcases cG (qo l s) i with h2 | h2
  .have:=hi _ _ h2 h;omega
  .have:qo l s=i:=by omega
   simp only[this]at hn';omega
def XA{l:ay}(hi:Pm l)(s:Int):decide (s∈l)=decide (l[qo l s]? = some s):=by
 by_cases h:s∈l
 .rw[decide_eq_true h];let⟨i,hl,e⟩:=dW h;have hc:qo l s=i:=by
   rcases fZ (qo l s) i with h1 | h1 | h1
   .have h2:qo l s<l.length:=by omega
    have h3:¬l[qo l s]<s:=λe=>by have:=(Fa hi s h2).2 e;omega
    have:=hi _ _ h1 hl;omega
   .exact h1
   .have:=(Fa hi s hl).1 h1;omega
  rw[hc,aG hl,e];simp
 .rw[decide_eq_false h,decide_eq_false λe=>h (aR e)]
def UE(hn:10<n)(x:Int):(jJ.jG n).p 139 [I x]=some (.bool false):=by
 rw[pp 139 rfl hn rfl,jA,jy];simp[afT]
def anO(hn:30<n)(x:Int):(jJ.jG n).p 295 [I x]=some (.bool false):=by
 rw[pp 295 rfl hn rfl,jA,jy];simp[alV]
def anP(hn:29<n)(x y:Int):(jJ.jG n).p 294 [I x,I y]=some (.bool (decide (x<y))):=by
 rw[pp 294 rfl hn rfl,jA,jy];have h1:=UE (n:=29) af x
 have h2:=UE (n:=29) af y
 simp[alW,ca 139,h1]
def half{j:Nat}:bin .shr (.int .u64 ((i:Int)+j)) (.int .u64 1)=some (.int .u64 (((i+j) / 2:Nat):Int)):=by
 have h:((i:Int)+j).fdiv 2=(((i+j) / 2:Nat):Int):=by
  rw[gj _ aa]
  omega
 simp only[bin];rw[<-h];rfl
def aoZ(hn:29<n)(l:ay)(hi:Pm l)(hl:l.length<=1000000)(f:Bool)(s:Int)(e0:Env)(h0:e0 0 = .jB f (l.map I))(h1:e0 1=I s):
  iter (round (jJ.jG n) [7,8] [(.exit 0,[7])] JI e0 0 []) ([.int .i64 0,.int .i64 l.length],[])=some (.exit 0,[.int .i64 (qo l s:Nat)],[]) :=
 EM (f:=round (jJ.jG n) [7,8] [(.exit 0,[7])] JI e0 0 []) (λi j=>([.int .i64 (i:Int),.int .i64 (j:Int)],[])) l.length (qo l s) (Da l s) (λc=>(.exit 0,[.int .i64 (c:Int)],[]))
  (λi j hij hj=>by
   have hh:=half (i:=i) (j:=j);obtain⟨m,Z9⟩:∃m,m=(i+j) / 2:=⟨_,rfl⟩;rw[<-Z9]at hh⊢;have hm:m<l.length:=aa
   have hlt:=Fa hi s hm;obtain⟨x,hx⟩:∃x,x=l[m]:=⟨_,rfl⟩;rw[<-hx]at hlt;have ak7:=anP (n:=n) hn x s
   by_cases h:m<qo l s
   .have CN:x<s:=hlt.1 h;simp(disch:=omega)[round_eq,Fo,h0,h1,wrap_u64,hh,<-hx,ca 294,ak7,h,CN]
   .have CN:¬x<s:=λh'=>h (hlt.2 h')
    simp(disch:=omega)[round_eq,Fo,h0,h1,wrap_u64,hh,<-hx,ca 294,ak7,h,CN])
  (λi hi=>by simp(disch:=omega)[round_eq,Fo]) _ 0 l.length rfl (cH _) (Da l s) (aN _)
def anQ(hn:31<n)(l:ay)(hi:Pm l)(hl:l.length<=1000000)(f:Bool)(s:Int):
  (jJ.jG n).p 277 [.jB f (l.map I),I s]=some (.kT [.int .i64 (qo l s:Nat),.bool (decide (s∈l))]):=by
 rw[pp 277 rfl hn rfl,jA,jy,XA hi];have hc:=Da l s;have h1:=λe0 h0 h1=>aoZ (n:=31) af l hi hl f s e0 h0 h1
 simp[alX];rw[h1 _ rfl rfl]
 by_cases h:qo l s<l.length
 .obtain⟨x,hx⟩:∃x,x=l[qo l s]:=⟨_,rfl⟩;have aqd:=anO (n:=31) af x
  by_cases hxs:x=s
  .simp(disch:=omega)[<-hx,hxs]
  .simp(disch:=omega)[<-hx,ca 295,aqd,hxs]
 .simp(disch:=omega)
open Go.Am Go.Am.Nm Go.Lib Go.Cr
def Nm(X:AH):Prop:=∀(L r:Nat) h0 Y,X.length+2<=r->r<L->j5 L [r] h0 0 (X++Y)=X++j5 L [r] h0 X.length Y
def oH(L:Nat)(R:ax)(h0:AH):∀(A B:AH)(i:Nat),j5 L R h0 i (A++B)=j5 L R h0 i A++j5 L R h0 (i+A.length) B
 | [],B,i=>rfl
 |a::A,B,i=>by
  simp only[bK,j5,oH L R h0 A B (i+1),aQ];rw[show i+1+A.length=i+(A.length+1) by omega]
def Wk(X:AH)(v:Nat)(b:Bo)(i fr:Int)(cs:List Ca)(E:AH):AH:=X ++ .row v 5 (cs.map Cv) :: .var [I b.id,I b.next,.own X.length v 0 cs.length,I i,I fr]::E
variable{n:Nat}
def N2(hn:19<n)(X:AH)(v:Nat)(b:Bo)(i:Nat)(fr:Int)(cs:List Ca)(E:AH)(hi:i<cs.length):
  jM (jJ.jG n) 190 [.ptr (X.length+1) 0 0 0] (Wk X v b i fr cs E)=some (.ptr X.length v i 0,Wk X v b i fr cs E):=by
 rw[ph 190 rfl hn rfl,jy];simp[amc,Wk,hi]
 done
def wkF{X E:AH}(hX:Nm X)(hE:E.all lE=true):
  (∀h0,j5 (X.length+2+E.length+1) [X.length+2+E.length] h0 (X.length+1+1) E=E)/\
  (∀h0 Y,j5 (X.length+2+E.length+1) [X.length+2+E.length] h0 0 (X++Y)=X++j5 (X.length+2+E.length+1) [X.length+2+E.length] h0 X.length Y)/\
  (∀(a b R:AB),List.take (X.length+2+E.length+1) (X++a::b::(E++[R]))=X++a::b::(E++[R]))/\
  (¬(X.length=X.length+2+E.length)/\¬(X.length+1=X.length+2+E.length))/\(X.length+1+1+E.length=X.length+2+E.length)/\
  (∀(a b R:AB),(a::b::(E++[R]))[X.length+2+E.length-X.length]? = some R)/\
  (∀(a b R R':AB),(a::b::(E++[R])).set (X.length+2+E.length-X.length) R'=a::b::(E++[R'])):=by
 refine⟨λh0=>Ec _ _ h0 E _ hE (λr hr=>by simp only[aM]at hr;omega),λh0 Y=>hX _ _ h0 Y aa aa,λa b R=>br aj,⟨aa,aa⟩,aa,λa b R=>?_,λa b R R'=>?_⟩
 .rw[show X.length+2+E.length-X.length=E.length+1+1 by omega];simp
 .rw[show X.length+2+E.length-X.length=E.length+1+1 by omega];simp
def apf(hn:20<n)(X:AH)(hX:Nm X)(v:Nat)(b:Bo)(i:Nat)(fr k:Int)(cs:List Ca)(E:AH)(hE:E.all lE=true)(hi:i<cs.length)(c:Ca)(hc:c=cs[i])(hl:c.de.jN.length<=1000000)(e0:Env)
  (h0:e0 0 = .ptr (X.length+1) 0 0 0) (h1:e0 1=I k) (Tc:e0 13 = .jB c.de.fg (c.de.jN.map I)) (WS:e0 14 = .int .i64 c.de.jN.length) :
  iter (round (jJ.jG n) [5,15] [(.exit 0,[5])] JU e0 (X.length+2+E.length+1) [X.length+2+E.length]) ([.own (X.length+2+E.length) 0 0 0,.int .i64 0],Wk X v b i fr cs (E++[.row 0 5 []])) =
   some (.exit 0,[.own (X.length+2+E.length) 0 0 c.de.jN.length],Wk X v b i fr cs (E++[.row 0 5 ((tu b c.de k).map Mv)])):=by
 have:=jU (f:=round (jJ.jG n) [5,15] [(.exit 0,[5])] JU e0 (X.length+2+E.length+1) [X.length+2+E.length]) (λi' (s:List Mg)=>([.own (X.length+2+E.length) 0 0 s.length,.int .i64 (i':Int)],Wk X v b i fr cs (E++[.row 0 5 (s.map Mv)]))) c.de.jN
  (λs g=>s++[lF b.id g k c.de.id]) (λs=>(.exit 0,[.own (X.length+2+E.length) 0 0 s.length],Wk X v b i fr cs (E++[.row 0 5 (s.map Mv)]))) (λi s=>s.length=i)
  (λj hj s hs=>by
   refine⟨by simp[hs],?_⟩
   obtain⟨x,hx⟩:∃x,x=c.de.jN[j]:=⟨_,rfl⟩;have zj:=N2 (n:=n) aa X v b i fr cs (E++[.row 0 5 (s.map Mv)]) hi
   have Gb:=N3 (n:=n) hn b.id x k c.de.id;let⟨hnE,Hu,uv,hlq,tQ,wq,qy⟩:=wkF hX hE;simp only[Mv]at Gb;rw[<-hx];simp only[Wk]at zj⊢;simp(disch:=omega)[round_eq,Kr,h0,h1,Tc,WS,<-hx,<-hc,Gb,zj,hs,Mv,Cv,MA,Hu,wq,qy,uv,hlq,tQ,oH,hnE]
   done)
  (λs hs=>by
   simp[round_eq,Kr,WS,hs]
   done) [] rfl
 rw[qK]at this
 simpa[tu]using this
def aiy(hn:21<n)(X:AH)(hX:Nm X)(v:Nat)(b:Bo)(i:Nat)(fr k:Int)(cs:List Ca)(E:AH)(hE:E.all lE=true)(hi:i<cs.length)(c:Ca)(hc:c=cs[i])(hl:c.de.jN.length<=1000000):
  jM (jJ.jG n) 191 [.ptr (X.length+1) 0 0 0,I k] (Wk X v b i fr cs E)=some (.own (X.length+2+E.length) 0 0 c.de.jN.length,Wk X v b i fr cs (E++[.row 0 5 ((tu b c.de k).map Mv)])):=by
 rw[ph 191 rfl hn rfl,jy];have zj:=N2 (n:=21) af X v b i fr cs E hi
 have h91:=apf (n:=21) af X hX v b i fr k cs E hE hi c hc hl
 simp only[Wk]at zj h91⊢;have e1:X.length+(E.length+1+1)=X.length+2+E.length:=aa
 have e2:X.length+(E.length+1+1+1)=X.length+2+E.length+1:=aa
 let⟨hnE,Hu,uv,hlq,tQ,wq,qy⟩:=wkF hX hE;simp(disch:=omega)[amb,zj,<-hc,Cv,MA,e1,e2,wq,Hu,uv,hlq,tQ,oH,hnE];rw[h91 _ (by simp(disch:=omega)[hlq]) aq aq aq]
 simp
 done
def aix(hn:23<n)(X:AH)(v:Nat)(b:Bo)(i:Nat)(fr:Int)(cs:List Ca)(E:AH)(hi:i<cs.length)(hl:cs.length<=1000000):
  jM (jJ.jG n) 192 [.ptr (X.length+1) 0 0 0] (Wk X v b i fr cs E)=some (.kT [],Wk X (v+1) b i fr (cs.eraseIdx i) E):=by
 rw[ph 192 rfl hn rfl,jy];have vu:=aoB (n:=23) af
 have e1:i+(cs.length-(i+1))=(cs.eraseIdx i).length:=by rw[iE hi];omega
 simp(disch:=omega)[ama,Wk,vu,qU,e1];rw[fz];simp
def aip(hn:33<n)(X:AH)(v:Nat)(b:Bo)(i:Nat)(fr:Int)(cs:List Ca)(E:AH)(hE:E.all lE=true)(hi:i<cs.length)(c:Ca)(hc:c=cs[i])(hl:c.de.jN.length<=1000000)
  (hh:c.heard.Pairwise (· < ·)) (YH:c.heard.length<=1000000) :
  ∃E',E'.all lE=true/\jM (jJ.jG n) 249 [.ptr (X.length+1) 0 0 0] (Wk X v b i fr cs E)=some (.bool (decide ((lH c.heard fr).length=c.de.jN.length)),Wk X v b i fr (cs.set i {c with fh:=rO c fr,heard:=lH c.heard fr}) E'):=by
 rw[ph 249 rfl hn rfl,jy];have zj:=N2 (n:=33) af X v b i fr cs E hi
 have WU:=anQ (n:=33) af c.heard (Pm.of hh) YH c.fh fr
 have Qs:=λa h=>p67 (n:=33) af a h
 have aqe:=λa h=>aoz (n:=33) af a h
 have oZ:=Da c.heard fr;have e1:X.length+(E.length+1+1)=X.length+2+E.length:=aa
 let⟨di,su,fh,he⟩:=c;simp only at hl hh YH WU oZ;unfold lH rO
 have wq:∀(a b R:AB),(a::b::(E++[R]))[2+E.length]? = some R:=λa b R=>by
  rw[show 2+E.length=E.length+1+1 by omega];simp
 have qy:∀(a b R R':AB),(a::b::(E++[R])).set (2+E.length) R'=a::b::(E++[R']):=λa b R R'=>by
  rw[show 2+E.length=E.length+1+1 by omega];simp
 have apE:∀(a b R:AB),List.take (X.length+2+E.length) (X++a::b::(E++[R]))=X++a::b::E:=λa b R=>by
  rw[show X.length+2+E.length=X.length+(E.length+1+1) by omega,lN]
  simp
 have e2:X.length+2+E.length-X.length=2+E.length:=aa
 have Jv:(yR he fr).length=he.length+1:=by unfold yR;simp;omega
 have Gc:(yR he fr).map I=(he.map I).take (qo he fr)++I fr::(he.map I).drop (qo he fr):=by unfold yR;simp[fT,ia]
 have eo5:List.take (he.length+1) (List.take (qo he fr) (he.map I)++I fr::List.drop (qo he fr) (he.map I))=List.take (qo he fr) (he.map I)++I fr::List.drop (qo he fr) (he.map I):=br aj
 have eo6:∀a:AV,((cs.map Cv).set i a)[i]? = some a:=λa=>by rw[aZ (an hi)]
 by_cases hm:fr∈he
 .refine⟨E,hE,?_⟩;simp only[Wk,if_pos hm,decide_eq_true hm]at zj WU⊢;have:cs.set i ⟨di,su,fh,he⟩=cs:=by rw[hc];exact jc hi
  simp(disch:=omega)[afJ,zj,<-hc,Cv,WU,this];omega
 .refine⟨E++[.qa 1 1 ((yR he fr).map I)],by simp[hE,lE],?_⟩
  simp only[Wk,if_neg hm,decide_eq_false hm]at zj WU⊢;simp(disch:=omega)[afJ,zj,<-hc,Cv,MA,WU,Qs,aqe,rY,e1,apE,e2,wq,qy,Jv,Gc,eo5,eo6];omega
open Go.Am Go.Am.Nm Go.Lib Go.Cr
def aiz{n:Nat}(hn:27<n)(X:AH)(v:Nat)(b:Bo)(i:Nat)(fr:Int)(cs:List Ca)(E:AH)(hi:i<cs.length)(c:Ca)(hc:c=cs[i]):
  jM (jJ.jG n) 182 [.ptr (X.length+1) 0 0 0] (Wk X v b i fr cs E)=some (.jB true ((if c.sure=true then[lF b.id fr 4 c.de.id]else[]).map Mv),Wk X v b i fr cs E):=by
 rw[ph 182 rfl hn rfl,jy];have zj:=N2 (n:=27) af X v b i fr cs E hi
 have Gb:=N3 (n:=27) af b.id fr 4 c.de.id
 simp only[Mv]at Gb;obtain⟨di,su,fh,he⟩:=c;simp only[Wk]at zj⊢;simp only at Gb;cases su
 .simp(disch:=omega)[afN,zj,<-hc,Cv]
 .simp(disch:=omega)[afN,zj,<-hc,Cv,Gb,Mv]
def aiF{n:Nat}(hn:24<n)(X:AH)(hX:Nm X)(v:Nat)(b:Bo)(i:Nat)(fr:Int)(cs:List Ca)(E:AH)(hE:E.all lE=true)(hi:i<cs.length)(hcs:cs.length<=1000000)(c:Ca)(hc:c=cs[i])(hl:c.de.jN.length<=1000000):
  jM (jJ.jG n) 130 [.ptr (X.length+1) 0 0 0] (Wk X v b i fr cs E)=some (if c.sure=true then(.jB true [],Wk X v b i fr cs E)else(.own (X.length+2+E.length) 0 0 c.de.jN.length,Wk X (v+1) b i fr (cs.eraseIdx i) (E++[.row 0 5 ((tu b c.de 6).map Mv)]))):=by
 rw[ph 130 rfl hn rfl,jy];have zj:=N2 (n:=24) af X v b i fr cs E hi
 have h91:=aiy (n:=24) af X hX v b i fr 6 cs E hE hi c hc hl
 have h92:=aix (n:=24) af X v b i fr cs (E++[.row 0 5 ((tu b c.de 6).map Mv)]) hi hcs
 let⟨di,su,fh,he⟩:=c;simp only[Wk]at zj h91 h92⊢;cases su
 .simp(disch:=omega)[afV,zj,<-hc,Cv,h91,h92]
 .simp(disch:=omega)[afV,zj,<-hc,Cv]
def an2{n:Nat}(hn:35<n)(X:AH)(v:Nat)(b:Bo)(i:Nat)(fr:Int)(cs:List Ca)(E:AH)(hE:E.all lE=true)(hi:i<cs.length)(hcs:cs.length<=1000000)(c:Ca)(hc:c=cs[i])(hl:c.de.jN.length<=1000000)
  (hh:c.heard.Pairwise (· < ·)) (YH:c.heard.length<=1000000) :
  ∃v' E',E'.all lE=true/\jM (jJ.jG n) 181 [.ptr (X.length+1) 0 0 0] (Wk X v b i fr cs E)=some (.jB true [],Wk X v' b i fr (if c.sure=true then(if (lH c.heard fr).length=c.de.jN.length then cs.eraseIdx i else cs.set i {c with fh:=rO c fr,heard:=lH c.heard fr})else cs) E'):=by
 rw[ph 181 rfl hn rfl,jy];have zj:=N2 (n:=35) af X v b i fr cs E hi
 let⟨E',hE',Mq⟩:=aip (n:=35) af X v b i fr cs E hE hi c hc hl hh YH
 have hlen:(cs.set i {c with fh:=rO c fr,heard:=lH c.heard fr}).length=cs.length:=ah
 have h92:=aix (n:=35) af X v b i fr (cs.set i {c with fh:=rO c fr,heard:=lH c.heard fr}) E' (by rw[hlen];exact hi) (by rw[hlen];exact hcs)
 have her:(cs.set i {c with fh:=rO c fr,heard:=lH c.heard fr}).eraseIdx i=cs.eraseIdx i:=by rw[List.eraseIdx_set_eq]
 rw[her]at h92;have hw:∀cs',Wk X v b i fr cs' E=X ++ .row v 5 (cs'.map Cv) :: .var [I b.id,I b.next,.own X.length v 0 cs'.length,I i,I fr]::E:=λ_=>rfl
 rw[hw]at Mq zj⊢;cases hsu:c.sure with
 |false =>
  let⟨di,su,fh,he⟩:=c;simp only at hsu;subst hsu;exact⟨v,E,hE,by simp only[Wk];simp(disch:=omega)[aaV,zj,<-hc,Cv]⟩
 |true =>
  by_cases hq:(lH c.heard fr).length=c.de.jN.length
  .refine⟨v+1,E',hE',?_⟩;rw[decide_eq_true hq]at Mq;generalize Wk X v b i fr (cs.set i {c with fh:=rO c fr,heard:=lH c.heard fr}) E'=W at Mq h92
   let⟨di,su,fh,he⟩:=c;simp only at hsu hq;subst hsu;simp(disch:=omega)[aaV,zj,<-hc,Cv,Mq,h92,hq]
  .refine⟨v,E',hE',?_⟩;rw[decide_eq_false hq]at Mq;rw[hsu]at Mq;obtain⟨W,hW⟩:∃W,W=Wk X v b i fr (cs.set i {de:=c.de,sure:=true,fh:=rO c fr,heard:=lH c.heard fr}) E':=⟨_,rfl⟩;simp only[if_true];rw[if_neg hq,<-hW];rw[<-hW]at Mq;clear h92;let⟨di,su,fh,he⟩:=c;simp only at hsu hq;subst hsu;simp(disch:=omega)[aaV,zj,<-hc,Cv,Mq]
def an3{n:Nat}(hn:34<n)(X:AH)(hX:Nm X)(v:Nat)(b:Bo)(i:Nat)(fr:Int)(cs:List Ca)(E:AH)(hE:E.all lE=true)(hi:i<cs.length)(hcs:cs.length<=1000000)(c:Ca)(hc:c=cs[i])(hl:c.de.jN.length<=1000000)
  (hh:c.heard.Pairwise (· < ·)) (YH:c.heard.length<=1000000) :
  ∃E',E'.all lE=true/\jM (jJ.jG n) 180 [.ptr (X.length+1) 0 0 0] (Wk X v b i fr cs E)=some (if c.sure=true then(.jB true ([lF b.id fr 4 c.de.id].map Mv),Wk X v b i fr cs E)else
   if (lH c.heard fr).length=c.de.jN.length then(.own (X.length+2+E'.length) 0 0 c.de.jN.length,Wk X v b i fr (cs.set i {c with sure:=true,fh:=true,heard:=[]}) (E'++[.row 0 5 ((tu b c.de 4).map Mv)]))
   else(.jB true [],Wk X v b i fr (cs.set i {c with fh:=rO c fr,heard:=lH c.heard fr}) E')):=by
 rw[ph 180 rfl hn rfl,jy];have zj:=N2 (n:=34) af X v b i fr cs E hi
 have h74:=aiz (n:=34) af X v b i fr cs E hi c hc
 let⟨E',hE',Mq⟩:=aip (n:=34) af X v b i fr cs E hE hi c hc hl hh YH
 obtain⟨c1,hc1⟩:∃c1:Ca,c1={c with fh:=rO c fr,heard:=lH c.heard fr}:=⟨_,rfl⟩
 obtain⟨c2,yC⟩:∃c2:Ca,c2={c with sure:=true,fh:=true,heard:=[]}:=⟨_,rfl⟩
 rw[<-hc1]at Mq;rw[<-hc1,<-yC];have akC:(cs.set i c2).length=cs.length:=ah
 have h91:=aiy (n:=34) af X hX v b i fr 4 (cs.set i c2) E' hE' (by rw[akC];exact hi) c2 ah (by rw[yC];exact hl)
 have hd:c2.de=c.de:=by rw[yC]
 rw[hd]at h91;refine⟨E',hE',?_⟩;cases hsu:c.sure with
 |true =>
  rw[hsu]at h74;simp only[if_true]at h74⊢;let⟨di,su,fh,he⟩:=c;simp only at hsu;subst hsu;simp only[Wk]at zj h74⊢;simp(disch:=omega)[aaW,zj,h74,<-hc,Cv]
 |false =>
  simp only[aU,if_false];have qy:(cs.set i c1).set i c2=cs.set i c2:=ah
  by_cases hq:(lH c.heard fr).length=c.de.jN.length
  .rw[decide_eq_true hq]at Mq;rw[if_pos hq];let⟨di,su,fh,he⟩:=c;simp only at hsu hq hc1 yC;subst hsu hc1 yC;simp only[Wk,Cv,bL,dK,bQ]at zj h91 Mq⊢;have eo6:∀a:AV,((cs.map Cv).set i a)[i]? = some a:=λa=>by rw[aZ (an hi)]
   simp(disch:=omega)[aaW,zj,<-hc,Cv,Mq,h91,eo6]
   done
  .rw[decide_eq_false hq]at Mq;rw[if_neg hq];obtain⟨W,hW⟩:∃W,W=Wk X v b i fr (cs.set i c1) E':=⟨_,rfl⟩;rw[<-hW]at Mq⊢;clear hc1 yC;let⟨di,su,fh,he⟩:=c;simp only at hsu hq;subst hsu;simp only[Wk]at zj Mq⊢;simp(disch:=omega)[aaW,zj,<-hc,Cv,Mq]
open Go.Am Go.Am.Nm Go.Lib Go.Cr
def anX{n:Nat}(hn:41<n)(c:Ca)(id:Int):jM (jJ.jG n) 189 [Cv c,.ptr 0 0 0 0] [.var [I id]]=some (.bool (decide (c.de.id=id)),[.var [I id]]):=by
 rw[ph 189 rfl hn rfl,jy];simp[amd,Cv]
def anY{n:Nat}(hn:138<n)(l:List Ca)(id:Int)(f:Bool)(hl:l.length<=1000000):
  jM (jJ.jG n) 188 [.jB f (l.map Cv),.fn (.func 189) [] [.ptr 0 0 0 0]] [.var [I id]]=some (I ((l.find? λc=>decide (c.de.id=id)).elim (-1) λ_=>((l.findIdx λc=>decide (c.de.id=id):Nat):Int)),[.var [I id]]):=by
 rw[ph 188 rfl hn rfl,jy]
 have h:∀e0:Env,e0 0 = .jB f (l.map Cv)->e0 1 = .fn (.func 189) [] [.ptr 0 0 0 0]->e0 7 = .int .i64 l.length->iter (round (jJ.jG 138) [8] [(.exit 0,[]),(.ret,[4])] BN e0 1 []) ([.int .i64 0],[.var [I id]])=some ((l.find? λc=>decide (c.de.id=id)).elim (.exit 0,[],[.var [I id]]) λ_=>(.ret,[.int .i64 (l.findIdx λc=>decide (c.de.id=id):Nat)],[.var [I id]])):=λe0 h0 h1 h7 =>
  qS (f:=round (jJ.jG 138) [8] [(.exit 0,[]),(.ret,[4])] BN e0 1 []) (λi=>([.int .i64 (i:Int)],[.var [I id]])) l (λc=>decide (c.de.id=id)) (λi _=>(.ret,[.int .i64 (i:Int)],[.var [I id]])) (.exit 0,[],[.var [I id]])
   (λi hi=>by
    obtain⟨y,hy⟩:∃y,y=l[i]:=⟨_,rfl⟩;rw[<-hy];have YN:=anX (n:=138) af y id
    simp only[Cv]at YN
    by_cases h:y.de.id=id
    .simp only[h,decide_true]at YN;simp[round_eq,xG,h0,h1,h7,hi,<-hy,h,YN,Cv]
    .simp(disch:=omega)[round_eq,xG,h0,h1,h7,hi,<-hy,h,YN,Cv])
   (by simp[round_eq,xG,h0,h1,h7])
 simp[afM];rw[h _ rfl rfl rfl];cases hf:l.find? λc=>decide (c.de.id=id)with
 |none=>simp
 |some y=>simp
def AU(b:Bo)(id:Int):Int:=(b.cases.find? λc=>decide (c.de.id=id)).elim (-1) λ_=>((mb b id:Nat):Int)
def aiG{n:Nat}(hn:139<n)(b:Bo)(id:Int)(hl:b.cases.length<=1000000):(jJ.jG n).p 129 [Bv b,I id]=some (I (AU b id)):=by
 rw[pp 129 rfl hn rfl,jA,jy];have h79:=anY (n:=139) af b.cases id b.fc hl
 unfold AU mb;simp[amo,Bv,h79]
def Jz:List (Int×AV):=[(2,.fn (.func 180) [] []),(3,.fn (.func 130) [] []),(5,.fn (.func 181) [] []),(7,.fn (.func 182) [] [])]
def Nm3(b:Bo)(m:Nat):Nm [.var [I b.id,I b.next,.own 3 0 0 m],.var [.int .i64 0,.int .i64 0,.jB true []],.mp Jz]:=by
 intro L r h0 Y hr hL;simp only[aQ,bq]at hr;have h1:¬3=r:=aa
 have h2:3<L:=aa
 simp[j5,kL,j9,h1,h2,Jz]
 done
def Nm2(b:Bo)(m:Nat):Nm [.var [I b.id,I b.next,.own 2 0 0 m],.var [.int .i64 0,.int .i64 0,.jB true []]]:=by
 intro L r h0 Y hr hL;simp only[aQ,bq]at hr;have h1:¬2=r:=aa
 have h2:2<L:=aa
 simp[j5,kL,j9,h1,h2]
 done
open Go.Am Go.Am.Nm Go.Lib Go.Cr
def OkB(b:Bo):Prop:=b.cases.length<=1000000/\∀c∈b.cases,OkC c/\c.heard.Pairwise (· < ·)
def sh3(a b c d e:AV):Am.shape 3 true [a,b,c,d,e]=some (.agg [a,b,c]):=by simp[Am.shape]
def Im{α:Type}{n:Nat}{l:List α}(h:l.length<=n):l.take n=l:=br h
def Np(b:Bo)(d:De)(k:Int):(tu b d k).length=d.jN.length:=by simp[tu]
def aqh(E:AH)(R a1 a2 Yi Yh ao5:AB):(a1::a2::Yi::Yh::ao5::(E++[R]))[5+E.length]? = some R:=by
 rw[show 5+E.length=E.length+1+1+1+1+1 by omega];simp
def Cz{b:Bo}{id:Int}{c:Ca}(h:(b.cases.find? λc=>decide (c.de.id=id))=some c):∃hi:mb b id<b.cases.length,c=b.cases[mb b id]/\b.cases[mb b id]? = some c/\AU b id=mb b id:=by
 have h1:b.cases[mb b id]? = some c:=by unfold mb;rw[lQ];exact h
 let⟨h2,h3⟩:=aF.1 h1;refine⟨h2,h3.symm,h1,?_⟩;unfold AU;rw[h];rfl
def CA{b:Bo}{id:Int}(h:(b.cases.find? λc=>decide (c.de.id=id))=none):b.cases[mb b id]? = none/\AU b id = -1:=by
 have h1:b.cases[mb b id]? = none:=by unfold mb;rw[lQ];exact h
 refine⟨h1,?_⟩;unfold AU;rw[h];rfl
set_option maxHeartbeats 4000000 in
def ac0{n:Nat}(hn:140<n)(b:Bo)(fr id k:Int)(hk:k=2\/k=3\/k=5\/k=7)(fn fd:Bool)(da:au)(hb:OkB b):∃fo,(jJ.jG n).p 126 [Bv b,Mv ⟨fr,b.id,k,fn,[id],fd,da⟩]=some (.kT [Bv (qY b ⟨fr,b.id,k,fn,[id],fd,da⟩).1,.jB fo ((qY b ⟨fr,b.id,k,fn,[id],fd,da⟩).2.map Mv)]):=by
 rw[pp 126 rfl hn rfl,jA,jy];have h63:=aiG (n:=140) af b id hb.1
 have YO:=λa h=>p69 (n:=140) af a h
 have l2:mz Jz 2 .nh = .fn (.func 180) [] []:=rfl;have l3:mz Jz 3 .nh = .fn (.func 130) [] []:=rfl;have l5:mz Jz 5 .nh = .fn (.func 181) [] []:=rfl;have l7:mz Jz 7 .nh = .fn (.func 182) [] []:=rfl;simp only[Jz]at l2 l3 l5 l7;simp only[Bv]at h63;unfold qY;simp only[aQ,bq,true_and,List.headD_cons];cases hf:b.cases.find? λc=>decide (c.de.id=id)with
 |none =>
  let⟨q1,q2⟩:=CA hf;rw[q2]at h63;rw[q1];have Gb:=N3 (n:=140) af b.id fr 6 id
  simp only[Mv,Bs]at Gb;refine⟨true,?_⟩;obtain rfl | rfl | rfl | rfl:=hk<;>simp(disch:=omega)[MX,Bv,Mv,Bs,mN,l2,l3,l5,l7,h63,Gb]
 |some c =>
  let⟨hi,hc,q1,q2⟩:=Cz hf;rw[q2]at h63;rw[q1];generalize mb b id=i at hi hc q1 h63;obtain⟨⟨hg,-,YH⟩,hh⟩:=hb.2 c (hc▸aS hi);have oZ:=hb.1;have h48:=ac1 (n:=140) af c.de.jN fr hg c.de.fg
  have etk:∀a:AV,List.take b.cases.length ((b.cases.map Cv).set i a)=(b.cases.map Cv).set i a:=λa=>Im ah
  have eal:=λk=>Np b c.de k
  have afd:∀k,List.take c.de.jN.length ((tu b c.de k).map Mv)=(tu b c.de k).map Mv:=λk=>Im (by simp[eal])
  have hg5:=aqh
  by_cases hm:fr∈c.de.jN
  .obtain⟨X,hXe⟩:∃X:AH,X=[.var [I b.id,I b.next,.own 3 0 0 b.cases.length],.var [.int .i64 0,.int .i64 0,.jB true []],.mp Jz]:=⟨_,rfl⟩;have hX:Nm X:=hXe▸Nm3 b b.cases.length;let⟨E,hE,h72⟩:=an3 (n:=140) af X hX 0 b i fr b.cases [] rfl hi oZ c hc hg hh YH
   have WL:=aiF (n:=140) af X hX 0 b i fr b.cases [] rfl hi oZ c hc hg
   let⟨v',E',hE',h73⟩:=an2 (n:=140) af X 0 b i fr b.cases [] rfl hi oZ c hc hg hh YH
   have h74:=aiz (n:=140) af X 0 b i fr b.cases [] hi c hc
   have hl3:X.length=3:=by rw[hXe];rfl
   subst hXe;simp only[Wk,bK,bB,aQ,bq,Nat.reduceAdd,Jz]at h72 WL h73 h74
   cases hsu:c.sure<;>by_cases hq:(lH c.heard fr).length=c.de.jN.length<;>simp only[hsu,hq,aU,if_true,if_false]at h72 WL h73 h74<;>obtain rfl | rfl | rfl | rfl:=hk<;>first
    |(refine⟨true,?_⟩;simp(disch:=omega)[GO,oP,hsu,hq,hm,MX,Bv,Mv,Bs,mN,l2,l3,l5,l7,h63,<-hc,Cv,h48,YO,WL,h72,h73,h74,szC,sh3,etk];done)
    |(refine⟨false,?_⟩;simp(disch:=omega)[GO,oP,hsu,hq,hm,MX,Bv,Mv,Bs,mN,l2,l3,l5,l7,h63,<-hc,Cv,h48,YO,WL,h72,h73,h74,szC,sh3,etk,eal,afd,hg5];done)
  .refine⟨true,?_⟩;obtain rfl | rfl | rfl | rfl:=hk<;>simp(disch:=omega)[hm,MX,Bv,Mv,Bs,mN,l2,l3,l5,l7,h63,<-hc,Cv,h48]
open Go.Am Go.Am.Nm Go.Lib Go.Cr
def aiI{n:Nat}(hn:140<n)(b:Bo)(m:Mg)(hb:OkB b):∃fo,(jJ.jG n).p 126 [Bv b,Mv m]=some (.kT [Bv (qY b m).1,.jB fo ((qY b m).2.map Mv)]):=by
 let⟨fr,to,k,fn,nu,fd,da⟩:=m
 by_cases h1:to=b.id/\nu.length=1/\(k=2\/k=3\/k=5\/k=7)
 .obtain⟨rfl,h2,h3⟩:=h1;obtain⟨id,rfl⟩:∃x,nu=[x]:=by match nu,h2 with | [x],_=>exact⟨x,rfl⟩
  exact ac0 hn b fr id k h3 fn fd da hb
 .refine⟨true,?_⟩;have ht:qY b ⟨fr,to,k,fn,nu,fd,da⟩=(b,[]):=by unfold qY;rw[if_neg h1]
  rw[ht,pp 126 rfl hn rfl,jA,jy]
  by_cases c1:to=b.id
  .by_cases c2 : nu.length = 1
   .have yF:¬k=2/\¬k=3/\¬k=5/\¬k=7:=by
     refine⟨λe=>h1 ⟨c1,c2,by simp[e]⟩,λe=>h1 ⟨c1,c2,by simp[e]⟩,λe=>h1 ⟨c1,c2,by simp[e]⟩,λe=>h1 ⟨c1,c2,by simp[e]⟩⟩
    have hlk:mz [((2:Int),AV.fn (Fn.func 180) [] []),(3,AV.fn (Fn.func 130) [] []),(5,AV.fn (Fn.func 181) [] []),(7,AV.fn (Fn.func 182) [] [])] k .nh = .nh:=by
     simp[mz,Ne.symm yF.1,Ne.symm yF.2.1,Ne.symm yF.2.2.1,Ne.symm yF.2.2.2]
    simp(disch:=omega)[MX,Bv,Mv,Bs,c1,c2,mN,hlk]
    done
   .simp(disch:=omega)[MX,Bv,Mv,Bs,c1,mN]
    done
  .simp[MX,Bv,Mv,Bs,c1,mN]
   done
def s76{n:Nat}(hn:149<n)(b:Bo)(id:Int)(hb:OkB b):∃fo,(jJ.jG n).p 76 [Bv b,I id]=some (.kT [Bv (Co b id).1,.jB fo ((Co b id).2.map Mv)]):=by
 rw[pp 76 rfl hn rfl,jA,jy];have h63:=aiG (n:=149) af b id hb.1
 have YO:=λa h=>p69 (n:=149) af a h
 simp only[Bv]at h63;unfold Co;cases hf:b.cases.find? λc=>decide (c.de.id=id)with
 |none =>
  let⟨q1,q2⟩:=CA hf;rw[q2]at h63;rw[q1];refine⟨true,?_⟩;simp(disch:=omega)[c76,Bv,ca 129,h63]
  done
 |some c =>
  let⟨hi,hc,q1,q2⟩:=Cz hf;rw[q2]at h63;rw[q1];generalize mb b id=i at hi hc q1 h63;obtain⟨⟨hg,-,YH⟩,hh⟩:=hb.2 c (hc▸aS hi);have oZ:=hb.1;have eal:=λk=>Np b c.de k
  have afd:∀k,List.take c.de.jN.length ((tu b c.de k).map Mv)=(tu b c.de k).map Mv:=λk=>Im (by simp[eal])
  have WL:=aiF (n:=149) af [.var [I b.id,I b.next,.own 2 0 0 b.cases.length],.var [.int .i64 0,.int .i64 0,.jB true []]] (Nm2 b b.cases.length) 0 b i 0 b.cases [] rfl hi oZ c hc hg
  simp only[Wk,bK,bB,aQ,bq,Nat.reduceAdd]at WL;cases hsu:c.sure with
  |true =>
   refine⟨true,?_⟩;simp only[hsu,if_true];simp(disch:=omega)[c76,Bv,ca 129,h63,<-hc,Cv,hsu]
   done
  |false =>
   refine⟨false,?_⟩;rw[hsu]at WL;simp only[aU,if_false]at WL;simp only[hsu,aU,if_false,oP];simp(disch:=omega)[c76,Bv,ca 129,h63,<-hc,Cv,hsu,YO,szC,WL,sh3,eal,afd]
   done
open Go.Am Go.Am.Nm Go.Lib Go.Cr
variable{n:Nat}
def aiD(hn:141<n)(l:List Rd)(f:Bool)(hl:l.length<=1000000)(g:FuncId)(cap:List AV)(q:Rd->Bool)(h:AH)(hh:h.all lE=true)
  (hq:∀r,jM (jJ.jG 141) g ([.agg [I r.id,.str r.path]]++cap) h=some (.bool (q r),h)) :
  jM (jJ.jG n) 133 [.jB f (l.map Rv),.fn (.func g) [] cap] h=some (I ((l.find? q).elim (-1) λ_=>((l.findIdx q:Nat):Int)),h):=by
 rw[ph 133 rfl hn rfl,jy]
 have hx:∀e0:Env,e0 0 = .jB f (l.map Rv)->e0 1 = .fn (.func g) [] cap->e0 7 = .int .i64 l.length->iter (round (jJ.jG 141) [8] [(.exit 0,[]),(.ret,[4])] J3 e0 h.length []) ([.int .i64 0],h)=some ((l.find? q).elim (.exit 0,[],h) λ_=>(.ret,[.int .i64 (l.findIdx q:Nat)],h)):=λe0 h0 h1 h7 =>
  qS (f:=round (jJ.jG 141) [8] [(.exit 0,[]),(.ret,[4])] J3 e0 h.length []) (λi=>([.int .i64 (i:Int)],h)) l q (λi _=>(.ret,[.int .i64 (i:Int)],h)) (.exit 0,[],h)
   (λi hi=>by
    obtain⟨y,hy⟩:∃y,y=l[i]:=⟨_,rfl⟩;rw[<-hy];have YN:=hq y;simp only[bK,bB]at YN;have hnp:=kH h.length h h 0 hh;cases hqy:q y
    .rw[hqy]at YN;simp(disch:=omega)[round_eq,FD,h0,h1,h7,<-hy,YN,Rv,hnp]
    .rw[hqy]at YN;simp(disch:=omega)[round_eq,FD,h0,h1,h7,<-hy,YN,Rv])
   (by simp(disch:=omega)[round_eq,FD,h7])
 have hnp:=kH h.length h h 0 hh;simp(disch:=omega)[amm,hnp];rw[hx _ aq aq aq]
 cases hf:l.find? q with
 |none=>simp(disch:=omega)
 |some y=>simp(disch:=omega)
def s81(hn:9<n)(r:Rd)(path:au):jM (jJ.jG n) 81 [.agg [I r.id,.str r.path],.ptr 0 0 0 0] [.var [.str path]]=some (.bool (kr r.path path),[.var [.str path]]):=by
 rw[ph 81 rfl hn rfl,jy];have h56:=s82 (n:=9) af r.path path
 simp[c81,ca 82,h56]
def s80(hn:142<n)(l:List Rd)(f:Bool)(hl:l.length<=1000000)(path:au):
  jM (jJ.jG n) 80 [.jB f (l.map Rv),.fn (.func 81) [] [.ptr 0 0 0 0]] [.var [.str path]]=some (.bool (l.any λr=>kr r.path path),[.var [.str path]]):=by
 rw[ph 80 rfl hn rfl,jy];have Mr:=aiD (n:=142) af l f hl 81 [.ptr 0 0 0 0] (λr=>kr r.path path) [.var [.str path]] rfl (λr=>s81 af r path)
 rw[<-Ag];cases hf:l.find? λr=>kr r.path path with
 |none=>rw[hf]at Mr;simp only[cK]at Mr;simp[c80,Mr]
 |some y=>rw[hf]at Mr;simp only[bw]at Mr;simp[c80,Mr]
def s34(hn:143<n)(p:Pt)(path:au)(hl:p.ready.length<=1000000):(jJ.jG n).p 34 [Pv p,.str path]=some (.bool (nj jH kr p path)):=by
 rw[pp 34 rfl hn rfl,jA,jy];have h53:=s79 (n:=143) af path
 have h54:=s80 (n:=143) af p.ready p.fr hl path
 unfold nj;cases hp:jH path
 .rw[hp]at h53;simp[c34,Pv,ca 79,h53]
 .rw[hp]at h53;simp[c34,Pv,ca 79,h53,h54]
def an1(hn:36<n)(r:Rd)(id:Int)(a b c:AB):jM (jJ.jG n) 183 [.agg [I r.id,.str r.path],.ptr 3 0 0 0] [a,b,c,.var [I id]]=some (.bool (decide (r.id=id)),[a,b,c,.var [I id]]):=by
 rw[ph 183 rfl hn rfl,jy];simp[amg]
def an0(hn:37<n)(k pid fr id:Int)(pr mr:List AV)(c:AB)(E:AH):
  jM (jJ.jG n) 184 [I k,.ptr 0 0 0 0,.ptr 1 0 0 0,.ptr 3 0 0 0] (.var (I pid::pr) :: .var (I fr::mr)::c :: .var [I id]::E)=some (.jB true [Mv (lF pid fr k id)],.var (I pid::pr) :: .var (I fr::mr)::c :: .var [I id]::E):=by
 rw[ph 184 rfl hn rfl,jy];have Gb:=N3 (n:=37) af pid fr k id
 simp only[Mv]at Gb;simp[amf,ca 124,Gb,Mv]
open Go.Am Go.Am.Nm Go.Lib Go.Cr
def anZ{n:Nat}(hn:40<n)(pid:Int)(f fd:Bool)(l:List Rd)(di:ay)(b c d:AB)(i:Nat)(hi:i<l.length)(hl:l.length<=1000000):
  jM (jJ.jG n) 185 [.ptr 0 0 0 0,.ptr 4 0 0 0] [.var [I pid,.jB f (l.map Rv),.jB fd (di.map I)],b,c,d,.var [I i]]=some (.own 5 1 0 (l.eraseIdx i).length,[.var [I pid,.jB f (l.map Rv),.jB fd (di.map I)],b,c,d,.var [I i],.row 1 2 ((l.eraseIdx i).map Rv)]):=by
 rw[ph 185 rfl hn rfl,jy];have h71:=λa h=>ajc (n:=40) af a h
 have h70:=λa h=>aoE (n:=40) af a h
 have e1:i+(l.length-(i+1))=(l.eraseIdx i).length:=by rw[iE hi];omega
 simp(disch:=omega)[ame,h71,h70,qU,szR,e1];rw[fz];simp
set_option maxHeartbeats 4000000 in
def UF{n:Nat}(hn:144<n)(p:Pt)(fr id:Int)(fn fd:Bool)(da:au)(k:Int)(hl:p.ready.length<=1000000)(tQ:p.did.length<=1000000):
  (jJ.jG n).p 127 [Pv p,Mv ⟨fr,p.id,k,fn,[id],fd,da⟩]=some (.kT [Pv (pQ jH kr p ⟨fr,p.id,k,fn,[id],fd,da⟩).1,.jB true ((pQ jH kr p ⟨fr,p.id,k,fn,[id],fd,da⟩).2.1.map Mv),I (pQ jH kr p ⟨fr,p.id,k,fn,[id],fd,da⟩).2.2]):=by
 have hk:k=1\/k=4\/k=6\/(¬k=1/\¬k=4/\¬k=6):=aa
 have h48:=ac1 (n:=144) af p.did id tQ p.fd
 have Mr:=aiD (n:=144) af p.ready p.fr hl 183 [.ptr 3 0 0 0] (λr=>decide (r.id=id)) [.var [I p.id,.jB p.fr (p.ready.map Rv),.jB p.fd (p.did.map I)],.var [I fr,I p.id,I k,.jB fn [I id],.jB fd (Bs da)],.var [.int .i64 0,.jB true [],.jB true []],.var [I id]] (by simp[lE]) (λr=>an1 af r id _ _ _)
 have h68:=λk pr mr c E=>an0 (n:=144) af k p.id fr id pr mr c E
 simp only[Mv]at h68;rw[pp 127 rfl hn rfl,jA,jy];unfold pQ;cases hf:p.ready.find? λr=>decide (r.id=id)with
 |some y =>
  have S9:(p.ready.any λr=>decide (r.id=id))=true:=by rw[<-Ag,hf];rfl
  rw[hf]at Mr;simp only[bw]at Mr
  have hi:(p.ready.findIdx λr=>decide (r.id=id))<p.ready.length:=by
   have h1:p.ready[p.ready.findIdx λr=>decide (r.id=id)]? = some y:=by rw[lQ];exact hf
   exact(aF.1 h1).1
  obtain⟨i,he⟩:∃i,i=p.ready.findIdx λr=>decide (r.id=id):=⟨_,rfl⟩
  rw[<-he]at Mr hi;have h69:=λb c d=>anZ (n:=144) af p.id p.fr p.fd p.ready p.did b c d i hi hl
  have Qs:=λa h=>p67 (n:=144) af a h
  by_cases hd:id∈p.did<;>obtain rfl | rfl | rfl | ⟨k1,k4,k6⟩:=hk<;>first
   |(simp(disch:=omega)[S9,hd,<-he,MW,Pv,Mv,ca 125,h48,Mr,h68,h69,Qs];done)
   |(simp(disch:=omega)[S9,hd,<-he,k1,k4,k6,MW,Pv,Mv,ca 125,h48,Mr,h68,h69,Qs];done)
 |none =>
  have S9:(p.ready.any λr=>decide (r.id=id))=false:=by rw[<-Ag,hf];rfl
  rw[hf]at Mr;simp only[cK]at Mr;have h53:=s79 (n:=144) af da
  have Qt:=s34 (n:=144) af p da hl
  have h71:=λa h=>ajc (n:=144) af a h
  simp only[Pv]at Qt;have htb:=Dq da
  by_cases hd:id∈p.did<;>obtain rfl | rfl | rfl | ⟨k1,k4,k6⟩:=hk<;>first
   |(simp(disch:=omega)[S9,hd,MW,Pv,Mv,ca 125,h48,Mr,h68];done)
   |(simp -implicitDefEqProofs [S9,hd,k1,k4,k6,MW,Pv,Mv,ca 125,h48,Mr,h68];done)
   |(cases hp:jH da<;>cases hq:nj jH kr p da<;>rw[hp]at h53<;>rw[hq]at Qt<;>(simp(disch:=omega)[S9,hd,hp,hq,MW,Pv,Mv,ca 125,h48,Mr,h68,ca 79,h53,htb,ca 34,Qt,h71,szR,Rv];done))
open Go.Am Go.Am.Nm Go.Lib Go.Cr
def aiH{n:Nat}(hn:144<n)(p:Pt)(m:Mg)(hl:p.ready.length<=1000000)(tQ:p.did.length<=1000000):
  (jJ.jG n).p 127 [Pv p,Mv m]=some (.kT [Pv (pQ jH kr p m).1,.jB true ((pQ jH kr p m).2.1.map Mv),I (pQ jH kr p m).2.2]):=by
 let⟨fr,to,k,fn,nu,fd,da⟩:=m
 by_cases h1:to=p.id/\nu.length=1
 .obtain⟨rfl,h2⟩:=h1;obtain⟨id,rfl⟩:∃x,nu=[x]:=by match nu,h2 with | [x],_=>exact⟨x,rfl⟩
  exact UF hn p fr id fn fd da k hl tQ
 .have ht:pQ jH kr p ⟨fr,to,k,fn,nu,fd,da⟩=(p,[],0):=by unfold pQ;rw[if_neg h1]
  rw[ht,pp 127 rfl hn rfl,jA,jy]
  by_cases c1:to=p.id
  .by_cases c2:nu.length=1
   .exact absurd ⟨c1,c2⟩ h1
   .simp(disch:=omega)[MW,Pv,Mv,Bs,c1]
  .simp[MW,Pv,Mv,Bs,c1]
def s73{n:Nat}(hn:137<n)(p:Pt)(hl:p.ready.length<=1000000):(jJ.jG n).p 73 [Pv p]=some (.jB false ((uo p).map Mv)):=by
 rw[pp 73 rfl hn rfl,jA,jy]
 have h:∀e0:Env,e0 1 = .kE [I p.id,.jB p.fr (p.ready.map Rv),.jB p.fd (p.did.map I)]->e0 7 = .jB p.fr (p.ready.map Rv)->e0 8 = .int .i64 p.ready.length->
   iter (round (jJ.jG 137) [3,9] [(.exit 0,[3])] Q4 e0 1 [0]) ([.own 0 0 0 0,.int .i64 0],[.row 0 5 []])=some (.exit 0,[.own 0 0 0 p.ready.length],[.row 0 5 ((uo p).map Mv)]):=λe0 h1 h7 h8=>by
  have:=jU (f:=round (jJ.jG 137) [3,9] [(.exit 0,[3])] Q4 e0 1 [0]) (λi (s:List Mg)=>([.own 0 0 0 s.length,.int .i64 (i:Int)],[.row 0 5 (s.map Mv)])) p.ready
   (λs r=>s++[lF p.id (r.id.tmod 8) 7 r.id]) (λs=>(.exit 0,[.own 0 0 0 s.length],[.row 0 5 (s.map Mv)])) (λi s=>s.length=i)
   (λi hi s hs=>by
    refine⟨by simp[hs],?_⟩
    obtain⟨x,hx⟩:∃x,x=p.ready[i]:=⟨_,rfl⟩;have Gb:=N3 (n:=137) af p.id (x.id.tmod 8) 7 x.id
    simp only[Mv]at Gb;rw[<-hx];simp(disch:=omega)[round_eq,RD,h1,h7,h8,<-hx,Rv,ca 124,Gb,hs,Mv]
    done)
   (λs hs=>by
    simp[round_eq,RD,h8,hs]
    done) [] rfl
  rw[qK]at this
  simpa[uo]using this
 have hal:(uo p).length=p.ready.length:=by simp[uo]
 simp[c73,Pv];rw[h _ rfl rfl rfl];simp[hal]
open Go.Am Go.Am.Nm Go.Lib Go.Cr
def BC{α β:Type}(f:α->List β):∀(l:List α)(s:List β),l.foldl (λs x=>s++f x) s=s++(l.map f).flatten
 | [],s=>ah
 |x::l,s=>by rw[aT,BC f l,bF,gO,cF]
def FQ(b:Bo)(c:Ca)(g:Int)(p:au):(qv b c g p).length<=1:=by
 unfold qv
 by_cases h:g∈c.heard
 .rw[if_pos h];simp
 .rw[if_neg h]
  by_cases h':c.sure=true
  .rw[if_pos h'];simp
  .rw[if_neg h'];simp
def Ad{α β:Type}(f:α->List β)(k:Nat):∀l:List α,(∀x∈l,(f x).length<=k)->(l.map f).flatten.length<=k*l.length
 | [],_=>ah
 |x::l,h=>by
  have h1:=h x (bu ..);have h2:=Ad f k l λy hy=>h y (bt _ hy)
  simp only[bF,gO,aL,aQ,Nat.mul_add,jx];omega
def cells(c:Ca):List AV:=[I c.de.id,.jB c.de.fg (c.de.jN.map I),.jB c.de.fp (c.de.lu.map AV.str),.bool c.sure,.jB c.fh (c.heard.map I)]
def ape{n:Nat}(hn:135<n)(b:Bo)(c:Ca)(hz:c.de.jN.length=c.de.lu.length)(hg:c.de.jN.length<=1000)(hh:c.heard.length<=1000000)(s0:List Mg)(hs0:s0.length<=1000000)(e0:Env)(h1:e0 1 = .kE [I b.id,I b.next,.jB b.fc (b.cases.map Cv)])(h5:e0 5 = .ptr 1 0 0 0)(Bx:e0 17 = .jB c.de.fg (c.de.jN.map I))(WQ:e0 18 = .int .i64 c.de.jN.length):
  iter (round (jJ.jG n) [3,19] [(.exit 2,[3])] Q6 e0 2 [0]) ([.own 0 0 0 s0.length,.int .i64 0],[.row 0 5 (s0.map Mv),.var (cells c)]) =
   some (.exit 2,[.own 0 0 0 (s0++pM b c).length],[.row 0 5 ((s0++pM b c).map Mv),.var (cells c)]):=by
 have hzl:(c.de.jN.zip c.de.lu).length=c.de.jN.length:=by simp[hz]
 have := jU (f := round (jJ.jG n) [3, 19] [(.exit 2, [3])] Q6 e0 2 [0]) (λi (s : List Mg) => ([.own 0 0 0 s.length, .int .i64 (i : Int)], [.row 0 5 (s.map Mv), .var (cells c)])) (c.de.jN.zip c.de.lu)
  (λs x=>s++qv b c x.1 x.2) (λs=>(.exit 2,[.own 0 0 0 s.length],[.row 0 5 (s.map Mv),.var (cells c)])) (λi s=>s.length<=1000000+i)
  (λi hi s hs=>by
   have hi':i<c.de.jN.length:=aa
   have hi2:i<c.de.lu.length:=aa
   rw[iQ];obtain⟨x,hx⟩:∃x,x=c.de.jN[i]:=⟨_,rfl⟩;obtain⟨y,hy⟩:∃y,y=c.de.lu[i]:=⟨_,rfl⟩;rw[<-hx,<-hy];refine⟨by have:=FQ b c x y;simp only[aL];omega,?_⟩
   have h48:=ac1 (n:=n) aa c.heard x hh c.fh
   have Gb:=N3 (n:=n) aa b.id x 4 c.de.id
   have OP:=s70 (n:=n) aa b.id x c.de.id y
   simp only[Mv]at Gb OP;unfold qv
   by_cases hm:x∈c.heard
   .rw[decide_eq_true hm]at h48;rw[if_pos hm];simp(disch:=omega)[round_eq,HY,cells,h5,Bx,WQ,<-hx,ca 125,h48]
    done
   .rw[decide_eq_false hm]at h48;rw[if_neg hm];cases hsu:c.sure
    .simp(disch:=omega)[round_eq,HY,cells,h1,h5,Bx,WQ,<-hx,<-hy,ca 125,h48,hsu,OP,Mv]
     done
    .simp(disch:=omega)[round_eq,HY,cells,h1,h5,Bx,WQ,<-hx,ca 125,h48,hsu,ca 124,Gb,Mv]
     done)
  (λs hs=>by
   simp[round_eq,HY,cells,WQ,hzl]
   done) s0 aa
 rw[BC]at this;exact this
def zi(b:Bo)(c:Ca)(hg:c.de.jN.length<=1000):(pM b c).length<=1000:=by
 have:=Ad (λx:Int×au=>qv b c x.1 x.2) 1 (c.de.jN.zip c.de.lu) λx _=>FQ b c x.1 x.2
 rw[List.length_zip]at this;unfold pM;omega
def OkA(b:Bo):Prop:=b.cases.length<=1000/\∀c∈b.cases,c.de.jN.length=c.de.lu.length/\c.de.jN.length<=1000/\c.heard.length<=1000
def s72{n:Nat}(hn:136<n)(b:Bo)(hb:OkA b):(jJ.jG n).p 72 [Bv b]=some (.jB false ((lR b).map Mv)):=by
 rw[pp 72 rfl hn rfl,jA,jy];let⟨hl,hc⟩:=hb
 have hap:(lR b).length<=1000000:=by
  have:=Ad (pM b) 1000 b.cases λc h=>zi b c (hc c h).2.1
  unfold lR;omega
 have h:∀e0:Env,e0 1 = .kE [I b.id,I b.next,.jB b.fc (b.cases.map Cv)]->e0 9 = .jB b.fc (b.cases.map Cv)->e0 10 = .int .i64 b.cases.length->
   iter (round (jJ.jG 136) [3,11] [(.exit 0,[3])] Q5 e0 1 [0]) ([.own 0 0 0 0,.int .i64 0],[.row 0 5 []])=some (.exit 0,[.own 0 0 0 (lR b).length],[.row 0 5 ((lR b).map Mv)]):=λe0 h1 h9 h10=>by
  have:=jU (f:=round (jJ.jG 136) [3,11] [(.exit 0,[3])] Q5 e0 1 [0]) (λi (s:List Mg)=>([.own 0 0 0 s.length,.int .i64 (i:Int)],[.row 0 5 (s.map Mv)])) b.cases
   (λs c=>s++pM b c) (λs=>(.exit 0,[.own 0 0 0 s.length],[.row 0 5 (s.map Mv)])) (λi s=>s.length<=1000*i)
   (λi hi s hs=>by
    obtain⟨x,hx⟩:∃x,x=b.cases[i]:=⟨_,rfl⟩;let⟨q1,q2,qo3⟩:=hc x (hx▸aS hi);have hal:=zi b x q2;rw[<-hx];refine⟨by simp only[aL];omega,?_⟩
    have KU:=ape (n:=136) af b x q1 q2 aa s aa
    have hsl:s.length<=1000000:=aa
    obtain⟨u,hu⟩:∃u,u=s++pM b x:=⟨_,rfl⟩;rw[<-hu]at KU⊢;simp only[cells]at KU;simp(disch:=omega)[round_eq,RE,h9,h10,<-hx,Cv];rw[KU _ (by simp(disch:=omega)[h1]) aq aq aq]
    simp(disch:=omega)
    done)
   (λs hs=>by
    simp[round_eq,RE,h10]
    done) [] ah
  rw[BC]at this;exact this
 simp[c72,Bv];rw[h _ rfl rfl rfl];simp
open Go.Am Go.Am.Nm Go.Lib Go.Cr
end Go.Proofs.YtaepagegdgdlhaaGreatDoor.X
