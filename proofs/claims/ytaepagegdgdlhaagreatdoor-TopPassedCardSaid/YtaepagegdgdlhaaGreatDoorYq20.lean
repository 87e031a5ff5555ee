/- Part of the proof that TopPassedCard holds. -/
import Derived.Test.YtaepagegdgdlhaaGreatDoorRs20
set_option linter.all false
namespace Go.Proofs.YtaepagegdgdlhaaGreatDoor.Y
open Go.Am Go.Am.Nm Go.Lib Go.Am.Sh
variable{n:Nat}
def s49(hn:181<n)(g:Int):(jJ.jG n).p 49 [.int .i64 g]=some (.jB true [D ⟨[47],g,1⟩]):=by
 rw[pp 49 rfl hn rfl,jA,jy];simp[c49]
def s20(hn:92<n)(s:au):(jJ.jG n).p 20 [.str s]=some (.int .i64 (if jO s=true then 0 else 60)):=by
 rw[pp 20 rfl hn rfl,jA,jy];have h:=s46 (n:=92) af s
 unfold PF at h;unfold jO;cases hs:split s with
 |none=>rw[hs]at h;simp[c20,ca 46,h]
 |some l=>rw[hs]at h;simp[c20,ca 46,h]
def s55(hn:115<n)(g:Int):(jJ.jG n).p 55 [.int .i64 g]=some (.bool (Gq g)):=by
 rw[pp 55 rfl hn rfl,jA,jy];unfold Gq
 by_cases h1:0<=g
 .by_cases h2:g<8
  .simp[c55,h1,h2]
  .simp[c55,h1,h2]
 .simp[c55,h1]
def aoh(hn:15<n)(a b:au):(jJ.jG n).p 120 [.str a,.str b]=some (.int .i64 (compareBytes a b)):=by
 rw[pp 120 rfl hn rfl,jA,jy];have h:(jJ.jG 15).p 177 [.str a,.str b]=some (.int .i64 (compareBytes a b)):=by rw[aoF af];rfl
 simp[ams,ca 177,h]
def aiJ(hn:16<n)(p:P)(s:au):(jJ.jG n).p 119 [D p,.str s]=some (.int .i64 (compareBytes p.pa s)):=by
 rw[pp 119 rfl hn rfl,jA,jy];have h:=aoh (n:=16) af p.pa s
 simp[amt,ca 120,h]
def s22(hn:6<n)(p:P)(s:au)(h:AH):jM (jJ.jG n) 22 [D p,.ptr 0 0 0 0] (.var [.str s]::h)=some (.bool (qC p.pa s),.var [.str s]::(h++[.var [.str p.pa,.int .i64 p.gr,.int .i64 p.ep]])):=by
 rw[ph 22 rfl hn rfl,jy];have h1:=s23 (n:=6) af p.pa s
 simp[c22,ca 23,h1]
abbrev N(i:Nat):AV:=.int .i64 (i:Int)
open Go.Am Go.Am.Nm Go.Lib Go.Am.Sh
def pat(l:List P)(k:Nat):au:=(l[k]?).elim [] P.pa
def mE{l:List P}{k:Nat}(h:k<l.length):pat l k=l[k].pa:=by simp[pat,h]
def aaK{a b:au}:compareBytes a b<0↔jP a b=true:=by
 rw[yW]
 by_cases h:a=b
 .subst h;rw[if_pos rfl,Kp.kU];simp
 .rw[if_neg h];cases jP a b<;>simp
open Go.Am Go.Am.Nm Go.Lib Go.Am.Sh
open Go.Am Go.Am.Nm Go.Lib Go.Am.Sh
def LU{a b:au}:jP a b=true↔¬(jP b a=true\/b=a):=by
 constructor
 .intro h
  rintro(h' | rfl)
  .have:=Kp.wK h h';rw[Kp.kU]at this;cases this
  .rw[Kp.kU]at h;cases h
 .intro h;cases h1:jP a b with
  |true=>rfl
  |false =>
   exfalso;apply h;cases h2:jP b a with
   |true=>exact .inl rfl
   |false=>exact .inr (Kp.GW h2 h1)
open Go.Am Go.Am.Nm Go.Lib Go.Am.Sh
def C4(q:P->Bool){l:List P}{i:Nat}(h:i<l.length):ix q (l.take (i+1)) 0=ix q (l.take i) 0++bif q l[i]then[i]else[]:=by
 rw[bC h,VU];simp only[ix,dz,bE,bM,dZ (gI h)]
def amI(Γ:kP)(g:FuncId)(s:au)(q:P->Bool):Prop:=∀(p:P)(h:AH),jM Γ g [D p,.ptr 0 0 0 0] (.var [.str s]::h)=some (.bool (q p),.var [.str s]::(h++[.var [.str p.pa,.int .i64 p.gr,.int .i64 p.ep]]))
def l21{Γ:kP}(g:FuncId)(s:au)(q:P->Bool)(hg:amI Γ g s q)(l:List P)(hl:l.length<=1000000)(f:Bool)(e0:Env)(h8:e0 8 = .jB f (l.map D))(h9:e0 9 = .int .i64 l.length)(h1:e0 1 = .fn (.func g) [] [.ptr 0 0 0 0]):
  iter (round Γ [5,10] [(.exit 0,[5])] Rs e0 2 [1]) ([.own 1 0 0 0,.int .i64 0],[.var [.str s],.row 0 1 []])=some (.exit 0,[.own 1 0 0 (ix q l 0).length],[.var [.str s],.row 0 1 ((ix q l 0).map N)]):=by
 have:=jU (f:=round Γ [5,10] [(.exit 0,[5])] Rs e0 2 [1]) (λi (a:ax)=>([.own 1 0 0 a.length,.int .i64 (i:Int)],[.var [.str s],.row 0 1 (a.map N)])) (List.range l.length) (λa i=>a++bif (l[i]?).elim false q then[i]else[]) (λa=>(.exit 0,[.own 1 0 0 a.length],[.var [.str s],.row 0 1 (a.map N)])) (λi a=>a=ix q (l.take i) 0)
  (λi hi a ha=>by
   rw[bZ];have hi':i<l.length:=by simpa using hi
   have hal:a.length<=i:=by rw[ha];have:=Be q (l.take i) 0;rw[bM]at this;omega
   obtain⟨x,hx⟩:∃x,x=l[i]:=⟨_,rfl⟩;have hxi:l[i]? = some x:=by rw[hx];exact aG hi'
   rw[hxi];simp only[bw];refine⟨by rw[C4 q hi',<-hx,ha],?_⟩
   have S3:=hg x;simp only[D]at S3;cases hq:q x with
   |true =>
    rw[hq]at S3;simp(disch:=omega)[round_eq,Ni,h8,h9,h1,<-hx,S3]
   |false =>
    rw[hq]at S3;simp(disch:=omega)[round_eq,Ni,h8,h9,h1,<-hx,S3])
  (λa ha=>by simp(disch:=omega)[round_eq,Ni,h9]) [] (by simp[ix])
 simp only[bq,bQ,cW]at this;rw[this]
 have inv:=xm (List.range l.length) (λ(a:ax) i=>a++bif (l[i]?).elim false q then[i]else[]) (λi a=>a=ix q (l.take i) 0) 0 [] (λi hi a ha=>by
  rw[bZ];have hi':i<l.length:=by simpa using hi
  rw[bE]at ha⊢;rw[C4 q hi',ha,aG hi'];rfl) (by simp[ix])
 rw[bE,dU,dB]at inv;rw[inv]
def s21{n:Nat}(hn:93<n)(g:FuncId)(s:au)(q:P->Bool)(hg:amI (jJ.jG 93) g s q)(l:List P)(hl:l.length<=1000000)(f:Bool):
  jM (jJ.jG n) 21 [.jB f (l.map D),.fn (.func g) [] [.ptr 0 0 0 0]] [.var [.str s]]=some (.own 1 0 0 (ix q l 0).length,[.var [.str s],.row 0 1 ((ix q l 0).map N)]):=by
 rw[ph 21 rfl hn rfl,jy];simp[c21];rw[l21 g s q hg l hl f _ rfl rfl rfl];simp
def Ge(l:List P)(s:au):ax:=ix (λp=>qC p.pa s) l 0
def bel(l:List P)(s:au):ax:=ix (λp=>qC s p.pa) l 0
def mI(l:List P)(s:au):Nat:=(Ge l s).getLast?.getD 0
@[simp]def arY(l:ax):(l.map N).all AV.kZ=true:=ah
def s9{n:Nat}(hn:104<n)(l:List P)(hl:l.length<=1000000)(f:Bool)(s:au)(hne:jO s=true->Ge l s≠[]):
  (jJ.jG n).p 9 [.jB f (l.map D),.str s]=some (if jO s=true then .kT [.int .i64 (mI l s:Int),.int .i64 0]else .kT [.int .i64 0,.int .i64 60]):=by
 rw[p9 hn,jA,jy];have Bw:=s20 (n:=104) af s
 cases hp:jO s with
 |false =>
  rw[hp]at Bw;simp(disch:=omega)[c9,ca 20,Bw]
 |true =>
  rw[hp]at Bw;have OP:=s21 (n:=104) af 22 s (λp=>qC p.pa s) (λp h=>s22 af p s h) l hl f
  have Gx:=hne hp;unfold mI;unfold Ge at Gx⊢;have hle:=Be (λp=>qC p.pa s) l 0
  generalize ix (λp=>qC p.pa s) l 0=a at *
  rcases gR a with h0 | ⟨b,x,h0⟩
  .exact absurd h0 Gx
  .simp only[fV]at h0;subst h0;simp only[cZ,bF,bQ,aL,aQ,bq]at OP hle;have hg:(b.map N++[N x])[b.length]? = some (N x):=by simp
   simp(disch:=omega)[c9,ca 20,Bw,OP,hg]
open Go.Am Go.Am.Nm Go.Lib Go.Am.Sh
def US(l:List P)(s:au)(b i:Nat):Nat:=bif qC (pat l i) s&&decide ((pat l b).length<=(pat l i).length)then i else b
def DR(l:List P)(s:au):Nat:=(List.range l.length).foldl (US l s) 0
def lU(l:List P):Prop:=l.length<=1000000/\∀p∈l,p.pa.length<=1000000
variable{n:Nat}
def apl(hn:173<n)(l:List P)(hl:lU l)(f:Bool)(s:au)(hs:s.length<=1000000)(e0:Env)(h0:e0 0 = .jB f (l.map D))(h1:e0 1 = .str s):
  iter (round (jJ.jG n) [8,9] [(.exit 0,[8])] J2 e0 0 []) ([.int .i64 0,.int .i64 0],[])=some (.exit 0,[.int .i64 (DR l s:Nat)],[]):=by
 have:=jU (f:=round (jJ.jG n) [8,9] [(.exit 0,[8])] J2 e0 0 []) (λi (b:Nat)=>([.int .i64 (b:Int),.int .i64 (i:Int)],[])) (List.range l.length) (US l s) (λb=>(.exit 0,[.int .i64 (b:Int)],[])) (λi b=>b<l.length\/l.length=0)
  (λi hi b hb=>by
   rw[bZ];have hi':i<l.length:=by simpa using hi
   have hb':b<l.length:=aa
   obtain⟨x,hx⟩:∃x,x=l[i]:=⟨_,rfl⟩;obtain⟨y,hy⟩:∃y,y=l[b]:=⟨_,rfl⟩;have hxl:=hl.2 _ (aS hi');rw[<-hx]at hxl;have Qt:=aiw (n:=n) aa x.pa s aa aa
   have p1:=mE hi';have p2:=mE hb';rw[<-hx]at p1;rw[<-hy]at p2;have hl6:=hl.1;unfold US;rw[p1,p2];cases ha:qC x.pa s with
   |false =>
    rw[ha]at Qt;refine⟨.inl hb',?_⟩;simp(disch:=omega)[round_eq,BV,h0,h1,<-hx,Qt]
   |true =>
    rw[ha]at Qt
    by_cases hle:y.pa.length<=x.pa.length
    .rw[decide_eq_true hle];refine⟨.inl hi',?_⟩;simp(disch:=omega)[round_eq,BV,h0,h1,<-hx,<-hy,Qt]
    .rw[decide_eq_false hle];refine⟨.inl hb',?_⟩;simp(disch:=omega)[round_eq,BV,h0,h1,<-hx,<-hy,Qt])
  (λb hb=>by simp(disch:=omega)[round_eq,BV,h0]) 0 aa
 simp only[cW]at this;rw[this];rfl
def acY(hn:174<n)(l:List P)(hl:lU l)(f:Bool)(s:au)(hs:s.length<=1000000):
  (jJ.jG n).p 161 [.jB f (l.map D),.str s]=some (if jO s=true then .kT [.int .i64 (DR l s:Nat),.int .i64 0]else .kT [.int .i64 0,.int .i64 60]):=by
 rw[pp 161 rfl hn rfl,jA,jy];have wD:=Li (n:=174) af s aa
 unfold PF at wD;unfold jO;cases hp:split s with
 |none =>
  rw[hp]at wD;simp[afS,ca 163,wD]
 |some w =>
  rw[hp]at wD;simp[afS,ca 163,wD];rw[apl af l hl f s hs _ rfl rfl]
  simp
def aph(hn:173<n)(l:List P)(hl:lU l)(f:Bool)(s:au)(hs:s.length<=1000000)(e0:Env)(h0:e0 0 = .jB f (l.map D))(h1:e0 1 = .str s)(h7:e0 7 = .int .i64 0):
  iter (round (jJ.jG n) [5,8] [(.exit 0,[5])] Fg e0 1 [0]) ([.own 0 0 0 0,.int .i64 0],[.row 0 1 []])=some (.exit 0,[.own 0 0 0 (bel l s).length],[.row 0 1 ((bel l s).map N)]):=by
 have:=jU (f:=round (jJ.jG n) [5,8] [(.exit 0,[5])] Fg e0 1 [0]) (λi (a:ax)=>([.own 0 0 0 a.length,.int .i64 (i:Int)],[.row 0 1 (a.map N)])) (List.range l.length) (λa i=>a++bif (l[i]?).elim false (λp=>qC s p.pa)then[i]else[]) (λa=>(.exit 0,[.own 0 0 0 a.length],[.row 0 1 (a.map N)])) (λi a=>a=ix (λp=>qC s p.pa) (l.take i) 0)
  (λi hi a ha=>by
   rw[bZ];have hi':i<l.length:=by simpa using hi
   have hl6:=hl.1;have hal:a.length<=i:=by rw[ha];have:=Be (λp=>qC s p.pa) (l.take i) 0;rw[bM]at this;omega
   obtain⟨x,hx⟩:∃x,x=l[i]:=⟨_,rfl⟩;have hxl:=hl.2 _ (aS hi');rw[<-hx]at hxl;have hxi:l[i]? = some x:=by rw[hx];exact aG hi'
   have Qt:=aiw (n:=n) aa s x.pa aa aa
   rw[hxi];simp only[bw];refine⟨by rw[C4 _ hi',<-hx,ha],?_⟩
   cases hq:qC s x.pa with
   |true =>
    rw[hq]at Qt;simp(disch:=omega)[round_eq,ze,h0,h1,h7,<-hx,ca 232,Qt]
   |false =>
    rw[hq]at Qt;simp(disch:=omega)[round_eq,ze,h0,h1,h7,<-hx,ca 232,Qt])
  (λa ha=>by simp(disch:=omega)[round_eq,ze,h0]) [] (by simp[ix])
 simp only[bq,bQ,cW]at this;rw[this]
 have inv:=xm (List.range l.length) (λ(a:ax) i=>a++bif (l[i]?).elim false (λp=>qC s p.pa)then[i]else[]) (λi a=>a=ix (λp=>qC s p.pa) (l.take i) 0) 0 [] (λi hi a ha=>by
  rw[bZ];have hi':i<l.length:=by simpa using hi
  rw[bE]at ha⊢;rw[C4 _ hi',ha,aG hi'];rfl) (by simp[ix])
 rw[bE,dU,dB]at inv;rw[inv];rfl
def aiB(hn:200<n)(l:List P)(hl:lU l)(f:Bool)(s:au)(hs:s.length<=1000000):
  ∃g,(jJ.jG n).p 169 [.jB f (l.map D),.str s]=some (.jB g (if jO s=true then(bel l s).map N else[])):=by
 rw[pp 169 rfl hn rfl,jA,jy];have wD:=Li (n:=200) af s aa
 unfold PF at wD;unfold jO;cases hp:split s with
 |none =>
  rw[hp]at wD
  have ao2:∀(e0:Env),e0 0 = .jB f (l.map D)->e0 7 = .int .i64 60->iter (round (jJ.jG 200) [5,8] [(.exit 0,[5])] Fg e0 1 [0]) ([.own 0 0 0 0,.int .i64 0],[.row 0 1 []])=some (.exit 0,[.own 0 0 0 0],[.row 0 1 []]):=by
   intro e0 h0 h7;rw[iter_eq]
   by_cases hl0:0<l.length
   .simp[round_eq,ze,h0,h7,hl0]
   .simp[round_eq,ze,h0,hl0]
  refine⟨false,?_⟩;simp[afQ,ca 163,wD];rw[ao2 _ rfl rfl];simp
 |some w =>
  rw[hp]at wD;refine⟨false,?_⟩;simp[afQ,ca 163,wD];rw[aph af l hl f s hs _ rfl rfl rfl]
  simp
def U5(l:List P)(s:au):Int:=((l.find? λp=>decide (p.pa=s)).elim (-1) λ_=>((l.findIdx λp=>decide (p.pa=s):Nat):Int))
def acX(hn:189<n)(l:List P)(hl:l.length<=1000000)(f:Bool)(s:au):(jJ.jG n).p 166 [.jB f (l.map D),.str s]=some (.int .i64 (U5 l s)):=by
 rw[pp 166 rfl hn rfl,jA,jy]
 have apj:∀(e0:Env),e0 0 = .jB f (l.map D)->e0 1 = .str s->iter (round (jJ.jG 189) [5] [(.exit 0,[]),(.ret,[4])] JY e0 0 []) ([.int .i64 0],[])=some ((l.find? λp=>decide (p.pa=s)).elim (.exit 0,[],[]) λ_=>(.ret,[.int .i64 ((l.findIdx λp=>decide (p.pa=s):Nat):Int)],[])):=by
  intro e0 h0 h1
  have:=qS (f:=round (jJ.jG 189) [5] [(.exit 0,[]),(.ret,[4])] JY e0 0 []) (λi=>([.int .i64 (i:Int)],[])) l (λp=>decide (p.pa=s)) (λi _=>(.ret,[.int .i64 (i:Int)],[])) (.exit 0,[],[])
   (λi hi=>by
    obtain⟨x,hx⟩:∃x,x=l[i]:=⟨_,rfl⟩;rw[<-hx]
    by_cases hs:x.pa=s
    .simp(disch:=omega)[round_eq,FA,h0,h1,<-hx,hs,lB]
    .simp(disch:=omega)[round_eq,FA,h0,h1,<-hx,hs,lB])
   (by simp[round_eq,FA,h0])
  rw[<-this];rfl
 unfold U5;simp[amj];rw[apj _ rfl rfl];cases l.find? λp=>decide (p.pa=s)<;>simp
open Go.Am Go.Am.Nm Go.Lib Go.Am.Sh
variable{n i:Nat}
def half{j:Nat}:bin .shr (.int .u64 ((i:Int)+j)) (.int .u64 1)=some (.int .u64 (((i+j) / 2:Nat):Int)):=by
 have h:((i:Int)+j).fdiv 2=(((i+j) / 2:Nat):Int):=by
  rw[gj _ aa]
  omega
 simp only[bin];rw[<-h];rfl
def Inc(l:List P):Prop:=∀i j,i<j->j<l.length->jP (pat l i) (pat l j)=true
def cnt(l:List P)(s:au):Nat:=l.findIdx λp=>!jP p.pa s
def qA(l:List P)(s:au):Bool:=decide (cnt l s<l.length/\pat l (cnt l s)=s)
def xE(l:List P)(s:au):cnt l s<=l.length:=gM
def qp{l:List P}(hi:Inc l)(s:au)(h:i<l.length):i<cnt l s↔jP (pat l i) s=true:=by
 constructor
 .intro hc;have:=fN hc;rw[mE h]
  simpa using this
 .intro hc
  rcases cG i (cnt l s)with h' | h'
  .exact h'
  .exfalso;have oZ:cnt l s<l.length:=by omega
   have hn:=gm (w:=oZ)
   have hn':jP (pat l (cnt l s)) s=false:=by
    simp only[cv]at hn;rw[mE oZ];exact hn
   rcases cG (cnt l s) i with h2 | h2
   .have:=Kp.wK (hi _ _ h2 h) hc;rw[hn']at this;cases this
   .have:cnt l s=i:=by omega
    rw[this,hc]at hn';cases hn'
def apn(hn:16<n)(l:List P)(hi:Inc l)(hl:l.length<=1000000)(f:Bool)(s:au)(e0:Env)(h0:e0 0 = .jB f (l.map D))(h1:e0 1 = .str s)(h2:e0 2 = .fn (.func 119) [] []):
  iter (round (jJ.jG n) [9,10] [(.exit 0,[9])] J6 e0 0 []) ([.int .i64 0,.int .i64 l.length],[])=some (.exit 0,[.int .i64 (cnt l s:Nat)],[]) :=
 EM (f:=round (jJ.jG n) [9,10] [(.exit 0,[9])] J6 e0 0 []) (λi j=>([.int .i64 (i:Int),.int .i64 (j:Int)],[])) l.length (cnt l s) (xE l s) (λc=>(.exit 0,[.int .i64 (c:Int)],[]))
  (λi j hij hj=>by
   have hh:=half (i:=i) (j:=j);obtain⟨m,Z9⟩:∃m,m=(i+j) / 2:=⟨_,rfl⟩;rw[<-Z9]at hh⊢;have hm:m<l.length:=aa
   obtain⟨x,hx⟩:∃x,x=l[m]:=⟨_,rfl⟩;have hlt:=qp hi s hm;have hp:=mE hm;rw[<-hx]at hp;rw[hp]at hlt;have h63:=aiJ (n:=n) hn x s;simp only[D]at h63;have hc:=aaK (a:=x.pa) (b:=s)
   by_cases h:m<cnt l s
   .have CN:compareBytes x.pa s<0:=hc.2 (hlt.1 h);simp(disch:=omega)[round_eq,FG,h0,h1,h2,wrap_u64,hh,<-hx,ca 119,h63,h,CN]
   .have CN:¬compareBytes x.pa s<0:=λh'=>h (hlt.2 (hc.1 h'))
    simp(disch:=omega)[round_eq,FG,h0,h1,h2,wrap_u64,hh,<-hx,ca 119,h63,h,CN])
  (λi hi=>by simp(disch:=omega)[round_eq,FG]) _ 0 l.length rfl (cH _) (xE l s) (aN _)
def XE{a b:au}:decide (compareBytes a b=0)=decide (a=b):=by
 rw[yW]
 by_cases h:a=b
 .simp[h]
 .rw[if_neg h];cases jP a b<;>simp[h]
def aoi(hn:116<n)(l:List P)(hi:Inc l)(hl:l.length<=1000000)(f:Bool)(s:au):
  jM (jJ.jG n) 118 [.jB f (l.map D),.str s,.fn (.func 119) [] []] []=some (.kT [.int .i64 (cnt l s:Nat),.bool (qA l s)],[]):=by
 rw[ph 118 rfl hn rfl,jy];have hc:=xE l s;have h1:=apn (n:=116) af l hi hl f s
 simp[amu];rw[h1 _ rfl rfl rfl];unfold qA
 by_cases h:cnt l s<l.length
 .obtain⟨x,hx⟩:∃x,x=l[cnt l s]:=⟨_,rfl⟩;have hp:=mE h;rw[<-hx]at hp;have h63:=aiJ (n:=116) af x s
  simp only[D]at h63;have hz:=XE (a:=x.pa) (b:=s);simp[h,<-hx,ca 119,h63,hp,hz]
 .simp[h]
def s56(hn:117<n)(l:List P)(hi:Inc l)(hl:l.length<=1000000)(f:Bool)(s:au):
  (jJ.jG n).p 56 [.jB f (l.map D),.str s]=some (.kT [.int .i64 (cnt l s:Nat),.bool (qA l s)]):=by
 rw[pp 56 rfl hn rfl,jA,jy];have h:=aoi (n:=117) af l hi hl f s
 simp[c56,h]
def acS{l:List P}(h:i<l.length)(a:AV):((l.map D).set i a)[i]? = some a:=by simp[h]
def oD(l:List P)(i:Nat)(e:Int):List P:=(l[i]?).elim l λx=>l.set i ⟨x.pa,x.gr,e⟩
def pU(l:List P)(i:Nat)(g:Int):List P:=(l[i]?).elim l λx=>l.set i ⟨x.pa,g,x.ep+1⟩
def s58(hn:7<n)(l:List P)(i:Nat)(hi:i<l.length)(g:Int)(he:∀p∈l,0<=p.ep/\p.ep<=1099511627776):
  jM (jJ.jG n) 58 [.ptr 1 0 i 0,.ptr 0 0 0 0] [.var [.int .i64 g],.row 0 3 (l.map D)]=some (.kT [],[.var [.int .i64 g],.row 0 3 ((pU l i g).map D)]):=by
 rw[ph 58 rfl hn rfl,jy];unfold pU;rw[aG hi];obtain⟨x,hx⟩:∃x,x=l[i]:=⟨_,rfl⟩;let⟨he1,NF⟩:=he _ (aS hi);rw[<-hx]at he1 NF⊢;have hst:=λa=>acS hi a
 simp(disch:=omega)[c58,<-hx,hst]
def acp(Γ:kP)(g:FuncId)(e:Int)(l l':List P)(i:Nat):Prop:=jM Γ g [.ptr 1 0 i 0,.ptr 0 0 0 0] [.var [.int .i64 e],.row 0 3 (l.map D)]=some (.kT [],[.var [.int .i64 e],.row 0 3 (l'.map D)])
def s57(hn:119<n)(g:FuncId)(e:Int)(l l':List P)(i:Nat)(hi:i<l.length)(hl:l.length<=1000000)(ht:acp (jJ.jG 119) g e l l' i)(f:Bool):
  jM (jJ.jG n) 57 [.jB f (l.map D),.int .i64 i,.fn (.func g) [] [.ptr 0 0 0 0]] [.var [.int .i64 e]]=some (.own 1 0 0 l.length,[.var [.int .i64 e],.row 0 3 (l'.map D)]):=by
 rw[ph 57 rfl hn rfl,jy];have TY:=λargs h=>aoJ (n:=119) af args h
 unfold acp at ht;simp(disch:=omega)[c57,TY,hi,ht]
open Go.Am Go.Am.Nm Go.Lib Go.Am.Sh
def NU:split [47]=some []:=af
def uY{p:au}:qC [47] p=jO p:=by
 unfold qC jO;rw[NU];cases split p<;>simp
structure jK(l:List P):Prop where
 ne:0<l.length
 le:l.length<=16
 root:pat l 0=[47]
 ok:∀p∈l,uH p=true
 inc:Inc l
variable{l:List P}{s:au}
def jK.ep(h:jK l):∀p∈l,1<=p.ep/\p.ep<=1099511627776:=λp hp=>by
 have:=h.ok p hp;simp only[uH,okE,aH,decide_eq_true_eq]at this;exact this.2
def jK.gr(h:jK l):∀p∈l,0<=p.gr/\p.gr<8:=λp hp=>by
 have:=h.ok p hp;simp only[uH,Gq,aH,decide_eq_true_eq]at this;exact this.1.2
def jK.pa(h:jK l):∀p∈l,jO p.pa=true:=λp hp=>by
 have:=h.ok p hp;simp only[uH,aH]at this;exact this.1.1
def lq{i:Nat}:i∈Ge l s↔i<l.length/\qC (pat l i) s=true:=by
 unfold Ge;rw[Om]
 constructor
 .rintro⟨p,_,h1,h2⟩
  rw[js]at h1;have hlt:=(aF.1 h1).1;refine⟨hlt,?_⟩;unfold pat;rw[h1];exact h2
 .rintro⟨h1,h2⟩
  rw[mE h1]at h2;exact⟨l[i],cH _,by rw[js];exact aG h1,h2⟩
def jK.KF(h:jK l)(hs:jO s=true):Ge l s≠[]:=by
 have:0∈Ge l s:=lq.2 ⟨h.ne,by rw[h.root,uY];exact hs⟩
 intro h0;rw[h0]at this;cases this
def C2(h:Ge l s≠[]):mI l s∈Ge l s:=by
 unfold mI;rw[fJ h];exact List.getLast_mem h
def jK.of_lt(h:jK l)(hs:jO s=true):mI l s<l.length:=(lq.1 (C2 (h.KF hs))).1
def yg(l:List P)(i:Nat):Int:=(l[i]?).elim 0 P.ep
def vH{k:Nat}(h:k<l.length):yg l k=l[k].ep:=by simp[yg,h]
def lM(l:List P)(i:Nat)(e:Int):(oD l i e).length=l.length:=by
 unfold oD;cases l[i]? <;> simp
def DD(l:List P)(i:Nat)(e:Int):(pU l i e).length=l.length:=by
 unfold pU;cases l[i]? <;> simp
def Gu(l:List P)(c:Nat)(x:P):List P:=l.take c++x::l.drop c
def E7(l:List P)(c:Nat):List P:=l.take c++l.drop (c+1)
def rI(l:List P)(s:au)(g:Int):List P×Int :=
 if Gq g=false then(l,1)else if jO s=false then(l,60)else if qA l s=true then(l,71)else if 16<=l.length\/1099511627776<=yg l (mI l s)then(l,76)else
  (Gu (oD l (mI l s) (yg l (mI l s)+1)) (cnt l s) ⟨s,g,yg l (mI l s)+1⟩,0)
def qg(l:List P)(s:au):List P×Int :=
 if jO s=false then(l,60)else if qA l s=false\/cnt l s=0 then(l,180)else
  if 1099511627776<=max (yg l (cnt l s)) (yg l (mI l ((sO s).elim [] (·.2))))then(l,76)else
  (E7 (oD l (mI l ((sO s).elim [] (·.2))) (max (yg l (cnt l s)) (yg l (mI l ((sO s).elim [] (·.2))))+1)) (cnt l s),0)
def kD(l:List P)(s:au)(g:Int):List P×Int :=
 if Gq g=false then(l,1)else if jO s=false then(l,60)else if qA l s=false then(l,180)else if 1099511627776<=yg l (cnt l s)then(l,76)else(pU l (cnt l s) g,0)
def s18{n:Nat}(hn:228<n)(l:List P)(hr:jK l)(f:Bool)(s:au)(g:Int):
  (jJ.jG n).p 18 [.jB f (l.map D),.str s,.int .i64 g]=some (.kT [.jB (f && !decide ((kD l s g).2=0)) ((kD l s g).1.map D),.int .i64 (kD l s g).2]):=by
 rw[pp 18 rfl hn rfl,jA,jy];have hl:=hr.le;have WN:=s55 (n:=228) af g
 have Bw:=s20 (n:=228) af s
 have h48:=s56 (n:=228) af l hr.inc aa f s
 unfold kD;cases hg:Gq g with
 |false =>
  rw[hg]at WN;simp(disch:=omega)[c18,ca 55,WN]
 |true =>
  rw[hg]at WN;cases hp:jO s with
  |false =>
   rw[hp]at Bw;simp(disch:=omega)[c18,ca 55,WN,ca 20,Bw]
  |true =>
   rw[hp]at Bw;cases hf:qA l s with
   |false =>
    rw[hf]at h48;simp(disch:=omega)[c18,ca 55,WN,ca 20,Bw,ca 56,h48]
   |true =>
    rw[hf]at h48;have hc:cnt l s<l.length:=by
     unfold qA at hf;exact(of_decide_eq_true hf).1
    obtain⟨x,hx⟩:∃x,x=l[cnt l s]:=⟨_,rfl⟩;have he:=vH hc;let⟨e1,e2⟩:=hr.ep _ (aS hc);rw[<-hx]at he e1 e2
    by_cases hE:1099511627776<=x.ep
    .simp(disch:=omega)[c18,ca 55,WN,ca 20,Bw,ca 56,h48,<-hx,he,hE]
    .have Gb:=s57 (n:=228) af 58 g l (pU l (cnt l s) g) (cnt l s) hc aa (s58 af l _ hc _ λp hp=>by have:=hr.ep p hp;omega) f
     have hsl:=DD l (cnt l s) g;generalize pU l (cnt l s) g=l' at *
     simp(disch:=omega)[c18,ca 55,WN,ca 20,Bw,ca 56,h48,<-hx,he,hE,Gb,hsl]
open Go.Am Go.Am.Nm Go.Lib Go.Am.Sh
def qT{l:List P}{s:au}(h:qA l s=true):cnt l s<l.length/\pat l (cnt l s)=s:=by
 unfold qA at h;exact of_decide_eq_true h
def KM(s:au):au:=(sO s).elim [] (·.2)
def yQ{l:List au}(h1:l.length<=12)(h2:l.all jL=true):jO (jn l)=true:=by
 unfold jO;rw[oq h1 h2];rfl
def Ij{s:au}(hs:jO s=true)(hne:s≠[47]):∃m x,split s=some (m++[x])/\sO s=some (x,jn m)/\KM s=jn m/\m.length<=11/\m.all jL=true/\jO (jn m)=true:=by
 unfold jO at hs;cases hq:split s with
 |none=>rw[hq]at hs;cases hs
 |some l =>
  let⟨h1,h2,h3⟩:=k9 hq
  rcases gR l with h0 | ⟨m,x,h0⟩
  .exfalso;rw[h0]at h1;exact hne h1.symm
  .simp only[fV]at h0;subst h0;have m1:m.length<=11:=by simp at h2;omega
   have m2:m.all jL=true:=by
    simp only[fQ,aH]at h3;exact h3.1
   have hl:sO s=some (x,jn m):=by unfold sO;rw[hq];simp
   exact⟨m,x,rfl,hl,by unfold KM;rw[hl];rfl,m1,m2,yQ aa m2⟩
def jK.Iv{l:List P}(h:jK l){s:au}(hf:qA l s=true):cnt l s=0↔s=[47]:=by
 let⟨h1,h2⟩:=qT hf
 constructor
 .intro h0;rw[h0,h.root]at h2;exact h2.symm
 .intro h0
  rcases cM (cnt l s)with h' | h'
  .exact h'
  .have:=h.inc 0 _ h' h1;rw[h2,h0,h.root,Kp.kU]at this;cases this
open Go.Am Go.Am.Nm Go.Lib Go.Am.Sh
def LV:∀(x:au)(b:UInt8)(t:au),jP x (x++b::t)=true
 | [],b,t=>rfl
 |a::x,b,t=>by
  rw[bK,Kp.sx];exact .inr ⟨rfl,LV x b t⟩
variable{s b:au}
def xd{a:au}(h:a <+: b)(hne:a≠b):jP a b=true:=by
 obtain⟨t,rfl⟩:=h;cases t with
 |nil=>exact absurd (dz a).symm hne
 |cons c t=>exact LV a c t
def Ep{a:au}(h:jP a b=true):jP b a=false:=by
 cases h':jP b a with
 |false=>rfl
 |true=>exact absurd (.inl h') (LU.1 h)
def C3{a:au}(h:jP a b=true):a≠b:=by
 rintro rfl
 rw[Kp.kU]at h;cases h
def VT{m:List au}(k:Nat):jn (m.take k) <+: jn m:=by
 by_cases h0:m=[]
 .subst h0;simp
 .by_cases hk : 0 < k
  .obtain⟨h1,_⟩:jn (m.take k)=(jn m).take (jn (m.take k)).length/\_:=by
    have ht:m.take k≠[]:=by
     intro h
     rcases List.take_eq_nil_iff.1 h with h | h
     .omega
     .exact h0 h
    rw[<-tO h0,<-tO ht]
    have e:joinTail [47] m=joinTail [47] (m.take k)++joinTail [47] (m.drop k):=by
     unfold joinTail;rw[<-List.flatten_append,<-cZ,dF]
    rw[e];exact⟨ah,trivial⟩
   rw[h1];exact List.take_prefix _ _
  .have:k=0:=by omega
   subst this;have hj:jn m=47::join m [47]:=by unfold jn;rw[if_neg h0]
   rw[hj];exact⟨join m [47],rfl⟩
def od{a:au}:qC a s=true↔∃(S:List au) (k:Nat),split s=some S/\k<=S.length/\a=jn (S.take k):=by
 unfold qC
 constructor
 .intro h;cases ha:split a with
  |none=>rw[ha]at h;cases h
  |some A =>
   cases hs:split s with
   |none=>rw[ha,hs]at h;cases h
   |some S =>
    rw[ha,hs]at h;let⟨h1,h2⟩:=of_decide_eq_true h;exact⟨S,A.length,rfl,h1,by rw[<-h2];exact(k9 ha).1.symm⟩
 .rintro⟨S,k,hs,hk,rfl⟩
  let⟨h1,h2,h3⟩:=k9 hs
  have ht:(S.take k).all jL=true:=by
   rw[aO]at h3⊢;exact λx hx=>h3 x (cm hx)
  have hl:(S.take k).length=k:=aj
  rw[oq aa ht,hs]
  simp only[hl];exact decide_eq_true ⟨hk,trivial⟩
def tW{a:au}(h:qC a s=true):a <+: s:=by
 obtain⟨S,k,hs,hk,rfl⟩:=od.1 h;have:=VT (m:=S) k;rw[(k9 hs).1]at this;exact this
def FT(h:jO s=true):qC s s=true:=by
 unfold jO at h;cases hs:split s with
 |none=>rw[hs]at h;cases h
 |some S=>exact od.2 ⟨S,S.length,hs,aN _,by rw[dB];exact(k9 hs).1.symm⟩
def Ia{a:au}(h1:qC a b=true)(h2:qC b s=true):qC a s=true:=by
 obtain⟨S,k,hs,hk,rfl⟩:=od.1 h2;obtain⟨B,j,hb,hj,rfl⟩:=od.1 h1;let⟨g1,g2,g3⟩:=k9 hs;have hB:B=S.take k:=by
  let⟨b1,b2,X2⟩:=k9 hb
  have ht:(S.take k).all jL=true:=by
   rw[aO]at g3⊢;exact λx hx=>g3 x (cm hx)
  exact ad6 b2 X2 aj ht b1
 rw[hB]at hj⊢;simp only[bM]at hj;rw[gq,dZ aa]
 exact od.2 ⟨S,j,hs,aa,rfl⟩
def TN{a:au}(h1:qC a s=true)(h2:qC b s=true):qC a b=true\/qC b a=true:=by
 obtain⟨S,k,hs,hk,rfl⟩:=od.1 h1;obtain⟨S',j,hs',hj,rfl⟩:=od.1 h2;rw[hs]at hs';cases hs';let⟨g1,g2,g3⟩:=k9 hs
 have ht:∀k,(S.take k).all jL=true:=λk=>by
  rw[aO]at g3⊢;exact λx hx=>g3 x (cm hx)
 rcases gH k j with h | h
 .left;exact od.2 ⟨S.take j,k,oq aj (ht j),aj,by rw[gq,dZ h]⟩
 .right;exact od.2 ⟨S.take k,j,oq aj (ht k),aj,by rw[gq,dZ h]⟩
def Dc{a:au}(h:qC a s=true):jO a=true/\jO s=true:=by
 unfold qC at h;unfold jO;cases ha:split a with
 |none=>rw[ha]at h;cases h
 |some A =>
  cases hs:split s with
  |none=>rw[ha,hs]at h;cases h
  |some S=>exact⟨rfl,rfl⟩
def FU{a:au}(h1:qC a b=true)(h2:qC b a=true):a=b:=by
 let⟨t,ht⟩:=tW h1;let⟨u,hu⟩:=tW h2;have:t=[]:=by
  have h:=congrArg List.length ht;have h':=congrArg List.length hu;simp at h h';exact aY aa
 rw[this,dz]at ht;exact ht
def Ib{a:au}(h1:qC a s=true)(h2:qC b s=true)(hlt:jP a b=true):qC a b=true:=by
 rcases TN h1 h2 with h | h
 .exact h
 .exfalso;have hp:=tW h;have:=xd hp (λe=>C3 hlt e.symm)
  rw[Ep hlt]at this;cases this
def Ho(q:P->Bool):∀(l:List P)(k:Nat),(ix q l k).Pairwise (· < ·)
 | [],k=>.nil
 |p::l,k=>by
  have ih:=Ho q l (k+1);unfold ix;cases q p with
  |false=>exact ih
  |true =>
   refine bh.2 ⟨λi hi=>?_,ih⟩
   let⟨_,h,_⟩:=Om.1 hi;omega
def VI{a:ax}(h:a.Pairwise (· < ·))(hne:a≠[]):∀j∈a,j<=a.getLast hne:=by
 intro j hj;obtain⟨i,hi,rfl⟩:=cI.1 hj;rw[List.getLast_eq_getElem]
 rcases cG i (a.length-1)with h' | h'
 .exact gI (bY.1 h i (a.length-1) hi aa h')
 .have:i=a.length-1:=by omega
  subst this;exact aN _
def zF{l:List P}{j:Nat}(hj:j∈Ge l s):j<=mI l s:=by
 have hne:Ge l s≠[]:=λh=>by rw[h]at hj;cases hj
 unfold mI;rw[fJ hne];exact VI (Ho _ l 0) hne j hj
def sJ{l:List P}{b:Nat}(hb:b∈Ge l s)(h:∀j∈Ge l s,j<=b):mI l s=b:=by
 have hne:Ge l s≠[]:=λh=>by rw[h]at hb;cases hb
 have h1:=zF hb;have h2:=h _ (C2 hne);omega
def jK.DR{l:List P}(h:jK l)(hs:jO s=true):DR l s=mI l s:=by
 have inv:=xm (List.range l.length) (US l s) (λi b=>b∈Ge l s/\(∀j∈Ge l s,j<i->j<=b)/\(b<i\/b=0)) 0 0 (λi hi b hb=>by
  rw[bZ];rw[bE]at hb⊢;have hi':i<l.length:=by simpa using hi
  let⟨h1,h2,h3⟩:=hb;let⟨yU,hba⟩:=lq.1 h1;unfold US;cases ha:qC (pat l i) s with
  |false =>
   simp only[eR,cond_false];refine⟨h1,λj hj hji=>?_,aa⟩
   rcases cG j i with h' | h'
   .exact h2 j hj h'
   .have:j=i:=by omega
    subst this;rw[(lq.1 hj).2]at ha;cases ha
  |true =>
   have hle:(pat l b).length<=(pat l i).length:=by
    rcases cG b i with h' | h'
    .exact(tW (Ib hba ha (h.inc b i h' hi'))).length_le
    .have:i=b:=by omega
     rw[this];exact aN _
   rw[decide_eq_true hle];simp only[fU,cond_true];exact⟨lq.2 ⟨hi',ha⟩,λj _ hji=>aa,aa⟩) ⟨lq.2 ⟨h.ne,by rw[h.root,uY];exact hs⟩,λj _ hj=>aa,aa⟩
 rw[bE,dU]at inv;exact(sJ inv.1 λj hj=>inv.2.1 j hj (lq.1 hj).1).symm
def Iz{l:List P}(h:Inc l)(s:au):U5 l s=if qA l s=true then(cnt l s:Int)else -1:=by
 unfold U5;cases hf:qA l s with
 |true =>
  let⟨h1,h2⟩:=qT hf
  have e:l.findIdx (λp=>decide (p.pa=s))=cnt l s:=by
   rw[List.findIdx_eq h1];refine⟨by rw[mE h1]at h2;exact decide_eq_true h2,λj hj=>?_⟩
   have hjl:j<l.length:=aa
   have:=h j _ hj h1;rw[h2,mE hjl]at this;exact decide_eq_false (C3 this)
  cases hq:l.find? λp=>decide (p.pa=s)with
  |none =>
   rw[dy]at hq;rw[mE h1]at h2;exact absurd (decide_eq_true h2) (by simpa using hq _ (aS h1))
  |some x=>simp[e]
 |false =>
  cases hq:l.find? λp=>decide (p.pa=s)with
  |none=>rfl
  |some x =>
   exfalso;have h1:=dx hq;have h2:x.pa=s:=by simpa using ek hq
   obtain⟨i,hi,rfl⟩:=cI.1 h1;rw[<-mE hi]at h2;have h3:¬i<cnt l s:=by rw[qp h s hi,h2,Kp.kU];simp
   have h4:¬cnt l s<i:=by
    intro hlt;have oZ:cnt l s<l.length:=aa
    have h5:¬jP (pat l (cnt l s)) s=true:=by rw[<-qp h s oZ];omega
    have:=h _ _ hlt hi;rw[h2]at this;exact h5 this
   have h5:i=cnt l s:=aa
   have:qA l s=true:=by
    unfold qA;rw[<-h5];exact decide_eq_true ⟨hi,h2⟩
   rw[hf]at this;cases this
open Go.Am Go.Am.Nm Go.Lib Go.Am.Sh
def jK.short{l:List P}(h:jK l)(hs:∀p∈l,p.pa.length<=1000000):lU l:=⟨by have:=h.le;omega,hs⟩
def wk(l:List P)(c:Nat)(x:P)(i:Nat):List P:=if i<=c then l.take i else l.take c++x::(l.take i).drop c
def VX(l:List P)(c:Nat)(x:P):wk l c x 0=[]:=by simp[wk]
variable{i n:Nat}
def SS{l:List P}{c:Nat}{x:P}(h:i<l.length):wk l c x (i+1)=if i=c then wk l c x i++[x]++[l[i]]else wk l c x i++[l[i]]:=by
 unfold wk
 by_cases hc:i=c
 .subst hc;rw[if_pos rfl,if_neg aa,if_pos (aN _),bC h,eF aj,fL aj]
  simp
 .rw[if_neg hc]
  by_cases h':i+1<=c
  .rw[if_pos h',if_pos aa,bC h]
  .rw[if_neg h',if_neg aa,bC h,eF aj]
   simp
def VW(l:List P)(c:Nat)(x:P)(hc:c<=l.length):Gu l c x=if c=l.length then wk l c x l.length++[x]else wk l c x l.length:=by
 unfold wk Gu
 by_cases h:c=l.length
 .subst h;simp
 .rw[if_neg h,if_neg aa,dB]
def L6(l:List P)(c:Nat)(x:P)(i:Nat)(hi:i<=l.length):(wk l c x i).length<=i+1:=by
 unfold wk;split
 .simp;omega
 .simp;omega
def Ld{l:List P}{a:Nat}{e:Int}(ha:a<l.length)(hi:i<(oD l a e).length):(oD l a e)[i]=if i=a then⟨(l[i]'(by rw[lM]at hi;exact hi)).pa,(l[i]'(by rw[lM]at hi;exact hi)).gr,e⟩else l[i]'(by rw[lM]at hi;exact hi):=by
 have h1:oD l a e=l.set a ⟨l[a].pa,l[a].gr,e⟩:=by
  unfold oD;rw[aG ha];rfl
 have hi':i<l.length:=by rw[lM]at hi;exact hi
 have:(oD l a e)[i]? = some (if i=a then⟨l[i].pa,l[i].gr,e⟩else l[i]):=by
  rw[h1,dR]
  by_cases h:a=i
  .subst h;simp[ha]
  .rw[if_neg h,if_neg (λe=>h e.symm),aG hi']
 rw[aG hi]at this;exact cu this
def apq(l:List P)(hr:jK l)(f:Bool)(s:au)(at_:Nat)(WI:at_<l.length)(hf:qA l s=false)(x:P)(hxs:x.pa=s)(e0:Env)(h0:e0 0 = .jB f (l.map D))(h1:e0 1 = .str s)(h8:e0 8 = .int .i64 at_)(h10:e0 10 = .ptr 0 0 0 0):
  iter (round (jJ.jG n) [11,12,13] [(.exit 0,[11,12])] Kc e0 2 [1]) ([.own 1 0 0 0,.bool false,.int .i64 0],[.var [.str x.pa,.int .i64 x.gr,.int .i64 x.ep],.row 0 3 []]) =
   some (.exit 0,[.own 1 0 0 (wk (oD l at_ (yg l at_+1)) (cnt l s) x l.length).length,.bool (decide (cnt l s<l.length))],[.var [.str x.pa,.int .i64 x.gr,.int .i64 x.ep],.row 0 3 ((wk (oD l at_ (yg l at_+1)) (cnt l s) x l.length).map D)]):=by
 obtain⟨l',hl'⟩:∃l',l'=oD l at_ (yg l at_+1):=⟨_,rfl⟩;rw[<-hl'];have hll:l'.length=l.length:=by rw[hl',lM]
 have akD:=hr.le
 have := jU (f := round (jJ.jG n) [11, 12, 13] [(.exit 0, [11, 12])] Kc e0 2 [1]) (λi (o : List P) => ([.own 1 0 0 o.length, .bool (decide (cnt l s < i)), .int .i64 (i : Int)], [.var [.str x.pa, .int .i64 x.gr, .int .i64 x.ep], .row 0 3 (o.map D)])) (List.range l.length)
  (λ_ i=>wk l' (cnt l s) x (i+1)) (λo=>(.exit 0,[.own 1 0 0 o.length,.bool (decide (cnt l s<l.length))],[.var [.str x.pa,.int .i64 x.gr,.int .i64 x.ep],.row 0 3 (o.map D)])) (λi o=>o=wk l' (cnt l s) x i)
  (λi hi o ho=>by
   rw[bZ];have hi':i<l.length:=by simpa using hi
   have hi2:i<l'.length:=aa
   refine⟨rfl,?_⟩;obtain⟨y,hy⟩:∃y,y=l[i]:=⟨_,rfl⟩;have wq:=Ld (e:=yg l at_+1) WI (i:=i) (by rw[lM];exact hi')
   have hol:=L6 l' (cnt l s) x i aa
   rw[<-ho]at hol;have hstep:=SS (l:=l') (c:=cnt l s) (x:=x) hi2;rw[<-ho]at hstep
   have Jf:l'[i]=if i=at_ then⟨y.pa,y.gr,yg l at_+1⟩else y:=by
    have:l'[i]'hi2=(oD l at_ (yg l at_+1))[i]'(by rw[lM];exact hi'):=by congr 1
    rw[this,wq,<-hy]
   rw[Jf]at hstep;have hp:=mE hi';rw[<-hy]at hp;let⟨y1,y2⟩:=hr.ep _ (aS hi');rw[<-hy]at y1 y2;have S7:=qp hr.inc s hi';rw[hp]at S7;have hne:y.pa≠s:=by
    intro h;have:U5 l s≠-1:=by
     unfold U5;cases hq:l.find? λp=>decide (p.pa=s)with
     |none =>
      rw[dy]at hq;exact absurd (decide_eq_true h) (by simpa using hq y (hy▸aS hi'))
     |some z=>simp
    rw[Iz hr.inc,hf]at this;simp at this
   rcases fZ i (cnt l s)with hlt | heq | hgt
   · -- not yet
    have hle:jP y.pa s=true:=S7.1 hlt;rw[if_neg aa]at hstep
    rw[hstep];have d1:¬cnt l s<i:=aa
    have d2:¬cnt l s<i+1:=aa
    by_cases ha:i=at_
    .rw[if_pos ha];have hea:yg l i=y.ep:=by rw[vH hi',hy]
     simp(disch:=omega)[round_eq,vQ,h0,h1,h8,<-hy,lB,hle,d1,d2,<-ha,hea]
    .rw[if_neg ha];simp(disch:=omega)[round_eq,vQ,h0,h1,h8,<-hy,lB,hle,d1,d2]
   .have hle:jP y.pa s=false:=by
     cases h:jP y.pa s with
     |false=>rfl
     |true=>have:=S7.2 h;omega
    rw[if_pos heq]at hstep;rw[hstep];have d1:¬cnt l s<i:=aa
    have d2:cnt l s<i+1:=aa
    by_cases ha:i=at_
    .rw[if_pos ha];have hea:yg l i=y.ep:=by rw[vH hi',hy]
     simp(disch:=omega)[round_eq,vQ,h0,h1,h8,h10,<-hy,lB,hle,hne,d1,d2,<-ha,hea]
    .rw[if_neg ha];simp(disch:=omega)[round_eq,vQ,h0,h1,h8,h10,<-hy,lB,hle,hne,d1,d2]
   .rw[if_neg aa]at hstep
    rw[hstep];have d2:cnt l s<i+1:=aa
    by_cases ha:i=at_
    .rw[if_pos ha];have hea:yg l i=y.ep:=by rw[vH hi',hy]
     simp(disch:=omega)[round_eq,vQ,h0,h8,<-hy,hgt,d2,<-ha,hea]
    .rw[if_neg ha];simp(disch:=omega)[round_eq,vQ,h0,h8,<-hy,hgt,d2])
  (λo ho=>by simp(disch:=omega)[round_eq,vQ,h0]) [] (VX _ _ _).symm
 simp only[bq,bQ,cW,Nat.not_lt_zero,decide_false]at this;rw[this];have inv:=xm (List.range l.length) (λ(_:List P) i=>wk l' (cnt l s) x (i+1)) (λi o=>o=wk l' (cnt l s) x i) 0 [] (λi hi o _=>by rw[bZ,bE]) (VX _ _ _).symm
 rw[bE,dU]at inv;rw[inv]
def D1{l:List P}(hi:Inc l){s:au}(h:qA l s=true):U5 l s=(cnt l s:Int):=by rw[Iz hi,if_pos h]
def zB{l:List P}(hi:Inc l){s:au}(h:qA l s=false):U5 l s = -1:=by rw[Iz hi,if_neg (by rw[h];simp)]
def si{g:Int}:Gq g=(decide (0<=g)&&decide (g<8)):=by
 unfold Gq
 by_cases h1:0<=g<;>by_cases h2:g<8<;>simp[h1,h2]
def aoo(hn:190<n)(l:List P)(hr:jK l)(hsh:∀p∈l,p.pa.length<=1000000)(f:Bool)(s:au)(hs:s.length<=1000000)(g:Int):
  (jJ.jG n).p 111 [.jB f (l.map D),.str s,.int .i64 g]=some (.kT [.jB (f && !decide ((rI l s g).2=0)) ((rI l s g).1.map D),.int .i64 (rI l s g).2]):=by
 rw[pp 111 rfl hn rfl,jA,jy];have hl:=hr.le;have Mt:=acY (n:=190) af l (hr.short hsh) f s hs
 have Hw:=acX (n:=190) af l aa f s
 unfold rI
 by_cases g1:0<=g
 .by_cases g2 : g < 8
  .have hg:Gq g=true:=by rw[si];simp[g1,g2]
   rw[hg];cases hp:jO s with
   |false =>
    rw[hp]at Mt;simp(disch:=omega)[Ke,ca 161,Mt]
   |true =>
    have Ja:=hr.of_lt hp;rw[hp,hr.DR hp]at Mt;cases hf:qA l s with
    |true =>
     rw[D1 hr.inc hf]at Hw;simp(disch:=omega)[Ke,ca 161,Mt,ca 166,Hw]
    |false =>
     rw[zB hr.inc hf]at Hw
     by_cases Jp:16<=l.length
     .simp(disch:=omega)[Ke,ca 161,Mt,ca 166,Hw,Jp]
     .obtain⟨x,hx⟩:∃x,x=l[mI l s]:=⟨_,rfl⟩;have he:=vH Ja;let⟨e1,e2⟩:=hr.ep _ (aS Ja);rw[<-hx]at he e1 e2
      by_cases hE:1099511627776<=x.ep
      .simp(disch:=omega)[Ke,ca 161,Mt,ca 166,Hw,Jp,<-hx,he,hE]
      .have hc:=xE l s;have Qs:=apq (n:=190) l hr f s (mI l s) Ja hf ⟨s,g,x.ep+1⟩ rfl;have hend:=VW (oD l (mI l s) (x.ep+1)) (cnt l s) ⟨s,g,x.ep+1⟩ (by rw[lM];exact hc)
       have hlen:=L6 (oD l (mI l s) (x.ep+1)) (cnt l s) ⟨s,g,x.ep+1⟩ l.length (by rw[lM];exact aN _)
       rw[lM]at hend;rw[he]at Qs⊢;rw[hend];generalize wk (oD l (mI l s) (x.ep+1)) (cnt l s) ⟨s,g,x.ep+1⟩ l.length=o at *
       by_cases oZ:cnt l s=l.length
       .have d:¬cnt l s<l.length:=by omega
        rw[decide_eq_false d]at Qs;rw[if_pos oZ];simp(disch:=omega)[Ke,ca 161,Mt,ca 166,Hw,Jp,<-hx,hE];rw[Qs _ rfl rfl rfl rfl];simp(disch:=omega)
       .have d:cnt l s<l.length:=by omega
        rw[decide_eq_true d]at Qs;rw[if_neg oZ];simp(disch:=omega)[Ke,ca 161,Mt,ca 166,Hw,Jp,<-hx,hE];rw[Qs _ rfl rfl rfl rfl];simp(disch:=omega)
  .have hg:Gq g=false:=by rw[si];simp[g2]
   rw[hg];simp(disch:=omega)[Ke]
 .have hg:Gq g=false:=by rw[si];simp[g1]
  rw[hg];simp(disch:=omega)[Ke]
open Go.Am Go.Am.Nm Go.Lib Go.Am.Sh
def yh(l:List P)(c:Nat)(i:Nat):List P:=if i<=c then l.take i else l.take c++(l.take i).drop (c+1)
def Xy(l:List P)(c:Nat):yh l c 0=[]:=by simp[yh]
def Tp{l:List P}{c:Nat}{i:Nat}(h:i<l.length):yh l c (i+1)=if i=c then yh l c i else yh l c i++[l[i]]:=by
 unfold yh
 by_cases hc:i=c
 .subst hc;rw[if_pos rfl,if_neg aa,if_pos (aN _),fL aj]
  simp
 .rw[if_neg hc]
  by_cases h':i+1<=c
  .rw[if_pos h',if_pos aa,bC h]
  .rw[if_neg h',if_neg aa,bC h,eF aj]
   simp
def Xx(l:List P)(c:Nat)(hc:c<l.length):yh l c l.length=E7 l c:=by
 unfold yh E7;rw[if_neg aa,dB]
def Xw(l:List P)(c:Nat)(i:Nat)(hi:i<=l.length):(yh l c i).length<=i:=by
 unfold yh;split
 .simp;omega
 .simp;omega
def apo{n:Nat}(l:List P)(hr:jK l)(f:Bool)(c par:Nat)(hc:c<l.length)(hpar:par<l.length)(e:Int)(he1:1<=e)(NF:e<=1099511627776)(e0:Env)(h0:e0 0 = .jB f (l.map D))(h8:e0 8 = .int .i64 c)(h12:e0 12 = .int .i64 par)(WS:e0 14 = .int .i64 e):
  iter (round (jJ.jG n) [15,16] [(.exit 0,[15])] J8 e0 1 [0]) ([.own 0 0 0 0,.int .i64 0],[.row 0 3 []]) =
   some (.exit 0,[.own 0 0 0 (yh (oD l par (e+1)) c l.length).length],[.row 0 3 ((yh (oD l par (e+1)) c l.length).map D)]):=by
 obtain⟨l',hl'⟩:∃l',l'=oD l par (e+1):=⟨_,rfl⟩;rw[<-hl'];have hll:l'.length=l.length:=by rw[hl',lM]
 have akD:=hr.le
 have:=jU (f:=round (jJ.jG n) [15,16] [(.exit 0,[15])] J8 e0 1 [0]) (λi (o:List P)=>([.own 0 0 0 o.length,.int .i64 (i:Int)],[.row 0 3 (o.map D)])) (List.range l.length)
  (λ_ i=>yh l' c (i+1)) (λo=>(.exit 0,[.own 0 0 0 o.length],[.row 0 3 (o.map D)])) (λi o=>o=yh l' c i)
  (λi hi o ho=>by
   rw[bZ];have hi':i<l.length:=by simpa using hi
   have hi2:i<l'.length:=aa
   refine⟨rfl,?_⟩;obtain⟨y,hy⟩:∃y,y=l[i]:=⟨_,rfl⟩;have wq:=Ld (e:=e+1) hpar (i:=i) (by rw[lM];exact hi')
   have hol:=Xw l' c i aa
   rw[<-ho]at hol;have hstep:=Tp (l:=l') (c:=c) hi2;rw[<-ho]at hstep;have Jf:l'[i]=if i=par then⟨y.pa,y.gr,e+1⟩else y:=by
    have:l'[i]'hi2=(oD l par (e+1))[i]'(by rw[lM];exact hi'):=by congr 1
    rw[this,wq,<-hy]
   rw[Jf]at hstep
   by_cases hp:i=par
   .rw[if_pos hp]at hstep
    by_cases S8:i=c
    .rw[if_pos S8]at hstep;rw[hstep];simp(disch:=omega)[round_eq,zf,h0,h8,h12,WS,<-hy,<-hp,<-S8]
    .rw[if_neg S8]at hstep;rw[hstep];simp(disch:=omega)[round_eq,zf,h0,h8,h12,WS,<-hy,<-hp]
   .rw[if_neg hp]at hstep
    by_cases S8:i=c
    .rw[if_pos S8]at hstep;rw[hstep];simp(disch:=omega)[round_eq,zf,h0,h8,h12,<-hy,<-S8]
    .rw[if_neg S8]at hstep;rw[hstep];simp(disch:=omega)[round_eq,zf,h0,h8,h12,<-hy])
  (λo ho=>by simp(disch:=omega)[round_eq,zf,h0]) [] (Xy _ _).symm
 simp only[bq,bQ,cW]at this;rw[this];have inv:=xm (List.range l.length) (λ(_:List P) i=>yh l' c (i+1)) (λi o=>o=yh l' c i) 0 [] (λi hi o _=>by rw[bZ,bE]) (Xy _ _).symm
 rw[bE,dU]at inv;rw[inv]
def aon{n:Nat}(hn:194<n)(l:List P)(hr:jK l)(hsh:∀p∈l,p.pa.length<=1000000)(f:Bool)(s:au)(hs:s.length<=1000000):
  (jJ.jG n).p 113 [.jB f (l.map D),.str s]=some (.kT [.jB (f && !decide ((qg l s).2=0)) ((qg l s).1.map D),.int .i64 (qg l s).2]):=by
 rw[pp 113 rfl hn rfl,jA,jy];have hl:=hr.le;have wD:=Li (n:=194) af s aa
 unfold PF at wD;have Hw:=acX (n:=194) af l aa f s
 have h60:=acW (n:=194) af s hs
 unfold qg;cases hp:jO s with
 |false =>
  have hq:split s=none:=by
   unfold jO at hp;cases h:split s with
   |none=>rfl
   |some w=>rw[h]at hp;cases hp
  rw[hq]at wD;simp[TC,ca 163,wD]
 |true =>
  cases hf:qA l s with
  |false =>
   obtain⟨w,hw⟩:∃w,split s=some w:=by
    unfold jO at hp;cases h:split s with
    |none=>rw[h]at hp;cases hp
    |some w=>exact⟨w,rfl⟩
   rw[hw]at wD;rw[zB hr.inc hf]at Hw;simp[TC,ca 163,wD,ca 166,Hw]
  |true =>
   rw[D1 hr.inc hf]at Hw
   by_cases hc0:cnt l s=0
   .have I9:=(hr.Iv hf).1 hc0;have hw:split s=some []:=by rw[I9];decide
    rw[hw]at wD;have hsd:decide (s=[47])=true:=decide_eq_true I9;clear I9;simp(disch:=omega)[TC,ca 163,wD,ca 166,Hw,hc0,lB,hsd]
   .have hne:s≠[47]:=λh=>hc0 ((hr.Iv hf).2 h)
    let⟨m,x,hq,hla,F9,m1,m2,hpm⟩:=Ij hp hne;rw[hq]at wD;let⟨hc,_⟩:=qT hf;have apC:(sO s).elim [] (·.2)=jn m:=F9;rw[apC]
    have hjl:(jn m).length<=1000000:=by
     have h1:=(k9 hq).1;have:=VT (m:=m++[x]) m.length;rw[dw (aN _),dB,h1]at this;have:=this.length_le;omega
    have Mt:=acY (n:=194) af l (hr.short hsh) f (jn m) hjl
    rw[hpm,hr.DR hpm]at Mt;have Ja:=hr.of_lt hpm;unfold LW at h60;rw[hla]at h60;obtain⟨y,hy⟩:∃y,y=l[cnt l s]:=⟨_,rfl⟩;obtain⟨z,hz⟩:∃y,y=l[mI l (jn m)]:=⟨_,rfl⟩;have hey:=vH hc;have hez:=vH Ja;let⟨y1,y2⟩:=hr.ep _ (aS hc);let⟨z1,z2⟩:=hr.ep _ (aS Ja);rw[<-hy]at hey y1 y2;rw[<-hz]at hez z1 z2;rw[hey,hez];have Mi:max y.ep z.ep=if y.ep<z.ep then z.ep else y.ep:=by
     split<;>omega
    obtain⟨e,he⟩:∃e,e=max y.ep z.ep:=⟨_,rfl⟩;have e1:1<=e:=aa
    have e2:e<=1099511627776:=aa
    rw[<-he]at Mi⊢
    by_cases hE:1099511627776<=e
    .simp(disch:=omega)[TC,ca 163,wD,ca 166,Hw,hc0,hne,lB,ca 167,h60,ca 161,Mt,<-hy,<-hz,<-he,hE]
    .have h41:=apo (n:=194) l hr f (cnt l s) (mI l (jn m)) hc Ja e e1 e2;have hend:=Xx (oD l (mI l (jn m)) (e+1)) (cnt l s) (by rw[lM];exact hc)
     rw[lM]at hend;rw[hend]at h41;simp(disch:=omega)[TC,ca 163,wD,ca 166,Hw,hc0,hne,lB,ca 167,h60,ca 161,Mt,<-hy,<-hz,<-he,hE];rw[h41 _ aq aq aq aq]
     simp -implicitDefEqProofs
def aom{n:Nat}(hn:196<n)(l:List P)(hr:jK l)(hsh:∀p∈l,p.pa.length<=1000000)(f:Bool)(s:au)(hs:s.length<=1000000)(g:Int):
  (jJ.jG n).p 114 [.jB f (l.map D),.str s,.int .i64 g]=some (.kT [.jB (f && !decide ((kD l s g).2=0)) ((kD l s g).1.map D),.int .i64 (kD l s g).2]):=by
 rw[pp 114 rfl hn rfl,jA,jy];have hl:=hr.le;have wD:=Li (n:=196) af s aa
 unfold PF at wD;have Hw:=acX (n:=196) af l aa f s
 unfold kD
 by_cases g1:0<=g
 .by_cases g2 : g < 8
  .have hg:Gq g=true:=by rw[si];simp[g1,g2]
   rw[hg];cases hp:jO s with
   |false =>
    have hq:split s=none:=by
     unfold jO at hp;cases h:split s with
     |none=>rfl
     |some w=>rw[h]at hp;cases hp
    rw[hq]at wD;simp(disch:=omega)[Pd,ca 163,wD]
   |true =>
    obtain⟨w,hw⟩:∃w,split s=some w:=by
     unfold jO at hp;cases h:split s with
     |none=>rw[h]at hp;cases hp
     |some w=>exact⟨w,rfl⟩
    rw[hw]at wD;cases hf:qA l s with
    |false =>
     rw[zB hr.inc hf]at Hw;simp(disch:=omega)[Pd,ca 163,wD,ca 166,Hw]
    |true =>
     rw[D1 hr.inc hf]at Hw;let⟨hc,hcs⟩:=qT hf;obtain⟨x,hx⟩:∃x,x=l[cnt l s]:=⟨_,rfl⟩;have he:=vH hc;let⟨e1,e2⟩:=hr.ep _ (aS hc);rw[mE hc]at hcs;rw[<-hx]at he e1 e2 hcs
     by_cases hE:1099511627776<=x.ep
     .simp(disch:=omega)[Pd,ca 163,wD,ca 166,Hw,<-hx,he,hE]
     .have hsm:pU l (cnt l s) g=l.set (cnt l s) ⟨s,g,x.ep+1⟩:=by
       unfold pU;rw[aG hc,<-hx,<-hcs];rfl
      simp(disch:=omega)[Pd,ca 163,wD,ca 166,Hw,hc,<-hx,he,hE,hsm];rw[br ah]
  .have hg:Gq g=false:=by rw[si];simp[g2]
   rw[hg];simp(disch:=omega)[Pd]
 .have hg:Gq g=false:=by rw[si];simp[g1]
  rw[hg];simp(disch:=omega)[Pd]
open Go.Am Go.Am.Nm Go.Lib Go.Am.Sh
variable{l:List P}
def Ql:Inc l↔(l.map P.pa).Pairwise (λa b=>jP a b=true):=by
 rw[bY]
 constructor
 .intro h i j hi hj hij;have hj':j<l.length:=by simpa using hj
  have:=h i j hij hj';rw[mE aa,mE hj']at this
  simpa using this
 .intro h i j hij hj;have:=h i j aj (an hj) hij
  rw[mE aa,mE hj]
  simpa using this
def xO(l:List P)(i:Nat)(e:Int):(oD l i e).map P.pa=l.map P.pa:=by
 unfold oD;cases h:l[i]? with
 |none=>rfl
 |some x =>
  simp only[bw,dK];apply dr;intro k;rw[dR]
  by_cases hk:i=k
  .subst hk;have hlt:=(aF.1 h).1;have hx:l[i]=x:=by
    have:=aG hlt;rw[h]at this;exact(cu this).symm
   simp[hlt,hx]
  .rw[if_neg hk]
def C0(l:List P)(i:Nat)(g:Int):(pU l i g).map P.pa=l.map P.pa:=by
 unfold pU;cases h:l[i]? with
 |none=>rfl
 |some x =>
  simp only[bw,dK];apply dr;intro k;rw[dR]
  by_cases hk:i=k
  .subst hk;have hlt:=(aF.1 h).1;have hx:l[i]=x:=by
    have:=aG hlt;rw[h]at this;exact(cu this).symm
   simp[hlt,hx]
  .rw[if_neg hk]
def PI(h:∀p∈l,uH p=true)(i:Nat){e:Int}(he:okE e=true):∀p∈oD l i e,uH p=true:=by
 unfold oD;cases hx:l[i]? with
 |none=>exact h
 |some x =>
  intro p hp
  rcases gy hp with hp | rfl
  .exact h p hp
  .have:=h x (aR hx);simp only[uH,aH]at this⊢;exact⟨this.1,he⟩
def Zd(h:∀p∈l,uH p=true)(i:Nat){g:Int}(hg:Gq g=true)(he:∀x,l[i]? = some x->x.ep<1099511627776):∀p∈pU l i g,uH p=true:=by
 unfold pU;cases hx:l[i]? with
 |none=>exact h
 |some x =>
  intro p hp
  rcases gy hp with hp | rfl
  .exact h p hp
  .have:=h x (aR hx);have h2:=he x hx;simp only[uH,okE,aH,decide_eq_true_eq]at this⊢;exact⟨⟨this.1.1,hg⟩,aa,aa⟩
def C1{k:Nat}:pat l k=((l.map P.pa)[k]?).getD []:=by
 unfold pat;rw[bW];cases l[k]? <;> rfl
def jK.mk'(h1:0<l.length)(h2:l.length<=16)(h3:(l.map P.pa)[0]? = some [47])(h4:∀p∈l,uH p=true)(h5:(l.map P.pa).Pairwise (λa b=>jP a b=true)):jK l :=
 ⟨h1,h2,by rw[C1,h3];rfl,h4,Ql.2 h5⟩
def jK.adM(h:jK l):(l.map P.pa)[0]? = some [47]:=by
 have h1:=h.root;rw[C1]at h1;have hl:=h.ne;cases hq:(l.map P.pa)[0]? with
 |none=>simp at hq;subst hq;simp at hl
 |some x=>rw[hq]at h1;simp at h1;rw[h1]
def jK.pw(h:jK l):(l.map P.pa).Pairwise (λa b=>jP a b=true):=Ql.1 h.inc
def Qj(l:List P)(c:Nat)(x:P):(Gu l c x).map P.pa=(l.map P.pa).take c++x.pa::(l.map P.pa).drop c:=by
 simp[Gu]
def JB(l:List P)(c:Nat):(E7 l c).map P.pa=(l.map P.pa).take c++(l.map P.pa).drop (c+1):=by
 simp[E7]
def LP{c:Nat}{x p:P}:p∈Gu l c x↔p=x\/p∈l:=by
 unfold Gu;rw[aX,aP]
 constructor
 .rintro(h | h | h)
  .exact .inr (cm h)
  .exact .inl h
  .exact .inr (cA h)
 .rintro(h | h)
  .exact .inr (.inl h)
  .rw[<-dF c l,aX]at h
   rcases h with h | h
   .exact .inl h
   .exact .inr (.inr h)
def LQ{c:Nat}{p:P}(h:p∈E7 l c):p∈l:=by
 unfold E7 at h;rw[aX]at h
 rcases h with h | h
 .exact cm h
 .exact cA h
def Lc{i:Nat}{e:Int}{p:P}(h:p∈oD l i e):∃q∈l,q.pa=p.pa:=by
 have:p.pa∈(oD l i e).map P.pa:=bx.2 ⟨p,h,rfl⟩;rw[xO]at this;let⟨q,hq,e⟩:=bx.1 this;exact⟨q,hq,e⟩
def Lb{i:Nat}{e:Int}{p:P}(h:p∈pU l i e):∃q∈l,q.pa=p.pa:=by
 have:p.pa∈(pU l i e).map P.pa:=bx.2 ⟨p,h,rfl⟩;rw[C0]at this;let⟨q,hq,e⟩:=bx.1 this;exact⟨q,hq,e⟩
def P8{i:Nat}(h:i<l.length){e:Int}(he:e=yg l i)(hr:jK l):1<=e/\e<=1099511627776:=by
 rw[he,vH h];exact hr.ep _ (aS h)
def HQ(l:List P)(s:au)(g:Int):((rI l s g).2≠0/\(rI l s g).1=l)\/((rI l s g).2=0/\Gq g=true/\jO s=true/\qA l s=false/\l.length<16/\yg l (mI l s)<1099511627776/\(rI l s g).1=Gu (oD l (mI l s) (yg l (mI l s)+1)) (cnt l s) ⟨s,g,yg l (mI l s)+1⟩):=by
 unfold rI;cases hg:Gq g with
 |false=>left;simp
 |true =>
  cases hp:jO s with
  |false=>left;simp
  |true =>
   cases hf:qA l s with
   |true=>left;simp
   |false =>
    by_cases h:16<=l.length\/1099511627776<=yg l (mI l s)
    .left;simp[h]
    .right;simp only[h];refine⟨ah,ah,ah,ah,aa,aa,ah⟩
def vq(l:List P)(s:au):((qg l s).2≠0/\(qg l s).1=l)\/((qg l s).2=0/\jO s=true/\qA l s=true/\cnt l s≠0/\max (yg l (cnt l s)) (yg l (mI l (KM s)))<1099511627776/\
  (qg l s).1=E7 (oD l (mI l (KM s)) (max (yg l (cnt l s)) (yg l (mI l (KM s)))+1)) (cnt l s)):=by
 unfold qg KM;cases hp:jO s with
 |false=>left;simp
 |true =>
  cases hf:qA l s with
  |false=>left;simp
  |true =>
   by_cases hc:cnt l s=0
   .left;simp[hc]
   .by_cases h:1099511627776<=max (yg l (cnt l s)) (yg l (mI l ((sO s).elim [] (·.2))))
    .left;simp[hc,h]
    .right;simp only[hc,h];refine⟨ah,ah,ah,an hc,aa,ah⟩
def sL(l:List P)(s:au)(g:Int):((kD l s g).2≠0/\(kD l s g).1=l)\/((kD l s g).2=0/\Gq g=true/\jO s=true/\qA l s=true/\yg l (cnt l s)<1099511627776/\(kD l s g).1=pU l (cnt l s) g):=by
 unfold kD;cases hg:Gq g with
 |false=>left;simp
 |true =>
  cases hp:jO s with
  |false=>left;simp
  |true =>
   cases hf:qA l s with
   |false=>left;simp
   |true =>
    by_cases h:1099511627776<=yg l (cnt l s)
    .left;simp[h]
    .right;simp only[h];refine⟨ah,ah,ah,ah,aa,ah⟩
def jK.aaI(h:jK l){s:au}(hs:jO s=true)(hne:s≠[47]):0<cnt l s:=by
 rw[qp h.inc s h.ne,h.root];have:=tW (show qC [47] s=true by rw[uY];exact hs)
 exact xd this (λe=>hne e.symm)
def jK.Xa(h:jK l):qA l [47]=true:=by
 unfold qA;have:cnt l [47]=0:=by
  rcases cM (cnt l [47])with h' | h'
  .exact h'
  .have h'':0<cnt l [47]:=h';rw[qp h.inc _ h.ne,h.root,Kp.kU]at h'';cases h''
 rw[this];exact decide_eq_true ⟨h.ne,h.root⟩
def aft(h:jK l){s:au}(hf:qA l s=false):((l.map P.pa).take (cnt l s)++s::(l.map P.pa).drop (cnt l s)).Pairwise (λa b=>jP a b=true):=by
 have Z5:=h.pw;rw[<-dF (cnt l s) (l.map P.pa),fm]at Z5;let⟨h1,h2,h3⟩:=Z5
 have lo:∀a∈(l.map P.pa).take (cnt l s),jP a s=true:=by
  intro a ha;obtain⟨i,hi,rfl⟩:=cI.1 ha;have hi':i<cnt l s/\i<l.length:=by simp at hi;omega
  have:=(qp h.inc s hi'.2).1 hi'.1;rw[mE hi'.2]at this
  simpa using this
 have hi:∀b∈(l.map P.pa).drop (cnt l s),jP s b=true:=by
  intro b hb;obtain⟨i,hi,rfl⟩:=cI.1 hb;have hi':cnt l s+i<l.length:=by simp at hi;omega
  have hn:¬jP (pat l (cnt l s+i)) s=true:=by rw[<-qp h.inc s hi'];omega
  have hne:pat l (cnt l s+i)≠s:=by
   intro e;have:U5 l s≠-1:=by
    unfold U5;cases hq:l.find? λp=>decide (p.pa=s)with
    |none =>
     rw[dy]at hq;rw[mE hi']at e;exact absurd (decide_eq_true e) (by simpa using hq _ (aS hi'))
    |some z=>simp
   rw[zB h.inc hf]at this;exact this rfl
  have:=LU.2 (show ¬(jP (pat l (cnt l s+i)) s=true\/pat l (cnt l s+i)=s) by
   rintro(h | h)
   .exact hn h
   .exact hne h)
  rw[mE hi']at this
  simpa using this
 rw[fm];refine⟨h1,bh.2 ⟨hi,h2⟩,λa ha b hb=>?_⟩
 rcases aP.1 hb with rfl | hb
 .exact lo a ha
 .exact h3 a ha b hb
def jK.cut(h:jK l)(s:au)(g:Int):jK (rI l s g).1:=by
 rcases HQ l s g with⟨_,e⟩ | ⟨_,hg,hp,hf,hl,hE,e⟩
 .rw[e];exact h
 .rw[e];have Ja:=h.of_lt hp;have he:=P8 Ja rfl h;have hne:s≠[47]:=by
   rintro rfl
   rw[h.Xa]at hf;cases hf
  have hc:=h.aaI hp hne;refine .mk' ?_ ?_ ?_ ?_ ?_
  .simp only[Gu,aL,aQ];omega
  .simp only[Gu,aL,aQ,bM,cq,lM];omega
  .rw[Qj,xO,aK (by simp only[bM,cV];have:=h.ne;omega),cC,if_pos hc]
   exact h.adM
  .intro p hm
   rcases LP.1 hm with rfl | hm
   .simp only[uH,okE,aH,decide_eq_true_eq];exact⟨⟨hp,hg⟩,aa,aa⟩
   .exact PI h.ok _ (by unfold okE;exact decide_eq_true ⟨aa,aa⟩) p hm
  .rw[Qj,xO];exact aft h hf
def jK.join(h:jK l)(s:au):jK (qg l s).1:=by
 rcases vq l s with⟨_,e⟩ | ⟨_,hp,hf,hc0,hE,e⟩
 .rw[e];exact h
 .rw[e];let⟨hc,_⟩:=qT hf;have he:=P8 hc rfl h;refine .mk' ?_ ?_ ?_ ?_ ?_
  .simp only[E7,aL,bM,cq,lM];omega
  .have:=h.le;simp only[E7,aL,bM,cq,lM];omega
  .rw[JB,xO,aK (by simp only[bM,cV];have:=h.ne;omega),cC,if_pos aa]
   exact h.adM
  .intro p hm;exact PI h.ok _ (by unfold okE;exact decide_eq_true ⟨aa,aa⟩) p (LQ hm)
  .rw[JB,xO];refine h.pw.sublist ?_;have:(l.map P.pa).take (cnt l s)++(l.map P.pa).drop (cnt l s+1)=(l.map P.pa).eraseIdx (cnt l s):=by rw[fz]
   rw[this];exact gT _ _
def jK.move(h:jK l)(s:au)(g:Int):jK (kD l s g).1:=by
 rcases sL l s g with⟨_,e⟩ | ⟨_,hg,hp,hf,hE,e⟩
 .rw[e];exact h
 .rw[e];refine .mk' (by rw[DD];exact h.ne) (by rw[DD];exact h.le) (by rw[C0];exact h.adM) (Zd h.ok _ hg λx hx=>?_) (by rw[C0];exact h.pw)
  unfold yg at hE;rw[hx]at hE;exact hE
def CQ(k:Nat)(l:List P):Prop:=∀p∈l,p.pa.length<=k
def CQ.oD{k:Nat}(h:CQ k l)(i:Nat)(e:Int):CQ k (oD l i e):=λp hp=>by
 let⟨q,hq,e⟩:=Lc hp;rw[<-e];exact h q hq
def CQ.cut{k:Nat}(h:CQ k l){s:au}(hs:s.length<=k)(g:Int):CQ k (rI l s g).1:=by
 rcases HQ l s g with⟨_,e⟩ | ⟨_,_,_,_,_,_,e⟩
 .rw[e];exact h
 .rw[e];intro p hp
  rcases LP.1 hp with rfl | hp
  .exact hs
  .exact h.oD _ _ p hp
def CQ.join{k:Nat}(h:CQ k l)(s:au):CQ k (qg l s).1:=by
 rcases vq l s with⟨_,e⟩ | ⟨_,_,_,_,_,e⟩
 .rw[e];exact h
 .rw[e];intro p hp;exact h.oD _ _ p (LQ hp)
def CQ.move{k:Nat}(h:CQ k l)(s:au)(g:Int):CQ k (kD l s g).1:=by
 rcases sL l s g with⟨_,e⟩ | ⟨_,_,_,_,_,e⟩
 .rw[e];exact h
 .rw[e];intro p hp;let⟨q,hq,e⟩:=Lb hp;rw[<-e];exact h q hq
end Go.Proofs.YtaepagegdgdlhaaGreatDoor.Y
