/- Part of the proof that TopScriptsCard holds. -/
import Derived.Test.YtahlmpbhfljalaaGreatDoorReA
import Derived.Lib.Strings
set_option linter.all false
namespace Go.Re
open Go.Lib
def DQ(w:aq)(n:Int):List KV:=if n=0 then[]else[(w,itoa n)]
def I6(w s:aq):List KV:=if s=[]then[]else[(w,s)]
def q6(l:List KV)(w:aq):Option KV:=l.find? λp=>decide (p.1=w)
def nU(l:List KV)(w:aq):Int:=match q6 l w with | some p=>wm p.2 | none=>0
def uk(l:List KV)(w:aq):aq:=match q6 l w with | some p=>p.2 | none=>[]
abbrev qE(n:Int):Prop:=-9223372036854775808<=n/\n<=9223372036854775807
def l9{n:Int}(h:qE n):wm (itoa n)=n:=by
 unfold wm;rw[K9 h.1 h.2]
theorem kC(w:aq):q6 [] w=none:=rfl
def nK(v w:aq)(n:Int)(l:List KV):q6 (DQ v n++l) w=if v=w/\n≠0 then some (v,itoa n)else q6 l w:=by
 unfold DQ q6;split
 .rename_i h;simp[h]
 .rename_i h
  by_cases b:v=w<;>simp[b,h]
def nJ(v w s:aq)(l:List KV):q6 (I6 v s++l) w=if v=w/\s≠[]then some (v,s)else q6 l w:=by
 unfold I6 q6;split
 .rename_i h;simp[h]
 .rename_i h
  by_cases b:v=w<;>simp[b,h]
abbrev qI:aq:=[99,108,105,101,110,116]
abbrev Bc:aq:=[112,97,116,104]
abbrev YW:aq:=[116,111]
abbrev wN:aq:=[110]
abbrev wM:aq:=[109]
abbrev qH:aq:=[104,97,110,100,108,101]
abbrev nR:aq:=[100,97,116,97]
abbrev DX:aq:=[105,110,111]
abbrev xl:aq:=[107,105,110,100]
abbrev lg:aq:=[110,97,109,101,115]
abbrev Cx:aq:=[108,105,110,107,115]
def qT(client:Int)(path to:aq)(n m handle:Int)(data:aq):List KV :=
 DQ qI client++(I6 Bc (esc path)++(I6 YW (esc to)++(DQ wN n++(DQ wM m++(DQ qH handle++(I6 nR (esc data)++[]))))))
def sD{w:aq}(h1:32∉w)(h2:61∉w)(n:Int){l:List KV}(h:Aw l):Aw (DQ w n++l):=λp b=>by
 rcases aZ.1 b with b | b
 .unfold DQ at b;split at b
  .simp at b
  .rw[bS.1 b];exact⟨h1,h2,zu rfl n⟩
 .exact h p b
def C6{w:aq}(h1:32∉w)(h2:61∉w){s:aq}(h3:32∉s){l:List KV}(h:Aw l):Aw (I6 w s++l):=λp b=>by
 rcases aZ.1 b with b | b
 .unfold I6 at b;split at b
  .simp at b
  .rw[bS.1 b];exact⟨h1,h2,h3⟩
 .exact h p b
def E7:Aw []:=λ_ h=>by simp at h
def acu(client:Int)(path to:aq)(n m handle:Int)(data:aq):Aw (qT client path to n m handle data) :=
 sD af af _<|C6 af af (tH rfl _)<|C6 af af (tH rfl _)<|sD af af _<|sD af af _<|sD af af _<|C6 af af (tH rfl _) E7
theorem Jn:esc []=[]:=rfl
def Dp(s:aq):(esc s=[])=(s=[]):=propext ⟨Q2,λh=>by rw[h];rfl⟩
section
variable(client:Int)(path to:aq)(n m handle:Int)(data:aq)
def J5(h:qE client):nU (qT client path to n m handle data) qI=client:=by
 unfold nU qT;simp only[nK,nJ,kC]
 by_cases b:client=0<;>simp[b,l9 h]
def P8:uk (qT client path to n m handle data) Bc=esc path:=by
 unfold uk qT;simp only[nK,nJ,kC]
 by_cases b:path=[]<;>simp[b,Dp,Jn]
def acs:uk (qT client path to n m handle data) YW=esc to:=by
 unfold uk qT;simp only[nK,nJ,kC]
 by_cases b:to=[]<;>simp[b,Dp,Jn]
def aiB(h:qE n):nU (qT client path to n m handle data) wN=n:=by
 unfold nU qT;simp only[nK,nJ,kC]
 by_cases b:n=0<;>simp[b,l9 h]
def aiC(h:qE m):nU (qT client path to n m handle data) wM=m:=by
 unfold nU qT;simp only[nK,nJ,kC]
 by_cases b:m=0<;>simp[b,l9 h]
def J4(h:qE handle):nU (qT client path to n m handle data) qH=handle:=by
 unfold nU qT;simp only[nK,nJ,kC]
 by_cases b:handle=0<;>simp[b,l9 h]
def P9:uk (qT client path to n m handle data) nR=esc data:=by
 unfold uk qT;simp only[nK,nJ,kC]
 by_cases b:data=[]<;>simp[b,Dp,Jn]
end
def nY(ino kind n m:Int)(names:List aq)(data:aq):List KV :=
 DQ DX ino++(DQ xl kind++(DQ wN n++(DQ wM m++((if names=[]then[]else[(lg,join (names.map esc) [44])])++(I6 nR (esc data)++[])))))
def wE(b:Prop)[Decidable b](v w s:aq)(l:List KV):q6 ((if b then[]else[(v,s)])++l) w=if v=w/\¬b then some (v,s)else q6 l w:=by
 unfold q6
 by_cases h:b
 .simp[h]
 .by_cases i:v=w<;>simp[i,h]
def I7{c:UInt8}(i:c≠44):∀(l:List aq),(∀s∈l,c∉s)->c∉join l [44]
 | [],_=>by simp[join_nil]
 | [s],h=>by rw[join_one];exact h s ah
 |s::t::l,h=>by
  have b:=I7 i (t::l) λs hs=>h s (by simp[hs])
  rw[join_cons]at b⊢;simp only[joinTail,bF,List.flatten_cons,aM,aN,aZ,aY,not_or]at b⊢;exact⟨h s ah,i,b⟩
def YL(ino kind n m:Int)(names:List aq)(data:aq):Aw (nY ino kind n m names data) :=
 sD af af _<|sD af af _<|sD af af _<|sD af af _<|λp b=>by
  rcases aZ.1 b with b | b
  .split at b
   .simp at b
   .rw[bS.1 b];refine⟨show 32∉lg by decide,show 61∉lg by decide,I7 af _ λs hs=>?_⟩
    obtain⟨x,_,rfl⟩:=b7.1 hs;exact tH rfl x
  .exact C6 af af (tH rfl _) E7 p b
section
variable(ino kind n m:Int)(names:List aq)(data:aq)
def RT(h:qE ino):nU (nY ino kind n m names data) DX=ino:=by
 unfold nU nY;simp only[nK,nJ,wE,kC]
 by_cases b:ino=0<;>simp[b,l9 h]
def OR(h:qE kind):nU (nY ino kind n m names data) xl=kind:=by
 unfold nU nY;simp only[nK,nJ,wE,kC]
 by_cases b:kind=0<;>simp[b,l9 h]
def afH(h:qE n):nU (nY ino kind n m names data) wN=n:=by
 unfold nU nY;simp only[nK,nJ,wE,kC]
 by_cases b:n=0<;>simp[b,l9 h]
def afI(h:qE m):nU (nY ino kind n m names data) wM=m:=by
 unfold nU nY;simp only[nK,nJ,wE,kC]
 by_cases b:m=0<;>simp[b,l9 h]
def Lb:q6 (nY ino kind n m names data) lg=if names=[]then none else some (lg,join (names.map esc) [44]):=by
 unfold nY;simp only[nK,nJ,wE,kC]
 by_cases b:names=[]<;>simp[b]
def OS:uk (nY ino kind n m names data) nR=esc data:=by
 unfold uk nY;simp only[nK,nJ,wE,kC]
 by_cases b:data=[]<;>simp[b,Dp,Jn]
end
def ET{names:List aq}(h:names≠[]):split (join (names.map esc) [44]) [44]=names.map esc :=
 uz _ (ak h) λs hs=>by
  obtain⟨x,_,rfl⟩:=b7.1 hs;exact tH rfl x
abbrev O5:aq:=[111,112]
abbrev Lu:aq:=[101,114,114,111,114]
abbrev wOk:aq:=[111,107]
def jw:List aq:=[[],[108,111,111,107],[109,97,107,101],[108,105,110,107],[117,110,108,105,110,107],[114,101,110,97,109,101],[108,105,115,116],[115,116,97,116],[111,112,101,110],[99,108,111,115,101],[114,101,97,100],[119,114,105,116,101],[99,117,116],[108,105,109,105,116],[116,97,107,101],[112,101,101,107],[100,114,111,112],[99,114,97,115,104]]
def vq(k:Int):aq:=if 0<k/\k<18 then jw.getD k.toNat []else O5++itoa k
def oO(f:aq):List aq->Nat->Int->Int
 | [],_,k=>k
 |w::l,i,k=>oO f l (i+1) (if w=f/\0<i then i else k)
def SM(f:aq):Int:=oO f jw 0 (wm (trimPrefix f O5))
def E9{f:aq}:∀(l:List aq)(i:Nat)(k:Int),(∀w∈l,w≠f)->oO f l i k=k
 | [],_,_,_=>rfl
 |w::l,i,k,h=>by
  rw[oO,if_neg (λe=>h w ah e.1)]
  exact E9 l _ _ λw b=>h w (by simp[b])
def Ki:∀k:Fin 17,∀z:Int,oO (jw.getD (k.val+1) []) jw 0 z=((k.val+1:Nat):Int):=by
 intro k z;have:∀k:Fin 17,(jw.zipIdx.filter λp=>decide (p.1=jw.getD (k.val+1) []/\0<p.2))=[(jw.getD (k.val+1) [],k.val+1)]:=af
 have key:∀(f:aq)(l:List aq)(i:Nat)(z:Int),oO f l i z=match ((l.zipIdx i).filter λp=>decide (p.1=f/\0<p.2)).getLast? with | some p=>(p.2:Int) | none=>z:=by
  intro f l
  induction l with
  |nil=>intro i z;rfl
  |cons w l h =>
   intro i z;rw[oO,h,List.zipIdx_cons,bX]
   by_cases b:w=f/\0<i
   .simp only[b,and_self,decide_true,if_true];rw[List.getLast?_cons];cases((l.zipIdx (i+1)).filter λp=>decide (p.1=f/\0<p.2)).getLast? <;> simp
   .rw[if_neg b,decide_eq_false b];simp
 rw[key,this k];rfl
def D5(p s:aq):trimPrefix (p++s) p=s:=by
 unfold trimPrefix;have:hasPrefix (p++s) p=true:=by unfold hasPrefix;simp
 rw[if_pos this];simp
def Kl(n:Int):∃c r,itoa n=c::r/\(c.toNat=45\/48<=c.toNat/\c.toNat<=57):=by
 unfold itoa;split
 .exact⟨_,_,rfl,.inl rfl⟩
 .have h:=Du n.toNat;cases hl:decDigits n.toNat with
  |nil=>exact absurd hl (HN _)
  |cons c r=>rw[hl]at h;exact⟨c,r,rfl,.inr (h c ah)⟩
def Kj{k:Int}(h:qE k):SM (vq k)=k:=by
 unfold vq;split
 .rename_i hk;obtain⟨j,rfl⟩:∃j:Nat,k=((j+1:Nat):Int):=⟨k.toNat-1,aa⟩
  have:=Ki ⟨j,aa⟩ (wm (trimPrefix (jw.getD (j+1) []) O5))
  exact this
 .unfold SM;rw[D5,l9 h];refine E9 _ _ _ λw b e=>?_
  let⟨c,r,l,i⟩:=Kl k;rw[l]at e;have:∀w∈jw,w[0]? = some 111->w[1]? = some 112->w[2]? = some 101:=af
  have h3:=this w b (by rw[e];rfl) (by rw[e];rfl)
  rw[e]at h3;simp at h3;subst h3;simp at i
def U8(k:Int):32∉vq k:=by
 unfold vq;split
 .rename_i hk;have:∀i:Fin 18,32∉jw.getD i.val []:=by decide
  exact this ⟨k.toNat,aa⟩
 .simp only[aZ,not_or];exact⟨af,zu rfl k⟩
def lX(e:Int):aq:=if e=0 then wOk else Lu++itoa e
def N1{e:Int}(h:qE e):wm (trimPrefix (lX e) Lu)=e:=by
 unfold lX;split
 .rename_i b;rw[b];decide
 .rw[D5,l9 h]
def RU(e:Int):32∉lX e:=by
 unfold lX;split
 .decide
 .simp only[aZ,not_or];exact⟨af,zu rfl e⟩
end Go.Re
