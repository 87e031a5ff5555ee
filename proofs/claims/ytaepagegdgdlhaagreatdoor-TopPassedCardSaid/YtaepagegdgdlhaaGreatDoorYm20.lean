/- Part of the proof that TopPassedCard holds. -/
import Derived.Test.YtaepagegdgdlhaaGreatDoorAmBm
import Derived.Test.YtaepagegdgdlhaaGreatDoorAmSm
import Derived.Shelf.Strings.OnBuilder
import Derived.Lib.Bytealg
import Derived.Laws.Externs
set_option linter.all false
namespace Go.Am.Nm
open Go.Am Go.RowKit Go.Lib
variable{P:Program}
section
open S
abbrev u0:= "strings.go:24"
abbrev u1:= "strings.go:25"
def abL(nm:String)(ta:Array TypeId)(tS tU tI:TypeId)(fX:FuncId):Func :=
 V ({name:=nm,origin:= "",params:=#[tS,tU],resultTypes:=#[tI],nfree:=0,ntmps:=8,results:=#[ResultVar.tmp 4],body:=some ((R 0 #[j 4 (.assign (.const (.int .i64 0))) tI u0 #[]]).seq ((R 1 #[m 5 0 tS u1 #[],m 6 1 tU u1 #[],j 7 (k (.value (.func fX)) #[t 5,t 6] #[tS,tU]) tI u1 #[d 0,d 1],a 4 7 tI u1 #[d 2,c 2,p 0,p 1,p 2]]).seq .ret)),norace:=false,file:= "internal/stringslite/strings.go",endLine:=26,tmpNames:=#["s","c","s","c","","","",""]}:Func) (by conv=>lhs;simp only[d,c,g,p,t,k,J,j,m,a,R,I,u0,u1])
end
theorem Mb(nm:String)(ta:Array TypeId)(tS tU tI:TypeId)(fX:FuncId):(abL nm ta tS tU tI fX).ntmps=8:=rfl
structure agr(P:Program)(f:FuncId)(tS tU tI:TypeId)(fX:FuncId):Prop where
 mixed:P.follows .mixedOrders=true
 f:∃nm ta,P.funcs[f]? = some (abL nm ta tS tU tI fX)/\(nm == "runtime.NumGoroutine")=false
 o:∃fn,P.funcs[fX]? = some fn/\fn.body=none/\(fn.name == "runtime.NumGoroutine")=false/\Extern.findNext fn=none/\Extern.find fn=some Extern.BytealgIndexByte.indexByte
variable{f tS tU tI fX:Nat}
def SU(L:agr P f tS tU tI fX)(s:ByteArray)(c:Int)(w:World):
  Calls P f #[.string s,.int .u8 c] w λe w'=>e = .returned (.int .i64 (indexByte s.data.toList c.toNat.toUInt8))/\w'=w:=by
 have mixed:=L.mixed;let⟨nm,ta,hf,_⟩:=L.f;let⟨fn,o1,o2,o3,o4,o5⟩:=L.o
 have hov:(callFunc fX #[.string s,.int .u8 c]).run P w = .ok (.value (.int .i64 (indexByte s.data.toList c.toNat.toUInt8))) w:=by
  rw[run_callFunc_extern o1 o3 (by rw[o2];rfl) o4 o5,run_indexByteString];rfl
 go_enter hf,Mb _ _ _ _ _ _
 go_wp2_with (simp only[hov])
 go_ret
 exact⟨rfl,rfl⟩
def V7:List AV->Option AV
 | [.str s,.int .u8 c]=>some (.int .i64 (indexByte s c.toNat.toUInt8))
 |_=>none
def ZZ(L:agr P f tS tU tI fX){args:List AV}{r:AV}(h:AH)(hr:V7 args=some r):zl P f args h r h:=by
 unfold V7 at hr;split at hr
 .rename_i s c;cases hr;refine xN (by let⟨nm,ta,hf,hn⟩:=L.f;exact⟨_,hf,rfl,hn⟩) λZ β w vs R hl hv=>?_
  match vs,hl with
  | [v,u],_ =>
   have h1:=u9 (hv 0 _ v rfl rfl);have h2:=(hv 1 _ u rfl rfl).nr;subst h1 h2;refine⟨_,λ_ _ _=>.pure _ _ (.int _ _),(SU L ⟨s.toArray⟩ c w).mono ?_⟩
   rintro e w' ⟨rfl,rfl⟩
   exact⟨rfl,Below.refl _ _⟩
 .cases hr
def Z1(s:au):indexByte s 47=xh s:=by
 induction s with
 |nil=>rfl
 |cons b t ih =>
  unfold indexByte;rw[ih]
  by_cases hb:b=47
  .subst hb;simp[xh,upTo]
  .have hb':¬(b==47)=true:=by simpa using hb
   rw[if_neg hb'];unfold xh;simp only[bH,decide_eq_false hb,gh,eP];split
   .rfl
   .rename_i hn;have:¬((((upTo t).length:Int)) == -1)=true:=by simp
    rw[if_neg this];simp[upTo,hb]
def u7:List AV->Option (List au)
 | []=>some []
 | .str s::l=>(u7 l).map (s :: ·)
 |_=>none
def NP(l:List au):u7 (l.map AV.str)=some l:=by
 induction l with
 |nil=>rfl
 |cons s l ih=>simp[u7,ih]
def Dw:∀ {es:List AV} {l:List au},u7 es=some l->es=l.map AV.str
 | [],l,h=>by simp[u7]at h;subst h;rfl
 |e::es,l,h=>by
  cases e with
  |str s =>
   simp only[u7]at h;cases hl:u7 es with
   |none=>rw[hl]at h;cases h
   |some m =>
    rw[hl]at h;cases h;rw[Dw hl];rfl
  |_=>simp[u7]at h
def Et:List AV->Option AV
 | [.jB _ es,.str sep]=>match u7 es with
  |some l=>if l.length<=140737488355328/\(join l sep).length<=140737488355328 then some (.str (join l sep))else none
  |none=>none
 |_=>none
def SM(fl:Bool)(l:List au)(sep:au)(h1:l.length<=140737488355328)(h2:(join l sep).length<=140737488355328):Et [.jB fl (l.map AV.str),.str sep]=some (.str (join l sep)):=by
 simp only[Et,NP];rw[if_pos ⟨h1,h2⟩]
open Go.Shelf Go.Proofs in
def VQ{ρ:Ren}(L:Lays.n156 P ρ)(X:Builder.Extra P ρ)(hc:tw P (ρ.f 156)){args:List AV}{r:AV}(h:AH)(hr:Et args=some r):zl P (ρ.f 156) args h r h:=by
 unfold Et at hr;split at hr
 .rename_i fl es sep;split at hr
  .rename_i l hl0;have lJ:=Dw hl0;subst lJ;split at hr
   .rename_i hb;cases hr;refine xN hc λZ β w vs R hl hv=>?_
    match vs,hl with
    | [v,u],_ =>
     have h1:=(hv 0 _ v rfl rfl).oJ;have h2:=u9 (hv 1 _ u rfl rfl);subst h2;refine⟨.string ⟨(join l sep).toArray⟩,λ_ _ _=>.pure _ _ (CW _),?_⟩
     generalize hlen:(l.map AV.str)=es at h1;cases h1 with
     |jB _ _ a c blk o sz f hf S8 ha hs q1 q3 q2 =>
      have hll:es.length=l.length:=by rw[<-hlen];simp
      cases l with
      |nil =>
       simp only[bQ]at hlen;subst hlen;exact(Any.strings_Join_none L X a c ⟨sep.toArray⟩ w).mono λe w' ⟨he,hw⟩=>⟨he,hw▸Below.refl _ _⟩
      |cons x l =>
       let⟨e1,e2,e3⟩:=ha (by rw[<-hlen];simp)
       subst e1;obtain⟨xs,hxs⟩:∃xs:List ByteArray,xs=(x::l).map λs=>⟨s.toArray⟩:=⟨_,rfl⟩
       have hxl:xs.length=es.length:=by rw[hxs,hll];simp
       have hxm:xs.map (λb=>b.data.toList)=x::l:=by rw[hxs,gL];simp[Function.comp_def]
       have:=Any.strings_Join L X blk o c xs ⟨sep.toArray⟩ w (λj y hy=>by
        rw[hxs,bW]at hy;cases hj:(x::l)[j]? with
        |none=>rw[hj]at hy;cases hy
        |some s =>
         rw[hj]at hy;simp only[bJ,bp]at hy;subst hy;have hej:es[j]? = some (.str s):=by rw[<-hlen,bW,hj];rfl
         let⟨t1,_⟩:=hs j _ hej;have hsz:sz=1:=by rw[<-t1];rfl
         subst hsz;have t2:=q1 j _ hej 0 _ rfl;have t3:=u9 (.pure (β:=β) _ _ (q2 j _ hej 0 _ rfl));rw[t3]at t2
         simpa using t2) e3 (by rw[hxl,hll];exact hb.1) (by rw[hxl];exact S8) (by rw[hxm];simpa using hb.2)
       rw[hxm,hxl]at this;exact this
   .cases hr
  .cases hr
 .cases hr
open Go.Am Go.Lib
def nY:au->List au
 | []=>[[]]
 |b::t=>if b=47 then[]::nY t else match nY t with
  | []=>[[b]]
  |s::r=>(b::s)::r
def zu(t:au):nY t≠[]:=by
 cases t with
 |nil=>simp[nY]
 |cons b t =>
  unfold nY;split
  .simp
  .split<;>simp
def yJ(t:au):nY (47::t)=[]::nY t:=by
 rw[nY,if_pos rfl]
def vi{b:UInt8}(hb:b≠47){t s:au}{r:List au}(h:nY t=s::r):nY (b::t)=(b::s)::r:=by
 rw[nY,if_neg hb,h]
def DF:∀ {x:au},(∀b∈x,b≠47)->∀t,nY (x++47::t)=x::nY t
 | [],_,t=>yJ t
 |b::x,h,t=>vi (h b ah) (DF (λc hc=>h c (by simp[hc])) t)
def DE:∀ {x:au},(∀b∈x,b≠47)->nY x=[x]
 | [],_=>rfl
 |b::x,h=>vi (h b ah) (DE (λc hc=>h c (by simp[hc])))
def abk(s:au):∀b∈upTo s,b≠47:=by
 induction s with
 |nil=>intro b hb;cases hb
 |cons c s ih =>
  intro b hb;unfold upTo at hb ih;rw[ir]at hb;split at hb
  .rename_i hc
   rcases aP.1 hb with rfl | hb
   .simpa using hc
   .exact ih b hb
  .cases hb
def Te(s:au):from_ s=[]\/∃t,from_ s=47::t:=by
 induction s with
 |nil=>exact .inl rfl
 |cons c s ih =>
  unfold from_ at ih⊢;rw[fB];split
  .exact ih
  .rename_i hc;have:c=47:=by simpa using hc
   exact .inr ⟨s,by rw[this]⟩
def SA:∀(n:Nat)(t:au),t.length<=n->pV (47::t)=(nY t).map λs=>(s,true):=by
 intro n
 induction n with
 |zero =>
  intro t ht;have:t=[]:=aY aa
  subst this;rw[wS ah]
  simp[nB,pW,upTo,from_,nY,zC]
 |succ n ih =>
  intro t ht;rw[wS ah]
  have e1:nB (47::t)=t:=by simp[nB]
  have e2:pW (47::t)=true:=by simp[pW]
  rw[e1,e2];have hap:=Ik t
  rcases Te t with h0 | ⟨t',h0⟩
  .rw[h0,zC];rw[h0,dz]at hap;have:=DE (abk t);rw[hap]at this⊢;rw[this];rfl
  .rw[h0]at hap⊢;have hlen:=congrArg List.length hap;simp only[aL,aQ]at hlen;rw[ih t' aa]
   have:=DF (abk t) t';rw[hap]at this;rw[this];rfl
def mW(x:au)(r:List au):joinTail [47] (x::r)=47::(x++joinTail [47] r):=by simp[joinTail]
def Hl:∀t:au,join (nY t) [47]=t
 | []=>rfl
 |b::t=>by
  have ih:=Hl t;obtain⟨x,r,hx⟩:∃x r,nY t=x::r:=by
   cases h:nY t with
   |nil=>exact absurd h (zu t)
   |cons x r=>exact⟨x,r,rfl⟩
  rw[hx,join_cons]at ih
  by_cases hb:b=47
  .subst hb;rw[yJ,hx,join_cons,mW,ih];rfl
  .rw[vi hb hx,join_cons,bK,ih]
def GV:∀ {l:List au},l≠[]->(∀x∈l,∀b∈x,b≠47)->nY (join l [47])=l
 | [],h,_=>absurd rfl h
 | [x],_,h=>by rw[join_one];exact DE (h x ah)
 |x::y::r,_,h=>by
  have ih:=GV (l:=y::r) ah (λz hz=>h z (by simp[aP.1 hz]))
  rw[join_cons]at ih⊢;rw[mW,DF (h x ah),ih]
def adt{b:UInt8}(h:IF b=true):b≠47:=by
 rintro rfl
 simp[IF]at h
def UN{x:au}(h:jL x=true):∀b∈x,b≠47:=by
 unfold jL at h;simp only[aH]at h;exact λb hb=>adt (aO.1 h.2 b hb)
def UO{x:au}(h:jL x=true):x≠[]:=by
 rintro rfl
 simp[jL]at h
def split(p:au):Option (List au) :=
 if p=[47]then some []else if p.head? = some 47/\(nY p.tail).length<=12/\(nY p.tail).all jL=true then some (nY p.tail)else none
def jn(l:List au):au:=if l=[]then[47]else 47::join l [47]
def Uu(p:au):rD jL p=split p:=by
 unfold rD split
 by_cases h:p=[47]
 .rw[if_pos h,if_pos h]
 rw[if_neg h,if_neg h];cases p with
 |nil=>simp[zC]
 |cons b t =>
  by_cases hb:b=47
  .subst hb;rw[SA _ t (aN _)];have e1:((nY t).map λs=>(s,true))≠[]:=by simp[zu]
   have e2:((nY t).map λs=>(s,true)).all (EJ jL)=(nY t).all jL:=by
    rw[List.all_map]
    congr 1
   have e3:((nY t).map λs=>(s,true)).map (·.1)=nY t:=by
    rw[gL];exact fF _
   simp only[e1,e2,e3,cV,ij,iD,ne_eq,not_false_eq_true,true_and]
  .rw[if_neg,if_neg]
   .simp[hb]
   .rintro⟨_,_,h3⟩
    rw[wS ah]at h3
    simp[EJ,pW,hb]at h3
def k9{p:au}{l:List au}(h:split p=some l):jn l=p/\l.length<=12/\l.all jL=true:=by
 unfold split at h;split at h
 .rename_i hp;cases h;exact⟨by rw[hp];rfl,ah,rfl⟩
 .split at h
  .rename_i hc;cases h;let⟨h1,h2,h3⟩:=hc;refine⟨?_,h2,h3⟩;unfold jn;rw[if_neg (zu _),Hl];cases p with
   |nil=>cases h1
   |cons b t=>simp at h1;simp[h1]
  .cases h
def oq{l:List au}(h1:l.length<=12)(h2:l.all jL=true):split (jn l)=some l:=by
 by_cases h0:l=[]
 .subst h0;rfl
 .have hs:=GV h0 λx hx=>UN (aO.1 h2 x hx)
  have hj:jn l=47::join l [47]:=by unfold jn;rw[if_neg h0]
  have hne:¬jn l=[47]:=by
   rw[hj];intro h;simp only[dm,true_and]at h;rw[h]at hs;have:([]:au)∈l:=by rw[<-hs];simp[nY]
   exact UO (aO.1 h2 _ this) rfl
  unfold split;rw[if_neg hne,hj];simp only[ij,iD,hs];rw[if_pos ⟨trivial,h1,h2⟩]
def ad6{l m:List au}(h1:l.length<=12)(h2:l.all jL=true)(h3:m.length<=12)(h4:m.all jL=true)(h:jn l=jn m):l=m:=by
 have:=oq h1 h2;rw[h,oq h3 h4]at this;exact(cu this).symm
def qC(a b:au):Bool:=match split a,split b with
 |some x,some y=>decide (x.length<=y.length/\x=y.take x.length)
 |_,_=>false
end Go.Am.Nm
namespace Go.Am.Sh
open Go.Am Go.Am.Nm Go.Lib
structure P where
 pa:au
 gr:Int
 ep:Int
@[simp]def D(p:P):AV:=.agg [.str p.pa,.int .i64 p.gr,.int .i64 p.ep]
@[simp]def szD(l:List P):kK 3 (l.map D)=true:=by simp[kK]
def jO(s:au):Bool:=(split s).isSome
def Gq(g:Int):Bool:=decide (0<=g/\g<8)
def okE(e:Int):Bool:=decide (1<=e/\e<=1099511627776)
def uH(p:P):Bool:=jO p.pa&&Gq p.gr&&okE p.ep
def lt(a b:P):Bool:=jP a.pa b.pa
def ix(q:P->Bool):List P->Nat->ax
 | [],_=>[]
 |p::l,k=>(bif q p then[k]else[])++ix q l (k+1)
def VU(q:P->Bool):∀(l m:List P)(k:Nat),ix q (l++m) k=ix q l k++ix q m (k+l.length)
 | [],m,k=>by simp[ix]
 |p::l,m,k=>by
  simp only[bK,ix,VU q l m (k+1),cF,aQ];rw[show k+1+l.length=k+(l.length+1) by omega]
def Om{q:P->Bool}:∀ {l:List P} {k i:Nat},i∈ix q l k↔∃p,k<=i/\l[i-k]? = some p/\q p=true
 | [],k,i=>by simp[ix]
 |p::l,k,i=>by
  simp only[ix,aX,Om (l:=l) (k:=k+1) (i:=i)]
  constructor
  .rintro(h | ⟨x,h1,h2,h3⟩)
   .cases hq:q p with
    |true =>
     rw[hq]at h;simp only[cond_true,aM]at h;subst h;exact⟨p,aN _,ah,hq⟩
    |false=>rw[hq]at h;cases h
   .refine⟨x,aa,?_,h3⟩
    rw[show i-k=(i-(k+1))+1 by omega,bG];exact h2
  .rintro⟨x,h1,h2,h3⟩
   by_cases hik:i=k
   .subst hik;simp only[jv,bz,bp]at h2;subst h2;left;rw[h3];simp
   .right;refine⟨x,aa,?_,h3⟩
    rw[show i-k=(i-(k+1))+1 by omega,bG]at h2;exact h2
def Be(q:P->Bool):∀(l:List P)(k:Nat),(ix q l k).length<=l.length
 | [],k=>by simp[ix]
 |p::l,k=>by
  have:=Be q l (k+1);simp only[ix,aL,aQ];cases q p<;>simp<;>omega
end Go.Am.Sh
