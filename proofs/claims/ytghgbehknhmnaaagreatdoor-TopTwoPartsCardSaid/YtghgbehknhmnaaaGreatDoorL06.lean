/- Part of the proof that TopTwoPartsCard holds. -/
import Derived.Test.YtghgbehknhmnaaaGreatDoorAmBm
import Derived.Test.YtghgbehknhmnaaaGreatDoorAmSm
import Derived.Shelf.Strings.OnBuilder
import Derived.Lib.Bytealg
import Derived.Laws.Externs
set_option linter.all false
namespace Go.Am.Nm
open Go.Am Go.RowKit Go.Lib
variable{P:Program}
section
open S
abbrev u0:= "strings.go:24"
abbrev u1:= "strings.go:25"
def Te(nm:String)(i:Array TypeId)(tS b tI:TypeId)(h:FuncId):Func :=
 V ({name:=nm,origin:= "",params:=#[tS,b],resultTypes:=#[tI],nfree:=0,ntmps:=8,results:=#[ResultVar.tmp 4],body:=some ((R 0 #[j 4 (.assign (.const (.int .i64 0))) tI u0 #[]]).seq ((R 1 #[m 5 0 tS u1 #[],m 6 1 b u1 #[],j 7 (k (.value (.func h)) #[t 5,t 6] #[tS,b]) tI u1 #[d 0,d 1],a 4 7 tI u1 #[d 2,c 2,p 0,p 1,p 2]]).seq .ret)),norace:=false,file:= "internal/stringslite/strings.go",endLine:=26,tmpNames:=#["s","c","s","c","","","",""]}:Func) (by conv=>lhs;simp only[d,c,g,p,t,k,J,j,m,a,R,I,u0,u1])
end
theorem FP(nm:String)(b:Array TypeId)(tS h tI:TypeId)(i:FuncId):(Te nm b tS h tI i).ntmps=8:=rfl
structure YZ(P:Program)(f:FuncId)(tS tU tI:TypeId)(fX:FuncId):Prop where
 mixed:P.follows .mixedOrders=true
 f:∃nm ta,P.funcs[f]? = some (Te nm ta tS tU tI fX)/\(nm == "runtime.NumGoroutine")=false
 o:∃fn,P.funcs[fX]? = some fn/\fn.body=none/\(fn.name == "runtime.NumGoroutine")=false/\Extern.findNext fn=none/\Extern.find fn=some Extern.BytealgIndexByte.indexByte
variable{f tS tI:Nat}
def KP{i h:Nat}(L:YZ P f tS i tI h)(s:ByteArray)(c:Int)(w:World):
  Calls P f #[.string s,.int .u8 c] w λe w'=>e = .returned (.int .i64 (indexByte s.data.toList c.toNat.toUInt8))/\w'=w:=by
 have mixed:=L.mixed;let⟨nm,x,v,_⟩:=L.f;let⟨fn,r,q,o3,n,l⟩:=L.o
 have b:(callFunc h #[.string s,.int .u8 c]).run P w = .ok (.value (.int .i64 (indexByte s.data.toList c.toNat.toUInt8))) w:=by
  rw[run_callFunc_extern r o3 (by rw[q];rfl) n l,run_indexByteString];rfl
 go_enter v,FP _ _ _ _ _ _
 go_wp2_with (simp only[b])
 go_ret
 exact⟨rfl,rfl⟩
def NJ:List AV->Option AV
 | [.str s,.int .u8 c]=>some (.int .i64 (indexByte s c.toNat.toUInt8))
 |_=>none
def Q1{l q:Nat}(L:YZ P f tS l tI q){args:List AV}{r:AV}(h:AH)(b:NJ args=some r):ux P f args h r h:=by
 unfold NJ at b;split at b
 .rename_i s c;cases b;refine ua (by let⟨nm,x,o,n⟩:=L.f;exact⟨_,o,rfl,n⟩) λZ β w vs R hl i=>?_
  match vs,hl with
  | [v,u],_ =>
   have h1:=rD (i 0 _ v rfl rfl);have h2:=(i 1 _ u rfl rfl).kE;subst h1 h2;refine⟨_,λ_ _ _=>.pure _ _ (.int _ _),(KP L ⟨s.toArray⟩ c w).mono ?_⟩
   rintro e w' ⟨rfl,rfl⟩
   exact⟨rfl,Below.refl _ _⟩
 .cases b
def Q2(s:au):indexByte s 47=sY s:=by
 induction s with
 |nil=>rfl
 |cons b t l =>
  unfold indexByte;rw[l]
  by_cases h:b=47
  .subst h;simp[sY,upTo]
  .have i:¬(b==47)=true:=by simpa using h
   rw[if_neg i];unfold sY;simp only[bV,decide_eq_false h,eA,gF];split
   .rfl
   .rename_i n;have:¬((((upTo t).length:Int)) == -1)=true:=by simp
    rw[if_neg this];simp[upTo,h]
def rC:List AV->Option (List au)
 | []=>some []
 | .str s::l=>(rC l).map (s :: ·)
 |_=>none
def G3(l:List au):rC (l.map AV.str)=some l:=by
 induction l with
 |nil=>rfl
 |cons s l b=>simp[rC,b]
def zS:∀ {es:List AV} {l:List au},rC es=some l->es=l.map AV.str
 | [],l,h=>by simp[rC]at h;subst h;rfl
 |e::es,l,h=>by
  cases e with
  |str s =>
   simp only[rC]at h;cases hl:rC es with
   |none=>rw[hl]at h;cases h
   |some m =>
    rw[hl]at h;cases h;rw[zS hl];rfl
  |_=>simp[rC]at h
def AU:List AV->Option AV
 | [.b9 _ es,.str sep]=>match rC es with
  |some l=>if l.length<=140737488355328/\(join l sep).length<=140737488355328 then some (.str (join l sep))else none
  |none=>none
 |_=>none
theorem KH(b:Bool)(l:List au)(sep:au)(h1:l.length<=140737488355328)(h2:(join l sep).length<=140737488355328):AU [.b9 b (l.map AV.str),.str sep]=some (.str (join l sep)):=by
 simp only[AU,G3];rw[if_pos ⟨h1,h2⟩]
open Go.Shelf Go.Proofs in
def NA{ρ:Ren}(L:Lays.n156 P ρ)(X:Builder.Extra P ρ)(hc:oO P (ρ.f 156)){args:List AV}{r:AV}(h:AH)(n:AU args=some r):ux P (ρ.f 156) args h r h:=by
 unfold AU at n;split at n
 .rename_i fl es sep;split at n
  .rename_i l K;have N:=zS K;subst N;split at n
   .rename_i T;cases n;refine ua hc λZ β w vs R hl S=>?_
    match vs,hl with
    | [v,u],_ =>
     have h1:=(S 0 _ v rfl rfl).mK;have h2:=rD (S 1 _ u rfl rfl);subst h2;refine⟨.string ⟨(join l sep).toArray⟩,λ_ _ _=>.pure _ _ (zv _),?_⟩
     generalize i:(l.map AV.str)=es at h1;cases h1 with
     |b9 _ _ a c blk o sz f hf O ha hs q1 q3 W =>
      have G:es.length=l.length:=by rw[<-i];simp
      cases l with
      |nil =>
       simp only[aN]at i;subst i;exact(Any.strings_Join_none L X a c ⟨sep.toArray⟩ w).mono λe w' ⟨he,Y⟩=>⟨he,Y▸Below.refl _ _⟩
      |cons x l =>
       let⟨e1,e2,e3⟩:=ha (by rw[<-i];simp)
       subst e1;obtain⟨xs,q⟩:∃xs:List ByteArray,xs=(x::l).map λs=>⟨s.toArray⟩:=⟨_,rfl⟩
       have z:xs.length=es.length:=by rw[q,G];simp
       have F:xs.map (λb=>b.data.toList)=x::l:=by rw[q,e9];simp[Function.comp_def]
       have:=Any.strings_Join L X blk o c xs ⟨sep.toArray⟩ w (λj y E=>by
        rw[q,bP]at E;cases M:(x::l)[j]? with
        |none=>rw[M]at E;cases E
        |some s =>
         rw[M]at E;simp only[cS,bn]at E;subst E;have A:es[j]? = some (.str s):=by rw[<-i,bP,M];rfl
         let⟨U,_⟩:=hs j _ A;have H:sz=1:=by rw[<-U];rfl
         subst H;have Q:=q1 j _ A 0 _ rfl;have t3:=rD (.pure (β:=β) _ _ (W j _ A 0 _ rfl));rw[t3]at Q
         simpa using Q) e3 (by rw[z,G];exact T.1) (by rw[z];exact O) (by rw[F];simpa using T.2)
       rw[F,z]at this;exact this
   .cases n
  .cases n
 .cases n
def mw:au->List au
 | []=>[[]]
 |b::t=>if b=47 then[]::mw t else match mw t with
  | []=>[[b]]
  |s::r=>(b::s)::r
def vZ(t:au):mw t≠[]:=by
 cases t with
 |nil=>simp[mw]
 |cons b t =>
  unfold mw;split
  .simp
  .split<;>simp
def vg(t:au):mw (47::t)=[]::mw t:=by
 rw[mw,if_pos rfl]
def rJ{b:UInt8}(i:b≠47){t s:au}{r:List au}(h:mw t=s::r):mw (b::t)=(b::s)::r:=by
 rw[mw,if_neg i,h]
def EU:∀ {x:au},(∀b∈x,b≠47)->∀t,mw (x++47::t)=x::mw t
 | [],_,t=>vg t
 |b::x,h,t=>rJ (h b ai) (EU (λc i=>h c (by simp[i])) t)
def ET:∀ {x:au},(∀b∈x,b≠47)->mw x=[x]
 | [],_=>rfl
 |b::x,h=>rJ (h b ai) (ET (λc i=>h c (by simp[i])))
def SG(s:au):∀b∈upTo s,b≠47:=by
 induction s with
 |nil=>intro b h;cases h
 |cons c s i =>
  intro b h;unfold upTo at h i;rw[dA]at h;split at h
  .rename_i l
   rcases bw.1 h with rfl | h
   .simpa using l
   .exact i b h
  .cases h
def KV(s:au):from_ s=[]\/∃t,from_ s=47::t:=by
 induction s with
 |nil=>exact .inl rfl
 |cons c s b =>
  unfold from_ at b⊢;rw[cV];split
  .exact b
  .rename_i h;have:c=47:=by simpa using h
   exact .inr ⟨s,by rw[this]⟩
def Ku:∀(n:Nat)(t:au),t.length<=n->nI (47::t)=(mw t).map λs=>(s,true):=by
 intro n
 induction n with
 |zero =>
  intro t o;have:t=[]:=bh af
  subst this;rw[sO ai]
  simp[lE,nK,upTo,from_,mw,wm]
 |succ n l =>
  intro t o;rw[sO ai]
  have e1:lE (47::t)=t:=by simp[lE]
  have q:nK (47::t)=true:=by simp[nK]
  rw[e1,q];have b:=Dq t
  rcases KV t with h0 | ⟨i,h0⟩
  .rw[h0,wm];rw[h0,cC]at b;have:=ET (SG t);rw[b]at this⊢;rw[this];rfl
  .rw[h0]at b⊢;have h:=congrArg List.length b;simp only[aU,aS]at h;rw[l i af]
   have:=EU (SG t) i;rw[b]at this;rw[this];rfl
theorem mU(x:au)(r:List au):joinTail [47] (x::r)=47::(x++joinTail [47] r):=by simp[joinTail]
def CG:∀t:au,join (mw t) [47]=t
 | []=>rfl
 |b::t=>by
  have i:=CG t;obtain⟨x,r,l⟩:∃x r,mw t=x::r:=by
   cases h:mw t with
   |nil=>exact absurd h (vZ t)
   |cons x r=>exact⟨x,r,rfl⟩
  rw[l,join_cons]at i
  by_cases n:b=47
  .subst n;rw[vg,l,join_cons,mU,i];rfl
  .rw[rJ n l,join_cons,aK,i]
def MD{x:au}(h:iN x=true):x.length<=32:=by
 unfold iN at h;simp at h;omega
def split(p:au):Option (List au) :=
 if p=[47]then some []else if p.head? = some 47/\(mw p.tail).length<=12/\(mw p.tail).all iN=true then some (mw p.tail)else none
def jn(l:List au):au:=if l=[]then[47]else 47::join l [47]
def Mj(p:au):oQ iN p=split p:=by
 unfold oQ split
 by_cases h:p=[47]
 .rw[if_pos h,if_pos h]
 rw[if_neg h,if_neg h];cases p with
 |nil=>simp[wm]
 |cons b t =>
  by_cases i:b=47
  .subst i;rw[Ku _ t (aV _)];have e1:((mw t).map λs=>(s,true))≠[]:=by simp[vZ]
   have n:((mw t).map λs=>(s,true)).all (Bc iN)=(mw t).all iN:=by
    rw[iL]
    congr 1
   have l:((mw t).map λs=>(s,true)).map (·.1)=mw t:=by
    rw[e9];exact fA _
   simp only[e1,n,l,cv,gT,iF,ne_eq,not_false_eq_true,true_and]
  .rw[if_neg,if_neg]
   .simp[i]
   .rintro⟨_,_,h3⟩
    rw[sO ai]at h3
    simp[Bc,nK,i]at h3
def rE{p:au}{l:List au}(h:split p=some l):jn l=p/\l.length<=12/\l.all iN=true:=by
 unfold split at h;split at h
 .rename_i i;cases h;exact⟨by rw[i];rfl,ai,rfl⟩
 .split at h
  .rename_i n;cases h;let⟨h1,h2,h3⟩:=n;refine⟨?_,h2,h3⟩;unfold jn;rw[if_neg (vZ _),CG];cases p with
   |nil=>cases h1
   |cons b t=>simp at h1;simp[h1]
  .cases h
end Go.Am.Nm
