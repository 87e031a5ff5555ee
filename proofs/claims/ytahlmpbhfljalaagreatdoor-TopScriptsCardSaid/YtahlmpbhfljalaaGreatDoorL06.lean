/- Part of the proof that TopScriptsCard holds. -/
import Derived.Test.YtahlmpbhfljalaaGreatDoorAmBm
import Derived.Test.YtahlmpbhfljalaaGreatDoorAmSm
import Derived.Shelf.Strings.OnBuilder
import Derived.Lib.Bytealg
import Derived.Laws.Externs
set_option linter.all false
namespace Go.Am.Nm
open Go.Am Go.RowKit Go.Lib
variable{P:Program}
section
open S
abbrev u0:= "strings.go:24"
abbrev u1:= "strings.go:25"
def SR(nm:String)(i:Array TypeId)(tS b tI:TypeId)(h:FuncId):Func :=
 V ({name:=nm,origin:= "",params:=#[tS,b],resultTypes:=#[tI],nfree:=0,ntmps:=8,results:=#[ResultVar.tmp 4],body:=some ((R 0 #[j 4 (.assign (.const (.int .i64 0))) tI u0 #[]]).seq ((R 1 #[m 5 0 tS u1 #[],m 6 1 b u1 #[],j 7 (k (.value (.func h)) #[t 5,t 6] #[tS,b]) tI u1 #[d 0,d 1],a 4 7 tI u1 #[d 2,c 2,p 0,p 1,p 2]]).seq .ret)),norace:=false,file:= "internal/stringslite/strings.go",endLine:=26,tmpNames:=#["s","c","s","c","","","",""]}:Func) (by conv=>lhs;simp only[d,c,g,p,t,k,J,j,m,a,R,I,u0,u1])
end
theorem Fo(nm:String)(b:Array TypeId)(tS h tI:TypeId)(i:FuncId):(SR nm b tS h tI i).ntmps=8:=rfl
structure Sa(P:Program)(f:FuncId)(tS tU tI:TypeId)(fX:FuncId):Prop where
 mixed:P.follows .mixedOrders=true
 f:∃nm ta,P.funcs[f]? = some (SR nm ta tS tU tI fX)/\(nm == "runtime.NumGoroutine")=false
 o:∃fn,P.funcs[fX]? = some fn/\fn.body=none/\(fn.name == "runtime.NumGoroutine")=false/\Extern.findNext fn=none/\Extern.find fn=some Extern.BytealgIndexByte.indexByte
variable{f tS tI:Nat}
def Ku{i h:Nat}(L:Sa P f tS i tI h)(s:ByteArray)(c:Int)(w:World):
  Calls P f #[.string s,.int .u8 c] w λe w'=>e = .returned (.int .i64 (indexByte s.data.toList c.toNat.toUInt8))/\w'=w:=by
 have mixed:=L.mixed;let⟨nm,y,x,_⟩:=L.f;let⟨fn,v,r,q,n,l⟩:=L.o
 have b:(callFunc h #[.string s,.int .u8 c]).run P w = .ok (.value (.int .i64 (indexByte s.data.toList c.toNat.toUInt8))) w:=by
  rw[run_callFunc_extern v q (by rw[r];rfl) n l,run_indexByteString];rfl
 go_enter x,Fo _ _ _ _ _ _
 go_wp2_with (simp only[b])
 go_ret
 exact⟨rfl,rfl⟩
def Df:List AV->Option AV
 | [.str s,.int .u8 c]=>some (.int .i64 (indexByte s c.toNat.toUInt8))
 |_=>none
def Jc{l q:Nat}(L:Sa P f tS l tI q){args:List AV}{r:AV}(h:AH)(b:Df args=some r):nC P f args h r h:=by
 unfold Df at b;split at b
 .rename_i s c;cases b;refine qc (by let⟨nm,x,o,n⟩:=L.f;exact⟨_,o,rfl,n⟩) λZ β w vs R hl i=>?_
  match vs,hl with
  | [v,u],_ =>
   have h1:=nP (i 0 _ v rfl rfl);have h2:=(i 1 _ u rfl rfl).jF;subst h1 h2;refine⟨_,λ_ _ _=>.pure _ _ (.int _ _),(Ku L ⟨s.toArray⟩ c w).mono ?_⟩
   rintro e w' ⟨rfl,rfl⟩
   exact⟨rfl,Below.refl _ _⟩
 .cases b
def QE(s:aq):indexByte s 47=sO s:=by
 induction s with
 |nil=>rfl
 |cons b t l =>
  unfold indexByte;rw[l]
  by_cases h:b=47
  .subst h;simp[sO,upTo]
  .have i:¬(b==47)=true:=by simpa using h
   rw[if_neg i];unfold sO;simp only[cm,decide_eq_false h,ef,gM];split
   .rfl
   .rename_i n;have:¬((((upTo t).length:Int)) == -1)=true:=by simp
    rw[if_neg this];simp[upTo,h]
def qJ:List AV->Option (List aq)
 | []=>some []
 | .str s::l=>(qJ l).map (s :: ·)
 |_=>none
def GH(l:List aq):qJ (l.map AV.str)=some l:=by
 induction l with
 |nil=>rfl
 |cons s l b=>simp[qJ,b]
def yI:∀ {es:List AV} {l:List aq},qJ es=some l->es=l.map AV.str
 | [],l,h=>by simp[qJ]at h;subst h;rfl
 |e::es,l,h=>by
  cases e with
  |str s =>
   simp only[qJ]at h;cases hl:qJ es with
   |none=>rw[hl]at h;cases h
   |some m =>
    rw[hl]at h;cases h;rw[yI hl];rfl
  |_=>simp[qJ]at h
def xA:List AV->Option AV
 | [.en _ es,.str sep]=>match qJ es with
  |some l=>if l.length<=140737488355328/\(join l sep).length<=140737488355328 then some (.str (join l sep))else none
  |none=>none
 |_=>none
theorem BH(fl:Bool)(l:List aq)(sep:aq)(h1:l.length<=140737488355328)(h2:(join l sep).length<=140737488355328):xA [.en fl (l.map AV.str),.str sep]=some (.str (join l sep)):=by
 simp only[xA,GH];rw[if_pos ⟨h1,h2⟩]
open Go.Shelf Go.Proofs in
def Na{ρ:Ren}(L:Lays.n156 P ρ)(X:Builder.Extra P ρ)(hc:jH P (ρ.f 156)){args:List AV}{r:AV}(h:AH)(n:xA args=some r):nC P (ρ.f 156) args h r h:=by
 unfold xA at n;split at n
 .rename_i fl es sep;split at n
  .rename_i l K;have N:=yI K;subst N;split at n
   .rename_i S;cases n;refine qc hc λZ β w vs R hl Q=>?_
    match vs,hl with
    | [v,u],_ =>
     have h1:=(Q 0 _ v rfl rfl).lS;have h2:=nP (Q 1 _ u rfl rfl);subst h2;refine⟨.string ⟨(join l sep).toArray⟩,λ_ _ _=>.pure _ _ (qK _),?_⟩
     generalize i:(l.map AV.str)=es at h1;cases h1 with
     |en _ _ a c blk o sz f hf O ha hs q1 q3 U =>
      have G:es.length=l.length:=by rw[<-i];simp
      cases l with
      |nil =>
       simp only[aX]at i;subst i;exact(Any.strings_Join_none L X a c ⟨sep.toArray⟩ w).mono λe w' ⟨Y,W⟩=>⟨Y,W▸Below.refl _ _⟩
      |cons x l =>
       let⟨e1,e2,e3⟩:=ha (by rw[<-i];simp)
       subst e1;obtain⟨xs,q⟩:∃xs:List ByteArray,xs=(x::l).map λs=>⟨s.toArray⟩:=⟨_,rfl⟩
       have z:xs.length=es.length:=by rw[q,G];simp
       have F:xs.map (λb=>b.data.toList)=x::l:=by rw[q,eL];simp[Function.comp_def]
       have:=Any.strings_Join L X blk o c xs ⟨sep.toArray⟩ w (λj y E=>by
        rw[q,bM]at E;cases M:(x::l)[j]? with
        |none=>rw[M]at E;cases E
        |some s =>
         rw[M]at E;simp only[cB,aP]at E;subst E;have A:es[j]? = some (.str s):=by rw[<-i,bM,M];rfl
         let⟨T,_⟩:=hs j _ A;have H:sz=1:=by rw[<-T];rfl
         subst H;have t2:=q1 j _ A 0 _ rfl;have t3:=nP (.pure (β:=β) _ _ (U j _ A 0 _ rfl));rw[t3]at t2
         simpa using t2) e3 (by rw[z,G];exact S.1) (by rw[z];exact O) (by rw[F];simpa using S.2)
       rw[F,z]at this;exact this
   .cases n
  .cases n
 .cases n
def nG:aq->List aq
 | []=>[[]]
 |b::t=>if b=47 then[]::nG t else match nG t with
  | []=>[[b]]
  |s::r=>(b::s)::r
def CH(t:aq):nG t≠[]:=by
 cases t with
 |nil=>simp[nG]
 |cons b t =>
  unfold nG;split
  .simp
  .split<;>simp
def yU(t:aq):nG (47::t)=[]::nG t:=by
 rw[nG,if_pos rfl]
def uA{b:UInt8}(i:b≠47){t s:aq}{r:List aq}(h:nG t=s::r):nG (b::t)=(b::s)::r:=by
 rw[nG,if_neg i,h]
def Eg:∀ {x:aq},(∀b∈x,b≠47)->∀t,nG (x++47::t)=x::nG t
 | [],_,t=>yU t
 |b::x,h,t=>uA (h b ah) (Eg (λc i=>h c (by simp[i])) t)
def Ef:∀ {x:aq},(∀b∈x,b≠47)->nG x=[x]
 | [],_=>rfl
 |b::x,h=>uA (h b ah) (Ef (λc i=>h c (by simp[i])))
def Sh(s:aq):∀b∈upTo s,b≠47:=by
 induction s with
 |nil=>intro b h;cases h
 |cons c s i =>
  intro b h;unfold upTo at h i;rw[ec]at h;split at h
  .rename_i l
   rcases aY.1 h with rfl | h
   .simpa using l
   .exact i b h
  .cases h
def Kz(s:aq):from_ s=[]\/∃t,from_ s=47::t:=by
 induction s with
 |nil=>exact .inl rfl
 |cons c s b =>
  unfold from_ at b⊢;rw[dF];split
  .exact b
  .rename_i h;have:c=47:=by simpa using h
   exact .inr ⟨s,by rw[this]⟩
def J1:∀(n:Nat)(t:aq),t.length<=n->mJ (47::t)=(nG t).map λs=>(s,true):=by
 intro n
 induction n with
 |zero =>
  intro t o;have:t=[]:=aV aa
  subst this;rw[rW ah]
  simp[kH,mK,upTo,from_,nG,vo]
 |succ n l =>
  intro t o;rw[rW ah]
  have e1:kH (47::t)=t:=by simp[kH]
  have q:mK (47::t)=true:=by simp[mK]
  rw[e1,q];have b:=Cy t
  rcases Kz t with h0 | ⟨i,h0⟩
  .rw[h0,vo];rw[h0,b9]at b;have:=Ef (Sh t);rw[b]at this⊢;rw[this];rfl
  .rw[h0]at b⊢;have h:=congrArg List.length b;simp only[aG,aK]at h;rw[l i aa]
   have:=Eg (Sh t) i;rw[b]at this;rw[this];rfl
theorem pR(x:aq)(r:List aq):joinTail [47] (x::r)=47::(x++joinTail [47] r):=by simp[joinTail]
def BG:∀t:aq,join (nG t) [47]=t
 | []=>rfl
 |b::t=>by
  have i:=BG t;obtain⟨x,r,hx⟩:∃x r,nG t=x::r:=by
   cases h:nG t with
   |nil=>exact absurd h (CH t)
   |cons x r=>exact⟨x,r,rfl⟩
  rw[hx,join_cons]at i
  by_cases l:b=47
  .subst l;rw[yU,hx,join_cons,pR,i];rfl
  .rw[uA l hx,join_cons,aM,i]
def split(p:aq):Option (List aq) :=
 if p=[47]then some []else if p.head? = some 47/\(nG p.tail).length<=12/\(nG p.tail).all iN=true then some (nG p.tail)else none
def jn(l:List aq):aq:=if l=[]then[47]else 47::join l [47]
def L5(p:aq):n9 iN p=split p:=by
 unfold n9 split
 by_cases h:p=[47]
 .rw[if_pos h,if_pos h]
 rw[if_neg h,if_neg h];cases p with
 |nil=>simp[vo]
 |cons b t =>
  by_cases i:b=47
  .subst i;rw[J1 _ t (aT _)];have e1:((nG t).map λs=>(s,true))≠[]:=by simp[CH]
   have n:((nG t).map λs=>(s,true)).all (zM iN)=(nG t).all iN:=by
    rw[gj]
    congr 1
   have l:((nG t).map λs=>(s,true)).map (·.1)=nG t:=by
    rw[eL];exact fu _
   simp only[e1,n,l,cw,List.head?_cons,List.tail_cons,ne_eq,not_false_eq_true,true_and]
  .rw[if_neg,if_neg]
   .simp[i]
   .rintro⟨_,_,h3⟩
    rw[rW ah]at h3
    simp[zM,mK,i]at h3
def yM{p:aq}{l:List aq}(h:split p=some l):jn l=p/\l.length<=12/\l.all iN=true:=by
 unfold split at h;split at h
 .rename_i i;cases h;exact⟨by rw[i];rfl,ah,rfl⟩
 .split at h
  .rename_i n;cases h;let⟨h1,h2,h3⟩:=n;refine⟨?_,h2,h3⟩;unfold jn;rw[if_neg (CH _),BG];cases p with
   |nil=>cases h1
   |cons b t=>simp at h1;simp[h1]
  .cases h
end Go.Am.Nm
