/- Part of the proof that TopTwoPartsCard holds. -/
import Derived.Test.YtghgbehknhmnaaaGreatDoorAmMp
import Derived.Laws.Build
set_option linter.all false
namespace Go.Am
def oO(P:Program)(f:FuncId):Prop:=∃fn,P.funcs[f]? = some fn/\fn.body.isSome=true/\(fn.name == "runtime.NumGoroutine")=false
def ux(P:Program)(f:FuncId)(args:List AV)(h:AH)(r:AV)(h':AH):Prop :=
 oO P f/\∀(Z:az)(β:jO)(w:World)(vs:List Value),Rel Z β h w->args.length=vs.length->
  (∀(j:Nat)(y:AV)(u:Value),args[j]? = some y->vs[j]? = some u->VR β (Own Z β h) w y u)->
  Calls P f vs.toArray w λe w'=>∃v β',e = .returned v/\Rel Z β' h' w'/\Fr Z β h w β' h' w'/\VR β' (Own Z β' h') w' r v
def SB(P:Program)(f:FuncId)(args:List AV)(h:AH)(r:AV⊕Pn)(h':AH):Prop :=
 oO P f/\∀(Z:az)(β:jO)(w:World)(vs:List Value),Rel Z β h w->args.length=vs.length->
  (∀(j:Nat)(y:AV)(u:Value),args[j]? = some y->vs[j]? = some u->VR β (Own Z β h) w y u)->
  Calls P f vs.toArray w λe w'=>∃β',Rel Z β' h' w'/\Fr Z β h w β' h' w'/\match r with
   | .inl r=>∃v,e = .returned v/\VR β' (Own Z β' h') w' r v
   | .inr p=>e = .panicked [{v:=.iface p.1 (.int p.2.1 p.2.2),recovered:=false}]
structure j3(P:Program)(Γ:jE):Prop where
 p:∀f args r h,args.all AV.j8=true->Γ.p f args=some r->ux P f args h r h
 h:∀f args h r h',Γ.h f args h=some (r,h')->ux P f args h r h'
 x:∀f args h r h',Γ.x f args h=some (r,h')->SB P f args h r h'
def mL(P:Program)(t:TypeId)(q:TypeDesc->Bool):Bool:=match P.underlying t with | some d=>q d | none=>false
def S7:NK->TypeDesc->Value->Bool
 | .sl,.slice _,.slice none _ _=>true
 | .pt,.pointer _,.pointer none=>true
 | .fn,.func _ _ _,.nilFunc=>true
 | .sI,.interface _,.nilIface=>true
 |_,_,_=>false
def uD(P:Program):Op->kX->Bool
 |_,.no=>true
 | .binOp op t x (.const c) _,.yQ k neg x'=>decide (op=if neg then .neq else .eql)&&lD x x'&&mL P t (λd=>S7 k d c)
 | .move x,.mv y=>lD x y
 | .assign x,.mv y=>lD x y
 | .pick c x y,.pick c' x' y'=>lD c c'&&lD x x'&&lD y y'
 | .alloc t,.alloc zero=>zN P t zero
 | .box _ x,.box y=>lD x y
 | .build t ps,.build zero qs=>DL P t ps zero qs
 | .buildSlice t n ps,.Si sz zero m qs=>AA P t n ps sz zero m qs
 | .buildSlice t n ps,.Em sz zero m qs=>AA P t n ps sz zero m qs
 | .buildSlice t n ps,.GJ sz zero m qs=>AA P t n ps sz zero m qs
 | .load t x,.load sz agg y=>jP P t sz&&tV P t agg&&lD x y
 | .load t x,.oc sz agg y _=>jP P t sz&&tV P t agg&&lD x y
 | .store t x y,.store sz x' y'=>jP P t sz&&lD x x'&&lD y y'
 | .store t x y,.ot sz x' y' _=>jP P t sz&&lD x x'&&lD y y'
 | .nilCheck x,.Nl y=>lD x y
 | .binOp op t x y _,.bin op' x' y'=>decide (op=op')&&decide (t=t)&&lD x x'&&lD y y'
 | .binOp op t x y _,.seq neg ks x' y'=>decide (op=if neg then .neq else .eql)&&zR P t ks&&lD x x'&&lD y y'
 | .unOp op _ x,.un op' y=>decide (op=op')&&lD x y
 | .convert s d x,.conv k y=>(P.underlying s).isSome&&mL P d (λd=>match d with | .int k'=>decide (k'=k) | _=>false)&&lD x y
 | .convert s d x,.JJ y=>mL P s (λd=>match d with | .slice e=>mL P e (λd=>match d with | .int k=>decide (k = .u8) | _=>false) | _=>false)&&mL P d (λd=>d matches .string)&&lD x y
 | .makeInterface t x,.LG t' y=>decide (t=t')&&P.concrete t&&lD x y
 | .makeFunc f a c,.Ns f' a' c'=>decide (f=f')&&kK a.toList a'&&kK c.toList c'
 | .makeSlice t l c,.KA sz bytes zero l' c'=>M8 P t sz bytes zero&&lD l l'&&lD c c'
 | .slice t x lo hi mx,.Kg y lo' hi'=>mL P t (λd=>d matches .string)&&mx.isNone&&lD x y&&lp lo lo'&&lp hi hi'
 | .slice t x lo hi mx,.vf sz y lo' hi' mx'=>decide (0<sz)&&mL P t (λd=>match d with | .slice e=>jP P e sz | _=>false)&&lD x y&&lp lo lo'&&lp hi hi'&&lp mx mx'
 | .fieldAddr t x k,.LJ off y=>mL P t (λd=>match d with | .struct fs=>(match fs[k]? with | some f=>decide (f.offset=off)&&(match P.info? f.type with | some i=>decide (i.size≠0) | none=>false) | none=>false) | _=>false)&&lD x y
 | .field t x k,.QB off sz agg y=>mL P t (λd=>match d with | .struct fs=>(match fs[k]? with | some f=>decide (f.offset=off)&&jP P f.type sz&&tV P f.type agg | none=>false) | _=>false)&&lD x y
 | .indexAddr t x i,.FQ sz y j=>mL P t (λd=>match d with | .slice e=>jP P e sz | _=>false)&&lD x y&&lD i j
 | .indexAddr t x i,.uG n sz y j=>mL P t (λd=>match d with | .array n' e=>decide (n'=n)&&jP P e sz | _=>false)&&lD x y&&lD i j
 | .index t x i,.idxs y j=>mL P t (λd=>d matches .string)&&lD x y&&lD i j
 | .extract x i,.ext y j=>decide (i=j)&&lD x y
 | .call {callee:=.value (.func f),args,argTypes:=_},.call f' args'=>decide (f=f')&&kK args.toList args'
 | .call {callee:=.value (.func f),args,argTypes:=_},.o8 f' args'=>decide (f=f')&&kK args.toList args'
 | .call {callee:=.value (.tmp t),args,argTypes:=_},.lQ y args'=>lD (.tmp t) y&&kK args.toList args'
 | .call {callee:=.builtin b,args,argTypes},.app sz bytes y1 y2=>decide (b = .append)&&(match args.toList,argTypes.toList with
   | [x1,x2],[t,u]=>lD x1 y1&&lD x2 y2&&decide (0<sz)&&mL P t (λd=>match d with | .slice e=>jP P e sz&&uw P e bytes&&Aw P e | _=>false)&&mL P u (λd=>d matches .slice _)
   |_,_=>false)
 | .call {callee:=.builtin b,args,argTypes},.len str y=>decide (b = .len)&&(match args.toList,argTypes.toList with
   | [x],[t]=>lD x y&&mL P t (λd=>match d with | .slice _=>!str | .string=>str | _=>false)
   |_,_=>false)
 | .call {callee:=.builtin b,args,argTypes:=_},.mm isMax ys=>decide (b=if isMax then .max else .min)&&kK args.toList ys
 | .call {callee:=.builtin b,args,argTypes},.XK sz zero y=>decide (b = .clear)&&(match args.toList,argTypes.toList with
   | [x],[t]=>lD x y&&mL P t (λd=>match d with | .slice e=>jP P e sz&&Aw P e&&zeroV P e zero | _=>false)
   |_,_=>false)
 | .box _ x,.Fh y=>lD x y
 | .load t x,.sC sz agg y=>jP P t sz&&tV P t agg&&lD x y
 | .call {callee:=.value (.func f),args,argTypes:=_},.tC f' args'=>decide (f=f')&&kK args.toList args'
 | .call {callee:=.value (.tmp t),args,argTypes:=_},.rz y args'=>lD (.tmp t) y&&kK args.toList args'
 | .makeMap _ r,.LF _=>r.isNone
 | .lookup t m k c,.zl q zero m' k'=>!c&&mL P t (λd=>match d with | .map kt et=>mL P kt (λd=>match d with | .int q'=>decide (q'=q) | _=>false)&&zeroV P et zero | _=>false)&&lD m m'&&lD k k'
 | .mapUpdate t m k x,.uE q m' k' x'=>mL P t (λd=>match d with | .map kt _=>mL P kt (λd=>match d with | .int q'=>decide (q'=q) | _=>false) | _=>false)&&lD m m'&&lD k k'&&lD x x'
 | .call {callee:=.builtin b,args,argTypes},.Hz _ y=>decide (b = .len)&&(match args.toList,argTypes.toList with
   | [x],[t]=>lD x y&&mL P t (λd=>d matches .map _ _)
   |_,_=>false)
 | .call {callee:=.value (.func f),args,argTypes:=_},.qe f' args'=>decide (f=f')&&kK args.toList args'
 | .convert s d x,.Zm y=>mL P s (λd=>d matches .string)&&mL P d (λd=>match d with | .slice e=>mL P e (λd=>match d with | .int k=>decide (k = .u8) | _=>false) | _=>false)&&lD x y
 | .call {callee:=.value (.func f),args,argTypes:=_},.calls f' args'=>decide (f=f')&&kK args.toList args'
 | .call {callee:=.value (.tmp t),args,argTypes:=_},.qd y args'=>lD (.tmp t) y&&kK args.toList args'
 | .load t x,.oU sz agg y=>jP P t sz&&tV P t agg&&lD x (.t y)
 | .lookup t m k c,.sV q zero m' k'=>c&&mL P t (λd=>match d with | .map kt et=>mL P kt (λd=>match d with | .int q'=>decide (q'=q) | _=>false)&&zeroV P et zero | _=>false)&&lD m m'&&lD k k'
 | .insert t m k x,.uE q m' k' x'=>mL P t (λd=>match d with | .map kt _=>mL P kt (λd=>match d with | .int q'=>decide (q'=q) | _=>false) | _=>false)&&lD m m'&&lD k k'&&lD x x'
 | .call {callee:=.value (.func f),args,argTypes:=_},.u6 f' args'=>decide (f=f')&&kK args.toList args'
 | .call {callee:=.value (.func f),args,argTypes:=_},.wP f' args'=>decide (f=f')&&kK args.toList args'
 | .binOp op t x y _,.beq neg x' y'=>decide (op=if neg then .neq else .eql)&&mL P t (λd=>d matches .bool)&&lD x x'&&lD y y'
 | .call {callee:=.builtin b,args,argTypes},.Pb sz bytes zero y1 y2=>decide (b = .append)&&(match args.toList,argTypes.toList with
   | [x1,x2],[t,u]=>lD x1 y1&&lD x2 y2&&decide (0<sz)&&mL P t (λd=>match d with | .slice e=>jP P e sz&&uw P e bytes&&Aw P e&&zeroV P e zero | _=>false)&&mL P u (λd=>d matches .int _)
   |_,_=>false)
 | .call {callee:=.builtin b,args,argTypes},.copy sz y1 y2=>decide (b = .copy)&&(match args.toList,argTypes.toList with
   | [x1,x2],t::_=>lD x1 y1&&lD x2 y2&&mL P t (λd=>match d with | .slice e=>jP P e sz | _=>false)
   |_,_=>false)
 |_,_=>false
where
 Aw (P:Program) (e:TypeId):Bool:=match P.info? e with
  |some i=>match i.zero with
   |some z=>decide (z.cells.size=i.size)
   |none=>false
  |none=>false
variable{h':AH}
section
variable{P:Program}{Z:az}{β:jO}{h:AH}{w:World}
def EF{o:Oper}{a:Act}{s:Sem Value}(x:execOp a.eval o=(do pure (.value (<-s)))){b:AV}(r:iM P Z β h w s b h'){next:Act->World->Prop}{Q:Exit->Act->World->Prop}
  (K:∀v w' β',Rel Z β' h' w'->Fr Z β h w β' h' w'->VR β' (Own Z β' h') w' b v->next (a.put o.dst v) w'):o.wp P a w next Q:=by
 let⟨v,w',β',q,n,l,i⟩:=r;unfold Oper.wp;rw[x];simp only[Sem.run_bind,q,Result.andThen_ok,Sem.run_pure];exact K v w' β' n l i
def ji{t:TypeId}{q:TypeDesc->Bool}(b:mL P t q=true):∃d,P.underlying t=some d/\q d=true:=by
 unfold mL at b;split at b
 .rename_i d i;exact⟨d,i,b⟩
 .cases b
def ux.wp{f:FuncId}{args:List AV}{r:AV}(hs:ux P f args h r h')(R:Rel Z β h w){vs:List Value}(hl:args.length=vs.length)
  (q:∀(j:Nat)(y:AV)(u:Value),args[j]? = some y->vs[j]? = some u->VR β (Own Z β h) w y u) {o:Oper} {a:Act} {next:Act->World->Prop} {Q:Exit->Act->World->Prop}
  (K:∀v w' β',Rel Z β' h' w'->Fr Z β h w β' h' w'->VR β' (Own Z β' h') w' r v->next (a.put o.dst v) w'):o.upon P a next Q ((callFunc f vs.toArray).run P w):=by
 let⟨⟨fn,E,G,z⟩,F⟩:=hs
 have x:(callFunc f vs.toArray).run P w = .ok (.enter f vs.toArray) w:=by
  have b:fn.body.isNone=false:=by cases A:fn.body<;>simp_all
  simp only[callFunc,Sem.run_bind,run_program,Result.andThen_ok,E,z,b,aZ,if_false,Sem.run_pure]
 rw[x];refine(F Z β w vs R hl q).mono ?_
 rintro e w' ⟨v,β',rfl,n,l,i⟩
 exact K v w' β' n l i
def MS{h:AH}{a i:AV}(b:mH h a=some (i,h')):i.j8=true:=by
 unfold mH at b
 have o:∀ {h h':AH} {a i:AV},nM h a=some (i,h')->i.jW=true:=by
  intro h h' a i b;unfold nM at b;split at b
  .split at b
   .split at b
    .cases b;rfl
    .cases b
   .split at b
    .cases b;rfl
    .cases b
   .cases b
  .split at b
   .rename_i hs;cases b;exact hs
   .cases b
 split at b
 .rename_i r;cases b;exact r
 .split at b
  .rename_i cs _;simp only[aG]at b;let⟨⟨l,h1⟩,e1,n⟩:=b;cases n
   have:∀(cs:List AV)(h:AH)(cs':List AV)(h':AH),sN h cs=some (cs',h')->cs'.all AV.jW=true:=by
    intro cs
    induction cs with
    |nil=>intro h cs' h' b;simp only[sN]at b;cases b;rfl
    |cons a cs q =>
     intro h cs' h' b;simp only[sN,aG]at b;let⟨⟨x,h1⟩,e1,⟨l1,h2⟩,n,v⟩:=b;cases v;simp only[bV,aF];exact⟨o e1,q _ _ _ n⟩
   exact this _ _ _ _ e1
  .have:=o b;cases i<;>simp_all[AV.j8,AV.jW]
def rA{Γ:jE}(i:j3 P Γ){f:FuncId}{args:List AV}{r:AV}(l:eT Γ f args h=some (r,h')):ux P f args h r h':=by
 unfold eT at l;split at l
 .rename_i q h1 b;split at l
  .rename_i r' L;cases l;have n:q.all AV.j8=true:=by
    have:∀(cs:List AV)(h:AH)(cs':List AV)(h':AH),jT h cs=some (cs',h')->cs'.all AV.j8=true:=by
     intro cs
     induction cs with
     |nil=>intro h cs' h' b;simp only[jT]at b;cases b;rfl
     |cons a cs H =>
      intro h cs' h' b;simp only[jT,aG]at b;obtain⟨⟨q,h1⟩,e1,⟨l1,h2⟩,N,M⟩:=b;cases M;simp only[bV,aF];exact⟨MS e1,H _ _ _ N⟩
    exact this _ _ _ _ b
   obtain⟨o,hs⟩:=i.p f q _ _ n L;refine⟨o,λZ β w vs R hl K=>?_⟩
   obtain⟨G,F,E,A,O⟩:=qU args R b hl K;refine(hs Z β w vs G E A).mono ?_
   rintro e w' ⟨v,β',rfl,z,y,x⟩
   exact⟨v,β',rfl,z,F.trans y,x⟩
  .exact i.h f args h r h' l
 .exact i.h f args h r h' l
end
end Go.Am
