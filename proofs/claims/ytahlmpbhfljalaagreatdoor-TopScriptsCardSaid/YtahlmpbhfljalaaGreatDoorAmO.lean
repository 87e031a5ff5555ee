/- Part of the proof that TopScriptsCard holds. -/
import Derived.Test.YtahlmpbhfljalaaGreatDoorAmMp
import Derived.Laws.Build
set_option linter.all false
namespace Go.Am
def jH(P:Program)(f:FuncId):Prop:=∃fn,P.funcs[f]? = some fn/\fn.body.isSome=true/\(fn.name == "runtime.NumGoroutine")=false
def nC(P:Program)(f:FuncId)(args:List AV)(h:AH)(r:AV)(h':AH):Prop :=
 jH P f/\∀(Z:ay)(β:iW)(w:World)(vs:List Value),Rel Z β h w->args.length=vs.length->
  (∀(j:Nat)(y:AV)(u:Value),args[j]? = some y->vs[j]? = some u->VR β (Own Z β h) w y u)->
  Calls P f vs.toArray w λe w'=>∃v β',e = .returned v/\Rel Z β' h' w'/\Fr Z β h w β' h' w'/\VR β' (Own Z β' h') w' r v
def RY(P:Program)(f:FuncId)(args:List AV)(h:AH)(r:AV⊕Pn)(h':AH):Prop :=
 jH P f/\∀(Z:ay)(β:iW)(w:World)(vs:List Value),Rel Z β h w->args.length=vs.length->
  (∀(j:Nat)(y:AV)(u:Value),args[j]? = some y->vs[j]? = some u->VR β (Own Z β h) w y u)->
  Calls P f vs.toArray w λe w'=>∃β',Rel Z β' h' w'/\Fr Z β h w β' h' w'/\match r with
   | .inl r=>∃v,e = .returned v/\VR β' (Own Z β' h') w' r v
   | .inr p=>e = .panicked [{v:=.iface p.1 (.int p.2.1 p.2.2),recovered:=false}]
structure js(P:Program)(Γ:ja):Prop where
 p:∀f args r h,args.all AV.jE=true->Γ.p f args=some r->nC P f args h r h
 h:∀f args h r h',Γ.h f args h=some (r,h')->nC P f args h r h'
 x:∀f args h r h',Γ.x f args h=some (r,h')->RY P f args h r h'
def lH(P:Program)(t:TypeId)(q:TypeDesc->Bool):Bool:=match P.underlying t with | some d=>q d | none=>false
def SJ:NK->TypeDesc->Value->Bool
 | .sl,.slice _,.slice none _ _=>true
 | .pt,.pointer _,.pointer none=>true
 | .fn,.func _ _ _,.nilFunc=>true
 | .uc,.interface _,.nilIface=>true
 |_,_,_=>false
def ua(P:Program):Op->j5->Bool
 |_,.no=>true
 | .binOp op t x (.const c) _,.xB k neg x'=>decide (op=if neg then .neq else .eql)&&kj x x'&&lH P t (λd=>SJ k d c)
 | .move x,.mv y=>kj x y
 | .assign x,.mv y=>kj x y
 | .pick c x y,.pick c' x' y'=>kj c c'&&kj x x'&&kj y y'
 | .alloc t,.alloc zero=>ux P t zero
 | .box _ x,.box y=>kj x y
 | .build t ps,.build zero qs=>CS P t ps zero qs
 | .buildSlice t n ps,.Pg sz zero m qs=>zq P t n ps sz zero m qs
 | .buildSlice t n ps,.DD sz zero m qs=>zq P t n ps sz zero m qs
 | .buildSlice t n ps,.K6 sz zero m qs=>zq P t n ps sz zero m qs
 | .load t x,.load sz agg y=>jg P t sz&&rJ P t agg&&kj x y
 | .load t x,.nw sz agg y _=>jg P t sz&&rJ P t agg&&kj x y
 | .store t x y,.store sz x' y'=>jg P t sz&&kj x x'&&kj y y'
 | .store t x y,.nE sz x' y' _=>jg P t sz&&kj x x'&&kj y y'
 | .nilCheck x,.J8 y=>kj x y
 | .binOp op t x y _,.bin op' x' y'=>decide (op=op')&&decide (t=t)&&kj x x'&&kj y y'
 | .binOp op t x y _,.seq neg ks x' y'=>decide (op=if neg then .neq else .eql)&&yH P t ks&&kj x x'&&kj y y'
 | .unOp op _ x,.un op' y=>decide (op=op')&&kj x y
 | .convert s d x,.conv k y=>(P.underlying s).isSome&&lH P d (λd=>match d with | .int k'=>decide (k'=k) | _=>false)&&kj x y
 | .convert s d x,.Co y=>lH P s (λd=>match d with | .slice e=>lH P e (λd=>match d with | .int k=>decide (k = .u8) | _=>false) | _=>false)&&lH P d (λd=>d matches .string)&&kj x y
 | .makeInterface t x,.SK t' y=>decide (t=t')&&P.concrete t&&kj x y
 | .makeFunc f a c,.Hi f' a' c'=>decide (f=f')&&jP a.toList a'&&jP c.toList c'
 | .makeSlice t l c,.Z2 sz bytes zero l' c'=>MQ P t sz bytes zero&&kj l l'&&kj c c'
 | .slice t x lo hi mx,.GR y lo' hi'=>lH P t (λd=>d matches .string)&&mx.isNone&&kj x y&&kr lo lo'&&kr hi hi'
 | .slice t x lo hi mx,.yQ sz y lo' hi' mx'=>decide (0<sz)&&lH P t (λd=>match d with | .slice e=>jg P e sz | _=>false)&&kj x y&&kr lo lo'&&kr hi hi'&&kr mx mx'
 | .fieldAddr t x k,.B4 off y=>lH P t (λd=>match d with | .struct fs=>(match fs[k]? with | some f=>decide (f.offset=off)&&(match P.info? f.type with | some i=>decide (i.size≠0) | none=>false) | none=>false) | _=>false)&&kj x y
 | .field t x k,.WO off sz agg y=>lH P t (λd=>match d with | .struct fs=>(match fs[k]? with | some f=>decide (f.offset=off)&&jg P f.type sz&&rJ P f.type agg | none=>false) | _=>false)&&kj x y
 | .indexAddr t x i,.DS sz y j=>lH P t (λd=>match d with | .slice e=>jg P e sz | _=>false)&&kj x y&&kj i j
 | .indexAddr t x i,.uK n sz y j=>lH P t (λd=>match d with | .array n' e=>decide (n'=n)&&jg P e sz | _=>false)&&kj x y&&kj i j
 | .index t x i,.idxs y j=>lH P t (λd=>d matches .string)&&kj x y&&kj i j
 | .extract x i,.ext y j=>decide (i=j)&&kj x y
 | .call {callee:=.value (.func f),args,argTypes:=_},.call f' args'=>decide (f=f')&&jP args.toList args'
 | .call {callee:=.value (.func f),args,argTypes:=_},.kY f' args'=>decide (f=f')&&jP args.toList args'
 | .call {callee:=.value (.tmp t),args,argTypes:=_},.jS y args'=>kj (.tmp t) y&&jP args.toList args'
 | .call {callee:=.builtin b,args,argTypes},.app sz bytes y1 y2=>decide (b = .append)&&(match args.toList,argTypes.toList with
   | [x1,x2],[t,u]=>kj x1 y1&&kj x2 y2&&decide (0<sz)&&lH P t (λd=>match d with | .slice e=>jg P e sz&&tQ P e bytes&&zm P e | _=>false)&&lH P u (λd=>match d with | .slice _=>true | .string=>true | _=>false)
   |_,_=>false)
 | .call {callee:=.builtin b,args,argTypes},.len str y=>decide (b = .len)&&(match args.toList,argTypes.toList with
   | [x],[t]=>kj x y&&lH P t (λd=>match d with | .slice _=>!str | .string=>str | _=>false)
   |_,_=>false)
 | .call {callee:=.builtin b,args,argTypes:=_},.mm isMax ys=>decide (b=if isMax then .max else .min)&&jP args.toList ys
 | .call {callee:=.builtin b,args,argTypes},.XH sz zero y=>decide (b = .clear)&&(match args.toList,argTypes.toList with
   | [x],[t]=>kj x y&&lH P t (λd=>match d with | .slice e=>jg P e sz&&zm P e&&zeroV P e zero | _=>false)
   |_,_=>false)
 | .box _ x,.Ez y=>kj x y
 | .load t x,.oN sz agg y=>jg P t sz&&rJ P t agg&&kj x y
 | .call {callee:=.value (.func f),args,argTypes:=_},.s5 f' args'=>decide (f=f')&&jP args.toList args'
 | .call {callee:=.value (.tmp t),args,argTypes:=_},.qB y args'=>kj (.tmp t) y&&jP args.toList args'
 | .makeMap _ r,.J9 _=>r.isNone
 | .lookup t m k c,.uJ q zero m' k'=>!c&&lH P t (λd=>match d with | .map kt et=>lH P kt (λd=>match d with | .int q'=>decide (q'=q) | _=>false)&&zeroV P et zero | _=>false)&&kj m m'&&kj k k'
 | .mapUpdate t m k x,.sx q m' k' x'=>lH P t (λd=>match d with | .map kt _=>lH P kt (λd=>match d with | .int q'=>decide (q'=q) | _=>false) | _=>false)&&kj m m'&&kj k k'&&kj x x'
 | .call {callee:=.builtin b,args,argTypes},.Hh _ y=>decide (b = .len)&&(match args.toList,argTypes.toList with
   | [x],[t]=>kj x y&&lH P t (λd=>d matches .map _ _)
   |_,_=>false)
 | .call {callee:=.value (.func f),args,argTypes:=_},.o8 f' args'=>decide (f=f')&&jP args.toList args'
 | .convert s d x,.Sr y=>lH P s (λd=>d matches .string)&&lH P d (λd=>match d with | .slice e=>lH P e (λd=>match d with | .int k=>decide (k = .u8) | _=>false) | _=>false)&&kj x y
 | .call {callee:=.value (.func f),args,argTypes:=_},.calls f' args'=>decide (f=f')&&jP args.toList args'
 | .call {callee:=.value (.tmp t),args,argTypes:=_},.oZ y args'=>kj (.tmp t) y&&jP args.toList args'
 | .load t x,.qn sz agg y=>jg P t sz&&rJ P t agg&&kj x (.t y)
 | .lookup t m k c,.rG q zero m' k'=>c&&lH P t (λd=>match d with | .map kt et=>lH P kt (λd=>match d with | .int q'=>decide (q'=q) | _=>false)&&zeroV P et zero | _=>false)&&kj m m'&&kj k k'
 | .insert t m k x,.sx q m' k' x'=>lH P t (λd=>match d with | .map kt _=>lH P kt (λd=>match d with | .int q'=>decide (q'=q) | _=>false) | _=>false)&&kj m m'&&kj k k'&&kj x x'
 | .call {callee:=.value (.func f),args,argTypes:=_},.vM f' args'=>decide (f=f')&&jP args.toList args'
 | .call {callee:=.value (.func f),args,argTypes:=_},.vN f' args'=>decide (f=f')&&jP args.toList args'
 | .binOp op t x y _,.beq neg x' y'=>decide (op=if neg then .neq else .eql)&&lH P t (λd=>d matches .bool)&&kj x x'&&kj y y'
 | .call {callee:=.builtin b,args,argTypes},.OP sz bytes zero y1 y2=>decide (b = .append)&&(match args.toList,argTypes.toList with
   | [x1,x2],[t,u]=>kj x1 y1&&kj x2 y2&&decide (0<sz)&&lH P t (λd=>match d with | .slice e=>jg P e sz&&tQ P e bytes&&zm P e&&zeroV P e zero | _=>false)&&lH P u (λd=>d matches .int _)
   |_,_=>false)
 | .call {callee:=.builtin b,args,argTypes},.copy sz y1 y2=>decide (b = .copy)&&(match args.toList,argTypes.toList with
   | [x1,x2],t::_=>kj x1 y1&&kj x2 y2&&lH P t (λd=>match d with | .slice e=>jg P e sz | _=>false)
   |_,_=>false)
 | .alloc t,.xg t' zero=>decide (t=t')&&ux P t zero
 | .box t x,.OD t' y=>decide (t=t')&&kj x y
 | .call {callee:=.value (.tmp t),args,argTypes:=_},.ni y args'=>kj (.tmp t) y&&jP args.toList args'
 | .index t x i,.Nq n sz agg y j=>lH P t (λd=>match d with | .array n' el=>decide (n'=n)&&jg P el sz&&rJ P el agg | _=>false)&&kj x y&&kj i j
 |_,_=>false
where
 zm (P:Program) (e:TypeId):Bool:=match P.info? e with
  |some i=>match i.zero with
   |some z=>decide (z.cells.size=i.size)
   |none=>false
  |none=>false
variable{h':AH}
section
variable{P:Program}{Z:ay}{β:iW}{h:AH}{w:World}
def DV{o:Oper}{a:Act}{s:Sem Value}(r:execOp a.eval o=(do pure (.value (<-s)))){av:AV}(q:gY P Z β h w s av h'){next:Act->World->Prop}{Q:Exit->Act->World->Prop}
  (K:∀v w' β',Rel Z β' h' w'->Fr Z β h w β' h' w'->VR β' (Own Z β' h') w' av v->next (a.put o.dst v) w'):o.wp P a w next Q:=by
 let⟨v,w',β',n,l,i,b⟩:=q;unfold Oper.wp;rw[r];simp only[Sem.run_bind,n,Result.andThen_ok,Sem.run_pure];exact K v w' β' l i b
def iH{t:TypeId}{q:TypeDesc->Bool}(b:lH P t q=true):∃d,P.underlying t=some d/\q d=true:=by
 unfold lH at b;split at b
 .rename_i d i;exact⟨d,i,b⟩
 .cases b
def nC.wp{f:FuncId}{args:List AV}{r:AV}(hs:nC P f args h r h')(R:Rel Z β h w){vs:List Value}(hl:args.length=vs.length)
  (q:∀(j:Nat)(y:AV)(u:Value),args[j]? = some y->vs[j]? = some u->VR β (Own Z β h) w y u) {o:Oper} {a:Act} {next:Act->World->Prop} {Q:Exit->Act->World->Prop}
  (K:∀v w' β',Rel Z β' h' w'->Fr Z β h w β' h' w'->VR β' (Own Z β' h') w' r v->next (a.put o.dst v) w'):o.upon P a next Q ((callFunc f vs.toArray).run P w):=by
 let⟨⟨fn,E,G,z⟩,F⟩:=hs
 have x:(callFunc f vs.toArray).run P w = .ok (.enter f vs.toArray) w:=by
  have b:fn.body.isNone=false:=by cases A:fn.body<;>simp_all
  simp only[callFunc,Sem.run_bind,run_program,Result.andThen_ok,E,z,b,bq,if_false,Sem.run_pure]
 rw[x];refine(F Z β w vs R hl q).mono ?_
 rintro e w' ⟨v,β',rfl,n,l,i⟩
 exact K v w' β' n l i
def MC{h:AH}{a i:AV}(b:lG h a=some (i,h')):i.jE=true:=by
 unfold lG at b
 have o:∀ {h h':AH} {a i:AV},mQ h a=some (i,h')->i.jD=true:=by
  intro h h' a i b;unfold mQ at b;split at b
  .split at b
   .split at b
    .cases b;rfl
    .cases b
   .split at b
    .cases b;rfl
    .cases b
   .cases b
  .split at b
   .rename_i hs;cases b;exact hs
   .cases b
 split at b
 .rename_i r;cases b;exact r
 .split at b
  .rename_i cs _;simp only[aD]at b;let⟨⟨l,h1⟩,e1,n⟩:=b;cases n
   have:∀(cs:List AV)(h:AH)(cs':List AV)(h':AH),rU h cs=some (cs',h')->cs'.all AV.jD=true:=by
    intro cs
    induction cs with
    |nil=>intro h cs' h' b;simp only[rU]at b;cases b;rfl
    |cons a cs q =>
     intro h cs' h' b;simp only[rU,aD]at b;let⟨⟨x,h1⟩,e1,⟨l1,h2⟩,n,v⟩:=b;cases v;simp only[cm,aC];exact⟨o e1,q _ _ _ n⟩
   exact this _ _ _ _ e1
  .have:=o b;cases i<;>simp_all[AV.jE,AV.jD]
def qC{Γ:ja}(i:js P Γ){f:FuncId}{args:List AV}{r:AV}(l:rF Γ f args h=some (r,h')):nC P f args h r h':=by
 unfold rF at l;split at l
 .rename_i q h1 b;split at l
  .rename_i r' L;cases l;have n:q.all AV.jE=true:=by
    have:∀(cs:List AV)(h:AH)(cs':List AV)(h':AH),jk h cs=some (cs',h')->cs'.all AV.jE=true:=by
     intro cs
     induction cs with
     |nil=>intro h cs' h' b;simp only[jk]at b;cases b;rfl
     |cons a cs H =>
      intro h cs' h' b;simp only[jk,aD]at b;obtain⟨⟨q,h1⟩,e1,⟨l1,h2⟩,N,M⟩:=b;cases M;simp only[cm,aC];exact⟨MC e1,H _ _ _ N⟩
    exact this _ _ _ _ b
   obtain⟨o,hs⟩:=i.p f q _ _ n L;refine⟨o,λZ β w vs R hl K=>?_⟩
   obtain⟨G,F,E,A,k5⟩:=qh args R b hl K;refine(hs Z β w vs G E A).mono ?_
   rintro e w' ⟨v,β',rfl,z,y,x⟩
   exact⟨v,β',rfl,z,F.trans y,x⟩
  .exact i.h f args h r h' l
 .exact i.h f args h r h' l
end
end Go.Am
