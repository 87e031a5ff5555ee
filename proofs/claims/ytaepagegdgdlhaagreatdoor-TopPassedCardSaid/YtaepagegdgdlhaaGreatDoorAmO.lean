/- Part of the proof that TopPassedCard holds. -/
import Derived.Test.YtaepagegdgdlhaaGreatDoorAmMp
import Derived.Laws.Build
set_option linter.all false
namespace Go.Am
def tw(P:Program)(f:FuncId):Prop:=∃fn,P.funcs[f]? = some fn/\fn.body.isSome=true/\(fn.name == "runtime.NumGoroutine")=false
def zl(P:Program)(f:FuncId)(args:List AV)(h:AH)(r:AV)(h':AH):Prop :=
 tw P f/\∀(Z:az)(β:kW)(w:World)(vs:List Value),Rel Z β h w->args.length=vs.length->
  (∀(j:Nat)(y:AV)(u:Value),args[j]? = some y->vs[j]? = some u->VR β (Own Z β h) w y u)->
  Calls P f vs.toArray w λe w'=>∃v β',e = .returned v/\Rel Z β' h' w'/\Fr Z β h w β' h' w'/\VR β' (Own Z β' h') w' r v
structure mH(P:Program)(Γ:kP):Prop where
 p:∀f args r h,args.all AV.lT=true->Γ.p f args=some r->zl P f args h r h
 h:∀f args h r h',Γ.h f args h=some (r,h')->zl P f args h r h'
def oK(P:Program)(t:TypeId)(q:TypeDesc->Bool):Bool:=match P.underlying t with | some d=>q d | none=>false
def abB:NK->TypeDesc->Value->Bool
 | .sl,.slice _,.slice none _ _=>true
 | .pt,.pointer _,.pointer none=>true
 | .fn,.func _ _ _,.nilFunc=>true
 | .Hq,.interface _,.nilIface=>true
 |_,_,_=>false
def yd(P:Program):Op->ni->Bool
 |_,.no=>true
 | .binOp op t x (.const c) _,.zO k neg x'=>decide (op=if neg then .neq else .eql)&&nW x x'&&oK P t (λd=>abB k d c)
 | .move x,.mv y=>nW x y
 | .assign x,.mv y=>nW x y
 | .pick c x y,.pick c' x' y'=>nW c c'&&nW x x'&&nW y y'
 | .alloc t,.alloc zero=>Dh P t zero
 | .box _ x,.box y=>nW x y
 | .build t ps,.build zero qs=>IL P t ps zero qs
 | .buildSlice t n ps,.BQ sz zero m qs=>D9 P t n ps sz zero m qs
 | .buildSlice t n ps,.me sz zero m qs=>D9 P t n ps sz zero m qs
 | .buildSlice t n ps,.M0 sz zero m qs=>D9 P t n ps sz zero m qs
 | .load t x,.load sz agg y=>lC P t sz&&we P t agg&&nW x y
 | .load t x,.mS sz agg y _=>lC P t sz&&we P t agg&&nW x y
 | .store t x y,.store sz x' y'=>lC P t sz&&nW x x'&&nW y y'
 | .store t x y,.mC sz x' y'=>lC P t sz&&nW x x'&&nW y y'
 | .nilCheck x,.ZI y=>nW x y
 | .binOp op t x y _,.bin op' x' y'=>decide (op=op')&&decide (t=t)&&nW x x'&&nW y y'
 | .binOp op t x y _,.seq neg ks x' y'=>decide (op=if neg then .neq else .eql)&&Du P t ks&&nW x x'&&nW y y'
 | .unOp op _ x,.un op' y=>decide (op=op')&&nW x y
 | .convert s d x,.conv k y=>(P.underlying s).isSome&&oK P d (λd=>match d with | .int k'=>decide (k'=k) | _=>false)&&nW x y
 | .convert s d x,.XU y=>oK P s (λd=>match d with | .slice e=>oK P e (λd=>match d with | .int k=>decide (k = .u8) | _=>false) | _=>false)&&oK P d (λd=>d matches .string)&&nW x y
 | .makeInterface t x,.mki t' y=>decide (t=t')&&P.concrete t&&nW x y
 | .makeFunc f a c,.Ef f' a' c'=>decide (f=f')&&ny a.toList a'&&ny c.toList c'
 | .makeSlice t l c,.mks sz bytes zero l' c'=>Vm P t sz bytes zero&&nW l l'&&nW c c'
 | .slice t x lo hi mx,.Sj y lo' hi'=>oK P t (λd=>d matches .string)&&mx.isNone&&nW x y&&nw lo lo'&&nw hi hi'
 | .slice t x lo hi mx,.F8 sz y lo' hi' SG=>decide (0<sz)&&oK P t (λd=>match d with | .slice e=>lC P e sz | _=>false)&&nW x y&&nw lo lo'&&nw hi hi'&&nw mx SG
 | .fieldAddr t x k,.fad off y=>oK P t (λd=>match d with | .struct fs=>(match fs[k]? with | some f=>decide (f.offset=off)&&(match P.info? f.type with | some i=>decide (i.size≠0) | none=>false) | none=>false) | _=>false)&&nW x y
 | .field t x k,.fld off sz agg y=>oK P t (λd=>match d with | .struct fs=>(match fs[k]? with | some f=>decide (f.offset=off)&&lC P f.type sz&&we P f.type agg | none=>false) | _=>false)&&nW x y
 | .indexAddr t x i,.Nz sz y j=>oK P t (λd=>match d with | .slice e=>lC P e sz | _=>false)&&nW x y&&nW i j
 | .indexAddr t x i,.OC n sz y j=>oK P t (λd=>match d with | .array n' e=>decide (n'=n)&&lC P e sz | _=>false)&&nW x y&&nW i j
 | .index t x i,.idxs y j=>oK P t (λd=>d matches .string)&&nW x y&&nW i j
 | .extract x i,.ext y j=>decide (i=j)&&nW x y
 | .call {callee:=.value (.func f),args,argTypes:=_},.call f' args'=>decide (f=f')&&ny args.toList args'
 | .call {callee:=.value (.func f),args,argTypes:=_},.rS f' args'=>decide (f=f')&&ny args.toList args'
 | .call {callee:=.value (.tmp t),args,argTypes:=_},.l8 y args'=>nW (.tmp t) y&&ny args.toList args'
 | .call {callee:=.builtin b,args,argTypes},.app sz bytes y1 y2=>decide (b = .append)&&(match args.toList,argTypes.toList with
   | [x1,x2],[t,u]=>nW x1 y1&&nW x2 y2&&decide (0<sz)&&oK P t (λd=>match d with | .slice e=>lC P e sz&&Db P e bytes&&IG P e | _=>false)&&oK P u (λd=>d matches .slice _)
   |_,_=>false)
 | .call {callee:=.builtin b,args,argTypes},.len str y=>decide (b = .len)&&(match args.toList,argTypes.toList with
   | [x],[t]=>nW x y&&oK P t (λd=>match d with | .slice _=>!str | .string=>str | _=>false)
   |_,_=>false)
 | .call {callee:=.builtin b,args,argTypes:=_},.mm isMax ys=>decide (b=if isMax then .max else .min)&&ny args.toList ys
 | .call {callee:=.builtin b,args,argTypes},.clr sz zero y=>decide (b = .clear)&&(match args.toList,argTypes.toList with
   | [x],[t]=>nW x y&&oK P t (λd=>match d with | .slice e=>lC P e sz&&IG P e&&zeroV P e zero | _=>false)
   |_,_=>false)
 | .box _ x,.N9 y=>nW x y
 | .load t x,.Ch sz agg y=>lC P t sz&&we P t agg&&nW x y
 | .call {callee:=.value (.func f),args,argTypes:=_},.v8 f' args'=>decide (f=f')&&ny args.toList args'
 | .call {callee:=.value (.tmp t),args,argTypes:=_},.rR y args'=>nW (.tmp t) y&&ny args.toList args'
 | .makeMap _ r,.ZO=>r.isNone
 | .lookup t m k c,.yP zero m' k'=>!c&&oK P t (λd=>match d with | .map kt et=>oK P kt (λd=>match d with | .int q=>decide (q = .i64) | _=>false)&&zeroV P et zero | _=>false)&&nW m m'&&nW k k'
 | .mapUpdate t m k x,.uf m' k' x'=>oK P t (λd=>match d with | .map kt _=>oK P kt (λd=>match d with | .int q=>decide (q = .i64) | _=>false) | _=>false)&&nW m m'&&nW k k'&&nW x x'
 | .call {callee:=.builtin b,args,argTypes},.Ol y=>decide (b = .len)&&(match args.toList,argTypes.toList with
   | [x],[t]=>nW x y&&oK P t (λd=>d matches .map _ _)
   |_,_=>false)
 | .call {callee:=.value (.func f),args,argTypes:=_},.qu f' args'=>decide (f=f')&&ny args.toList args'
 | .convert s d x,.stb y=>oK P s (λd=>d matches .string)&&oK P d (λd=>match d with | .slice e=>oK P e (λd=>match d with | .int k=>decide (k = .u8) | _=>false) | _=>false)&&nW x y
 | .call {callee:=.value (.func f),args,argTypes:=_},.calls f' args'=>decide (f=f')&&ny args.toList args'
 | .call {callee:=.value (.tmp t),args,argTypes:=_},.rJ y args'=>nW (.tmp t) y&&ny args.toList args'
 | .load t x,.sN sz agg y=>lC P t sz&&we P t agg&&nW x (.t y)
 | .makeMap _ r,.VA=>r.isNone
 | .lookup t m k c,.zK zero m' k'=>c&&oK P t (λd=>match d with | .map kt et=>oK P kt (λd=>match d with | .int q=>decide (q = .i64) | _=>false)&&zeroV P et zero | _=>false)&&nW m m'&&nW k k'
 | .lookup t m k c,.Cd ck zero m' k'=>decide (c=ck)&&oK P t (λd=>match d with | .map kt et=>oK P kt (λd=>d matches .string)&&zeroV P et zero | _=>false)&&nW m m'&&nW k k'
 | .mapUpdate t m k x,.Cc m' k' x'=>oK P t (λd=>match d with | .map kt _=>oK P kt (λd=>d matches .string) | _=>false)&&nW m m'&&nW k k'&&nW x x'
 | .insert t m k x,.uf m' k' x'=>oK P t (λd=>match d with | .map kt _=>oK P kt (λd=>match d with | .int q=>decide (q = .i64) | _=>false) | _=>false)&&nW m m'&&nW k k'&&nW x x'
 | .call {callee:=.value (.func f),args,argTypes:=_},.yG f' args'=>decide (f=f')&&ny args.toList args'
 | .call {callee:=.value (.func f),args,argTypes:=_},.Aq f' args'=>decide (f=f')&&ny args.toList args'
 |_,_=>false
where
 IG (P:Program) (e:TypeId):Bool:=match P.info? e with
  |some i=>match i.zero with
   |some z=>decide (z.cells.size=i.size)
   |none=>false
  |none=>false
variable{h':AH}
section
variable{P:Program}{Z:az}{β:kW}{h:AH}{w:World}
def KW{o:Oper}{a:Act}{s:Sem Value}(he:execOp a.eval o=(do pure (.value (<-s)))){av:AV}(hm:jS P Z β h w s av h'){next:Act->World->Prop}{Q:Exit->Act->World->Prop}
  (K:∀v w' β',Rel Z β' h' w'->Fr Z β h w β' h' w'->VR β' (Own Z β' h') w' av v->next (a.put o.dst v) w'):o.wp P a w next Q:=by
 let⟨v,w',β',hr,k1,k2,k3⟩:=hm;unfold Oper.wp;rw[he];simp only[Sem.run_bind,hr,Result.andThen_ok,Sem.run_pure];exact K v w' β' k1 k2 k3
def ko{t:TypeId}{q:TypeDesc->Bool}(hi:oK P t q=true):∃d,P.underlying t=some d/\q d=true:=by
 unfold oK at hi;split at hi
 .rename_i d hd;exact⟨d,hd,hi⟩
 .cases hi
def zl.wp{f:FuncId}{args:List AV}{r:AV}(hs:zl P f args h r h')(R:Rel Z β h w){vs:List Value}(hl:args.length=vs.length)
  (hv:∀(j:Nat)(y:AV)(u:Value),args[j]? = some y->vs[j]? = some u->VR β (Own Z β h) w y u) {o:Oper} {a:Act} {next:Act->World->Prop} {Q:Exit->Act->World->Prop}
  (K:∀v w' β',Rel Z β' h' w'->Fr Z β h w β' h' w'->VR β' (Own Z β' h') w' r v->next (a.put o.dst v) w'):o.upon P a next Q ((callFunc f vs.toArray).run P w):=by
 let⟨⟨fn,hf,hb,hn⟩,hc⟩:=hs
 have hr:(callFunc f vs.toArray).run P w = .ok (.enter f vs.toArray) w:=by
  have hb':fn.body.isNone=false:=by cases hfb:fn.body<;>simp_all
  simp only[callFunc,Sem.run_bind,run_program,Result.andThen_ok,hf,hn,hb',aU,if_false,Sem.run_pure]
 rw[hr];refine(hc Z β w vs R hl hv).mono ?_
 rintro e w' ⟨v,β',rfl,k1,k2,k3⟩
 exact K v w' β' k1 k2 k3
def U1{h:AH}{a a':AV}(hp:oT h a=some (a',h')):a'.lT=true:=by
 unfold oT at hp
 have hS:∀ {h h':AH} {a a':AV},qe h a=some (a',h')->a'.kZ=true:=by
  intro h h' a a' hp;unfold qe at hp;split at hp
  .split at hp
   .split at hp
    .cases hp;rfl
    .cases hp
   .split at hp
    .cases hp;rfl
    .cases hp
   .cases hp
  .split at hp
   .rename_i hs;cases hp;exact hs
   .cases hp
 split at hp
 .rename_i hE;cases hp;exact hE
 .split at hp
  .rename_i cs _;simp only[aI]at hp;let⟨⟨l,h1⟩,e1,e2⟩:=hp;cases e2
   have:∀(cs:List AV)(h:AH)(cs':List AV)(h':AH),wR h cs=some (cs',h')->cs'.all AV.kZ=true:=by
    intro cs
    induction cs with
    |nil=>intro h cs' h' hp;simp only[wR]at hp;cases hp;rfl
    |cons a cs ih =>
     intro h cs' h' hp;simp only[wR,aI]at hp;let⟨⟨a1,h1⟩,e1,⟨l1,h2⟩,e2,e3⟩:=hp;cases e3;simp only[bH,aH];exact⟨hS e1,ih _ _ _ e2⟩
   exact this _ _ _ _ e1
  .have:=hS hp;cases a'<;>simp_all[AV.lT,AV.kZ]
def uW{Γ:kP}(hΓ:mH P Γ){f:FuncId}{args:List AV}{r:AV}(hc:jM Γ f args h=some (r,h')):zl P f args h r h':=by
 unfold jM at hc;split at hc
 .rename_i a1 h1 hp;split at hc
  .rename_i r' hr;cases hc;have hall:a1.all AV.lT=true:=by
    have:∀(cs:List AV)(h:AH)(cs':List AV)(h':AH),kY h cs=some (cs',h')->cs'.all AV.lT=true:=by
     intro cs
     induction cs with
     |nil=>intro h cs' h' hp;simp only[kY]at hp;cases hp;rfl
     |cons a cs ih =>
      intro h cs' h' hp;simp only[kY,aI]at hp;obtain⟨⟨a1,h1⟩,e1,⟨l1,h2⟩,e2,e3⟩:=hp;cases e3;simp only[bH,aH];exact⟨U1 e1,ih _ _ _ e2⟩
    exact this _ _ _ _ hp
   obtain⟨hcb,hs⟩:=hΓ.p f a1 _ _ hall hr;refine⟨hcb,λZ β w vs R hl hv=>?_⟩
   obtain⟨k1,k2,k3,k4,k5⟩:=uF args R hp hl hv;refine(hs Z β w vs k1 k3 k4).mono ?_
   rintro e w' ⟨v,β',rfl,m1,m2,m3⟩
   exact⟨v,β',rfl,m1,k2.trans m2,m3⟩
  .exact hΓ.h f args h r h' hc
 .exact hΓ.h f args h r h' hc
end
end Go.Am
