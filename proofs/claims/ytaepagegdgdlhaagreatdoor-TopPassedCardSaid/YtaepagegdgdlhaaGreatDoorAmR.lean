/- Part of the proof that TopPassedCard holds. -/
import Derived.Test.YtaepagegdgdlhaaGreatDoorAmP
set_option linter.all false
namespace Go.Am
section
variable{P:Program}{Z:az}{β:kW}{h:AH}{w:World}
def Lw{f:FuncId}{args:List AV}{r':AV}(hall:args.all AV.lT=true) (hs0:tw P f/\∀(Z:az)(β:kW)(w:World)(vs:List Value),Rel Z β [] w->args.length=vs.length->
  (∀(j:Nat)(y:AV)(u:Value),args[j]? = some y->vs[j]? = some u->VR β (Own Z β []) w y u)->
  Calls P f vs.toArray w λe w'=>∃v β' r0 h1 h2,e = .returned v/\sD h1 r0=some (r',h2)/\Rel Z β' h1 w'/\Fr Z β [] w β' h1 w'/\VR β' (Own Z β' h1) w' r0 v) (h:AH):zl P f args h r' h:=by
 let⟨hc,hs⟩:=hs0;refine⟨hc,λZ β w vs R hl hv=>?_⟩
 let β0:kW:=λ_ _=>none
 have Ve:∀c,Own (Own Z β h) β0 [] c↔Own Z β h c:=by
  intro c
  constructor
  .rintro(hc | ⟨i,X,hX,_⟩)
   .exact hc
   .simp at hX
  .exact .inl
 have R0:Rel (Own Z β h) β0 [] w:=by
  refine⟨λc hc=>?_,λi c ho=>?_,λi v _=>rfl,λi v sz es v' hX=>by simp at hX,λi b hb=>by simp at hb,λi j c ho=>?_⟩
  .rcases hc with hc | ⟨i,ho⟩
   .exact R.xlt c hc
   .exact R.qI ho
  .let⟨X,hX,_⟩:=ho;simp at hX
  .let⟨X,hX,_⟩:=ho;simp at hX
 have st0:lS (Own Z β h) w (Own (Own Z β h) β0 []) w:=⟨aN _,λb _ hO=>⟨rfl,λhh=>hO ((Ve b).1 hh)⟩⟩
 refine(hs (Own Z β h) β0 w vs R0 hl λj y u hy hu=>.pure _ _ (((hv j y u hy hu).B9 (aO.1 hall y (aR hy))).mono st0)).mono ?_
 rintro e w' ⟨v,β',r0,h1,h2,rfl,hp,R1,F1,V1⟩
 let⟨R2,F2,V2,hP⟩:=LA R1 hp V1;have F3:=F1.trans F2;have hold:∀b,b<w.heap.size->w'.heap[b]? = w.heap[b]? := by
  intro b hb
  by_cases hO:Own Z β h b
  .exact F3.nN b hb hO
  .exact(F3.stay.2 b hb λhh=>hO ((Ve b).1 hh)).1
 have st1:lS (Own Z β h) w (Own Z β h) w':=⟨F3.stay.1,λb hb hO=>⟨hold b hb,hO⟩⟩
 have st2:lS (Own (Own Z β h) β' h2) w' (Own Z β h) w':=⟨aN _,λb _ hO=>⟨rfl,λhh=>hO (.inl hh)⟩⟩
 refine⟨v,β,rfl,⟨λc hc=>bT (R.xlt c hc) F3.stay.1,R.CG,R.fresh,R.later,λi X hX=>(R.blk i X hX).mono st1 (λ_ _ _ e=>e) (λc ho=>hold c (R.qI ⟨X,hX,ho⟩)),R.apart⟩,
  ⟨λb hb _=>hold b hb,F3.os,F3.tape,F3.output,λ_ _ _ e=>e,st1⟩,?_⟩
 have one:∀ {x:AV} {u:Value},x.lT=true->VR β' (Own (Own Z β h) β' h2) w' x u->VR β (Own Z β h) w' x u:=λhx hu=>.pure _ _ ((hu.B9 hx).mono st2)
 cases r' with
 |kT vs' =>
  obtain⟨us,rfl,q1,q2⟩:=V2.CT;have sW:∀y∈vs',y.lT=true:=by simpa[AV.jO]using hP
  exact .kT _ us q1 λj y u hy hu=>one (sW y (aR hy)) (q2 j y u hy hu)
 |_=>exact one hP V2
def O0(R:Rel Z β h w){Γ:kP}(hΓ:mH P Γ){e:Env}{a:Act}{n:Nat}(E:kF Z β h w e a n){o:Oper}{x:ni}(ok:yd P o.op x=true){av:AV}{h':AH}(hx:exec Γ e h x=some (av,h'))
  {next:Act->World->Prop} {Q:Exit->Act->World->Prop}
  (K:∀v w' β',Rel Z β' h' w'->Fr Z β h w β' h' w'->VR β' (Own Z β' h') w' av v->next (a.put o.dst v) w'):o.wp P a w next Q:=by
 by_cases hmv:∃y,x = .mv y
 .obtain⟨y,rfl⟩:=hmv;let⟨dst,op,type,pos,after,guard⟩:=o;dsimp only at ok;simp only[exec]at hx;cases hx;unfold yd at ok;split at ok<;>rename_i heq<;>first | (cases ok;done) | (cases heq;done) | skip
  all_goals
   cases heq;have v1:=jR E ok;unfold Oper.wp;simp only[execOp,Sem.run_pure];exact K _ w β R (Fr.refl Z β h w) v1
 by_cases Z8:∃y,x = .ZI y
 .obtain⟨y,rfl⟩:=Z8;let⟨dst,op,type,pos,after,guard⟩:=o;dsimp only at ok;unfold yd at ok;split at ok<;>rename_i heq<;>first | (cases ok;done) | (cases heq;done) | skip
  cases heq;have v1:=jR E ok;simp only[exec]at hx;unfold Oper.wp;simp only[execOp];split at hx
  .rename_i b vv i oo hl;cases hx;rw[hl]at v1;let⟨bd,c,hb,hc,he⟩:=v1.oE;rw[he]at v1⊢;exact K _ w β R (Fr.refl Z β h w) v1
  .rename_i cs hl;cases hx;rw[hl]at v1;generalize Me:a.eval _=u at v1;cases v1 with
   |pure _ _ hv=>cases hv
   |kE _ blk oo f' hO hw q1 q3 q2 =>
    exact K _ w β R (Fr.refl Z β h w) (.kE _ blk oo f' hO hw q1 q3 q2)
  .rename_i f fa fc hl;split at hx
   .cases hx;rw[hl]at v1;generalize Me:a.eval _=u at v1;cases v1 with
    |pure _ _ hv=>cases hv
    |fn _ _ _ va vc q1 q2 q3 q4 =>
     exact K _ w β R (Fr.refl Z β h w) (.fn _ _ _ va vc q1 q2 q3 q4)
   .cases hx
  .cases hx
 by_cases hst:∃sz y z,x = .store sz y z
 .obtain⟨sz,y,z,rfl⟩:=hst;let⟨dst,op,type,pos,after,guard⟩:=o;dsimp only at ok;unfold yd at ok;split at ok<;>rename_i heq<;>first | (cases ok;done) | (cases heq;done) | skip
  cases heq;simp only[aH]at ok;let⟨⟨h1,h2⟩,h3⟩:=ok;simp only[exec,aI]at hx;let⟨h1',hs,hx⟩:=hx;cases hx;let⟨w',hr,R',F'⟩:=GP (P:=P) R hs (jR E h2) (jR E h3) h1;unfold Oper.wp;simp only[execOp,Sem.run_bind,hr,Result.andThen_ok,Sem.run_pure];exact K _ w' β R' F' .undef
 by_cases hsr:∃sz y z,x = .mC sz y z
 .obtain⟨sz,y,z,rfl⟩:=hsr;let⟨dst,op,type,pos,after,guard⟩:=o;dsimp only at ok;unfold yd at ok;split at ok<;>rename_i heq<;>first | (cases ok;done) | (cases heq;done) | skip
  cases heq;simp only[aH]at ok;let⟨⟨h1,h2⟩,h3⟩:=ok;simp only[exec]at hx;split at hx
  case isFalse=>cases hx
  simp only[aI]at hx;let⟨h1',hs,hx⟩:=hx;cases hx;let⟨w',hr,R',F'⟩:=GP (P:=P) R hs (jR E h2) (jR E h3) h1;unfold Oper.wp;simp only[execOp,Sem.run_bind,hr,Result.andThen_ok,Sem.run_pure];exact K _ w' β R' F' .undef
 by_cases hmp:∃m k y,x = .uf m k y
 .obtain⟨m,k,y,rfl⟩:=hmp;let⟨dst,op,type,pos,after,guard⟩:=o;dsimp only at ok;unfold yd at ok;split at ok<;>rename_i heq<;>first | (cases ok;done) | (cases heq;done) | skip
  all_goals
   cases heq;simp only[aH]at ok;let⟨⟨⟨h1,h2⟩,h3⟩,h4⟩:=ok;let⟨d,hd,hq⟩:=ko h1;cases d<;>first | (cases hq;done) | skip
   let⟨d2,hd2,Ex⟩:=ko hq;cases d2<;>first | (cases Ex;done) | skip
   simp only[decide_eq_true_eq]at Ex;subst Ex;simp only[exec,aI]at hx;let⟨⟨b,es⟩,hm,n0,hk,hx⟩:=hx;dsimp only at hx;split at hx
   case isFalse=>cases hx
   rename_i Wl;cases hx;let⟨e1,e2⟩:=xW hm;have e3:=Es hk;have v1:=jR E h2;have v2:=jR E h3;rw[e1]at v1;rw[e3]at v2;let⟨w',hr,R',F'⟩:=Vv (P:=P) R hd hd2 e2 Wl v1 v2 (jR E h4);unfold Oper.wp;simp only[execOp,Sem.run_bind,hr,Result.andThen_ok,Sem.run_pure];exact K _ w' β R' F' .undef
 by_cases hmps:∃m k y,x = .Cc m k y
 .obtain⟨m,k,y,rfl⟩:=hmps;let⟨dst,op,type,pos,after,guard⟩:=o;dsimp only at ok;unfold yd at ok;split at ok<;>rename_i heq<;>first | (cases ok;done) | (cases heq;done) | skip
  all_goals
   cases heq;simp only[aH]at ok;let⟨⟨⟨h1,h2⟩,h3⟩,h4⟩:=ok;let⟨d,hd,hq⟩:=ko h1;cases d<;>first | (cases hq;done) | skip
   let⟨d2,hd2,Ex⟩:=ko hq;cases d2<;>first | (cases Ex;done) | skip
   simp only[exec,aI]at hx;let⟨⟨b,es⟩,hm,n0,hk,hx⟩:=hx;dsimp only at hx;split at hx
   case isFalse=>cases hx
   rename_i Wl;cases hx;let⟨e1,e2⟩:=Hf hm;have e3:=LX hk;have v1:=jR E h2;have v2:=jR E h3;rw[e1]at v1;rw[e3]at v2;let⟨w',hr,R',F'⟩:=SH (P:=P) R hd hd2 e2 Wl v1 v2 (jR E h4);unfold Oper.wp;simp only[execOp,Sem.run_bind,hr,Result.andThen_ok,Sem.run_pure];exact K _ w' β R' F' .undef
 by_cases oZ:∃f ys,x = .call f ys\/x = .rS f ys\/x = .v8 f ys\/x = .qu f ys\/x = .calls f ys\/x = .yG f ys\/x = .Aq f ys
 .let⟨f,ys,oZ⟩:=oZ;let⟨dst,op,type,pos,after,guard⟩:=o;dsimp only at ok
  have key:∃c:Array Operand×Array TypeId,op = .call {callee:=.value (.func f),args:=c.1,argTypes:=c.2}/\ny c.1.toList ys=true:=by
   rcases oZ with rfl | rfl | rfl | rfl | rfl | rfl | rfl
   all_goals
    unfold yd at ok;split at ok<;>rename_i heq<;>first | (cases ok;done) | (cases heq;done) | skip
    cases heq;simp only[aH,decide_eq_true_eq]at ok;obtain⟨rfl,ok⟩:=ok;exact⟨(_,_),rfl,ok⟩
  obtain⟨⟨args,ats⟩,rfl,hok⟩:=key;let⟨p1,p2⟩:=qJ E hok
  have hs:zl P f (getAll e ys) h av h':=by
   rcases oZ with rfl | rfl | hq | hq | hq | hq | hq
   .exact uW hΓ hx
   rotate_left
   .subst hq;simp only[exec]at hx;split at hx
    .rename_i hall;simp only[aI]at hx;let⟨⟨r,h2⟩,⟨⟨r0,h1⟩,hrun,hp⟩,hx⟩:=hx;cases hx;let⟨hc,hs⟩:=hΓ.h f _ _ _ _ hrun;exact Lw hall ⟨hc,λZ β w vs R hl hv=>(hs Z β w vs R hl hv).mono λe w' ⟨v,β',he,R',F',V'⟩=>⟨v,β',r0,h1,h2,he,hp,R',F',V'⟩⟩ h
    .cases hx
   .subst hq;simp only[exec]at hx;unfold uQ at hx;split at hx
    .rename_i r hh hq;split at hx
     .cases hx;exact uW hΓ hq
     .cases hx
    .cases hx
   .subst hq;simp only[exec]at hx;unfold tH at hx;split at hx
    .rename_i r hh hq;split at hx
     .rename_i he;cases hx;subst he;exact uW hΓ hq
     .cases hx
    .cases hx
   .subst hq;simp only[exec,aI]at hx;let⟨⟨l,h1⟩,hp,r,hr,hx⟩:=hx;cases hx;exact uW hΓ (by unfold jM;rw[hp];simp only[hr])
   .subst hq;simp only[exec,aI]at hx;let⟨⟨l,h1⟩,hp,hx⟩:=hx;let⟨hc,hs⟩:=hΓ.h f _ _ _ _ hx;refine⟨hc,λZ β w vs R hl hv=>?_⟩
    let⟨k1,k2,k3,k4,k5⟩:=uF _ R hp hl hv;refine(hs Z β w vs k1 k3 k4).mono ?_
    rintro e w' ⟨v,β',rfl,m1,m2,m3⟩
    exact⟨v,β',rfl,m1,k2.trans m2,m3⟩
   .simp only[exec]at hx;split at hx
    .rename_i hall;cases hp:Γ.p f (getAll e ys)with
     |none=>rw[hp]at hx;cases hx
     |some r=>rw[hp]at hx;cases hx;exact hΓ.p f _ _ h hall hp
    .cases hx
  unfold Oper.wp
  have he:execOp a.eval ⟨dst,.call {callee:=.value (.func f),args:=args,argTypes:=ats},type,pos,after,guard⟩=callFunc f (args.toList.map a.eval).toArray:=by
   have:(args.toList.map a.eval).toArray=args.map a.eval:=dI ah
   simp[execOp,resolve,Deferred.ofValue,invoke,Act.eval,this]
  rw[he];exact hs.wp R p1 p2 K
 by_cases Wx:∃y ys,x = .l8 y ys\/x = .rR y ys\/x = .rJ y ys
 .obtain⟨y, ys, Wx⟩ := Wx;obtain⟨dst, op, type, pos, after, guard⟩ := o;dsimp only at ok
  have key:∃(t:Tmp) (c:Array Operand×Array TypeId),op = .call {callee:=.value (.tmp t),args:=c.1,argTypes:=c.2}/\nW (.tmp t) y=true/\ny c.1.toList ys=true:=by
   rcases Wx with rfl | rfl | rfl
   all_goals
    unfold yd at ok;split at ok<;>rename_i heq<;>first | (cases ok;done) | (cases heq;done) | skip
    cases heq;simp only[aH]at ok;exact⟨_,(_,_),rfl,ok.1,ok.2⟩
  obtain⟨t,⟨args,ats⟩,rfl,h1,h2⟩:=key;let⟨p1,p2⟩:=qJ E h2;have v1:=jR E h1
  have hx':∃g first cap,y.get e = .fn (.func g) first cap/\jM Γ g (first++getAll e ys++cap) h=some (av,h'):=by
   rcases Wx with rfl | rfl | rfl
   .simp only[exec]at hx;split at hx
    .rename_i g first cap hg;split at hx
     .exact⟨_,_,_,hg,hx⟩
     .cases hx
    .cases hx
   .simp only[exec]at hx;split at hx
    .rename_i g first cap hg;split at hx
     .unfold tH at hx;split at hx
      .rename_i r hh hq;split at hx
       .rename_i he;cases hx;subst he;exact⟨_,_,_,hg,hq⟩
       .cases hx
      .cases hx
     .cases hx
    .cases hx
   .simp only[exec]at hx;split at hx
    .rename_i g first cap hg;split at hx
     .unfold uQ at hx;split at hx
      .rename_i r hh hq;split at hx
       .cases hx;exact⟨_,_,_,hg,hq⟩
       .cases hx
      .cases hx
     .cases hx
    .cases hx
  let⟨g,first,cap,hg,hx'⟩:=hx';rw[hg]at v1;have hs:zl P g _ h av h':=uW hΓ hx';generalize Me:a.eval (.tmp t)=u at v1;cases v1 with
  |pure _ _ hv=>cases hv
  |fn _ _ _ va vc q1 q2 q3 q4 =>
  unfold Oper.wp
  have he:execOp a.eval ⟨dst,.call {callee:=.value (.tmp t),args:=args,argTypes:=ats},type,pos,after,guard⟩=callFunc g (va++args.toList.map a.eval++vc).toArray:=by
   have:(va++args.toList.map a.eval++vc).toArray=va.toArray++args.map a.eval++vc.toArray:=dI ah
   rw[this];simp[execOp,resolve,Deferred.ofValue,invoke,Me]
  rw[he];refine hs.wp R (by simp only[aL,q1,q2,p1]) ?_ K
  intro j yy uu hy hu;rw[jh]at hy hu;have e1:(first++getAll e ys).length=(va++args.toList.map a.eval).length:=by simp only[aL,q1,p1]
  rw[e1]at hy;split at hy
  .rename_i hlt;rw[if_pos hlt]at hu;rw[jh]at hy hu;rw[q1]at hy;split at hy
   .rename_i hlt2;rw[if_pos hlt2]at hu;exact q3 _ _ _ hy hu
   .rename_i hlt2;rw[if_neg hlt2]at hu;exact p2 _ _ _ hy hu
  .rename_i hlt;rw[if_neg hlt]at hu;exact q4 _ _ _ hy hu
 let⟨s,he,hm⟩:=O1 R E ok hx (λf ys=>⟨λhh=>oZ ⟨f,ys,.inl hh⟩,λhh=>oZ ⟨f,ys,.inr (.inl hh)⟩⟩) (λy ys hh=>Wx ⟨y,ys,.inl hh⟩) (λy ys hh=>Wx ⟨y,ys,.inr (.inl hh)⟩) (λy ys hh=>oZ ⟨y,ys,.inr (.inr (.inl hh))⟩) (λy ys hh=>oZ ⟨y,ys,.inr (.inr (.inr (.inl hh)))⟩) (λy ys hh=>oZ ⟨y,ys,.inr (.inr (.inr (.inr (.inl hh))))⟩) (λy ys hh=>Wx ⟨y,ys,.inr (.inr hh)⟩) (λy ys=>⟨λhh=>oZ ⟨y,ys,.inr (.inr (.inr (.inr (.inr (.inl hh)))))⟩,λhh=>oZ ⟨y,ys,.inr (.inr (.inr (.inr (.inr (.inr hh)))))⟩⟩) (λsz y z hh=>hst ⟨sz,y,z,hh⟩) (λsz y z hh=>hsr ⟨sz,y,z,hh⟩) (λy hh=>Z8 ⟨y,hh⟩) (λy hh=>hmv ⟨y,hh⟩) (λm k y hh=>hmp ⟨m,k,y,hh⟩) (λm k y hh=>hmps ⟨m,k,y,hh⟩)
 exact KW he hm K
end
def oper? : Option AO->List AO
 |none=>[]
 |some x=>[x]
def ni.ops:ni->List AO
 | .mv x=>[x]
 | .pick c a b=>[c,a,b]
 | .alloc _=>[]
 | .box x=>[x]
 | .build _ ps=>ps.map λp=>p.2.2
 | .BQ _ _ _ ps=>ps.map λp=>p.2
 | .me _ _ _ ps=>ps.map λp=>p.2
 | .M0 _ _ _ ps=>ps.map λp=>p.2
 | .load _ _ a=>[a]
 | .store _ a x=>[a,x]
 | .mC _ a x=>[a,x]
 | .mS _ _ a q=>[a,.t q]
 | .ZI x=>[x]
 | .bin _ x y=>[x,y]
 | .seq _ _ x y=>[x,y]
 | .un _ x=>[x]
 | .conv _ x=>[x]
 | .XU x=>[x]
 | .mki _ x=>[x]
 | .Ef _ a c=>a++c
 | .mks _ _ _ l c=>[l,c]
 | .Sj x lo hi=>x::(oper? lo++oper? hi)
 | .F8 _ x lo hi mx=>x::(oper? lo++(oper? hi++oper? mx))
 | .fad _ x=>[x]
 | .fld _ _ _ x=>[x]
 | .Nz _ x i=>[x,i]
 | .OC _ _ x i=>[x,i]
 | .idxs x i=>[x,i]
 | .ext x _=>[x]
 | .call _ as=>as
 | .rS _ as=>as
 | .l8 f as=>f::as
 | .app _ _ s x=>[s,x]
 | .len _ x=>[x]
 | .mm _ xs=>xs
 | .no=>[]
 | .zO _ _ x=>[x]
 | .clr _ _ x=>[x]
 | .N9 x=>[x]
 | .Ch _ _ x=>[x]
 | .rR f as=>f::as
 | .ZO=>[]
 | .yP _ m k=>[m,k]
 | .uf m k x=>[m,k,x]
 | .Ol m=>[m]
 | .zK _ m k=>[m,k]
 | .VA=>[]
 | .Cd _ _ m k=>[m,k]
 | .Cc m k x=>[m,k,x]
 | .v8 _ as=>as
 | .qu _ as=>as
 | .stb x=>[x]
 | .sN _ _ t=>[.t t]
 | .calls _ as=>as
 | .yG _ as=>as
 | .Aq _ as=>as
 | .rJ f as=>f::as
variable{h' h h2:AH}{v a' b:AV}{sz:Nat}
section
variable{Γ:kP}{e e':Env}{h:AH}
def kM:∀(l:List AO),(∀x∈l,x.get e=x.get e')->getAll e l=getAll e' l
 | [],_=>rfl
 |x::l,hl=>by
  simp only[getAll];rw[hl x ah,kM l λy hy=>hl y (by simp[hy])]
def Cb:∀(l:List (Nat×Nat×AO))(cs:List AV),(∀p∈l,p.2.2.get e=p.2.2.get e')->parts e l cs=parts e' l cs
 | [],_,_=>rfl
 |(off,size,x)::l,cs,hl=>by
  have hx:x.get e=x.get e':=hl (off,size,x) ah
  simp only[parts,hx];rw[Cb l _ λy hy=>hl y (by simp[hy])]
def vM(sz:Nat):∀(l:List (Nat×AO))(es:List AV)(h:AH),(∀p∈l,p.2.get e=p.2.get e')->nZ e sz l es h=nZ e' sz l es h
 | [],_,_,_=>rfl
 |(i,x)::l,es,h,hl=>by
  have hx:x.get e=x.get e':=hl (i,x) ah
  simp only[nZ,hx]
  congr 1
  funext r
  rw[vM sz l _ _ λy hy=>hl y (by simp[hy])]
def yH(sz:Nat):∀(l:List (Nat×AO))(es:List AV),(∀p∈l,p.2.get e=p.2.get e')->oc e sz l es=oc e' sz l es
 | [],_,_=>rfl
 |(i,x)::l,es,hl=>by
  have hx:x.get e=x.get e':=hl (i,x) ah
  simp only[oc,hx];rw[yH sz l _ λy hy=>hl y (by simp[hy])]
def rX(d:Nat)(x:Option AO)(hx:∀y∈oper? x,y.get e=y.get e'):lI d e x=lI d e' x:=by
 cases x with
 |none=>rfl
 |some y=>simp only[lI,hx y (by simp[oper?])]
def EU(op:ni)(ho:∀x∈op.ops,x.get e=x.get e'):exec Γ e h op=exec Γ e' h op:=by
 cases op with
 |build zero ps=>simp only[exec];rw[Cb ps _ λp hp=>ho p.2.2 (by simp only[ni.ops,bx];exact⟨p,hp,rfl⟩)]
 |BQ sz zero len ps=>simp only[exec];rw[yH _ ps _ λp hp=>ho p.2 (by simp only[ni.ops,bx];exact⟨p,hp,rfl⟩)]
 |me sz zero len ps=>simp only[exec];rw[vM _ ps _ _ λp hp=>ho p.2 (by simp only[ni.ops,bx];exact⟨p,hp,rfl⟩)]
 |M0 sz zero len ps=>simp only[exec];rw[vM _ ps _ _ λp hp=>ho p.2 (by simp only[ni.ops,bx];exact⟨p,hp,rfl⟩)]
 |Ef f a c=>simp only[exec];rw[kM a λy hy=>ho y (by simp[ni.ops,hy]),kM c λy hy=>ho y (by simp[ni.ops,hy])]
 |call f as=>simp only[exec];rw[kM as ho]
 |rS f as=>simp only[exec];rw[kM as ho]
 |l8 f as =>
  simp only[exec];rw[kM as λy hy=>ho y (by simp[ni.ops,hy]),ho f (by simp[ni.ops])]
 |v8 f as=>simp only[exec];rw[kM as ho]
 |qu f as=>simp only[exec];rw[kM as ho]
 |calls f as=>simp only[exec];rw[kM as ho]
 |yG f as=>simp only[exec];rw[kM as ho]
 |Aq f as=>simp only[exec];rw[kM as ho]
 |rJ f as =>
  simp only[exec];rw[kM as λy hy=>ho y (by simp[ni.ops,hy]),ho f (by simp[ni.ops])]
 |rR f as =>
  simp only[exec];rw[kM as λy hy=>ho y (by simp[ni.ops,hy]),ho f (by simp[ni.ops])]
 |mm m xs=>simp only[exec];rw[kM xs ho]
 |Sj x lo hi =>
  simp only[exec];rw[ho x (by simp[ni.ops])]
  have h1:=λd=>rX (e:=e) (e':=e') d lo λy hy=>ho y (by simp[ni.ops,hy])
  have h2:=λd=>rX (e:=e) (e':=e') d hi λy hy=>ho y (by simp[ni.ops,hy])
  simp only[h1,h2]
 |F8 sz x lo hi mx =>
  simp only[exec];rw[ho x (by simp[ni.ops])]
  have h1:=λd=>rX (e:=e) (e':=e') d lo λy hy=>ho y (by simp[ni.ops,hy])
  have h2:=λd=>rX (e:=e) (e':=e') d hi λy hy=>ho y (by simp[ni.ops,hy])
  cases mx with
  |none=>simp only[h1,h2]
  |some m=>simp only[h1,h2,ho m (by simp[ni.ops,oper?])]
 |sN sz agg t =>
  have hq:e t=e' t:=ho (.t t) (by simp[ni.ops])
  simp only[exec,hq]
 |zK z m k=>simp only[exec];rw[ho m (by simp[ni.ops]),ho k (by simp[ni.ops])]
 |Cd c z m k=>simp only[exec];rw[ho m (by simp[ni.ops]),ho k (by simp[ni.ops])]
 |Cc m k x=>simp only[exec];rw[ho m (by simp[ni.ops]),ho k (by simp[ni.ops]),ho x (by simp[ni.ops])]
 |mS sz agg a q =>
  have hq:e q=e' q:=ho (.t q) (by simp[ni.ops])
  simp only[exec,hq];rw[ho a (by simp[ni.ops])]
 |_=>simp only[ni.ops,aP,gV,or_false,forall_eq_or_imp,forall_eq]at ho<;>simp only[exec,ho]
def ni.isN:ni->Bool
 | .mv _ | .pick .. | .build .. | .BQ .. | .ZI _ | .bin .. | .seq .. | .un .. | .conv .. | .mki .. | .Ef .. | .Sj .. | .fad .. | .fld .. | .OC .. | .idxs .. | .ext .. | .rS .. | .len .. | .mm .. | .no | .zO .. | .N9 _ | .Ch .. | .v8 .. | .stb _=>true
 |_=>false
def ni.mX:ni->Bool
 | .load .. | .mS .. | .XU _ | .F8 .. | .Nz .. | .rR .. | .yP .. | .zK .. | .Cd .. | .Ol _ | .sN .. | .calls .. => true
 |x=>x.isN
def ni.Hp:ni->Bool
 | .F8 .. | .Nz .. => true
 |_=>false
def ni.SP:ni->Bool
 | .store .. | .mC .. | .alloc _ | .box _=>true
 |_=>false
def ni.uO:ni->Bool
 | .alloc _ | .box _ | .qu .. | .rJ .. => true
 |_=>false
def ni.Oz:ni->Bool
 | .load .. | .mS .. | .XU _=>true
 |_=>false
def ni.L0:ni->Bool
 | .load _ _ (.t _)=>true
 |_=>false
theorem Xk{agg:Bool}{t:Nat}{bs:AH}(hp:∀b v i o,e t = .ptr b v i o->b<h.length)(hx:exec Γ e (h++bs) (.load sz agg (.t t))=some (v,h')):exec Γ e h (.load sz agg (.t t))=some (v,h):=by
 simp only[exec,mc,aI]at hx⊢;let⟨cs,h1,r,h2,hx⟩:=hx;cases hx;refine⟨cs,?_,_,h2,rfl⟩
 change j7 (h++bs) (e t)=some cs at h1
 change j7 h (e t)=some cs
 generalize e t=a at *
 unfold j7 at h1⊢;cases a<;>first | exact h1 | skip
 rename_i b v i o;have:=hp b v i o rfl;dsimp only at h1⊢;rw[aK this]at h1;exact h1
theorem vL{a:AV}{cs:List AV}(hc:j7 h a=some cs)(bs:AH):j7 (h++bs) a=some cs:=by
 unfold j7 at hc⊢;cases a<;>first | exact hc | skip
 rename_i b v i o;dsimp only at hc⊢;cases hb:h[b]? with
 |none=>rw[hb]at hc;cases hc
 |some X =>
  have hlt:b<h.length:=(aF.1 hb).1;rw[aK hlt,hb];rw[hb]at hc;exact hc
def O4{a:AV}{es:List AV}(hc:elems h a=some es)(bs:AH):elems (h++bs) a=some es:=by
 unfold elems at hc⊢;cases a<;>first | exact hc | skip
 rename_i b v o n;dsimp only at hc⊢;cases hb:h[b]? with
 |none=>rw[hb]at hc;cases hc
 |some X =>
  have hlt:b<h.length:=(aF.1 hb).1;rw[aK hlt,hb];rw[hb]at hc;exact hc
theorem QI(op:ni)(hs:op.Oz=true)(hx:exec Γ e h op=some (v,h'))(bs:AH):exec Γ e (h++bs) op=some (v,h++bs):=by
 cases op<;>first | (cases hs;done) | skip
 case load =>
  simp only[exec,mc,aI]at hx⊢;let⟨cs,h1,r,h2,hx⟩:=hx;cases hx;exact⟨cs,vL h1 bs,_,h2,rfl⟩
 case mS =>
  simp only[exec,mc]at hx⊢;split at hx
  .rename_i hf;rw[if_pos hf];simp only[aI]at hx⊢;let⟨cs,h1,r,h2,hx⟩:=hx;cases hx;exact⟨cs,vL h1 bs,_,h2,rfl⟩
  .cases hx
 case XU =>
  simp only[exec,aI]at hx⊢;let⟨cs,h1,r,h2,hx⟩:=hx;cases hx;exact⟨cs,O4 h1 bs,_,h2,rfl⟩
def EV(op:ni)(hs:op.uO=true)(hx:exec Γ e h op=some (v,h')):∃bs,h'=h++bs:=by
 cases op<;>first | (cases hs;done) | skip
 case alloc =>
  simp only[exec]at hx;cases hx;exact⟨_,rfl⟩
 case box =>
  simp only[exec]at hx;split at hx
  .cases hx;exact⟨_,rfl⟩
  .cases hx
 case qu =>
  simp only[exec]at hx;unfold uQ at hx;split at hx
  .split at hx
   .rename_i ht;cases hx;refine⟨h'.drop h.length,?_⟩
    conv=>rhs;lhs;rw[<-ht]
    exact(dF _ _).symm
   .cases hx
  .cases hx
 case rJ =>
  simp only[exec]at hx;split at hx
  .split at hx
   .unfold uQ at hx;split at hx
    .split at hx
     .rename_i ht;cases hx;refine⟨h'.drop h.length,?_⟩
      conv=>rhs;lhs;rw[<-ht]
      exact(dF _ _).symm
     .cases hx
    .cases hx
   .cases hx
  .cases hx
def Xm(op:ni)(hn:op.isN=true):exec Γ e h op=(exec Γ e [] op).map λr=>(r.1,h):=by
 cases op<;>first | (cases hn;done) | skip
 case mv=>rfl
 case no=>rfl
 case zO=>simp only[exec];generalize isNil _ _ _=q;cases q<;>rfl
 case Ef=>rfl
 case N9=>simp only[exec];split<;>rfl
 case v8 f as =>
  simp only[exec];split
  .cases hq:((Γ.h f (getAll e as) []).bind λx=>sD x.snd x.fst)with
   |none=>rfl
   |some r=>rfl
  .rfl
 case Ch=>simp only[exec,mc];split<;>first | rfl | (generalize shape _ _ _=q;cases q<;>rfl)
 case mki=>rfl
 case pick=>simp only[exec];split<;>rfl
 case build=>simp only[exec];rename_i zero ps;cases parts e ps zero<;>rfl
 case BQ=>simp only[exec];rename_i sz zero len ps;cases oc e sz ps (List.replicate len zero)<;>rfl
 case ZI=>simp only[exec];split<;>first | rfl | (split<;>rfl)
 case bin=>simp only[exec];generalize Am.bin _ _ _=q;cases q<;>rfl
 case seq=>simp only[exec];split<;>first | rfl | (generalize lK _ _ _=q;cases q<;>simp only[Option.bind_none,bX,ig]<;>split<;>rfl)
 case un=>simp only[exec];generalize Am.un _ _=q;cases q<;>rfl
 case conv=>simp only[exec];split<;>rfl
 case stb=>simp only[exec];split<;>rfl
 case Sj =>
  simp only[exec];split<;>first | rfl | skip
  generalize lI _ _ _=q1;cases q1<;>first | rfl | skip
  simp only[bX];generalize lI _ _ _=q2;cases q2<;>first | rfl | skip
  simp only[bX];split<;>rfl
 case fad=>simp only[exec];split<;>first | rfl | (split<;>rfl)
 case fld=>simp only[exec];split<;>first | rfl | (split<;>first | rfl | (generalize shape _ _ _=q;cases q<;>rfl))
 case OC =>
  simp only[exec];generalize nat? _=q;cases q<;>first | rfl | skip
  simp only[bX];split<;>first | rfl | (split<;>first | rfl | (split<;>rfl))
 case idxs =>
  simp only[exec];split<;>first | rfl | skip
  generalize nat? _=q;cases q<;>first | rfl | skip
  simp only[bX];generalize((_:au)[(_:Nat)]? : Option UInt8)=q;cases q<;>rfl
 case ext =>
  simp only[exec];split<;>first | rfl | skip
  generalize((_:List AV)[(_:Nat)]? : Option AV)=q;cases q<;>rfl
 case rS=>simp only[exec];split<;>first | rfl | (generalize Γ.p _ _=q;cases q<;>rfl)
 case len=>simp only[exec];generalize K9 _ _=q;cases q<;>rfl
 case mm =>
  simp only[exec];split<;>first | rfl | (generalize yx _ _ _=q;cases q<;>rfl)
def Xl(op:ni)(hr:op.mX=true)(hx:exec Γ e h op=some (v,h')):h'=h:=by
 by_cases hn:op.isN=true
 .rw[Xm op hn]at hx;cases hq:exec Γ e [] op with
  |none=>rw[hq]at hx;cases hx
  |some r=>rw[hq]at hx;cases hx;rfl
 .cases op<;>first | (exact absurd rfl hn) | (exact absurd hr hn) | skip
  case calls =>
   simp only[exec]at hx;unfold tH at hx;split at hx
   .split at hx
    .cases hx;rfl
    .cases hx
   .cases hx
  case rR =>
   simp only[exec]at hx;split at hx
   .split at hx
    .unfold tH at hx;split at hx
     .split at hx
      .cases hx;rfl
      .cases hx
     .cases hx
    .cases hx
   .cases hx
  case yP | zK | Cd =>
   simp only[exec,aI]at hx;let⟨_,_,_,_,hx⟩:=hx;cases hx;rfl
  case Ol =>
   simp only[exec,aI]at hx;let⟨_,_,hx⟩:=hx;cases hx;rfl
  case load =>
   simp only[exec,mc,aI]at hx;let⟨_,_,_,_,hx⟩:=hx;cases hx;rfl
  case sN =>
   simp only[exec,mc]at hx;split at hx
   .simp only[aI]at hx;let⟨_,_,_,_,hx⟩:=hx;cases hx;rfl
   .cases hx
  case mS =>
   simp only[exec,mc]at hx;split at hx
   .simp only[aI]at hx;let⟨_,_,_,_,hx⟩:=hx;cases hx;rfl
   .cases hx
  case XU =>
   simp only[exec,aI]at hx;let⟨_,_,_,_,hx⟩:=hx;cases hx;rfl
  case F8 =>
   simp only[exec]at hx;split at hx<;>first | (cases hx;done) | skip
   all_goals
    simp only[aI]at hx;let⟨_,_,_,_,hx⟩:=hx;split at hx
    .split at hx
     .cases hx;rfl
     .cases hx
    .simp only[aI]at hx;let⟨_,_,hx⟩:=hx;split at hx
     .cases hx;rfl
     .cases hx
  case Nz =>
   simp only[exec]at hx;split at hx<;>first | (cases hx;done) | skip
   .simp only[aI]at hx;let⟨_,_,_,_,hx⟩:=hx;split at hx
    .cases hx;rfl
    .cases hx
   .simp only[aI]at hx;let⟨_,_,hx⟩:=hx;split at hx
    .cases hx;rfl
    .cases hx
theorem MJ(op:ni)(hs:op.Hp=true)(hr:∀b v,kX h2 b v=kX h b v)(hx:exec Γ e h op=some (v,h')):exec Γ e h2 op=some (v,h2):=by
 cases op<;>first | (cases hs;done) | skip
 case F8 sz x lo hi mx =>
  simp only[exec]at hx⊢;split at hx
  .simp only[aI]at hx;let⟨a,ha,b,hb,hx⟩:=hx;simp only[ha,hb,bX];split at hx
   .split at hx
    .rename_i hc;cases hx;rw[if_pos hc]
    .cases hx
   .simp only[aI]at hx;let⟨c,hc,hx⟩:=hx;simp only[hc,bX];split at hx
    .rename_i hc;cases hx;rw[if_pos hc]
    .cases hx
  .simp only[aI]at hx;let⟨a,ha,b,hb,hx⟩:=hx;simp only[ha,hb,bX,hr];split at hx
   .split at hx
    .rename_i hc;cases hx;rw[if_pos hc]
    .cases hx
   .simp only[aI]at hx;let⟨c,hc,hx⟩:=hx;simp only[hc,bX];split at hx
    .rename_i hc;cases hx;rw[if_pos hc]
    .cases hx
  .cases hx
 case Nz sz x i =>
  simp only[exec]at hx⊢;split at hx
  .simp only[aI]at hx;let⟨a,ha,b,hb,hx⟩:=hx;simp only[ha,hb,bX];split at hx
   .rename_i hc;cases hx;rw[if_pos hc]
   .cases hx
  .simp only[aI]at hx;let⟨a,ha,hx⟩:=hx;simp only[ha,bX,hr];split at hx
   .rename_i hc;cases hx;rw[if_pos hc]
   .cases hx
  .cases hx
def uD{b:Nat}{X Y:AB}(hX:h[b]? = some X) (hs:∀v,(match Y with | .row v' sz _=>if v=v' then some sz else none | .qa v' sz _=>if v=v' then some sz else none | _=>none) =
  (match X with | .row v' sz _=>if v=v' then some sz else none | .qa v' sz _=>if v=v' then some sz else none | _=>none)) (i v:Nat):kX (h.set b Y) i v=kX h i v:=by
 have hlt:b<h.length:=(aF.1 hX).1;unfold kX
 by_cases hi:i=b
 .subst hi;rw[aZ hlt,hX];have:=hs v;cases X<;>cases Y<;>exact this
 .rw[aJ (λe=>hi e.symm)]
def DL{cs:List AV}(i v:Nat):kX (h++[.var cs]) i v=kX h i v:=by
 unfold kX
 by_cases hi:i<h.length
 .rw[aK hi]
 .rw[aV aa,b9 (l:=h) aa]
  cases hj:i-h.length with
  |zero=>rfl
  |succ j=>rfl
def DV{a:AV}(hp:qe h a=some (a',h'))(i v:Nat):kX h' i v=kX h i v:=by
 cases a<;>simp only[qe]at hp
 case own b vv o n =>
  split at hp
  .rename_i v' sz es hX;split at hp
   .cases hp;exact uD hX (λ_=>rfl) i v
   .cases hp
  .split at hp
   .cases hp;rfl
   .cases hp
  .cases hp
 all_goals
  split at hp
  .cases hp;rfl
  .cases hp
def DX:∀ {l l':List AV} {h h':AH},wR h l=some (l',h')->∀(i v:Nat),kX h' i v=kX h i v
 | [],l',h,h',hp,i,v=>by simp only[wR]at hp;cases hp;rfl
 |a::l,l',h,h',hp,i,v=>by
  simp only[wR,aI]at hp;let⟨⟨a',h1⟩,h1e,⟨l2,h2⟩,h2e,hp⟩:=hp;cases hp;rw[DX h2e,DV h1e]
def DY{a:AV}(hp:oT h a=some (a',h'))(i v:Nat):kX h' i v=kX h i v:=by
 unfold oT at hp;split at hp
 .cases hp;rfl
 .split at hp
  .simp only[aI]at hp;let⟨⟨l,h1⟩,h1e,hp⟩:=hp;cases hp;exact DX h1e i v
  .exact DV hp i v
theorem QJ(op:ni)(hs:op.SP=true)(hx:exec Γ e h op=some (v,h'))(i u:Nat):kX h' i u=kX h i u:=by
 cases op<;>first | (cases hs;done) | skip
 case alloc zero=>simp only[exec]at hx;cases hx;exact DL i u
 case box x =>
  simp only[exec]at hx;split at hx
  .cases hx;exact DL i u
  .cases hx
 case store sz a x =>
  simp only[exec,aI]at hx;let⟨h1,hst,hx⟩:=hx;cases hx;unfold storeAt at hst;split at hst
  .split at hst
   .rename_i hX;split at hst
    .cases hst;exact uD hX (λ_=>rfl) i u
    .cases hst
   .simp only[aI]at hst;let⟨⟨x',h2⟩,hp,hst⟩:=hst;split at hst
    .rename_i hX;simp only[aI]at hst;let⟨y,hy,hst⟩:=hst;split at hst
     .cases hst;rw[uD hX (λ_=>rfl) i u,DY hp]
     .cases hst
    .cases hst
   .cases hst
  .cases hst
 case mC sz a x =>
  simp only[exec]at hx;split at hx
  case isFalse=>cases hx
  simp only[aI]at hx;let⟨h1,hst,hx⟩:=hx;cases hx;unfold storeAt at hst;split at hst
  .split at hst
   .rename_i hX;split at hst
    .cases hst;exact uD hX (λ_=>rfl) i u
    .cases hst
   .simp only[aI]at hst;let⟨⟨x',h2⟩,hp,hst⟩:=hst;split at hst
    .rename_i hX;simp only[aI]at hst;let⟨y,hy,hst⟩:=hst;split at hst
     .cases hst;rw[uD hX (λ_=>rfl) i u,DY hp]
     .cases hst
    .cases hst
   .cases hst
  .cases hst
def Ir{a x:AV}(hv:rG h a=true)(hs:storeAt h sz a x=some h'){p:AV}(hf:pK a p=true){cs:List AV}(hc:j7 h p=some cs):j7 h' p=some cs:=by
 unfold storeAt at hs;split at hs
 .rename_i b v i o;unfold rG at hv;dsimp only at hv;split at hv
  .rename_i cs0 hb;rw[hb]at hs;dsimp only at hs;split at hs
   .cases hs;cases p<;>first | (simp[pK]at hf;done) | skip
    .rename_i b' v' i' o';simp only[pK,decide_eq_true_eq]at hf;unfold j7 at hc⊢;dsimp only at hc⊢;rw[aJ hf];exact hc
    .unfold j7 at hc⊢;exact hc
   .cases hs
  .cases hv
 .cases hs
def ni.Ci(x:ni):Bool:=x.uO||match x with
 | .app .. | .yG .. => true
 |_=>false
def ni.abK:ni->Bool
 | .sN .. => true
 |_=>false
def kV(h h':AH):Prop:=h.length<=h'.length/\∀(b:Nat)(cs:List AV),b<h.length->(h[b]? = some (.var cs)↔h'[b]? = some (.var cs))
theorem kV.refl(h:AH):kV h h:=⟨aN _,λ_ _ _=>Iff.rfl⟩
def kV.trans{h'':AH}(a:kV h h')(b:kV h' h''):kV h h'' :=
 ⟨cQ a.1 b.1,λk cs hk=>(a.2 k cs hk).trans (b.2 k cs (bT hk a.1))⟩
def kV.app(h bs:AH):kV h (h++bs):=⟨ah,λk cs hk=>by rw[aK hk]⟩
def Pf{bytes:Nat}{s:AV}{news:List AV}(hx:append h sz bytes s news=some (v,h')):kV h h':=by
 unfold append at hx;split at hx
 .split at hx
  .cases hx;exact kV.app _ _
  .cases hx
 .rename_i b v0 o n;split at hx
  .rename_i v' sz' es hb;split at hx
   .cases hx;refine⟨ah,λk cs hk=>?_⟩
    by_cases e1:b=k
    .subst e1;rw[hb,aZ hk]
     constructor<;>intro h<;>cases h
    .rw[aJ e1]
   .cases hx
  .cases hx
 .cases hx
def Ly{a:AV}(hp:qe h a=some (b,h')):kV h h':=by
 unfold qe at hp;split at hp
 .rename_i c v o n;split at hp
  .rename_i v' sz es hb;split at hp
   .cases hp;refine⟨ah,λk cs hk=>?_⟩
    by_cases e1:c=k
    .subst e1;rw[hb,aZ hk]
     constructor<;>intro h<;>cases h
    .rw[aJ e1]
   .cases hp
  .split at hp
   .cases hp;exact kV.refl _
   .cases hp
  .cases hp
 .split at hp
  .cases hp;exact kV.refl _
  .cases hp
def LB:∀(l:List AV){h h':AH}{m:List AV},wR h l=some (m,h')->kV h h'
 | [],h,h',m,hp=>by cases hp;exact kV.refl _
 |a::l,h,h',m,hp=>by
  simp only[wR,aI]at hp;let⟨⟨b,h1⟩,h2,⟨c,h3⟩,h4,hp⟩:=hp;cases hp;exact(Ly h2).trans (LB l h4)
def U0{a:AV}(hp:oT h a=some (b,h')):kV h h':=by
 unfold oT at hp;split at hp
 .cases hp;exact kV.refl _
 .split at hp
  .simp only[aI]at hp;let⟨⟨c,h1⟩,h2,hp⟩:=hp;cases hp;exact LB _ h2
  .exact Ly hp
def G4:∀(l:List AV){h h':AH}{m:List AV},kY h l=some (m,h')->kV h h'
 | [],h,h',m,hp=>by cases hp;exact kV.refl _
 |a::l,h,h',m,hp=>by
  simp only[kY,aI]at hp;let⟨⟨b,h1⟩,h2,⟨c,h3⟩,h4,hp⟩:=hp;cases hp;exact(U0 h2).trans (G4 l h4)
theorem Xi(op:ni)(hr:op.Ci=true)(hx:exec Γ e h op=some (v,h')):kV h h':=by
 unfold ni.Ci at hr;rw[bS]at hr
 rcases hr with hr | hr
 .obtain⟨bs,rfl⟩:=EV op hr hx;exact kV.app _ _
 .split at hr
  .simp only[exec,aI]at hx;let⟨_,_,hx⟩:=hx;exact Pf hx
  .simp only[exec,aI]at hx;let⟨⟨l,h1⟩,hp,r,_,hx⟩:=hx;cases hx;exact G4 _ hp
  .cases hr
theorem Xj{agg:Bool}{t:Nat}(hx:exec Γ e h (.sN sz agg t)=some (v,h'))(hv:∀(b:Nat)(cs:List AV),(∃v i o,e t = .ptr b v i o)->h[b]? = some (.var cs)->h2[b]? = some (.var cs)):exec Γ e h2 (.sN sz agg t)=some (v,h2):=by
 simp only[exec]at hx⊢;generalize he:e t=p at hx⊢;split at hx
 case isFalse=>cases hx
 rename_i hb;cases p<;>first | (simp[rG]at hb;done) | skip
 rename_i b vv i o;simp only[rG]at hb;split at hb
 case h_2=>cases hb
 rename_i cs hcs;have h2v:=hv b cs ⟨vv,i,o,he⟩ hcs;have e1:rG h2 (.ptr b vv i o)=true:=by simp only[rG,h2v]
 rw[if_pos e1];simp only[aI,mc]at hx⊢;let⟨xs,h1,r,h3,hx⟩:=hx;cases hx;refine⟨xs,?_,_,h3,rfl⟩;simp only[j7,hcs]at h1;simp only[j7,h2v];exact h1
end
end Go.Am
