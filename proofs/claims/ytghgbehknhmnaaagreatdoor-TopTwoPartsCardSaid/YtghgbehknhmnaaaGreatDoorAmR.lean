/- Part of the proof that TopTwoPartsCard holds. -/
import Derived.Test.YtghgbehknhmnaaaGreatDoorAmP
set_option linter.all false
namespace Go.Am
section
variable{P:Program}{Z:az}{β:jO}{h:AH}{w:World}
def wh{f:FuncId}{args:List AV}{r':AV}(M:args.all AV.j8=true) (T:oO P f/\∀(Z:az)(β:jO)(w:World)(vs:List Value),Rel Z β [] w->args.length=vs.length->
  (∀(j:Nat)(y:AV)(u:Value),args[j]? = some y->vs[j]? = some u->VR β (Own Z β []) w y u)->
  Calls P f vs.toArray w λe w'=>∃v β' r0 h1 h2,e = .returned v/\nr h1 r0=some (r',h2)/\Rel Z β' h1 w'/\Fr Z β [] w β' h1 w'/\VR β' (Own Z β' h1) w' r0 v) (h:AH):ux P f args h r' h:=by
 let⟨q,hs⟩:=T;refine⟨q,λZ β w vs R hl hv=>?_⟩
 let β0:jO:=λ_ _=>none
 have l:∀c,Own (Own Z β h) β0 [] c↔Own Z β h c:=by
  intro c
  constructor
  .rintro(q | ⟨i,X,o,_⟩)
   .exact q
   .simp at o
  .exact .inl
 have R0:Rel (Own Z β h) β0 [] w:=by
  refine⟨λc q=>?_,λi c E=>?_,λi v _=>rfl,λi v sz es v' o=>by simp at o,λi b r=>by simp at r,λi j c E=>?_,λp N=>⟨λF=>(R.gl p N).1 ((l p.1).1 F),(R.gl p N).2⟩⟩
  .rcases q with q | ⟨i,E⟩
   .exact R.xlt c q
   .exact R.ox E
  .let⟨X,o,_⟩:=E;simp at o
  .let⟨X,o,_⟩:=E;simp at o
 have S:kC (Own Z β h) w (Own (Own Z β h) β0 []) w:=⟨aV _,λb _ z=>⟨rfl,λF=>z ((l b).1 F)⟩⟩
 refine(hs (Own Z β h) β0 w vs R0 hl λj y u K L=>.pure _ _ (((hv j y u K L).Cv (aM.1 M y (bL K))).mono S)).mono ?_
 rintro e w' ⟨v,β',r0,h1,h2,rfl,N,R1,F1,V1⟩
 let⟨R2,F2,W,U⟩:=MQ R1 N V1;have H:=F1.trans F2;have n:∀b,b<w.heap.size->w'.heap[b]? = w.heap[b]? := by
  intro b r
  by_cases z:Own Z β h b
  .exact H.lF b r z
  .exact(H.stay.2 b r λF=>z ((l b).1 F)).1
 have A:kC (Own Z β h) w (Own Z β h) w':=⟨H.stay.1,λb r z=>⟨n b r,z⟩⟩
 have Q:kC (Own (Own Z β h) β' h2) w' (Own Z β h) w':=⟨aV _,λb _ z=>⟨rfl,λF=>z (.inl F)⟩⟩
 refine⟨v,β,rfl,⟨λc q=>bu (R.xlt c q) H.stay.1,R.BV,R.fresh,R.later,λi X o=>(R.blk i X o).mono A (λ_ _ _ e=>e) (λc E=>n c (R.ox ⟨X,o,E⟩)),R.apart,R.gl.stay A⟩,
  ⟨λb r _=>n b r,H.os,H.tape,H.output,λ_ _ _ e=>e,A⟩,?_⟩
 have one:∀ {x:AV} {u:Value},x.j8=true->VR β' (Own (Own Z β h) β' h2) w' x u->VR β (Own Z β h) w' x u:=λhx L=>.pure _ _ ((L.Cv hx).mono Q)
 cases r' with
 |jg O =>
  obtain⟨Y,rfl,q1,q2⟩:=W.Dr;have G:∀y∈O,y.j8=true:=by simpa[AV.sH]using U
  exact .jg _ Y q1 λj y u K L=>one (G y (bL K)) (q2 j y u K L)
 |_=>exact one U W
def HT(R:Rel Z β h w){Γ:jE}(M:j3 P Γ){e:Env}{a:Act}{n:Nat}(E:jt Z β h w e a n){o:Oper}{x:kX}(ok:uD P o.op x=true){av:AV}{h':AH}(A:exec Γ e h x=some (av,h'))
  {next:Act->World->Prop} {Q:Exit->Act->World->Prop}
  (K:∀v w' β',Rel Z β' h' w'->Fr Z β h w β' h' w'->VR β' (Own Z β' h') w' av v->next (a.put o.dst v) w'):o.wp P a w next Q:=by
 by_cases KS:∃y,x = .mv y
 .obtain⟨y,rfl⟩:=KS;let⟨dst,op,type,pos,after,guard⟩:=o;dsimp only at ok;simp only[exec]at A;cases A;unfold uD at ok;split at ok<;>rename_i heq<;>first | (cases ok;done) | (cases heq;done) | skip
  all_goals
   cases heq;have v1:=hU E ok;unfold Oper.wp;simp only[execOp,Sem.run_pure];exact K _ w β R (Fr.refl Z β h w) v1
 by_cases Q6:∃y,x = .Nl y
 .obtain⟨y,rfl⟩:=Q6;let⟨dst,op,type,pos,after,guard⟩:=o;dsimp only at ok;unfold uD at ok;split at ok<;>rename_i heq<;>first | (cases ok;done) | (cases heq;done) | skip
  cases heq;have v1:=hU E ok;simp only[exec]at A;unfold Oper.wp;simp only[execOp];split at A
  .rename_i b vv i oo hl;cases A;rw[hl]at v1;let⟨bd,c,hb,hc,O⟩:=v1.kY;rw[O]at v1⊢;exact K _ w β R (Fr.refl Z β h w) v1
  .rename_i cs hl;cases A;rw[hl]at v1;generalize D1:a.eval _=u at v1;cases v1 with
   |pure _ _ W=>cases W
   |iV _ blk oo f' hO hw q1 q3 q2 =>
    exact K _ w β R (Fr.refl Z β h w) (.iV _ blk oo f' hO hw q1 q3 q2)
  .rename_i f fa fc hl;split at A
   .cases A;rw[hl]at v1;generalize D1:a.eval _=u at v1;cases v1 with
    |pure _ _ W=>cases W
    |fn _ _ _ va vc q1 q2 q3 q4 =>
     exact K _ w β R (Fr.refl Z β h w) (.fn _ _ _ va vc q1 q2 q3 q4)
   .cases A
  .cases A
 by_cases hst:∃sz y z,x = .store sz y z
 .obtain⟨sz,y,z,rfl⟩:=hst;let⟨dst,op,type,pos,after,guard⟩:=o;dsimp only at ok;unfold uD at ok;split at ok<;>rename_i heq<;>first | (cases ok;done) | (cases heq;done) | skip
  cases heq;simp only[aF]at ok;let⟨⟨h1,h2⟩,h3⟩:=ok;simp only[exec,aG]at A;let⟨h1',hs,A⟩:=A;cases A;let⟨w',hr,R',F'⟩:=Ck (P:=P) R hs (hU E h2) (hU E h3) h1;unfold Oper.wp;simp only[execOp,Sem.run_bind,hr,Result.andThen_ok,Sem.run_pure];exact K _ w' β R' F' .undef
 by_cases hsr:∃sz y z q,x = .ot sz y z q
 .obtain⟨sz,y,z,q,rfl⟩:=hsr;let⟨dst,op,type,pos,after,guard⟩:=o;dsimp only at ok;unfold uD at ok;split at ok<;>rename_i heq<;>first | (cases ok;done) | (cases heq;done) | skip
  cases heq;simp only[aF]at ok;let⟨⟨h1,h2⟩,h3⟩:=ok;simp only[exec]at A;split at A
  case isFalse=>cases A
  simp only[aG]at A;let⟨h1',hs,A⟩:=A;cases A;let⟨w',hr,R',F'⟩:=Ck (P:=P) R hs (hU E h2) (hU E h3) h1;unfold Oper.wp;simp only[execOp,Sem.run_bind,hr,Result.andThen_ok,Sem.run_pure];exact K _ w' β R' F' .undef
 by_cases hmp:∃q m k y,x = .uE q m k y
 .obtain⟨q,m,k,y,rfl⟩:=hmp;let⟨dst,op,type,pos,after,guard⟩:=o;dsimp only at ok;unfold uD at ok;split at ok<;>rename_i heq<;>first | (cases ok;done) | (cases heq;done) | skip
  all_goals
   cases heq;simp only[aF]at ok;let⟨⟨⟨h1,h2⟩,h3⟩,h4⟩:=ok;let⟨d,hd,L⟩:=ji h1;cases d<;>first | (cases L;done) | skip
   let⟨d2,hd2,hq3⟩:=ji L;cases d2<;>first | (cases hq3;done) | skip
   simp only[decide_eq_true_eq]at hq3;subst hq3;simp only[exec,aG]at A;let⟨⟨b,es⟩,hm,n0,hk,A⟩:=A;cases A;let⟨e1,e2⟩:=uh hm;have e3:=AQ hk;have v1:=hU E h2;have v2:=hU E h3;rw[e1]at v1;rw[e3]at v2;let⟨w',hr,R',F'⟩:=Np (P:=P) R hd hd2 e2 v1 v2 (hU E h4);unfold Oper.wp;simp only[execOp,Sem.run_bind,hr,Result.andThen_ok,Sem.run_pure];exact K _ w' β R' F' .undef
 by_cases H:∃f F,x = .call f F\/x = .o8 f F\/x = .tC f F\/x = .qe f F\/x = .calls f F\/x = .u6 f F\/x = .wP f F
 .let⟨f,F,H⟩:=H;let⟨dst,op,type,pos,after,guard⟩:=o;dsimp only at ok
  have key:∃c:Array Operand×Array TypeId,op = .call {callee:=.value (.func f),args:=c.1,argTypes:=c.2}/\kK c.1.toList F=true:=by
   rcases H with rfl | rfl | rfl | rfl | rfl | rfl | rfl
   all_goals
    unfold uD at ok;split at ok<;>rename_i heq<;>first | (cases ok;done) | (cases heq;done) | skip
    cases heq;simp only[aF,decide_eq_true_eq]at ok;obtain⟨rfl,ok⟩:=ok;exact⟨(_,_),rfl,ok⟩
  obtain⟨⟨args,ats⟩,rfl,hok⟩:=key;let⟨p1,p2⟩:=mC E hok
  have hs:ux P f (getAll e F) h av h':=by
   rcases H with rfl | rfl | L | L | L | L | L
   .exact rA M A
   rotate_left
   .subst L;simp only[exec]at A;split at A
    .rename_i T;simp only[aG]at A;let⟨⟨r,h2⟩,⟨⟨r0,h1⟩,hrun,Y⟩,A⟩:=A;cases A;let⟨hc,hs⟩:=M.h f _ _ _ _ hrun;exact wh T ⟨hc,λZ β w vs R hl W=>(hs Z β w vs R hl W).mono λe w' ⟨v,β',O,R',F',V'⟩=>⟨v,β',r0,h1,h2,O,Y,R',F',V'⟩⟩ h
    .cases A
   .subst L;simp only[exec]at A;unfold q9 at A;split at A
    .rename_i r G L;split at A
     .cases A;exact rA M L
     .cases A
    .cases A
   .subst L;simp only[exec]at A;unfold qk at A;split at A
    .rename_i r G L;split at A
     .rename_i O;cases A;subst O;exact rA M L
     .cases A
    .cases A
   .subst L;simp only[exec,aG]at A;let⟨⟨l,h1⟩,Y,r,hr,A⟩:=A;cases A;exact rA M (by unfold eT;rw[Y];simp only[hr])
   .subst L;simp only[exec,aG]at A;let⟨⟨l,h1⟩,Y,A⟩:=A;let⟨hc,hs⟩:=M.h f _ _ _ _ A;refine⟨hc,λZ β w vs R hl W=>?_⟩
    let⟨k1,k2,k3,k4,k5⟩:=qU _ R Y hl W;refine(hs Z β w vs k1 k3 k4).mono ?_
    rintro e w' ⟨v,β',rfl,m1,m2,m3⟩
    exact⟨v,β',rfl,m1,k2.trans m2,m3⟩
   .simp only[exec]at A;split at A
    .rename_i T;cases Y:Γ.p f (getAll e F)with
     |none=>rw[Y]at A;cases A
     |some r=>rw[Y]at A;cases A;exact M.p f _ _ h T Y
    .cases A
  unfold Oper.wp
  have O:execOp a.eval ⟨dst,.call {callee:=.value (.func f),args:=args,argTypes:=ats},type,pos,after,guard⟩=callFunc f (args.toList.map a.eval).toArray:=by
   have:(args.toList.map a.eval).toArray=args.map a.eval:=cR ai
   simp[execOp,resolve,Deferred.ofValue,invoke,Act.eval,this]
  rw[O];exact hs.wp R p1 p2 K
 by_cases N:∃y F,x = .lQ y F\/x = .rz y F\/x = .qd y F
 .obtain⟨y, F, N⟩ := N;obtain⟨dst, op, type, pos, after, guard⟩ := o;dsimp only at ok
  have key:∃(t:Tmp) (c:Array Operand×Array TypeId),op = .call {callee:=.value (.tmp t),args:=c.1,argTypes:=c.2}/\lD (.tmp t) y=true/\kK c.1.toList F=true:=by
   rcases N with rfl | rfl | rfl
   all_goals
    unfold uD at ok;split at ok<;>rename_i heq<;>first | (cases ok;done) | (cases heq;done) | skip
    cases heq;simp only[aF]at ok;exact⟨_,(_,_),rfl,ok.1,ok.2⟩
  obtain⟨t,⟨args,ats⟩,rfl,h1,h2⟩:=key;let⟨p1,p2⟩:=mC E h2;have v1:=hU E h1
  have hx':∃g first cap,y.get e = .fn (.func g) first cap/\eT Γ g (first++getAll e F++cap) h=some (av,h'):=by
   rcases N with rfl | rfl | rfl
   .simp only[exec]at A;split at A
    .rename_i g first cap hg;split at A
     .exact⟨_,_,_,hg,A⟩
     .cases A
    .cases A
   .simp only[exec]at A;split at A
    .rename_i g first cap hg;split at A
     .unfold qk at A;split at A
      .rename_i r G L;split at A
       .rename_i O;cases A;subst O;exact⟨_,_,_,hg,L⟩
       .cases A
      .cases A
     .cases A
    .cases A
   .simp only[exec]at A;split at A
    .rename_i g first cap hg;split at A
     .unfold q9 at A;split at A
      .rename_i r G L;split at A
       .cases A;exact⟨_,_,_,hg,L⟩
       .cases A
      .cases A
     .cases A
    .cases A
  let⟨g,first,cap,hg,hx'⟩:=hx';rw[hg]at v1;have hs:ux P g _ h av h':=rA M hx';generalize D1:a.eval (.tmp t)=u at v1;cases v1 with
  |pure _ _ W=>cases W
  |fn _ _ _ va vc q1 q2 q3 q4 =>
  unfold Oper.wp
  have O:execOp a.eval ⟨dst,.call {callee:=.value (.tmp t),args:=args,argTypes:=ats},type,pos,after,guard⟩=callFunc g (va++args.toList.map a.eval++vc).toArray:=by
   have:(va++args.toList.map a.eval++vc).toArray=va.toArray++args.map a.eval++vc.toArray:=cR ai
   rw[this];simp[execOp,resolve,Deferred.ofValue,invoke,D1]
  rw[O];refine hs.wp R (by simp only[aU,q1,q2,p1]) ?_ K
  intro j yy uu U X;rw[eW]at U X;have e1:(first++getAll e F).length=(va++args.toList.map a.eval).length:=by simp only[aU,q1,p1]
  rw[e1]at U;split at U
  .rename_i hlt;rw[if_pos hlt]at X;rw[eW]at U X;rw[q1]at U;split at U
   .rename_i S;rw[if_pos S]at X;exact q3 _ _ _ U X
   .rename_i S;rw[if_neg S]at X;exact p2 _ _ _ U X
  .rename_i hlt;rw[if_neg hlt]at X;exact q4 _ _ _ U X
 let⟨s,O,hm⟩:=HU R E ok A (λf F=>⟨λG=>H ⟨f,F,.inl G⟩,λG=>H ⟨f,F,.inr (.inl G)⟩⟩) (λy F G=>N ⟨y,F,.inl G⟩) (λy F G=>N ⟨y,F,.inr (.inl G)⟩) (λy F G=>H ⟨y,F,.inr (.inr (.inl G))⟩) (λy F G=>H ⟨y,F,.inr (.inr (.inr (.inl G)))⟩) (λy F G=>H ⟨y,F,.inr (.inr (.inr (.inr (.inl G))))⟩) (λy F G=>N ⟨y,F,.inr (.inr G)⟩) (λy F=>⟨λG=>H ⟨y,F,.inr (.inr (.inr (.inr (.inr (.inl G)))))⟩,λG=>H ⟨y,F,.inr (.inr (.inr (.inr (.inr (.inr G)))))⟩⟩) (λsz y z G=>hst ⟨sz,y,z,G⟩) (λsz y z q G=>hsr ⟨sz,y,z,q,G⟩) (λy G=>Q6 ⟨y,G⟩) (λy G=>KS ⟨y,G⟩) (λq m k y G=>hmp ⟨q,m,k,y,G⟩)
 exact EF O hm K
end
def oper? : Option AO->List AO
 |none=>[]
 |some x=>[x]
def kX.ops:kX->List AO
 | .mv x=>[x]
 | .pick c a b=>[c,a,b]
 | .alloc _=>[]
 | .box x=>[x]
 | .build _ ps=>ps.map λp=>p.2.2
 | .Si _ _ _ ps=>ps.map λp=>p.2
 | .Em _ _ _ ps=>ps.map λp=>p.2
 | .GJ _ _ _ ps=>ps.map λp=>p.2
 | .load _ _ a=>[a]
 | .store _ a x=>[a,x]
 | .ot _ a x q=>[a,x,.t q]
 | .oc _ _ a q=>[a,.t q]
 | .Nl x=>[x]
 | .bin _ x y=>[x,y]
 | .seq _ _ x y=>[x,y]
 | .un _ x=>[x]
 | .conv _ x=>[x]
 | .JJ x=>[x]
 | .LG _ x=>[x]
 | .Ns _ a c=>a++c
 | .KA _ _ _ l c=>[l,c]
 | .Kg x n o=>x::(oper? n++oper? o)
 | .vf _ x n o r=>x::(oper? n++(oper? o++oper? r))
 | .LJ _ x=>[x]
 | .QB _ _ _ x=>[x]
 | .FQ _ x i=>[x,i]
 | .uG _ _ x i=>[x,i]
 | .idxs x i=>[x,i]
 | .ext x _=>[x]
 | .call _ as=>as
 | .o8 _ as=>as
 | .lQ f as=>f::as
 | .app _ _ s x=>[s,x]
 | .len _ x=>[x]
 | .mm _ xs=>xs
 | .no=>[]
 | .yQ _ _ x=>[x]
 | .XK _ _ x=>[x]
 | .Fh x=>[x]
 | .sC _ _ x=>[x]
 | .rz f as=>f::as
 | .LF _=>[]
 | .zl _ _ m k=>[m,k]
 | .uE _ m k x=>[m,k,x]
 | .Hz _ m=>[m]
 | .sV _ _ m k=>[m,k]
 | .beq _ x y=>[x,y]
 | .Pb _ _ _ s x=>[s,x]
 | .copy _ d s=>[d,s]
 | .tC _ as=>as
 | .qe _ as=>as
 | .Zm x=>[x]
 | .oU _ _ t=>[.t t]
 | .calls _ as=>as
 | .u6 _ as=>as
 | .wP _ as=>as
 | .qd f as=>f::as
variable{h' h h2:AH}{v b:AV}{sz:Nat}
section
variable{Γ:jE}{e e':Env}{h:AH}
def jH:∀(l:List AO),(∀x∈l,x.get e=x.get e')->getAll e l=getAll e' l
 | [],_=>rfl
 |x::l,hl=>by
  simp only[getAll];rw[hl x ai,jH l λy b=>hl y (by simp[b])]
def yM:∀(l:List (Nat×Nat×AO))(cs:List AV),(∀p∈l,p.2.2.get e=p.2.2.get e')->parts e l cs=parts e' l cs
 | [],_,_=>rfl
 |(off,size,x)::l,cs,hl=>by
  have i:x.get e=x.get e':=hl (off,size,x) ai
  simp only[parts,i];rw[yM l _ λy b=>hl y (by simp[b])]
def sj(sz:Nat):∀(l:List (Nat×AO))(es:List AV)(h:AH),(∀p∈l,p.2.get e=p.2.get e')->lW e sz l es h=lW e' sz l es h
 | [],_,_,_=>rfl
 |(i,x)::l,es,h,hl=>by
  have n:x.get e=x.get e':=hl (i,x) ai
  simp only[lW,n]
  congr 1
  funext r
  rw[sj sz l _ _ λy b=>hl y (by simp[b])]
def u7(sz:Nat):∀(l:List (Nat×AO))(es:List AV),(∀p∈l,p.2.get e=p.2.get e')->mh e sz l es=mh e' sz l es
 | [],_,_=>rfl
 |(i,x)::l,es,hl=>by
  have n:x.get e=x.get e':=hl (i,x) ai
  simp only[mh,n];rw[u7 sz l _ λy b=>hl y (by simp[b])]
def pz(d:Nat)(x:Option AO)(b:∀y∈oper? x,y.get e=y.get e'):jY d e x=jY d e' x:=by
 cases x with
 |none=>rfl
 |some y=>simp only[jY,b y (by simp[oper?])]
def Bl(op:kX)(b:∀x∈op.ops,x.get e=x.get e'):exec Γ e h op=exec Γ e' h op:=by
 cases op with
 |build zero ps=>simp only[exec];rw[yM ps _ λp l=>b p.2.2 (by simp only[kX.ops,cQ];exact⟨p,l,rfl⟩)]
 |Si sz zero len ps=>simp only[exec];rw[u7 _ ps _ λp l=>b p.2 (by simp only[kX.ops,cQ];exact⟨p,l,rfl⟩)]
 |Em sz zero len ps=>simp only[exec];rw[sj _ ps _ _ λp l=>b p.2 (by simp only[kX.ops,cQ];exact⟨p,l,rfl⟩)]
 |GJ sz zero len ps=>simp only[exec];rw[sj _ ps _ _ λp l=>b p.2 (by simp only[kX.ops,cQ];exact⟨p,l,rfl⟩)]
 |Ns f a c=>simp only[exec];rw[jH a λy i=>b y (by simp[kX.ops,i]),jH c λy i=>b y (by simp[kX.ops,i])]
 |call f as=>simp only[exec];rw[jH as b]
 |o8 f as=>simp only[exec];rw[jH as b]
 |lQ f as =>
  simp only[exec];rw[jH as λy i=>b y (by simp[kX.ops,i]),b f (by simp[kX.ops])]
 |tC f as=>simp only[exec];rw[jH as b]
 |qe f as=>simp only[exec];rw[jH as b]
 |calls f as=>simp only[exec];rw[jH as b]
 |u6 f as=>simp only[exec];rw[jH as b]
 |wP f as=>simp only[exec];rw[jH as b]
 |qd f as =>
  simp only[exec];rw[jH as λy i=>b y (by simp[kX.ops,i]),b f (by simp[kX.ops])]
 |rz f as =>
  simp only[exec];rw[jH as λy i=>b y (by simp[kX.ops,i]),b f (by simp[kX.ops])]
 |mm m xs=>simp only[exec];rw[jH xs b]
 |Kg x o r =>
  simp only[exec];rw[b x (by simp[kX.ops])]
  have h1:=λd=>pz (e:=e) (e':=e') d o λy i=>b y (by simp[kX.ops,i])
  have h2:=λd=>pz (e:=e) (e':=e') d r λy i=>b y (by simp[kX.ops,i])
  simp only[h1,h2]
 |vf sz x o r v =>
  simp only[exec];rw[b x (by simp[kX.ops])]
  have h1:=λd=>pz (e:=e) (e':=e') d o λy i=>b y (by simp[kX.ops,i])
  have h2:=λd=>pz (e:=e) (e':=e') d r λy i=>b y (by simp[kX.ops,i])
  cases v with
  |none=>simp only[h1,h2]
  |some m=>simp only[h1,h2,b m (by simp[kX.ops,oper?])]
 |oU sz agg t =>
  have n:e t=e' t:=b (.t t) (by simp[kX.ops])
  simp only[exec,n]
 |ot sz a x q =>
  have n:e q=e' q:=b (.t q) (by simp[kX.ops])
  simp only[exec,n];rw[b a (by simp[kX.ops]),b x (by simp[kX.ops])]
 |sV q z m k=>simp only[exec];rw[b m (by simp[kX.ops]),b k (by simp[kX.ops])]
 |oc sz agg a q =>
  have n:e q=e' q:=b (.t q) (by simp[kX.ops])
  simp only[exec,n];rw[b a (by simp[kX.ops])]
 |_=>simp only[kX.ops,bw,gH,or_false,forall_eq_or_imp,forall_eq]at b<;>simp only[exec,b]
def kX.Wx:kX->Bool
 | .mv _ | .pick .. | .build .. | .Si .. | .Nl _ | .bin .. | .beq .. | .seq .. | .un .. | .conv .. | .LG .. | .Ns .. | .Kg .. | .LJ .. | .QB .. | .uG .. | .idxs .. | .ext .. | .o8 .. | .len .. | .mm .. | .no | .yQ .. | .Fh _ | .sC .. | .tC .. | .Zm _=>true
 |_=>false
def kX.qZ:kX->Bool
 | .load .. | .oc .. | .JJ _ | .vf .. | .FQ .. | .rz .. | .zl .. | .sV .. | .Hz .. | .oU .. | .calls .. => true
 |x=>x.Wx
def kX.CH:kX->Bool
 | .vf .. | .FQ .. => true
 |_=>false
def kX.KL:kX->Bool
 | .store .. | .ot .. | .alloc _ | .box _=>true
 |_=>false
def kX.q6:kX->Bool
 | .alloc _ | .box _ | .qe .. | .qd .. => true
 |_=>false
def kX.HD:kX->Bool
 | .load .. | .oc .. | .JJ _=>true
 |_=>false
def kX.FK:kX->Bool
 | .load _ _ (.t _)=>true
 |_=>false
theorem Ol{agg:Bool}{t:Nat}{bs:AH}(n:∀b v i o,e t = .ptr b v i o->b<h.length)(l:exec Γ e (h++bs) (.load sz agg (.t t))=some (v,h')):exec Γ e h (.load sz agg (.t t))=some (v,h):=by
 simp only[exec,kG,aG]at l⊢;let⟨cs,h1,r,h2,l⟩:=l;cases l;refine⟨cs,?_,_,h2,rfl⟩
 change jc (h++bs) (e t)=some cs at h1
 change jc h (e t)=some cs
 generalize e t=a at *
 unfold jc at h1⊢;cases a<;>first | exact h1 | skip
 rename_i b v i o;have:=n b v i o rfl;dsimp only at h1⊢;rw[aJ this]at h1;exact h1
theorem r9{a:AV}{cs:List AV}(l:jc h a=some cs)(bs:AH):jc (h++bs) a=some cs:=by
 unfold jc at l⊢;cases a<;>first | exact l | skip
 rename_i b v i o;dsimp only at l⊢;cases n:h[b]? with
 |none=>rw[n]at l;cases l
 |some X =>
  have q:b<h.length:=(aD.1 n).1;rw[aJ q,n];rw[n]at l;exact l
def HW{a:AV}{es:List AV}(i:elems h a=some es)(bs:AH):elems (h++bs) a=some es:=by
 unfold elems at i⊢;cases a<;>first | exact i | skip
 rename_i b v o n;dsimp only at i⊢;cases l:h[b]? with
 |none=>rw[l]at i;cases i
 |some X =>
  have q:b<h.length:=(aD.1 l).1;rw[aJ q,l];rw[l]at i;exact i
theorem Ju(op:kX)(hs:op.HD=true)(b:exec Γ e h op=some (v,h'))(bs:AH):exec Γ e (h++bs) op=some (v,h++bs):=by
 cases op<;>first | (cases hs;done) | skip
 case load =>
  simp only[exec,kG,aG]at b⊢;let⟨cs,h1,r,h2,b⟩:=b;cases b;exact⟨cs,r9 h1 bs,_,h2,rfl⟩
 case oc =>
  simp only[exec,kG]at b⊢;split at b
  .rename_i i;rw[if_pos i];simp only[aG]at b⊢;let⟨cs,h1,r,h2,b⟩:=b;cases b;exact⟨cs,r9 h1 bs,_,h2,rfl⟩
  .cases b
 case JJ =>
  simp only[exec,aG]at b⊢;let⟨cs,h1,r,h2,b⟩:=b;cases b;exact⟨cs,HW h1 bs,_,h2,rfl⟩
def Bn(op:kX)(hs:op.q6=true)(b:exec Γ e h op=some (v,h')):∃bs,h'=h++bs:=by
 cases op<;>first | (cases hs;done) | skip
 case alloc =>
  simp only[exec]at b;cases b;exact⟨_,rfl⟩
 case box =>
  simp only[exec]at b;split at b
  .cases b;exact⟨_,rfl⟩
  .cases b
 case qe =>
  simp only[exec]at b;unfold q9 at b;split at b
  .split at b
   .rename_i i;cases b;refine⟨h'.drop h.length,?_⟩
    conv=>rhs;lhs;rw[<-i]
    exact(dm _ _).symm
   .cases b
  .cases b
 case qd =>
  simp only[exec]at b;split at b
  .split at b
   .unfold q9 at b;split at b
    .split at b
     .rename_i i;cases b;refine⟨h'.drop h.length,?_⟩
      conv=>rhs;lhs;rw[<-i]
      exact(dm _ _).symm
     .cases b
    .cases b
   .cases b
  .cases b
def On(op:kX)(i:op.Wx=true):exec Γ e h op=(exec Γ e [] op).map λr=>(r.1,h):=by
 cases op<;>first | (cases i;done) | skip
 case mv=>rfl
 case no=>rfl
 case yQ=>simp only[exec];generalize isNil _ _ _=q;cases q<;>rfl
 case Ns=>rfl
 case Fh=>simp only[exec];split<;>rfl
 case tC f as =>
  simp only[exec];split
  .cases l:((Γ.h f (getAll e as) []).bind λx=>nr x.snd x.fst)with
   |none=>rfl
   |some r=>rfl
  .rfl
 case sC=>simp only[exec,kG];split<;>first | rfl | (generalize shape _ _ _=q;cases q<;>rfl)
 case LG=>rfl
 case pick=>simp only[exec];split<;>rfl
 case build=>simp only[exec];rename_i zero ps;cases parts e ps zero<;>rfl
 case Si=>simp only[exec];rename_i sz zero len ps;cases mh e sz ps (List.replicate len zero)<;>rfl
 case Nl=>simp only[exec];split<;>first | rfl | (split<;>rfl)
 case bin=>simp only[exec];generalize Am.bin _ _ _=q;cases q<;>rfl
 case beq=>simp only[exec];split<;>rfl
 case seq=>simp only[exec];split<;>first | rfl | (generalize iU _ _ _=q;cases q<;>simp only[Option.bind_none,cg,Option.map_none]<;>split<;>rfl)
 case un=>simp only[exec];generalize Am.un _ _=q;cases q<;>rfl
 case conv=>simp only[exec];split<;>rfl
 case Zm=>simp only[exec];split<;>rfl
 case Kg =>
  simp only[exec];split<;>first | rfl | skip
  generalize jY _ _ _=q1;cases q1<;>first | rfl | skip
  simp only[cg];generalize jY _ _ _=b;cases b<;>first | rfl | skip
  simp only[cg];split<;>rfl
 case LJ=>simp only[exec];split<;>first | rfl | (split<;>rfl)
 case QB=>simp only[exec];split<;>first | rfl | (split<;>first | rfl | (generalize shape _ _ _=q;cases q<;>rfl))
 case uG =>
  simp only[exec];generalize nat? _=q;cases q<;>first | rfl | skip
  simp only[cg];split<;>first | rfl | (split<;>first | rfl | (split<;>rfl))
 case idxs =>
  simp only[exec];split<;>first | rfl | skip
  generalize nat? _=q;cases q<;>first | rfl | skip
  simp only[cg];generalize((_:au)[(_:Nat)]? : Option UInt8)=q;cases q<;>rfl
 case ext =>
  simp only[exec];split<;>first | rfl | skip
  generalize((_:List AV)[(_:Nat)]? : Option AV)=q;cases q<;>rfl
 case o8=>simp only[exec];split<;>first | rfl | (generalize Γ.p _ _=q;cases q<;>rfl)
 case len=>simp only[exec];generalize zX _ _=q;cases q<;>rfl
 case mm =>
  simp only[exec];split<;>first | rfl | (generalize uR _ _ _=q;cases q<;>rfl)
def Om(op:kX)(n:op.qZ=true)(b:exec Γ e h op=some (v,h')):h'=h:=by
 by_cases i:op.Wx=true
 .rw[On op i]at b;cases l:exec Γ e [] op with
  |none=>rw[l]at b;cases b
  |some r=>rw[l]at b;cases b;rfl
 .cases op<;>first | (exact absurd rfl i) | (exact absurd n i) | skip
  case calls =>
   simp only[exec]at b;unfold qk at b;split at b
   .split at b
    .cases b;rfl
    .cases b
   .cases b
  case rz =>
   simp only[exec]at b;split at b
   .split at b
    .unfold qk at b;split at b
     .split at b
      .cases b;rfl
      .cases b
     .cases b
    .cases b
   .cases b
  case zl | sV =>
   simp only[exec,aG]at b;let⟨_,_,_,_,b⟩:=b;cases b;rfl
  case Hz =>
   simp only[exec,aG]at b;let⟨_,_,b⟩:=b;cases b;rfl
  case load =>
   simp only[exec,kG,aG]at b;let⟨_,_,_,_,b⟩:=b;cases b;rfl
  case oU =>
   simp only[exec,kG]at b;split at b
   .simp only[aG]at b;let⟨_,_,_,_,b⟩:=b;cases b;rfl
   .cases b
  case oc =>
   simp only[exec,kG]at b;split at b
   .simp only[aG]at b;let⟨_,_,_,_,b⟩:=b;cases b;rfl
   .cases b
  case JJ =>
   simp only[exec,aG]at b;let⟨_,_,_,_,b⟩:=b;cases b;rfl
  case vf =>
   simp only[exec]at b;split at b<;>first | (cases b;done) | skip
   all_goals
    simp only[aG]at b;let⟨_,_,_,_,b⟩:=b;split at b
    .split at b
     .cases b;rfl
     .cases b
    .simp only[aG]at b;let⟨_,_,b⟩:=b;split at b
     .cases b;rfl
     .cases b
  case FQ =>
   simp only[exec]at b;split at b<;>first | (cases b;done) | skip
   .simp only[aG]at b;let⟨_,_,_,_,b⟩:=b;split at b
    .cases b;rfl
    .cases b
   .simp only[aG]at b;let⟨_,_,b⟩:=b;split at b
    .cases b;rfl
    .cases b
theorem Gf(op:kX)(hs:op.CH=true)(r:∀b v,jb h2 b v=jb h b v)(l:exec Γ e h op=some (v,h')):exec Γ e h2 op=some (v,h2):=by
 cases op<;>first | (cases hs;done) | skip
 case vf sz x z A y =>
  simp only[exec]at l⊢;split at l
  .simp only[aG]at l;let⟨a,o,b,q,l⟩:=l;simp only[o,q,cg];split at l
   .split at l
    .rename_i n;cases l;rw[if_pos n]
    .cases l
   .simp only[aG]at l;let⟨c,n,l⟩:=l;simp only[n,cg];split at l
    .rename_i n;cases l;rw[if_pos n]
    .cases l
  .simp only[aG]at l;let⟨a,o,b,q,l⟩:=l;simp only[o,q,cg,r];split at l
   .split at l
    .rename_i n;cases l;rw[if_pos n]
    .cases l
   .simp only[aG]at l;let⟨c,n,l⟩:=l;simp only[n,cg];split at l
    .rename_i n;cases l;rw[if_pos n]
    .cases l
  .cases l
 case FQ sz x i =>
  simp only[exec]at l⊢;split at l
  .simp only[aG]at l;let⟨a,o,b,q,l⟩:=l;simp only[o,q,cg];split at l
   .rename_i n;cases l;rw[if_pos n]
   .cases l
  .simp only[aG]at l;let⟨a,o,l⟩:=l;simp only[o,cg,r];split at l
   .rename_i n;cases l;rw[if_pos n]
   .cases l
  .cases l
def qR{b:Nat}{X Y:AB}(o:h[b]? = some X) (hs:∀v,(match Y with | .row v' sz _=>if v=v' then some sz else none | .me v' sz _=>if v=v' then some sz else none | _=>none) =
  (match X with | .row v' sz _=>if v=v' then some sz else none | .me v' sz _=>if v=v' then some sz else none | _=>none)) (i v:Nat):jb (h.set b Y) i v=jb h i v:=by
 have l:b<h.length:=(aD.1 o).1;unfold jb
 by_cases n:i=b
 .subst n;rw[aR l,o];have:=hs v;cases X<;>cases Y<;>exact this
 .rw[aI (λe=>n e.symm)]
def Af{cs:List AV}(i v:Nat):jb (h++[.var cs]) i v=jb h i v:=by
 unfold jb
 by_cases b:i<h.length
 .rw[aJ b]
 .rw[aQ af,dn (l:=h) af]
  cases n:i-h.length with
  |zero=>rfl
  |succ j=>rfl
def Ai{a r:AV}(l:nM h a=some (r,h'))(i v:Nat):jb h' i v=jb h i v:=by
 cases a<;>simp only[nM]at l
 case own b x o n =>
  split at l
  .rename_i v' sz es q;split at l
   .cases l;exact qR q (λ_=>rfl) i v
   .cases l
  .split at l
   .cases l;rfl
   .cases l
  .cases l
 all_goals
  split at l
  .cases l;rfl
  .cases l
def Ak:∀ {l n:List AV} {h h':AH},sN h l=some (n,h')->∀(i v:Nat),jb h' i v=jb h i v
 | [],n,h,h',b,i,v=>by simp only[sN]at b;cases b;rfl
 |a::l,n,h,h',b,i,v=>by
  simp only[sN,aG]at b;let⟨⟨r,h1⟩,q,⟨l2,h2⟩,o,b⟩:=b;cases b;rw[Ak o,Ai q]
def Al{a o:AV}(b:mH h a=some (o,h'))(i v:Nat):jb h' i v=jb h i v:=by
 unfold mH at b;split at b
 .cases b;rfl
 .split at b
  .simp only[aG]at b;let⟨⟨l,h1⟩,n,b⟩:=b;cases b;exact Ak n i v
  .exact Ai b i v
theorem Jv(op:kX)(hs:op.KL=true)(l:exec Γ e h op=some (v,h'))(i u:Nat):jb h' i u=jb h i u:=by
 cases op<;>first | (cases hs;done) | skip
 case alloc zero=>simp only[exec]at l;cases l;exact Af i u
 case box x =>
  simp only[exec]at l;split at l
  .cases l;exact Af i u
  .cases l
 case store sz a x =>
  simp only[exec,aG]at l;let⟨h1,b,l⟩:=l;cases l;unfold storeAt at b;split at b
  .split at b
   .rename_i n;split at b
    .cases b;exact qR n (λ_=>rfl) i u
    .cases b
   .simp only[aG]at b;let⟨⟨r,h2⟩,o,b⟩:=b;split at b
    .rename_i n;simp only[aG]at b;let⟨y,z,b⟩:=b;split at b
     .cases b;rw[qR n (λ_=>rfl) i u,Al o]
     .cases b
    .cases b
   .cases b
  .cases b
 case ot sz a x q =>
  simp only[exec]at l;split at l
  case isFalse=>cases l
  simp only[aG]at l;let⟨h1,b,l⟩:=l;cases l;unfold storeAt at b;split at b
  .split at b
   .rename_i n;split at b
    .cases b;exact qR n (λ_=>rfl) i u
    .cases b
   .simp only[aG]at b;let⟨⟨r,h2⟩,o,b⟩:=b;split at b
    .rename_i n;simp only[aG]at b;let⟨y,z,b⟩:=b;split at b
     .cases b;rw[qR n (λ_=>rfl) i u,Al o]
     .cases b
    .cases b
   .cases b
  .cases b
def Du{a x:AV}(n:oS h a=true)(hs:storeAt h sz a x=some h'){p:AV}(q:lJ a p=true){cs:List AV}(l:jc h p=some cs):jc h' p=some cs:=by
 unfold storeAt at hs;split at hs
 .rename_i b v i o;unfold oS at n;dsimp only at n;split at n
  .rename_i y r;rw[r]at hs;dsimp only at hs;split at hs
   .cases hs;cases p<;>first | (simp[lJ]at q;done) | skip
    .rename_i b' v' z o';simp only[lJ,decide_eq_true_eq]at q;unfold jc at l⊢;dsimp only at l⊢;rw[aI q];exact l
    .unfold jc at l⊢;exact l
   .cases hs
  .cases n
 .cases hs
def kX.yR(x:kX):Bool:=x.q6||match x with
 | .app .. | .u6 .. => true
 |_=>false
def kX.Td:kX->Bool
 | .oU .. => true
 |_=>false
def jS(h h':AH):Prop:=h.length<=h'.length/\∀(b:Nat)(cs:List AV),b<h.length->(h[b]? = some (.var cs)↔h'[b]? = some (.var cs))
theorem jS.refl(h:AH):jS h h:=⟨aV _,λ_ _ _=>Iff.rfl⟩
def jS.trans{i:AH}(a:jS h h')(b:jS h' i):jS h i :=
 ⟨bJ a.1 b.1,λk cs hk=>(a.2 k cs hk).trans (b.2 k cs (bu hk a.1))⟩
def jS.app(h bs:AH):jS h (h++bs):=⟨ai,λk cs hk=>by rw[aJ hk]⟩
def Io{bytes:Nat}{s:AV}{news:List AV}(i:append h sz bytes s news=some (v,h')):jS h h':=by
 unfold append at i;split at i
 .split at i
  .cases i;exact jS.app _ _
  .cases i
 .rename_i b v0 o n;split at i
  .rename_i v' l es q;split at i
   .cases i;refine⟨ai,λk cs hk=>?_⟩
    by_cases e1:b=k
    .subst e1;rw[q,aR hk]
     constructor<;>intro h<;>cases h
    .rw[aI e1]
   .cases i
  .cases i
 .cases i
def Fo{a:AV}(i:nM h a=some (b,h')):jS h h':=by
 unfold nM at i;split at i
 .rename_i c v o n;split at i
  .rename_i v' sz es l;split at i
   .cases i;refine⟨ai,λk cs hk=>?_⟩
    by_cases e1:c=k
    .subst e1;rw[l,aR hk]
     constructor<;>intro h<;>cases h
    .rw[aI e1]
   .cases i
  .split at i
   .cases i;exact jS.refl _
   .cases i
  .cases i
 .split at i
  .cases i;exact jS.refl _
  .cases i
def Fp:∀(l:List AV){h h':AH}{m:List AV},sN h l=some (m,h')->jS h h'
 | [],h,h',m,i=>by cases i;exact jS.refl _
 |a::l,h,h',m,i=>by
  simp only[sN,aG]at i;let⟨⟨b,h1⟩,h2,⟨c,h3⟩,h4,i⟩:=i;cases i;exact(Fo h2).trans (Fp l h4)
def MR{a:AV}(i:mH h a=some (b,h')):jS h h':=by
 unfold mH at i;split at i
 .cases i;exact jS.refl _
 .split at i
  .simp only[aG]at i;let⟨⟨c,h1⟩,h2,i⟩:=i;cases i;exact Fp _ h2
  .exact Fo i
def Cw:∀(l:List AV){h h':AH}{m:List AV},jT h l=some (m,h')->jS h h'
 | [],h,h',m,i=>by cases i;exact jS.refl _
 |a::l,h,h',m,i=>by
  simp only[jT,aG]at i;let⟨⟨b,h1⟩,h2,⟨c,h3⟩,h4,i⟩:=i;cases i;exact(MR h2).trans (Cw l h4)
theorem Oi(op:kX)(i:op.yR=true)(b:exec Γ e h op=some (v,h')):jS h h':=by
 unfold kX.yR at i;rw[bR]at i
 rcases i with i | i
 .obtain⟨bs,rfl⟩:=Bn op i b;exact jS.app _ _
 .split at i
  .simp only[exec,aG]at b;let⟨_,_,b⟩:=b;exact Io b
  .simp only[exec,aG]at b;let⟨⟨l,h1⟩,n,r,_,b⟩:=b;cases b;exact Cw _ n
  .cases i
theorem Oj{agg:Bool}{t:Nat}(l:exec Γ e h (.oU sz agg t)=some (v,h'))(z:∀(b:Nat)(cs:List AV),(∃v i o,e t = .ptr b v i o)->h[b]? = some (.var cs)->h2[b]? = some (.var cs)):exec Γ e h2 (.oU sz agg t)=some (v,h2):=by
 simp only[exec]at l⊢;generalize A:e t=p at l⊢;split at l
 case isFalse=>cases l
 rename_i x;cases p<;>first | (simp[oS]at x;done) | skip
 rename_i b y i o;simp only[oS]at x;split at x
 case h_2=>cases x
 rename_i cs n;have q:=z b cs ⟨y,i,o,A⟩ n;have e1:oS h2 (.ptr b y i o)=true:=by simp only[oS,q]
 rw[if_pos e1];simp only[aG,kG]at l⊢;let⟨xs,h1,r,h3,l⟩:=l;cases l;refine⟨xs,?_,_,h3,rfl⟩;simp only[jc,n]at h1;simp only[jc,q];exact h1
end
end Go.Am
