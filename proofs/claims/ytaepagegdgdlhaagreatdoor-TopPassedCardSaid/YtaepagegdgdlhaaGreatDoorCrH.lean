/- Part of the proof that TopPassedCard holds. -/
import Derived.Test.YtaepagegdgdlhaaGreatDoorCrE
set_option linter.all false
namespace Go.Cr
variable{b:Bo}{jN:ay}
section
variable{jO:au->Bool}{jD:au->au->Bool}{PS:List au}{w w':Wd}
def zL{lu:List au}(h:sM jO b jN lu=0):jN≠[]/\jN.length=lu.length/\(∀p∈lu,jO p=true)/\b.cases.length<16/\b.next<4294967296:=by
 unfold sM at h
 by_cases c1:jN=[]\/jN.length≠lu.length
 .rw[if_pos c1]at h;omega
 .rw[if_neg c1]at h
  by_cases c2:yD jN=false
  .rw[if_pos c2]at h;omega
  .rw[if_neg c2]at h
   by_cases c3:(lu.all jO)=false
   .rw[if_pos c3]at h;omega
   .rw[if_neg c3]at h
    by_cases c4:16<=b.cases.length\/4294967296<=b.next
    .rw[if_pos c4]at h;omega
    .refine⟨λe=>c1 (.inl e),aa,λp hp=>?_,aa,aa⟩
     have:lu.all jO=true:=by simpa using c3
     exact aO.1 this p hp
def TT.of{lu:List au}(h:sM jO b jN lu=0)(hu:jN.Pairwise (· < ·))(hg:∀g∈jN,0<=g/\g<4)(hp:∀p∈lu,p∈PS)(i:Int)(f g:Bool):TT jO PS ⟨i,f,jN,g,lu⟩:=by
 let⟨h1,h2,h3,h4,h5⟩:=zL h;exact⟨h1,h2,hu,hg,λp hp'=>⟨h3 p hp',hp p hp'⟩⟩
def Inv.start(H:Inv jO jD PS w){k:Nat}{lu:List au}(hb:w.bs[k]? = some b)(hu:jN.Pairwise (· < ·))(hg:∀g∈jN,0<=g/\g<4)(hp:∀p∈lu,p∈PS):Inv jO jD PS (qF jO w k b jN lu):=by
 have self:({w with bs:=w.bs.set k b}:Wd)=w:=by rw[qc hb]
 unfold qF nX
 by_cases hm:sM jO b jN lu=0
 .simp only[if_pos hm];let⟨hne,hlen,hip,Jp,GA⟩:=zL hm;have hD:=TT.of (PS:=PS) hm hu hg hp (8*(b.next+1)+b.id) false false;have Cm:=H.bi k b hb;have yS:k<w.bs.length:=(aF.1 hb).1;have Jc:k<4:=by have:=H.lb;omega
  have oV:=tT hb;have hnk:=ajt hb;obtain⟨d,hd⟩:∃d,d=(⟨8*(b.next+1)+b.id,false,jN,false,lu⟩:De):=⟨_,rfl⟩;have Ww:d.id=8*(b.next+1)+b.id:=by rw[hd]
  have hdb:d.bo=k:=by unfold De.bo;rw[Ww,Cm.1];omega
  have akO:(d.bo:Int)=b.id:=by rw[hdb,Cm.1]
  have fresh:∀x∈w.jE,x.id≠d.id:=λx hx e=>by
   have h1:=H.id x hx;have h2:x.bo=d.bo:=by unfold De.bo;rw[e]
   have h3:(x.bo:Int)=b.id:=by rw[h2];exact akO
   rw[h2,hdb,hnk]at h1;rw[Ww]at e;have:=h1.2.2;rw[e]at this;omega
  rw[<-hd];obtain⟨b',hb'⟩:∃b',b'=(⟨b.id,b.next+1,false,b.cases++[⟨d,false,true,[]⟩]⟩:Bo):=⟨_,rfl⟩;rw[<-hb',<-Ww]
  have hcs:∀j,cs {w with bs:=w.bs.set k b',jE:=w.jE++[d]} j=if j=k then b'.cases else cs w j:=λj=>by
   by_cases e:j=k
   .subst e;simp[cs,yS]
   .simp only[cs];rw[aJ (Ne.symm e),if_neg e]
  have YF:∀j,nx {w with bs:=w.bs.set k b',jE:=w.jE++[d]} j=if j=k then b.next+1 else nx w j:=λj=>by
   by_cases e:j=k
   .subst e;simp[nx,yS,hb']
   .simp only[nx];rw[aJ (Ne.symm e),if_neg e]
  have hbc:b'.cases=b.cases++[⟨d,false,true,[]⟩]:=by rw[hb']
  have ake:∀j c,c∈cs w j->c∈cs {w with bs:=w.bs.set k b',jE:=w.jE++[d]} j:=λj c hc=>by
   rw[hcs]
   by_cases e:j=k
   .rw[if_pos e,hbc];rw[e,oV]at hc;exact cB _ hc
   .rwa [if_neg e]
  have from':∀j c,c∈cs {w with bs:=w.bs.set k b',jE:=w.jE++[d]} j->c∈cs w j\/(j=k/\c=⟨d,false,true,[]⟩):=λj c hc=>by
   rw[hcs]at hc
   by_cases e:j=k
   .rw[if_pos e,hbc]at hc;rw[e,oV]
    rcases aX.1 hc with h | h
    .exact .inl h
    .exact .inr ⟨rfl,aM.1 h⟩
   .rw[if_neg e]at hc;exact .inl hc
  have ph:∀x∈w.jE,Ph w {w with bs:=w.bs.set k b',jE:=w.jE++[d]} x:=λx hx=>by
   have gone:kz w x->kz {w with bs:=w.bs.set k b',jE:=w.jE++[d]} x:=λh c hc e=>by
    rcases from' _ c hc with h1 | ⟨_,h1⟩
    .exact h c h1 e
    .rw[h1]at e;exact fresh x hx e.symm
   refine⟨λ⟨c,hc,e,s⟩=>⟨?_,λ_ h=>h⟩,λh=>?_,λ_ h=>h,gone⟩
   .rcases from' _ c hc with h | ⟨_,h⟩
    .exact⟨c,h,e,s⟩
    .rw[h]at e;exact absurd e.symm (fresh x hx)
   .rcases h with⟨c,hc,e,s⟩ | ⟨h1,h2⟩
    .exact .inl ⟨c,ake _ c hc,e,s⟩
    .exact .inr ⟨gone h1,h2⟩
  have C5:Ed w d:=λg hg=>by
   let⟨⟨x,hx,e,_⟩,_⟩:=(H.pt g).di d.id hg;exact fresh x hx e
  have H1:Inv jO jD PS {w with bs:=w.bs.set k b',jE:=w.jE++[d]}:=by
   refine⟨an H.lb,H.lp,H.ld,H.wi,λj c hc=>?_,H.pi,H.dq,λx hx=>?_,λx hx=>?_,?_,λj=>?_,λj c hc=>?_,λx hx yB=>?_,λg=>⟨(H.pt g).nd,(H.pt g).ap,λr hr=>?_,(H.pt g).dd,λi hi=>⟨?_,((H.pt g).di i hi).2⟩⟩,λm hm=>(H.ms m hm).ph λx hx=>⟨cB _ hx,ph x hx⟩⟩
   .by_cases e:j=k
    .subst e;simp only[aZ yS,bp]at hc;subst hc;rw[hb'];exact⟨Cm.1,by have:=Cm.2.1;dsimp only;omega,aj⟩
    .simp only[aJ (Ne.symm e)]at hc;exact H.bi j c hc
   .rcases aX.1 hx with hx | hx
    .exact H.de x hx
    .rw[aM.1 hx,hd];exact hD
   .rw[YF]
    rcases aX.1 hx with hx | hx
    .have:=H.id x hx;refine⟨this.1,this.2.1,?_⟩
     by_cases e:x.bo=k
     .rw[if_pos e];rw[e,hnk]at this;rw[e];omega
     .rw[if_neg e];exact this.2.2
    .rw[aM.1 hx,if_pos hdb,Ww,<-Ww];have:=Cm.2.1;exact⟨aa,aa,aa⟩
   .simp only[cZ,bF,bQ];rw[fq];refine⟨H.nd,ah,λx hx y hy=>?_⟩
    obtain⟨z,hz,rfl⟩:=bx.1 hx;rw[aM.1 hy];exact fresh z hz
   .rw[hcs]
    by_cases e:j=k
    .rw[if_pos e,hbc];simp only[cZ,bF,bQ];rw[fq];refine⟨by have:=H.cn k;rwa [oV]at this,ah,λx hx y hy=>?_⟩
     obtain⟨z,hz,rfl⟩:=bx.1 hx;rw[aM.1 hy];exact fresh z.de (H.ca k z (by rw[oV];exact hz)).de
    .rw[if_neg e];exact H.cn j
   .rcases from' j c hc with h | ⟨h,h'⟩
    .have C:=H.ca j c h;exact⟨cB _ C.de,C.bo,C.sub,C.up,C.lt,C.un,C.su⟩
    .rw[h',h];exact⟨dG _ (aM.2 rfl),hdb,(λg hg=>by cases hg),List.Pairwise.nil,by rw[hd];exact dX.2 hne,λ_=>⟨C5,λg hg=>by cases hg⟩,λs=>by cases s⟩
   .rcases aX.1 hx with hx | hx
    .exact H.go x hx λc hc e=>yB c (ake _ c hc) e
    .rw[aM.1 hx]at yB;refine absurd rfl (yB ⟨d,false,true,[]⟩ ?_);rw[hcs,if_pos hdb,hbc];simp
   .let⟨x,hx,h⟩:=(H.pt g).re r hr;exact⟨x,cB _ hx,h⟩
   .let⟨⟨x,hx,h⟩,_⟩:=(H.pt g).di i hi;exact⟨x,cB _ hx,h⟩
  refine H1.send λm hm=>?_
  obtain⟨x,hx,rfl⟩:=bx.1 hm;refine⟨d,dG _ (aM.2 rfl),rfl,.inl ⟨rfl,akO.symm,?_⟩⟩;rw[hd];exact hx
 .simp only[if_neg hm];rw[self];exact H.send (l:=[]) λx hx=>by cases hx
def zh(H:Inv jO jD PS w){k:Nat}(hb:w.bs[k]? = some b):∀m∈lR b,qw w m:=by
 intro m hm;unfold lR at hm;let⟨l,hl,hm⟩:=fE.1 hm;obtain⟨c,hc,rfl⟩:=bx.1 hl;unfold pM at hm;let⟨l,hl,hm⟩:=fE.1 hm;obtain⟨x,hx,rfl⟩:=bx.1 hl;have hcm:c∈cs w k:=by rw[tT hb];exact hc
 have C:=H.ca k c hcm;have Cm:=(H.bi k b hb).1;have hbd:b.id=c.de.bo:=by rw[Cm,C.bo]
 unfold qv at hm;split at hm
 .cases hm
 .split at hm
  .rename_i hs;rw[aM]at hm;subst hm;exact⟨c.de,C.de,rfl,.inr (.inr (.inr (.inl ⟨rfl,hbd,(dO hx).1,.inl ⟨c,H.csb hcm,rfl,hs⟩⟩)))⟩
  .rw[aM]at hm;subst hm;exact⟨c.de,C.de,rfl,.inl ⟨rfl,hbd,hx⟩⟩
def Nk(H:Inv jO jD PS w){k:Nat}{p:Pt}(hp:w.ps[k]? = some p):∀m∈uo p,qw w m:=by
 intro m hm;unfold uo at hm;obtain⟨r,hr,rfl⟩:=bx.1 hm;let⟨d,hd,e,hz⟩:=(H.pt k).re r (by rw[vV hp];exact hr)
 have h8:=(H.id d hd).1;refine⟨d,hd,by rw[e];rfl,.inr (.inr (.inr (.inr (.inr (.inr ⟨rfl,?_,?_⟩)))))⟩
 .rw[H.amx hd,e];exact gu aa
 .show p.id∈d.jN;rw[H.pi k p hp];exact(dO hz).1
def Inv.aqf(H:Inv jO jD PS w){k:Nat}(hb:w.bs[k]? = some b)(i:Int):Inv jO jD PS (Qw w k b i):=by
 have self:({w with bs:=w.bs.set k b}:Wd)=w:=by rw[qc hb]
 have Cm:=(H.bi k b hb).1;have oV:cs w k=b.cases:=tT hb;unfold Qw Co;cases hx:b.cases[mb b i]? with
 |none =>
  dsimp only;rw[self];exact H.send (l:=[]) λx hx=>by cases hx
 |some c =>
  dsimp only
  by_cases hs:c.sure=true
  .simp only[if_pos hs];rw[self];exact H.send (l:=[]) λx hx=>by cases hx
  .simp only[if_neg hs];have C:=H.ca k c (by rw[oV];exact aR hx)
   have hce:=H.erase hb hx (.inl (an hs))
   refine hce.1.send (FP λg hg=>⟨c.de,C.de,rfl,.inr (.inr (.inr (.inr (.inr (.inl ⟨rfl,by rw[C.bo,<-Cm];rfl,hg,hce.2⟩)))))⟩)
def Inv.back(H:Inv jO jD PS w){k:Nat}(hb:w.bs[k]? = some b):Inv jO jD PS {w with bs:=w.bs.set k (CC b)}:=by
 unfold CC;refine H.Xh hb rfl rfl List.filter_sublist λc hc=>?_
 cases h:c.sure with
 |true=>exact .inl (cg.2 ⟨hc,h⟩)
 |false=>exact .inr (.inl rfl)
def Inv.Tq(H:Inv jO jD PS w){m:Mg}(hm:qw w m):Inv jO jD PS (v7 jO jD w m):=by
 unfold v7;split
 .exact H
 .rename_i hto;split
  .rename_i b p d hb hp hd;refine(H.tell hb hm).ap0 hp hd λhk=>?_
   have:¬(m.to=b.id/\m.oU.length=1/\(m.kind=2\/m.kind=3\/m.kind=5\/m.kind=7)):=λh=>aa
   unfold oQ qY;rw[if_neg this];dsimp only;rw[qc hb];exact hm.same rfl rfl rfl
  .exact H
def Inv.take(H:Inv jO jD PS w)(i:Nat)(t:Bool):Inv jO jD PS (mL jO jD w i t):=by
 unfold mL;split
 .exact H
 .rename_i m hm;have hg:=H.ms m (aR hm);cases t with
  |true=>exact H.Tq hg
  |false=>exact(H.ZR i).Tq (hg.same rfl rfl rfl)
def RC(x:Ac)(n:Nat):∀(l:ax),l.Pairwise (· < ·)->(∀g∈l,n<=g/\g<4)->∀s:ay×List au×Nat,s.1.Pairwise (· < ·)/\(∀g∈s.1,0<=g/\g<n)/\(∀p∈s.2.1,∃k,p=vW k)/\n<=4->
  (l.foldl (BR x) s).1.Pairwise (· < ·)/\(∀g∈(l.foldl (BR x) s).1,0<=g/\g<4)/\(∀p∈(l.foldl (BR x) s).2.1,∃k,p=vW k)
 | [],_,_,s,h=>⟨h.1,λg hg=>by have:=h.2.1 g hg;omega,h.2.2.1⟩
 |g::l,hl,hg,s,h=>by
  rw[bh]at hl;rw[aT];have Je:=hg g (bu ..);refine RC x (g+1) l hl.2 (λy hy=>⟨hl.1 y hy,(hg y (bt _ hy)).2⟩) _ ?_
  unfold BR;split
  .refine⟨?_,λy hy=>?_,λp hp=>?_,aa⟩
   .rw[fm];refine⟨h.1,ah,λy hy z hz=>?_⟩
    rw[aM.1 hz];have:=h.2.1 y hy;omega
   .rcases aX.1 hy with hy | hy
    .have:=h.2.1 y hy;omega
    .rw[aM.1 hy];omega
   .rcases aX.1 hp with hp | hp
    .exact h.2.2.1 p hp
    .exact⟨_,aM.1 hp⟩
  .exact⟨h.1,λy hy=>by have:=h.2.1 y hy;omega,h.2.2.1,aa⟩
def aa9(x:Ac):(yl x).1.Pairwise (· < ·)/\(∀g∈(yl x).1,0<=g/\g<4)/\(∀p∈(yl x).2.1,∃k,p=vW k) :=
 RC x 0 [0,1,2,3] af af _ ⟨List.Pairwise.nil,(λg hg=>by cases hg),(λp hp=>by cases hp),af⟩
def Inv.begin(H:Inv jO jD PS w)(hPS:∀k,vW k∈PS)(x:Ac):Inv jO jD PS (qO jO w x):=by
 unfold qO;split
 .exact H
 .rename_i b hb;let⟨h1,h2,h3⟩:=aa9 x;exact H.start hb h1 h2 λp hp=>by obtain⟨k,rfl⟩:=h3 p hp;exact hPS k
def Inv.do(H:Inv jO jD PS w)(hPS:∀k,vW k∈PS)(x:Ac):Inv jO jD PS (NH jO jD w x):=by
 unfold NH;split
 .rename_i b p hb hp
  repeat' split
  .exact H.begin hPS x
  .exact H.send (zh H hb)
  .exact H.send (Nk H hp)
  .exact H
  .exact H.aqf hb _
  .exact H.back hb
  .exact H
  .exact H.ZR _
  .exact H.take _ _
 .exact H
def Inv.drain:∀(n:Nat){w:Wd},Inv jO jD PS w->Inv jO jD PS (mF jO jD n w)
 |0,_,H=>H
 |n+1,w,H=>by
  unfold mF;split
  .exact H
  .exact Inv.drain n (H.take 0 false)
def Inv.say(H:Inv jO jD PS w)(g:Nat):Inv jO jD PS (zv w g):=by
 unfold zv;split
 .rename_i b hb;split
  .rename_i p hp;have H1:=H.send (zh H hb);exact H1.send (Nk H1 hp)
  .exact H
 .exact H
def Inv.Sk:∀(l:ax){w:Wd},Inv jO jD PS w->Inv jO jD PS (l.foldl zv w)
 | [],_,H=>H
 |g::l,w,H=>Inv.Sk l (H.say g)
def Inv.round(H:Inv jO jD PS w):Inv jO jD PS (mD jO jD w):=(H.Sk [0,1,2,3]).drain 2000
def Inv.calm:∀(n:Nat){w:Wd},Inv jO jD PS w->Inv jO jD PS (mV jO jD n w)
 |0,_,H=>H
 |n+1,_,H=>Inv.calm n H.round
def Inv.fresh:Inv jO jD PS kQ:=by
 have c0:∀k,cs kQ k=[]:=λk=>by
  match k with
  |0=>rfl
  |1=>rfl
  |2=>rfl
  |3=>rfl
  |_+4=>rfl
 have r0:∀k,rd kQ k=[]:=λk=>by
  match k with
  |0=>rfl
  |1=>rfl
  |2=>rfl
  |3=>rfl
  |_+4=>rfl
 have d0:∀k,dn kQ k=[]:=λk=>by
  match k with
  |0=>rfl
  |1=>rfl
  |2=>rfl
  |3=>rfl
  |_+4=>rfl
 refine⟨rfl,rfl,rfl,af,λk b hb=>?_,λk p hp=>?_,λk d hd=>?_,(λd hd=>by cases hd),(λd hd=>by cases hd),List.Pairwise.nil,(λk=>by rw[c0];exact List.Pairwise.nil),(λk c hc=>by rw[c0]at hc;cases hc),(λd hd=>by cases hd),(λg=>⟨by rw[r0];exact List.Pairwise.nil,by rw[r0];exact List.Pairwise.nil,(λr hr=>by rw[r0]at hr;cases hr),by rw[d0];exact List.Pairwise.nil,(λi hi=>by rw[d0]at hi;cases hi)⟩),(λm hm=>by cases hm)⟩
 .match k with
  |0=>cases hb;decide
  |1=>cases hb;decide
  |2=>cases hb;decide
  |3=>cases hb;decide
  |_+4=>simp[kQ]at hb
 .match k with
  |0=>cases hp;rfl
  |1=>cases hp;rfl
  |2=>cases hp;rfl
  |3=>cases hp;rfl
  |_+4=>simp[kQ]at hp
 .rw[d0]
  match k with
  |0=>cases hd;rfl
  |1=>cases hd;rfl
  |2=>cases hd;rfl
  |3=>cases hd;rfl
  |_+4=>simp[kQ]at hd
end
inductive Cg where
 |same
 |erase
 |set (c:Ca)
inductive Pg where
 |same
 |ready (g:Nat)
 |CS (g:Nat)
 |Sz (g:Nat)
structure CF(w w':Wd)(d:De)(x:Cg)(y:Pg)(l:List Mg):Prop where
 jQ:w'.jQ=lV w.jQ l
 jE:w'.jE=w.jE
 cs:∀j c,c∈cs w' j↔match x with
  | .same=>c∈cs w j
  | .erase=>c∈cs w j/\c.de.id≠d.id
  | .set c'=>(j=d.bo/\c=c')\/(c∈cs w j/\c.de.id≠d.id)
 rd:∀j i,mX w' j i↔match y with
  | .same=>mX w j i
  | .ready g=>mX w j i\/(j=g/\i=d.id)
  | .CS g=>mX w j i/\¬(j=g/\i=d.id)
  | .Sz g=>mX w j i/\¬(j=g/\i=d.id)
 dn:∀j,dn w' j=match y with
  | .Sz g=>if j=g then dn w j++[d.id]else dn w j
  |_=>dn w j
inductive Tr(w:Wd)(d:De)(m:Mg):Cg->Pg->List Mg->Prop
 |LH:m.kind=1->m.to∈d.jN->d.id∈dn w m.to.toNat->Tr w d m .same .same [lF m.to m.fr 5 d.id]
 |Vc:m.kind=1->m.to∈d.jN->mX w m.to.toNat d.id->Tr w d m .same .same [lF m.to m.fr 2 d.id]
 |Vb:m.kind=1->m.to∈d.jN->¬mX w m.to.toNat d.id->(∃r∈rd w m.to.toNat,r.id≠d.id)->Tr w d m .same .same [lF m.to m.fr 3 d.id]
 |G5:m.kind=1->m.to∈d.jN->d.id∉dn w m.to.toNat->¬mX w m.to.toNat d.id->Tr w d m .same (.ready m.to.toNat) [lF m.to m.fr 2 d.id]
 |Dj:m.kind=2->m.fr∈d.jN->kz w d->Tr w d m .same .same [lF m.to m.fr 6 d.id]
 |Di:m.kind=2->m.fr∈d.jN->oh w d->Tr w d m .same .same [lF m.to m.fr 4 d.id]
 |oa (c:Ca):m.kind=2->m.fr∈d.jN->c∈cs w d.bo->c.de=d->c.sure=false->Tr w d m (.set {c with sure:=true,fh:=true,heard:=[]}) .same (d.jN.map λg=>lF m.to g 4 d.id)
 |rC (c:Ca) (f:Bool):m.kind=2->m.fr∈d.jN->c∈cs w d.bo->c.de=d->c.sure=false->Tr w d m (.set {c with fh:=f,heard:=lH c.heard m.fr}) .same []
 |A9:m.kind=3->m.fr∈d.jN->kz w d\/oh w d->Tr w d m .same .same []
 |AZ (c:Ca):m.kind=3->m.fr∈d.jN->c∈cs w d.bo->c.de=d->c.sure=false->Tr w d m .erase .same (d.jN.map λg=>lF m.to g 6 d.id)
 |Tg:m.kind=4->m.to∈d.jN->mX w m.to.toNat d.id->(oh w d\/kz w d/\qP w d)->Tr w d m .same (.Sz m.to.toNat) [lF m.to m.fr 5 d.id]
 |MI:m.kind=4->m.to∈d.jN->d.id∈dn w m.to.toNat->Tr w d m .same .same [lF m.to m.fr 5 d.id]
 |ET:m.kind=4->m.to∈d.jN->¬mX w m.to.toNat d.id->d.id∉dn w m.to.toNat->Tr w d m .same .same []
 |BH:m.kind=5->m.fr∈d.jN->kz w d\/unsure w d->Tr w d m .same .same []
 |qn (c:Ca):m.kind=5->m.fr∈d.jN->c∈cs w d.bo->c.de=d->c.sure=true->qP w d->Tr w d m .erase .same []
 |rH (c:Ca) (f:Bool):m.kind=5->m.fr∈d.jN->c∈cs w d.bo->c.de=d->c.sure=true->Tr w d m (.set {c with fh:=f,heard:=lH c.heard m.fr}) .same []
 |RY:m.kind=6->m.to∈d.jN->kz w d->mX w m.to.toNat d.id->Tr w d m .same (.CS m.to.toNat) []
 |Dk:m.kind=6->m.to∈d.jN->kz w d->¬mX w m.to.toNat d.id->Tr w d m .same .same []
 |FX:m.kind=7->m.fr∈d.jN->kz w d->Tr w d m .same .same [lF m.to m.fr 6 d.id]
 |FV:m.kind=7->m.fr∈d.jN->oh w d->Tr w d m .same .same [lF m.to m.fr 4 d.id]
 |Yk:m.kind=7->m.fr∈d.jN->unsure w d->Tr w d m .same .same []
section
variable{jO:au->Bool}{jD:au->au->Bool}{PS:List au}{w w':Wd}
def AG(l:List Mg):lV l []=l:=by simp[lV]
def CF.self{d:De}{l:List Mg}:CF w (kf w l) d .same .same l:=⟨rfl,rfl,λ_ _=>Iff.rfl,λ_ _=>Iff.rfl,λ_=>rfl⟩
def CU(H:Inv jO jD PS w){k:Nat}{b:Bo}{m:Mg}{d:De}(hb:w.bs[k]? = some b)(hd:d∈w.jE)(hn:m.oU=[d.id])(hto:m.to=d.bo)(hk:m.to=(k:Int))(hfr:m.fr∈d.jN)(akE:m.kind=2\/m.kind=3\/m.kind=5\/m.kind=7)(h5:m.kind=5->d.id∈dn w m.fr.toNat):
  ∃x l,Tr w d m x .same l/\CF w (oQ w k b m) d x .same l:=by
 have self:({w with bs:=w.bs.set k b}:Wd)=w:=by rw[qc hb]
 have Cm:=(H.bi k b hb).1;have oV:cs w k=b.cases:=tT hb;have hdk:d.bo=k:=aa
 have WG:b.id=m.to:=by rw[Cm,hk]
 have hh:m.oU.headD 0=d.id:=by rw[hn];rfl
 have h0:m.to=b.id/\m.oU.length=1/\(m.kind=2\/m.kind=3\/m.kind=5\/m.kind=7):=⟨WG.symm,by rw[hn];rfl,akE⟩
 have C5:(b.cases.map λc=>c.de.id).Nodup:=by have:=H.cn k;rwa [oV]at this
 -- the same cases
 have eqs:∀l,CF w (kf {w with bs:=w.bs.set k (oP b b.cases)} l) d .same .same l:=λl=>⟨rfl,rfl,λj c=>by
  show c∈cs {w with bs:=w.bs.set k (oP b b.cases)} j↔_
  rw[xC hb]
  by_cases e:j=k
  .rw[if_pos e,e,oV];exact Iff.rfl
  .rw[if_neg e],λ_ _=>Iff.rfl,λ_=>rfl⟩
 unfold oQ qY;rw[if_pos h0,hh];cases hx:b.cases[mb b d.id]? with
 |none =>
  have hg:kz w d:=by
   intro c hc;rw[hdk,oV]at hc;exact P6 (key:=λc:Ca=>c.de.id) hx c hc
  simp only
  by_cases c4:m.kind=2\/m.kind=7
  .rw[if_pos c4];dsimp only;rw[self,WG]
   rcases c4 with c4 | c4
   .exact⟨_,_,.Dj c4 hfr hg,CF.self⟩
   .exact⟨_,_,.FX c4 hfr hg,CF.self⟩
  .rw[if_neg c4];dsimp only;rw[self]
   rcases(show m.kind=3\/m.kind=5 by omega)with c | c
   .exact⟨_,_,.A9 c hfr (.inl hg),CF.self⟩
   .exact⟨_,_,.BH c hfr (.inl hg),CF.self⟩
 |some c =>
  have hcm:c∈cs w d.bo:=by rw[hdk,oV];exact aR hx
  have hid:c.de.id=d.id:=KA (key:=λc:Ca=>c.de.id) hx
  have C:=H.ca _ c hcm;have hcd:c.de=d:=H.Gd C.de hd hid
  have ajz:∀b':Bo,b'.cases=b.cases.eraseIdx (mb b d.id)->∀l,CF w (kf {w with bs:=w.bs.set k b'} l) d .erase .same l:=λb' e l=>⟨rfl,rfl,λj y=>by
   show y∈cs {w with bs:=w.bs.set k b'} j↔y∈cs w j/\y.de.id≠d.id
   rw[xC hb]
   by_cases ej:j=k
   .rw[if_pos ej,e,ej,oV,pq (key:=λc:Ca=>c.de.id) C5 hx y,hid]
   .rw[if_neg ej];refine⟨λhy=>⟨hy,λe=>?_⟩,λhy=>hy.1⟩
    have Y:=H.ca j y hy;have:=H.Gd Y.de hd e;rw[<-Y.bo,this,hdk]at ej;exact ej rfl,λ_ _=>Iff.rfl,λ_=>rfl⟩
  have adL:∀(b':Bo)(c':Ca),b'.cases=b.cases.set (mb b d.id) c'->∀l,CF w (kf {w with bs:=w.bs.set k b'} l) d (.set c') .same l:=λb' c' e l=>⟨rfl,rfl,λj y=>by
   show y∈cs {w with bs:=w.bs.set k b'} j↔(j=d.bo/\y=c')\/(y∈cs w j/\y.de.id≠d.id)
   rw[xC hb,hdk]
   by_cases ej:j=k
   .rw[if_pos ej,e,ej,oV,wZ (key:=λc:Ca=>c.de.id) C5 hx y,hid]
    simp
   .rw[if_neg ej];refine⟨λhy=>.inr ⟨hy,λe=>?_⟩,λhy=>?_⟩
    .have Y:=H.ca j y hy;have:=H.Gd Y.de hd e;rw[<-Y.bo,this,hdk]at ej;exact ej rfl
    .rcases hy with⟨h1,_⟩ | hy
     .exact absurd h1 ej
     .exact hy.1,λ_ _=>Iff.rfl,λ_=>rfl⟩
  simp only;rw[if_pos (by rw[hcd];exact hfr)]
  unfold GO
  have hsub:∀g∈lH c.heard m.fr,g∈c.de.jN:=λg hg=>by
   rcases oL.1 hg with rfl | hg
   .rw[hcd];exact hfr
   .exact C.sub g hg
  by_cases hs:c.sure=true
  .simp only[if_pos hs]
   by_cases k3:m.kind=3
   .simp only[if_pos k3];exact⟨_,_,.A9 k3 hfr (.inr ⟨c,hcm,hid,hs⟩),eqs []⟩
   .simp only[if_neg k3]
    by_cases k5:m.kind=5
    .simp only[if_pos k5]
     by_cases hf:(lH c.heard m.fr).length=c.de.jN.length
     .simp only[if_pos hf];refine⟨_,_,.qn c k5 hfr hcm hcd hs (λg hg=>?_),ajz _ rfl []⟩
      rcases oL.1 (full (qX (Mk C.up)) hsub aa g (by rw[hcd];exact hg))with e | e
      .rw[e];exact h5 k5
      .rw[<-hid];exact(C.su hs).2 g e
     .simp only[if_neg hf];exact⟨_,_,.rH c (rO c m.fr) k5 hfr hcm hcd hs,adL _ _ rfl []⟩
    .simp only[if_neg k5];rw[WG,hid]
     rcases(show m.kind=2\/m.kind=7 by omega)with c1 | c1
     .exact⟨_,_,.Di c1 hfr ⟨c,hcm,hid,hs⟩,eqs _⟩
     .exact⟨_,_,.FV c1 hfr ⟨c,hcm,hid,hs⟩,eqs _⟩
  .have hs:c.sure=false:=by simpa using hs
   rw[if_neg (by rw[hs];decide)]
   by_cases k3:m.kind=3
   .simp only[if_pos k3];have e:tu b c.de 6=d.jN.map λg=>lF m.to g 6 d.id:=by unfold tu;rw[hcd,WG]
    rw[e];exact⟨_,_,.AZ c k3 hfr hcm hcd hs,ajz _ rfl _⟩
   .simp only[if_neg k3]
    by_cases k2:m.kind=2
    .simp only[if_pos k2]
     by_cases hf:(lH c.heard m.fr).length=c.de.jN.length
     .simp only[if_pos hf];have e:tu b c.de 4=d.jN.map λg=>lF m.to g 4 d.id:=by unfold tu;rw[hcd,WG]
      rw[e];exact⟨_,_,.oa c k2 hfr hcm hcd hs,adL _ _ rfl _⟩
     .simp only[if_neg hf];exact⟨_,_,.rC c (rO c m.fr) k2 hfr hcm hcd hs,adL _ _ rfl []⟩
    .simp only[if_neg k2];have hun:unsure w d:=⟨c,hcm,hid,hs⟩
     rcases(show m.kind=5\/m.kind=7 by omega)with c1 | c1
     .exact⟨_,_,.BH c1 hfr (.inr hun),eqs []⟩
     .exact⟨_,_,.Yk c1 hfr hun,eqs []⟩
end
section
variable{jO:au->Bool}{jD:au->au->Bool}{PS:List au}{w w':Wd}
def Jh (H:Inv jO jD PS w) {g:Nat} {p:Pt} {dd:Bool×ay} {m:Mg} {d:De} (hp:w.ps[g]? = some p) (KT:w.did[g]? = some dd) (hd:d∈w.jE) (hn:m.oU=[d.id]) (hto:m.to=(g:Int)) (hg:m.to∈d.jN)
  (hk:(m.kind=1/\(m.to,m.data)∈d.jN.zip d.lu)\/(m.kind=4/\(oh w d\/kz w d/\qP w d))\/(m.kind=6/\kz w d)) :
  ∃y l,Tr w d m .same y l/\CF w (rm jO jD w g p dd m) d .same y l:=by
 have self:({w with ps:=w.ps.set g p}:Wd)=w:=by rw[qc hp]
 have hpi:=H.pi g p hp;have hrd:=vV hp;have hdn:=HO hp;have P:=H.pt g;have yS:g<w.ps.length:=(aF.1 hp).1;have Je:m.to.toNat=g:=by rw[hto];simp
 have Mf:p.id=m.to:=by rw[hpi,hto]
 have hh:m.oU.headD 0=d.id:=by rw[hn];rfl
 have h8:=(H.id d hd).1;have hc:m.to=p.id/\m.oU.length=1:=⟨Mf.symm,by rw[hn];rfl⟩
 have Bl:(p.ready.any (λr=>decide (r.id=d.id))=true)↔mX w g d.id:=by
  unfold mX;rw[hrd];simp
 have Bq:(decide (d.id∈p.did)=true)↔d.id∈dn w g:=by rw[hdn];simp
 have Ls:∀(q:Pt)(dl:List (Bool×ay))(l:List Mg)(j:Nat),rd (kf {w with ps:=w.ps.set g q,did:=dl} l) j=if j=g then q.ready else rd w j:=λq dl l j=>by
  by_cases e:j=g
  .subst e;simp[rd,kf,yS]
  .simp only[rd,kf];rw[aJ (Ne.symm e),if_neg e]
 have Xt:∀(q:Pt)(dl:List (Bool×ay))(l:List Mg)(j:Nat),dn (kf {w with ps:=w.ps.set g q,did:=dl} l) j=if j=g then q.did else dn w j:=λq dl l j=>by
  by_cases e:j=g
  .subst e;simp[dn,kf,yS]
  .simp only[dn,kf];rw[aJ (Ne.symm e),if_neg e]
 unfold rm pQ;simp only[if_pos hc,hh]
 rcases hk with⟨k1,hz⟩ | ⟨k4,hs⟩ | ⟨k6,yB⟩
 .simp only[if_pos k1]
  by_cases q1:decide (d.id∈p.did)=true
  .simp only[if_pos q1,ng,if_true];rw[self,Mf];exact⟨_,_,.LH k1 hg (by rw[Je];exact Bq.1 q1),CF.self⟩
  .simp only[if_neg q1]
   by_cases q2:p.ready.any (λr=>decide (r.id=d.id))=true
   .simp only[if_pos q2,ng,if_true];rw[self,Mf];exact⟨_,_,.Vc k1 hg (by rw[Je];exact Bl.1 q2),CF.self⟩
   .simp only[if_neg q2];have YG:¬mX w g d.id:=λh=>q2 (Bl.2 h)
    by_cases q3:jO m.data=false\/nj jO jD p m.data=true
    .simp only[if_pos q3,ng,if_true];rw[self,Mf];refine⟨_,_,.Vb k1 hg (by rw[Je];exact YG) ?_,CF.self⟩
     rw[Je,hrd];have hip:=((H.de d hd).pa _ (dO hz).2).1
     rcases q3 with q3 | q3
     .rw[hip]at q3;cases q3
     .unfold nj at q3;rw[hip,eP,fD]at q3;let⟨r,hr,_⟩:=q3;exact⟨r,hr,λe=>YG ⟨r,by rw[hrd];exact hr,e⟩⟩
    .simp only[if_neg q3,ng,if_true];rw[Mf];refine⟨_,_,.G5 k1 hg (by rw[Je];exact λh=>q1 (Bq.2 h)) (by rw[Je];exact YG),⟨rfl,rfl,λ_ _=>Iff.rfl,λj i=>?_,λj=>?_⟩⟩
     .have:=Ls ⟨m.to,false,p.ready++[⟨d.id,m.data⟩],p.fd,p.did⟩ w.did [lF m.to m.fr 2 d.id] j;unfold mX;rw[this,Je]
      by_cases e:j=g
      .rw[if_pos e,e,hrd]
       constructor
       .rintro⟨r,hr,e'⟩
        rcases aX.1 hr with hr | hr
        .exact .inl ⟨r,hr,e'⟩
        .rw[aM.1 hr]at e';exact .inr ⟨rfl,e'.symm⟩
       .rintro(⟨r,hr,e'⟩ | ⟨_,e'⟩)
        .exact⟨r,cB _ hr,e'⟩
        .exact⟨⟨d.id,m.data⟩,dG _ (aM.2 rfl),e'.symm⟩
      .rw[if_neg e];exact⟨.inl,λh=>h.elim id λh=>absurd h.1 e⟩
     .have:=Xt ⟨m.to,false,p.ready++[⟨d.id,m.data⟩],p.fd,p.did⟩ w.did [lF m.to m.fr 2 d.id] j;refine this.trans ?_
      by_cases e:j=g
      .rw[if_pos e,e,hdn]
      .rw[if_neg e]
 all_goals
  have erd:∀i r,p.ready[i]? = some r->r.id=d.id->∀x,x∈p.ready.eraseIdx i↔x∈p.ready/\x.id≠d.id:=λi r hi e x=>by
   have:=pq (key:=λr:Rd=>r.id) (l:=p.ready) (by have:=P.nd;rwa [hrd]at this) hi x
   rw[this,e]
  have find:mX w g d.id->∃r,p.ready[p.ready.findIdx λr=>decide (r.id=d.id)]? = some r/\r.id=d.id:=λ⟨r,hr,e⟩=>by
   rw[hrd]at hr;have h1:p.ready.findIdx (λr=>decide (r.id=d.id))<p.ready.length:=dH ⟨r,hr,by simp[e]⟩
   exact⟨_,aG h1,KA (key:=λr:Rd=>r.id) (aG h1)⟩
  have erR:mX w g d.id->∀(q:Pt)(dl:List (Bool×ay))(l:List Mg),q.ready=p.ready.eraseIdx (p.ready.findIdx λr=>decide (r.id=d.id))->∀j i,mX (kf {w with ps:=w.ps.set g q,did:=dl} l) j i↔mX w j i/\¬(j=g/\i=d.id):=λhi q dl l e j i=>by
   let⟨r0,h1,h2⟩:=find hi;have mem:=erd _ r0 h1 h2;unfold mX;rw[Ls]
   by_cases ej:j=g
   .rw[if_pos ej,e,ej,hrd]
    constructor
    .rintro⟨r,hr,e'⟩
     let⟨h3,h4⟩:=(mem r).1 hr;exact⟨⟨r,h3,e'⟩,λh=>h4 (by rw[e'];exact h.2)⟩
    .rintro⟨⟨r,hr,e'⟩,h⟩
     exact⟨r,(mem r).2 ⟨hr,λh5=>h ⟨rfl,by rw[<-e',h5]⟩⟩,e'⟩
   .rw[if_neg ej];exact⟨λh=>⟨h,λh'=>ej h'.1⟩,λh=>h.1⟩
 .have k1:¬m.kind=1:=by omega
  simp only[if_neg k1,if_pos k4]
  by_cases q2:p.ready.any (λr=>decide (r.id=d.id))=true
  .simp only[if_pos q2,ng,if_neg (show ¬d.id=0 by omega)]
   rw[Mf];refine⟨_,_,.Tg k4 hg (by rw[Je];exact Bl.1 q2) hs,⟨rfl,rfl,λ_ _=>Iff.rfl,λj i=>?_,λj=>?_⟩⟩
   .rw[Je];exact erR (Bl.1 q2) _ _ _ rfl j i
   .refine(Xt _ _ _ j).trans ?_;show _=if j=m.to.toNat then dn w j++[d.id]else dn w j
    rw[Je]
    by_cases e:j=g
    .rw[if_pos e,if_pos e,e,hdn]
    .rw[if_neg e,if_neg e]
  .simp only[if_neg q2]
   by_cases q1:decide (d.id∈p.did)=true
   .simp only[if_pos q1,ng,if_true];rw[self,Mf];exact⟨_,_,.MI k4 hg (by rw[Je];exact Bq.1 q1),CF.self⟩
   .simp only[if_neg q1,ng,if_true];rw[self];exact⟨_,_,.ET k4 hg (by rw[Je];exact λh=>q2 (Bl.2 h)) (by rw[Je];exact λh=>q1 (Bq.2 h)),CF.self⟩
 .have k1:¬m.kind=1:=by omega
  have k4:¬m.kind=4:=aa
  simp only[if_neg k1,if_neg k4,if_pos k6]
  by_cases q2:p.ready.any (λr=>decide (r.id=d.id))=true
  .simp only[if_pos q2,ng,if_true];rw[Mf];refine⟨_,_,.RY k6 hg yB (by rw[Je];exact Bl.1 q2),⟨rfl,rfl,λ_ _=>Iff.rfl,λj i=>?_,λj=>?_⟩⟩
   .rw[Je];exact erR (Bl.1 q2) _ w.did _ rfl j i
   .refine(Xt _ w.did _ j).trans ?_
    by_cases e:j=g
    .rw[if_pos e,e,hdn]
    .rw[if_neg e]
  .simp only[if_neg q2,ng,if_true];rw[self];exact⟨_,_,.Dk k6 hg yB (by rw[Je];exact λh=>q2 (Bl.2 h)),CF.self⟩
def QT(H:Inv jO jD PS w){m:Mg}(hm:qw w m):∃d∈w.jE,m.oU=[d.id]/\∃x y l,Tr w d m x y l/\CF w (v7 jO jD w m) d x y l:=by
 let⟨d,hd,hn,hm⟩:=hm;refine⟨d,hd,hn,?_⟩;have hb4:=(H.id d hd).2.1;have hle:=(H.de d hd).le;have hto:0<=m.to/\m.to<4:=by
  rcases hm with hm | hm | hm | hm | hm | hm | hm
  .exact hle _ (dO hm.2.2).1
  .have:=hm.2.1;omega
  .have:=hm.2.1;omega
  .exact hle _ hm.2.2.1
  .have:=hm.2.1;omega
  .exact hle _ hm.2.2.1
  .have:=hm.2.1;omega
 obtain⟨k,hk⟩:∃k:Nat,m.to=(k:Int):=⟨m.to.toNat,aa⟩
 have hkb:k<w.bs.length:=by rw[H.lb];omega
 have hkp:k<w.ps.length:=by rw[H.lp];omega
 have OI:k<w.did.length:=by rw[H.ld];omega
 have gb:=aG hkb;have gp:=aG hkp;have gd:=aG OI;have hne:¬(m.to<0\/4<=m.to):=aa
 have htn:m.to.toNat=k:=by rw[hk];simp
 have eq:v7 jO jD w m=rm jO jD (oQ w k w.bs[k] m) k w.ps[k] w.did[k] m:=by
  unfold v7;simp only[if_neg hne,htn,gb,gp,gd]
 rw[eq]
 have RA:m.kind=2\/m.kind=3\/m.kind=5\/m.kind=7->rm jO jD (oQ w k w.bs[k] m) k w.ps[k] w.did[k] m=oQ w k w.bs[k] m:=λh=>by
  have k1:¬m.kind=1:=aa
  have k4:¬m.kind=4:=aa
  have k6:¬m.kind=6:=aa
  have hs:(oQ w k w.bs[k] m).ps.set k w.ps[k]=(oQ w k w.bs[k] m).ps:=qc gp
  have hp:pQ jO jD w.ps[k] m=(w.ps[k],[],0):=by
   unfold pQ;split
   .simp only[if_neg k1]
   .rfl
  unfold rm ng;rw[hp];simp only[if_true];rw[hs];unfold kf;simp only[AG]
 have Va:m.kind=1\/m.kind=4\/m.kind=6->oQ w k w.bs[k] m=w:=λh=>by
  have:¬(m.to=w.bs[k].id/\m.oU.length=1/\(m.kind=2\/m.kind=3\/m.kind=5\/m.kind=7)):=λh=>aa
  unfold oQ qY;rw[if_neg this];dsimp only;rw[qc gb];unfold kf;simp only[AG]
 rcases hm with⟨a,b,c⟩ | ⟨a,b,c,e⟩ | ⟨a,b,c⟩ | ⟨a,b,c,e⟩ | ⟨a,b,c,e⟩ | ⟨a,b,c,e⟩ | ⟨a,b,c⟩
 .rw[Va (.inl a)];let⟨y,l,h1,h2⟩:=Jh H gp gd hd hn hk (dO c).1 (.inl ⟨a,c⟩);exact⟨_,y,l,h1,h2⟩
 .rw[RA (.inl a)];let⟨x,l,h1,h2⟩:=CU H gb hd hn b hk c (.inl a) (λh=>aa)
  exact⟨x,_,l,h1,h2⟩
 .rw[RA (.inr (.inl a))];let⟨x,l,h1,h2⟩:=CU H gb hd hn b hk c (.inr (.inl a)) (λh=>aa)
  exact⟨x,_,l,h1,h2⟩
 .rw[Va (.inr (.inl a))];let⟨y,l,h1,h2⟩:=Jh H gp gd hd hn hk c (.inr (.inl ⟨a,e⟩));exact⟨_,y,l,h1,h2⟩
 .rw[RA (.inr (.inr (.inl a)))];let⟨x,l,h1,h2⟩:=CU H gb hd hn b hk c (.inr (.inr (.inl a))) (λ_=>e)
  exact⟨x,_,l,h1,h2⟩
 .rw[Va (.inr (.inr a))];let⟨y,l,h1,h2⟩:=Jh H gp gd hd hn hk c (.inr (.inr ⟨a,e⟩));exact⟨_,y,l,h1,h2⟩
 .rw[RA (.inr (.inr (.inr a)))];let⟨x,l,h1,h2⟩:=CU H gb hd hn b hk c (.inr (.inr (.inr a))) (λh=>aa)
  exact⟨x,_,l,h1,h2⟩
end
end Go.Cr
