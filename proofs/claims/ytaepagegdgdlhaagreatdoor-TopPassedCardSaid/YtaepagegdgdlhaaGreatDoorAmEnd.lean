/- Part of the proof that TopPassedCard holds. -/
import Derived.Test.YtaepagegdgdlhaaGreatDoorAmPu
import Derived.ProofKit
import Derived.Deep.Slices
import Derived.DataReads
set_option linter.all false
namespace Go.Am
open Go.Deep
inductive TD where
 |b
 |i (k:IntKind)
 |s
 |l (agg:Bool) (cs:List TD)
 deriving Inhabited
inductive pY:TD->AV->Prop where
 |b (x:Bool):pY .b (.bool x)
 |i (k:IntKind) (n:Int) (h1:k.min<=n) (h2:n<=k.max):pY (.i k) (.int k n)
 |s (l:au) (h:l.length<=maxLen):pY .s (.str l)
 |l1 (td:TD) (f:Bool) (es:List AV) (hl:es.length<=maxLen) (h:∀x∈es,pY td x):pY (.l false [td]) (.jB f es)
 |la (sr:List TD) (f:Bool) (es:List AV) (hl:es.length<=maxLen) (g:Nat->List AV) (h0:∀(i:Nat)(x:AV),es[i]? = some x->x = .agg (g i)/\(g i).length=sr.length)
   (h2:∀(i:Nat)(x:AV),es[i]? = some x->∀(j:Nat)(y:AV)(td:TD),(g i)[j]? = some y->sr[j]? = some td->pY td y):pY (.l true sr) (.jB f es)
def zw(P:Program):Nat->TypeId->Option (List TD)
 |0,_=>none
 |n+1,t =>
  match P.underlying t with
  |some .bool=>some [.b]
  |some (.int k)=>some [.i k]
  |some .string=>some [.s]
  |some (.slice e)=>(zw P n e).bind λcs =>
   if 0<cs.length/\cs.length=P.cellsOf e then
    (match P.underlying e with
     |some (.struct _)=>some [.l true cs]
     |_=>if cs.length=1 then some [.l false cs]else none)
   else none
  |some (.struct fs)=>(fs.toList.foldlM (λacc f=>(zw P n f.type).bind λcs=>if f.offset=acc.length/\cs.length=P.cellsOf f.type then some (acc++cs)else none) []).bind λcs=>if cs.length=P.cellsOf t then some cs else none
  |some (.array m e)=>(zw P n e).bind λcs=>if cs.length=P.cellsOf e/\(List.replicate m cs).flatten.length=P.cellsOf t then some (List.replicate m cs).flatten else none
  |_=>none
section
variable{H:Type}{enc:TypeId×Value->H}{P:Program}{w:World}{O:az}
def Nv(O:az)(w:World)(td:TD)(v:Value):Prop:=∃a,qW O w a v/\pY td a/\v.oneCell'=true
def As(O:az)(w:World)(sr:List TD)(cs:List Value):Prop:=sr.length=cs.length/\∀(j:Nat)(td:TD)(v:Value),sr[j]? = some td->cs[j]? = some v->Nv O w td v
def As.one{td:TD}{v:Value}(h:Nv O w td v):As O w [td] [v]:=by
 refine⟨rfl,λj td' v' h1 h2=>?_⟩
 cases j with
 |zero=>simp at h1 h2;subst h1;subst h2;exact h
 |succ j=>simp at h1
def abE{α:Type}{p:Nat->α->Prop}(n:Nat)(hp:∀j,j<n->∃u,p j u):∃vs:List α,vs.length=n/\∀(j:Nat)(u:α),vs[j]? = some u->p j u:=by
 induction n with
 |zero=>exact⟨[],rfl,λj u hu=>by simp at hu⟩
 |succ n ih =>
  let⟨vs,hl,hv⟩:=ih λj hj=>hp j aa
  let⟨u,hu⟩:=hp n aa
  refine⟨vs++[u],by simp[hl],λj x hx=>?_⟩
  by_cases hj:j<n
  .rw[aK aa]at hx;exact hv j x hx
  .rw[aV aa]at hx
   have:j=n:=by
    have:=(aF.1 hx).1;simp at this;omega
   subst this;simp[hl]at hx;subst hx;exact hu
def As.list{sr:List TD}{cs:List Value}(h:As O w sr cs):∃as:List AV,as.length=cs.length/\(∀(j:Nat)(a:AV)(v:Value),as[j]? = some a->cs[j]? = some v->qW O w a v/\v.oneCell'=true)/\∀(j:Nat)(a:AV)(td:TD),as[j]? = some a->sr[j]? = some td->pY td a:=by
 let⟨as,h1,h2⟩:=abE (p:=λj a=>∀td v,sr[j]? = some td->cs[j]? = some v->qW O w a v/\pY td a/\v.oneCell'=true) cs.length (λj hj=>by
  have e1:cs[j]? = some cs[j]:=aG hj;have e2:sr[j]? = some (sr[j]'(by rw[h.1];exact hj)):=aG _
  let⟨a,k⟩:=h.2 j _ _ e2 e1;refine⟨a,λtd v f1 f2=>?_⟩
  rw[e2]at f1;rw[e1]at f2;cases f1;cases f2;exact k)
 refine⟨as,h1,λj a v ha hv=>?_,λj a td ha ht=>?_⟩
 .have hj:j<sr.length:=by rw[h.1];exact(aF.1 hv).1
  let⟨k1,_,k3⟩:=h2 j a ha _ v (aG hj) hv;exact⟨k1,k3⟩
 .have hj:j<cs.length:=by rw[<-h.1];exact(aF.1 ht).1
  exact(h2 j a ha td _ ht (aG hj)).2.1
def Tw{a:Addr}{v:Value}(h:w.cell? a=some v):a.spot=none:=by
 unfold World.cell? at h;split at h
 .split at h
  .cases h
  .rename_i hs;simpa using hs
 .cases h
def trod_good:∀(n:Nat)(t:TypeId)(sr:List TD),zw P n t=some sr->∀(fuel:Nat)(cs:List Value)(x:DataW H×List MemPlace),DataW.trod enc P w 0 (λ_=>true) true fuel t cs=some x->As (λ_=>False) w sr cs:=by
 intro n
 induction n with
 |zero=>intro t sr h;cases h
 |succ n ih =>
  intro t sr uP fuel cs x hx;simp only[zw]at uP;split at uP
  .rename_i hu;cases uP;cases fuel with
   |zero=>cases hx
   |succ fuel =>
    simp only[DataW.trod,hu]at hx;split at hx<;>first | (cases hx;done) | skip
    all_goals (rename_i heq;first | (cases heq;done) | skip)
    exact .one ⟨.bool _,.bool _,.b _,rfl⟩
  .rename_i k hu;cases uP;obtain⟨m,rfl,_,hw⟩:=DataW.trod_int hu hx;simp only[Lit.wf,aH,decide_eq_true_eq]at hw;exact .one ⟨.int k m,.int k m,.i k m hw.1 hw.2,rfl⟩
  .rename_i hu;cases uP;cases fuel with
   |zero=>cases hx
   |succ fuel =>
    simp only[DataW.trod,hu]at hx;split at hx<;>first | (cases hx;done) | skip
    all_goals (rename_i heq;first | (cases heq;done) | skip)
    split at hx
    .rename_i s hs;exact .one ⟨.str _,.str s,.s _ (by simpa using hs),rfl⟩
    .cases hx
  .rename_i e hu;simp only[aI]at uP;obtain⟨wE,Wy,uP⟩:=uP;split at uP
   .rename_i hlen;obtain⟨hpos,hce⟩:=hlen
    rcases open_slice hu hx with⟨rfl,_⟩ | ⟨a,len,cap,m,nf,D,Pl,rfl,_,hle,asQ,hm,_,hel⟩
    .have hv:qW (λ_=>False) w (.jB true []) (.slice none 0 0) :=
      .jB true [] none 0 0 0 0 (λ_ _=>Go.undef) (λ_=>rfl) (aN _) (λh=>absurd rfl h) (λi x hx=>by simp at hx) (λi x hx=>by simp at hx) (λi x hx=>by simp at hx) (λi x hx=>by simp at hx)
     split at uP
     .cases uP;exact .one ⟨_,hv,.la wE true [] (cH _) (λ_=>[]) (λi x hx=>by simp at hx) (λi x hx=>by simp at hx),rfl⟩
     .split at uP
      .rename_i h1;cases uP;obtain⟨td,rfl⟩:=dS.1 h1;exact .one ⟨_,hv,.l1 td true [] (cH _) (λx hx=>by simp at hx),rfl⟩
      .cases uP
    · -- the elements
     have aet:∀i,i<len->∃r:List AV×List Value,r.2.length=wE.length/\r.1.length=wE.length/\(∀j v,r.2[j]? = some v->w.cell? ((a.add (i*wE.length)).add j)=some v)/\
       (∀(j:Nat)(y:AV)(v:Value),r.1[j]? = some y->r.2[j]? = some v->qW (λ_=>False) w y v/\v.oneCell'=true)/\(∀(j:Nat)(y:AV)(td:TD),r.1[j]? = some y->wE[j]? = some td->pY td y):=by
      intro i hi;obtain⟨cs',hc,ht⟩:=hel i (by rw[hm];simp;omega)
      have hg:=ih e wE Wy nf cs' _ ht;obtain⟨as,k1,k2,k3⟩:=hg.list;refine⟨(as,cs'),hg.1.symm,by rw[k1];exact hg.1.symm,λj v hv=>?_,k2,k3⟩
      unfold World.cells? at hc;split at hc
      .have:=mapM_some_get hc j j (by
        have:j<cs'.length:=(aF.1 hv).1;have e2:=mapM_some_length hc;rw[dU]at e2;have e3:j<P.cellsOf e:=aa
        simp[gz e3])
       rw[hv,<-hce]at this;exact this
      .cases hc
     obtain⟨rows,hrl,hrows⟩:=abE len aet
     have aeD:∀(i j:Nat)(v:Value),w.cell? ((a.add (i*wE.length)).add j)=some v->a.spot=none\/i*wE.length+j≠0:=by
      intro i j v hv
      by_cases h0:i*wE.length+j=0
      .left;have hi0:i*wE.length=0:=by omega
       have hj0:j=0:=aa
       simp only[hi0,hj0,Addr.add,if_true]at hv;exact Tw hv
      .exact .inr h0
     have abN:0<len->a.spot=none:=by
      intro hl;obtain⟨r1,r2,r3,_,_⟩:=hrows 0 (rows[0]'aa) (aG aa)
      have hlt:0<(rows[0]'aa).2.length:=by rw[r1];exact hpos
      have hc:=r3 0 _ (aG hlt)
      rcases aeD 0 0 _ hc with h | h
      .exact h
      .simp at h
     have hcell:∀(i j:Nat)(v:Value),0<len->w.cell? ((a.add (i*wE.length)).add j)=some v->w.cell? ⟨a.block,a.off+i*wE.length+j,none⟩=some v:=by
      intro i j v hl hv;have hs:=abN hl
      have:(a.add (i*wE.length)).add j=⟨a.block,a.off+i*wE.length+j,none⟩:=by
       obtain⟨b,o,sp⟩:=a;dsimp only at hs;subst hs;unfold Addr.add;split<;>split<;>simp_all
      rw[this]at hv;exact hv
     have build:∀(mk:List AV->AV),(∀(i:Nat)(r:List AV×List Value),rows[i]? = some r->(mk r.1).cells=r.1)->qW (λ_=>False) w (.jB false (rows.map λr=>mk r.1)) (.slice (some a) len cap):=by
      intro mk hmk;have hlen:(rows.map λr=>mk r.1).length=len:=by simp[hrl]
      have wq:∀(i:Nat)(y:AV),(rows.map λr=>mk r.1)[i]? = some y->∃r,rows[i]? = some r/\y=mk r.1/\i<len:=by
       intro i y hy;rw[bW]at hy;cases hr:rows[i]? with
       |none=>rw[hr]at hy;cases hy
       |some r =>
        rw[hr]at hy;simp at hy;exact⟨r,rfl,hy.symm,by have:=(aF.1 hr).1;omega⟩
      have hf:∀(i:Nat)(y:AV),(rows.map λr=>mk r.1)[i]? = some y->y.cells.length=wE.length/\∀(j:Nat)(c:AV),y.cells[j]? = some c->∃v,w.cell? ⟨a.block,a.off+i*wE.length+j,none⟩=some v/\v.oneCell'=true/\qW (λ_=>False) w c v:=by
       intro i y hy;obtain⟨r,hr,rfl,hi⟩:=wq i y hy;obtain⟨r1,r2,r3,r4,r5⟩:=hrows i r hr;rw[hmk i r hr];refine⟨r2,λj c hc=>?_⟩
       have hj:j<r.2.length:=by rw[r1,<-r2];exact(aF.1 hc).1
       have hv:=aG hj;obtain⟨q1,q2⟩:=r4 j c _ hc hv;exact⟨_,hcell i j _ aa (r3 j _ hv),q2,q1⟩
      have:=qW.jB (O:=λ_=>False) (w:=w) false (rows.map λr=>mk r.1) (some a) cap a.block a.off wE.length (λi j=>(w.cell? ⟨a.block,a.off+i*wE.length+j,none⟩).getD Go.undef)
       (λh=>by cases h) (by rw[hlen];exact hle) (λhne=>by
        have hl:0<len:=by
         rcases cM len with h0 | h0
         .exact absurd (aY (by rw[hlen];exact h0)) hne
         .exact h0
        have hs:=abN hl;refine⟨by obtain⟨b,o,sp⟩:=a;dsimp only at hs;subst hs;rfl,id,?_⟩
        obtain⟨y,hy⟩:∃y,(rows.map λr=>mk r.1)[0]? = some y:=⟨_,aG (by rw[hlen];exact hl)⟩
        obtain⟨f1,f2⟩:=hf 0 y hy;obtain⟨v,hv,_⟩:=f2 0 (y.cells[0]'(by rw[f1];exact hpos)) (aG _)
        exact aaP (a:=⟨a.block,a.off+0*wE.length+0,none⟩) hv)
       (λi y hy=>⟨(hf i y hy).1,hpos⟩)
       (λi y hy j c hc=>by obtain⟨v,h1,_⟩:=(hf i y hy).2 j c hc;rw[h1];rfl)
       (λi y hy j c hc=>by obtain⟨v,h1,h2,_⟩:=(hf i y hy).2 j c hc;rw[h1];exact h2)
       (λi y hy j c hc=>by obtain⟨v,h1,_,h3⟩:=(hf i y hy).2 j c hc;rw[h1];exact h3)
      rw[hlen]at this;exact this
     split at uP
     .cases uP;refine .one ⟨_,build AV.agg (λ_ _ _=>rfl),.la wE false _ (by simp[hrl];omega) (λi=>(rows.getD i ([],[])).1) (λi y hy=>?_) (λi y hy j c td hc ht=>?_),rfl⟩
      .rw[bW]at hy;cases hr:rows[i]? with
       |none=>rw[hr]at hy;cases hy
       |some r =>
        rw[hr]at hy;simp at hy;have:=hrows i r hr;rw[bV,hr];exact⟨hy.symm,this.2.1⟩
      .rw[bW]at hy;cases hr:rows[i]? with
       |none=>rw[hr]at hy;cases hy
       |some r =>
        rw[bV,hr]at hc;exact(hrows i r hr).2.2.2.2 j c td hc ht
     .split at uP
      .rename_i h1;cases uP;obtain⟨td,rfl⟩:=dS.1 h1;have hagg:∀r∈rows,∃y,r.1=[y]/\pY td y:=by
        intro r hr;obtain⟨i,hi⟩:=dJ hr;obtain⟨_,r2,_,_,r5⟩:=hrows i r hi;obtain⟨y,hy⟩:=dS.1 (by simpa using r2)
        exact⟨y,hy,r5 0 y td (by rw[hy];rfl) rfl⟩
       refine .one ⟨_,build (λl=>l.headD .dead) (λi r hi=>?_),.l1 td false _ (by simp[hrl];omega) (λy hy=>?_),rfl⟩
       .obtain⟨y,h1,h2⟩:=hagg r (aR hi);rw[h1];cases h2<;>rfl
       .obtain⟨r,hr,rfl⟩:=bx.1 hy;obtain⟨y,h1,h2⟩:=hagg r hr;rw[h1];exact h2
      .cases uP
   .cases uP
  .rename_i fs hu;simp only[aI]at uP;obtain⟨wE,Wy,uP⟩:=uP;split at uP
   .rename_i hlen;cases uP;cases fuel with
    |zero=>cases hx
    |succ fuel =>
     have hx':cs.length=P.cellsOf t/\∃xs,fs.toList.mapM (λf=>DataW.trod enc P w 0 (λ_=>true) true fuel f.type ((cs.drop f.offset).take (P.cellsOf f.type)))=some xs:=by
      simp only[DataW.trod,hu]at hx;split at hx
      .rename_i hl;simp only[iS]at hx;obtain⟨xs,hxs,_⟩:=hx;exact⟨hl,xs,hxs⟩
      .cases hx
     obtain⟨hl,xs,hxs⟩:=hx'
     have go:∀(l:List Field)(acc res:List TD)(ys:List (DataW H×List MemPlace)),l.foldlM (λacc f=>(zw P n f.type).bind λcs=>if f.offset=acc.length/\cs.length=P.cellsOf f.type then some (acc++cs)else none) acc=some res->
       l.mapM (λf=>DataW.trod enc P w 0 (λ_=>true) true fuel f.type ((cs.drop f.offset).take (P.cellsOf f.type)))=some ys->
       (acc.length<=cs.length/\∀(j:Nat)(td:TD)(v:Value),acc[j]? = some td->cs[j]? = some v->Nv (λ_=>False) w td v)->
       (res.length<=cs.length/\∀(j:Nat)(td:TD)(v:Value),res[j]? = some td->cs[j]? = some v->Nv (λ_=>False) w td v):=by
      intro l
      induction l with
      |nil =>
       intro acc res ys h1 _ h3;simp only[List.foldlM_nil]at h1;cases h1;exact h3
      |cons f l ihl =>
       intro acc res ys h1 h2 h3;rw[List.foldlM_cons]at h1;rw[jf]at h2;simp only[Option.bind_eq_bind,aI]at h1 h2;obtain⟨acc',⟨fc,hfc,hacc⟩,h1⟩:=h1;obtain⟨y,hy,ys',hys,_⟩:=h2;split at hacc
       .rename_i hc;cases hacc;have hg:=ih f.type fc hfc fuel _ y hy;have Jf:fc.length=((cs.drop f.offset).take (P.cellsOf f.type)).length:=hg.1;rw[bM,cq]at Jf;refine ihl _ res ys' h1 hys ⟨by rw[aL];omega,λj td v ht hv=>?_⟩
        by_cases hj:j<acc.length
        .rw[aK hj]at ht;exact h3.2 j td v ht hv
        .rw[aV aa]at ht
         refine hg.2 (j-acc.length) td v ht ?_;have hlt:j-acc.length<fc.length:=(aF.1 ht).1;rw[cC,if_pos aa,bU,hc.1,show acc.length+(j-acc.length)=j from by omega]
         exact hv
       .cases hacc
     obtain⟨_,k⟩:=go fs.toList [] _ xs Wy hxs ⟨cH _,λj td v ht=>by simp at ht⟩
     exact⟨by rw[hlen,hl],k⟩
   .cases uP
  .rename_i m e hu;simp only[aI]at uP;obtain⟨wE,Wy,uP⟩:=uP;split at uP
   .rename_i hlen;cases uP;cases fuel with
    |zero=>cases hx
    |succ fuel =>
     have hx':cs.length=P.cellsOf t/\∃xs,(List.range m).mapM (λi=>DataW.trod enc P w 0 (λ_=>true) true fuel e ((cs.drop (i*P.cellsOf e)).take (P.cellsOf e)))=some xs:=by
      simp only[DataW.trod,hu]at hx;split at hx
      .rename_i hl;simp only[iS]at hx;obtain⟨xs,hxs,_⟩:=hx;exact⟨hl,xs,hxs⟩
      .cases hx
     obtain⟨hl,xs,hxs⟩:=hx';have hxl:=mapM_some_length hxs;rw[dU]at hxl
     have go:∀k,k<=m->(List.replicate k wE).flatten.length=k*wE.length/\∀(j:Nat)(td:TD)(v:Value),(List.replicate k wE).flatten[j]? = some td->cs[j]? = some v->Nv (λ_=>False) w td v:=by
      intro k
      induction k with
      |zero=>intro _;exact⟨ah,λj td v ht=>by simp at ht⟩
      |succ k ihk =>
       intro hk;obtain⟨h1,h2⟩:=ihk aa
       have hy:=mapM_some_get hxs k k (gz aa)
       rw[aG aa]at hy
       have hg:=ih e wE Wy fuel _ _ hy;have Jf:wE.length=((cs.drop (k*P.cellsOf e)).take (P.cellsOf e)).length:=hg.1;rw[bM,cq]at Jf;have er:(List.replicate (k+1) wE).flatten=(List.replicate k wE).flatten++wE:=by rw[jk,List.flatten_append];simp
       rw[er];refine⟨by rw[aL,h1,Nat.succ_mul],λj td v ht hv=>?_⟩
       by_cases hj:j<(List.replicate k wE).flatten.length
       .rw[aK hj]at ht;exact h2 j td v ht hv
       .rw[aV aa,h1]at ht
        rw[h1]at hj;refine hg.2 (j-k*wE.length) td v ht ?_;have hlt:j-k*wE.length<wE.length:=(aF.1 ht).1;rw[cC,if_pos aa,bU,<-hlen.1,show k*wE.length+(j-k*wE.length)=j from by omega]
        exact hv
     obtain⟨_,k⟩:=go m (aN _);exact⟨by rw[hlen.2,hl],k⟩
   .cases uP
  .cases uP
end
open Go.ChangeShapes Go.WideShapes Go.ChangeAt Go.RowKit
def isStr(P:Program)(t:TypeId):Bool:=match P.underlying t with | some (.struct _)=>true | some (.array _ _)=>true | _=>false
def B4(str:Bool)(sr:List TD)(a:AV):Prop :=
 if str then ∃cs,a = .agg cs/\cs.length=sr.length/\∀(j:Nat)(y:AV)(td:TD),cs[j]? = some y->sr[j]? = some td->pY td y
 else ∃td,sr=[td]/\pY td a
theorem pY.kZ{td:TD}{a:AV}(h:pY td a):a.kZ=true:=by cases h<;>rfl
def B4.lT{str:Bool}{sr:List TD}{a:AV}(h:B4 str sr a):a.lT=true:=by
 unfold B4 at h;split at h
 .obtain⟨cs,rfl,hl,hc⟩:=h;show cs.all AV.kZ=true;rw[aO];intro y hy;let⟨j,hj⟩:=dJ hy;have hlt:j<sr.length:=by rw[<-hl];exact(aF.1 hj).1
  exact(hc j y _ hj (aG hlt)).kZ
 .let⟨td,_,h⟩:=h;cases h<;>rfl
section
variable{H:Type}{enc:TypeId×Value->H}{P:Program}{w:World}
def Yg{n:Nat}{t:TypeId}{sr:List TD}(ht:zw P n t=some sr){base:Nat}{v:Value}(hv:Value.okWide P w .any base t v){d:DataW H}{ps:List MemPlace}
  (hr:DataW.Trod enc P w 0 (λ_=>true) true t v d ps):∃a,qW (λ_=>False) w a v/\B4 (isStr P t) sr a:=by
 let⟨fuel,hr⟩:=hr;have hg:=trod_good n t sr ht fuel _ _ hr;let⟨as,k1,k2,k3⟩:=hg.list;unfold isStr B4;cases n with
 |zero=>cases ht
 |succ n =>
  simp only[zw]at ht;unfold Value.okWide at hv
  have one:v.cells = #[v]->(∃td,sr=[td])->∃a,qW (λ_=>False) w a v/\∃td,sr=[td]/\pY td a:=by
   rintro hc ⟨td,rfl⟩
   rw[hc]at k1 k2;obtain⟨a,rfl⟩:=dS.1 (show as.length=1 by simpa using k1)
   exact⟨a,(k2 0 a v rfl rfl).1,td,rfl,k3 0 a td rfl rfl⟩
  split at ht
  .rename_i hu;simp only[hu]at hv⊢;cases ht;simp only[Cell.okWide,hu]at hv;refine one ?_ ⟨_,rfl⟩;cases v<;>first | rfl | (simp[Cell.ok,hu]at hv;done)
  .rename_i k hu;simp only[hu]at hv⊢;cases ht;simp only[Cell.okWide,hu]at hv;refine one ?_ ⟨_,rfl⟩;cases v<;>first | rfl | (simp[Cell.ok,hu]at hv;done)
  .rename_i hu;simp only[hu]at hv⊢;cases ht;simp only[Cell.okWide,hu]at hv;refine one ?_ ⟨_,rfl⟩;cases v<;>first | rfl | (simp[Cell.ok,hu]at hv;done)
  .rename_i e hu;simp only[hu]at hv⊢;simp only[Cell.okWide,hu]at hv;refine one ?_ ?_
   .cases v<;>first | rfl | (simp[Cell.ok,hu]at hv;done)
   .simp only[aI]at ht;let⟨cs,_,ht⟩:=ht;split at ht
    .split at ht
     .cases ht;exact⟨_,rfl⟩
     .split at ht
      .cases ht;exact⟨_,rfl⟩
      .cases ht
    .cases ht
  .rename_i fs hu;simp only[hu]at hv⊢;obtain⟨cs,rfl,_,_⟩:=hv;refine⟨.agg as,?_,as,rfl,by rw[k1];exact hg.1.symm,k3⟩
   have:Value.agg cs = .agg cs.toList.toArray:=ah
   rw[this];refine .agg as cs.toList (by rw[k1];rfl) (λu hu=>?_) (λj y u hy hu=>(k2 j y u hy hu).1)
   let⟨j,hj⟩:=dJ hu;have hlt:j<as.length:=by rw[k1];exact(aF.1 hj).1
   exact(k2 j _ u (aG hlt) hj).2
  .rename_i m e hu;simp only[hu]at hv⊢;obtain⟨cs,rfl,_,_⟩:=hv;refine⟨.agg as,?_,as,rfl,by rw[k1];exact hg.1.symm,k3⟩
   have:Value.agg cs = .agg cs.toList.toArray:=ah
   rw[this];refine .agg as cs.toList (by rw[k1];rfl) (λu hu=>?_) (λj y u hy hu=>(k2 j y u hy hu).1)
   let⟨j,hj⟩:=dJ hu;have hlt:j<as.length:=by rw[k1];exact(aF.1 hj).1
   exact(k2 j _ u (aG hlt) hj).2
  .cases ht
def uG(P:Program)(n:Nat):List TypeId->Option (List (Bool×List TD))
 | []=>some []
 |t::l=>(zw P n t).bind λsr=>(uG P n l).bind λr=>some ((isStr P t,sr)::r)
inductive tZ:List (Bool×List TD)->List AV->Prop where
 |nil:tZ [] []
 |cons {p:Bool×List TD} {l:List (Bool×List TD)} {a:AV} {as:List AV} (h:B4 p.1 p.2 a) (t:tZ l as):tZ (p::l) (a::as)
def tZ.lT{l:List (Bool×List TD)}{as:List AV}(h:tZ l as):as.all AV.lT=true:=by
 induction h with
 |nil=>rfl
 |cons h t ih=>simp[h.lT,ih]
def H9{n:Nat}{base:Nat}:∀(ts:List TypeId)(vs:List Value)(ds:List (DataW H))(ps:List MemPlace)(l:List (Bool×List TD)),uG P n ts=some l->
  (∀(j:Nat) t v,ts[j]? = some t->vs[j]? = some v->Value.okWide P w .any base t v)->DataW.TrodAll enc P w 0 (λ_=>true) true ts vs ds ps->
  ∃as:List AV,tZ l as/\as.length=vs.length/\ds.length=ts.length/\∀(j:Nat)(y:AV)(u:Value),as[j]? = some y->vs[j]? = some u->qW (λ_=>False) w y u
 | [],[],[],ps,l,hl,_,_=>by
  simp only[uG]at hl;cases hl;exact⟨[],.nil,rfl,rfl,λj y u hy=>by simp at hy⟩
 | [],[],_::_,_,_,_,_,h=>h.elim
 | [],_::_,_,_,_,_,_,h=>h.elim
 |_::_,[],_,_,_,_,_,h=>h.elim
 |_::_,_::_,[],_,_,_,_,h=>h.elim
 |t::ts,v::vs,d::ds,ps,l,hl,hv,h=>by
  let⟨p,q,h1,h2,_⟩:=h;simp only[uG,aI]at hl;let⟨sr,uP,r,hr,hl⟩:=hl;cases hl;let⟨a,ha,WI⟩:=Yg uP (hv 0 t v rfl rfl) h1;let⟨as,k1,k2,k3,k4⟩:=H9 ts vs ds q r hr (λj t v ht hv'=>hv (j+1) t v (an ht) (an hv')) h2
  refine⟨a::as,.cons WI k1,by simp[k2],by simp[k3],λj y u hy hu=>?_⟩
  cases j with
  |zero=>simp at hy hu;subst hy;subst hu;exact ha
  |succ j=>exact k4 j y u (an hy) (an hu)
def yp(hl:laidOutB P=true){W W':World}(hb:Below W.heap.size W W'):∀ {ts:List TypeId} {vs:List Value} {ds:List (DataW H)} {ps:List MemPlace},ts.all (λt=>P.readableRec t&&decide (t<P.types.size))=true->
  DataW.TrodAll enc P W 0 (λ_=>true) true ts vs ds ps->(∀x∈ps,x.block<W.heap.size)->DataW.TrodAll enc P W' 0 (λb=>decide (b<W.heap.size)) true ts vs ds ps
 | [],[],[],_,_,h,_=>h
 | [],[],_::_,_,_,h,_=>h.elim
 | [],_::_,_,_,_,h,_=>h.elim
 |_::_,[],_,_,_,h,_=>h.elim
 |_::_,_::_,[],_,_,h,_=>h.elim
 |t::ts,v::vs,d::ds,ps,hr,h,hlt=>by
  obtain⟨p,q,h1,h2,rfl⟩:=h;simp only[bH,aH,decide_eq_true_eq]at hr;exact⟨p,q,Below.trod hl hr.1.1 hr.1.2 h1 hb (λx hx=>hlt x (by simp[hx])),yp hl hb hr.2 h2 (λx hx=>hlt x (by simp[hx])),rfl⟩
def Gt{W W':World}(hb:Below W.heap.size W W')(may:MemPlace->Prop):W.keptBut W' may:=by
 refine⟨hb.os,hb.output,λi hi=>?_⟩
 rw[hb.block i hi];cases hq:W.heap[i]? with
 |none=>rfl
 |some o=>cases o<;>simp
def I2{Γ:kP}(hm:P.follows .mixedOrders=true)(hΓ:mH P Γ)(hlaid:laidOutB P=true){f:FuncId}{F:AF}(ok:okF P f F=true){fn:Func}{s:ChangeSpec}(hsv:s.vars=[])
  (hread:fn.params.toList.all (λt=>P.readableRec t&&decide (t<P.types.size))=true) {n:Nat} {l:List (Bool×List TD)} (uP:uG P n fn.params.toList=some l)
  {tb:TypeId} (hrt:fn.resultTypes = #[tb]) (htb:P.underlying tb=some .bool) (hs:∀(H:Type)(ds:List (DataW H)),ds.length=fn.params.size->s.fn H ds={results:=[.lit (.bool true)],args:=ds})
  (law:∀args,tZ l args->rV Γ F args=some (.bool true))
  {W:World} {base:Nat} {args:Array Value} {ds gs:List (DataW H)} {before:List MemPlace} (hval:∀(j:Nat) t v,fn.params[j]? = some t->args[j]? = some v->Value.okWide P W .any base t v)
  (hW:DataW.Whole enc P fn.params.toList s.vars false W args.toList ds gs before) :
  Calls P f args W λe W'=>∃v,e = .returned v/\s.post enc P fn false true false false W args v W':=by
 have ON:=hW;obtain⟨p,q,hA,hV,rfl,hfz,C5⟩:=hW;rw[hsv]at hV;have hgq:gs=[]/\q=[]:=by
  cases gs with
  |nil=>exact⟨rfl,hV⟩
  |cons g gs=>exact hV.elim
 obtain⟨rfl,rfl⟩:=hgq;let⟨as,k1,k2,k3,k4⟩:=H9 fn.params.toList args.toList ds p l uP (λj t v ht hv=>hval j t v (an ht) (an hv)) hA
 let⟨_,sV⟩:=Ll hm hΓ ok k1.lT (law as k1) []
 let β0:kW:=λ_ _=>none
 have ajd:∀c,¬Own (λ_=>False) β0 [] c:=by
  rintro c (h | ⟨i,X,hX,_⟩)
  .exact h
  .simp at hX
 have R0:Rel (λ_=>False) β0 [] W:=⟨λc h=>h.elim,λi c _ h=>h,λ_ _ _=>rfl,λi v sz es v' h=>by simp at h,λi b h=>by simp at h,λi j c ⟨X,hX,_⟩=>by simp at hX⟩
 have hc:=sV (λ_=>False) β0 W args.toList R0 (an k2) λj y u hy hu=>.pure _ _ ((k4 j y u hy hu).mono ⟨aN _,λb _ _=>⟨rfl,ajd b⟩⟩)
 rw[dQ]at hc;refine hc.mono ?_
 rintro e W' ⟨v,β',rfl,R1,F1,V1⟩
 have hv:=V1.pF;subst hv;have hb:Below W.heap.size W W':=⟨F1.os,F1.tape,F1.output,F1.stay.1,λk hk=>(F1.stay.2 k hk (ajd k)).1⟩
 have hlt:∀x∈p,x.block<W.heap.size:=λx hx=>by have:=ON.lt x (an hx);simpa using this
 have hfn:=hs H (ds++[]) (an k3)
 refine⟨_,rfl,ds,[],p++[],[],p,[],ON,?_,?_,?_,Gt hb _,λh=>by cases h⟩
 .rw[hfn,hrt];exact⟨[],[],⟨1,by simp[DataW.trod,htb,Value.cells]⟩,rfl,rfl⟩
 .rw[hfn,dz];exact yp hlaid hb hread hA hlt
 .rw[hfn,hsv];exact rfl
end
end Go.Am
