/- Part of the proof that TopScriptsCard holds. -/
import Derived.Test.YtahlmpbhfljalaaGreatDoorAmGs
import Derived.ProofKit
import Derived.Deep.Slices
import Derived.DataReads
set_option linter.all false
namespace Go.Am
open Go.Deep
inductive TD where
 |b
 |i (k:IntKind)
 |s
 |l (agg:Bool) (cs:List TD)
 deriving Inhabited
inductive mL:TD->AV->Prop where
 |b (x:Bool):mL .b (.bool x)
 |i (k:IntKind) (n:Int) (h1:k.min<=n) (h2:n<=k.max):mL (.i k) (.int k n)
 |s (l:aq) (h:l.length<=maxLen):mL .s (.str l)
 |l1 (td:TD) (es:List AV) (hl:es.length<=maxLen) (h:∀x∈es,mL td x):mL (.l false [td]) (.en false es)
 |la (Sj:List TD) (es:List AV) (hl:es.length<=maxLen) (g:Nat->List AV) (h0:∀(i:Nat)(x:AV),es[i]? = some x->x = .agg (g i)/\(g i).length=Sj.length)
   (h2:∀(i:Nat)(x:AV),es[i]? = some x->∀(j:Nat)(y:AV)(td:TD),(g i)[j]? = some y->Sj[j]? = some td->mL td y):mL (.l true Sj) (.en false es)
def vk(P:Program):Nat->TypeId->Option (List TD)
 |0,_=>none
 |n+1,t =>
  match P.underlying t with
  |some .bool=>some [.b]
  |some (.int k)=>some [.i k]
  |some .string=>some [.s]
  |some (.slice e)=>(vk P n e).bind λcs =>
   if 0<cs.length/\cs.length=P.cellsOf e then
    (match P.underlying e with
     |some (.struct _)=>some [.l true cs]
     |_=>if cs.length=1 then some [.l false cs]else none)
   else none
  |some (.struct o)=>(o.toList.foldlM (λh f=>(vk P n f.type).bind λcs=>if f.offset=h.length/\cs.length=P.cellsOf f.type then some (h++cs)else none) []).bind λcs=>if cs.length=P.cellsOf t then some cs else none
  |some (.array m e)=>(vk P n e).bind λcs=>if cs.length=P.cellsOf e/\(List.replicate m cs).flatten.length=P.cellsOf t then some (List.replicate m cs).flatten else none
  |_=>none
section
variable{H:Type}{enc:TypeId×Value->H}{P:Program}{w:World}{O:ay}
def Gx(O:ay)(w:World)(b:TD)(v:Value):Prop:=∃a,mM O w a v/\mL b a/\v.oneCell'=true
def vR(O:ay)(w:World)(b:List TD)(cs:List Value):Prop:=b.length=cs.length/\∀(j:Nat)(h:TD)(v:Value),b[j]? = some h->cs[j]? = some v->Gx O w h v
def vR.one{b:TD}{v:Value}(h:Gx O w b v):vR O w [b] [v]:=by
 refine⟨rfl,λj i v' h1 h2=>?_⟩
 cases j with
 |zero=>simp at h1 h2;subst h1;subst h2;exact h
 |succ j=>simp at h1
def SL{α:Type}{p:Nat->α->Prop}(n:Nat)(h:∀j,j<n->∃u,p j u):∃vs:List α,vs.length=n/\∀(j:Nat)(u:α),vs[j]? = some u->p j u:=by
 induction n with
 |zero=>exact⟨[],rfl,λj u b=>by simp at b⟩
 |succ n i =>
  let⟨vs,hl,l⟩:=i λj o=>h j aa
  let⟨u,b⟩:=h n aa
  refine⟨vs++[u],by simp[hl],λj x hx=>?_⟩
  by_cases o:j<n
  .rw[aI aa]at hx;exact l j x hx
  .rw[aQ aa]at hx
   have:j=n:=by
    have:=(az.1 hx).1;simp at this;omega
   subst this;simp[hl]at hx;subst hx;exact b
def vR.list{b:List TD}{cs:List Value}(h:vR O w b cs):∃as:List AV,as.length=cs.length/\(∀(j:Nat)(a:AV)(v:Value),as[j]? = some a->cs[j]? = some v->mM O w a v/\v.oneCell'=true)/\∀(j:Nat)(a:AV)(i:TD),as[j]? = some a->b[j]? = some i->mL i a:=by
 let⟨as,h1,h2⟩:=SL (p:=λj a=>∀i v,b[j]? = some i->cs[j]? = some v->mM O w a v/\mL i a/\v.oneCell'=true) cs.length (λj l=>by
  have e1:cs[j]? = some cs[j]:=aF l;have x:b[j]? = some (b[j]'(by rw[h.1];exact l)):=aF _
  let⟨a,k⟩:=h.2 j _ _ x e1;refine⟨a,λi v f1 r=>?_⟩
  rw[x]at f1;rw[e1]at r;cases f1;cases r;exact k)
 refine⟨as,h1,λj a v n o=>?_,λj a i n q=>?_⟩
 .have l:j<b.length:=by rw[h.1];exact(az.1 o).1
  let⟨z,_,y⟩:=h2 j a n _ v (aF l) o;exact⟨z,y⟩
 .have l:j<cs.length:=by rw[<-h.1];exact(az.1 q).1
  exact(h2 j a n i _ q (aF l)).2.1
def KT{a:Addr}{v:Value}(h:w.cell? a=some v):a.spot=none:=by
 unfold World.cell? at h;split at h
 .split at h
  .cases h
  .rename_i hs;simpa using hs
 .cases h
def trod_good:∀(n:Nat)(t:TypeId)(Sj:List TD),vk P n t=some Sj->∀(A:Nat)(cs:List Value)(x:DataW H×List MemPlace),DataW.trod enc P w 0 (λ_=>true) true A t cs=some x->vR (λ_=>False) w Sj cs:=by
 intro n
 induction n with
 |zero=>intro t Sj h;cases h
 |succ n ih =>
  intro t Sj z A cs x hx;simp only[vk]at z;split at z
  .rename_i W;cases z;cases A with
   |zero=>cases hx
   |succ A =>
    simp only[DataW.trod,W]at hx;split at hx<;>first | (cases hx;done) | skip
    all_goals (rename_i heq;first | (cases heq;done) | skip)
    exact .one ⟨.bool _,.bool _,.b _,rfl⟩
  .rename_i k W;cases z;obtain⟨m,rfl,_,hw⟩:=DataW.trod_int W hx;simp only[Lit.wf,aC,decide_eq_true_eq]at hw;exact .one ⟨.int k m,.int k m,.i k m hw.1 hw.2,rfl⟩
  .rename_i W;cases z;cases A with
   |zero=>cases hx
   |succ A =>
    simp only[DataW.trod,W]at hx;split at hx<;>first | (cases hx;done) | skip
    all_goals (rename_i heq;first | (cases heq;done) | skip)
    split at hx
    .rename_i s hs;exact .one ⟨.str _,.str s,.s _ (by simpa using hs),rfl⟩
    .cases hx
  .rename_i e W;simp only[aD]at z;obtain⟨q,U,z⟩:=z;split at z
   .rename_i F;obtain⟨Y,hce⟩:=F
    rcases open_slice W hx with⟨rfl,_⟩ | ⟨a,len,cap,m,nf,D,Pl,rfl,_,hle,hmax,hm,_,hel⟩
    .have M:mM (λ_=>False) w (.en false []) (.slice none 0 0) :=
      .en false [] none 0 0 0 0 (λ_ _=>Go.undef) (λh=>by cases h) (aT _) (λh=>absurd rfl h) (λi x hx=>by simp at hx) (λi x hx=>by simp at hx) (λi x hx=>by simp at hx) (λi x hx=>by simp at hx)
     split at z
     .cases z;exact .one ⟨_,M,.la q [] (bp _) (λ_=>[]) (λi x hx=>by simp at hx) (λi x hx=>by simp at hx),rfl⟩
     .split at z
      .rename_i h1;cases z;obtain⟨G,rfl⟩:=dP.1 h1;exact .one ⟨_,M,.l1 G [] (bp _) (λx hx=>by simp at hx),rfl⟩
      .cases z
    ·
     have Wr:∀i,i<len->∃r:List AV×List Value,r.2.length=q.length/\r.1.length=q.length/\(∀j v,r.2[j]? = some v->w.cell? ((a.add (i*q.length)).add j)=some v)/\
       (∀(j:Nat)(y:AV)(v:Value),r.1[j]? = some y->r.2[j]? = some v->mM (λ_=>False) w y v/\v.oneCell'=true)/\(∀(j:Nat)(y:AV)(G:TD),r.1[j]? = some y->q[j]? = some G->mL G y):=by
      intro i hi;obtain⟨cs',N,Q⟩:=hel i (by rw[hm];simp;omega)
      have hg:=ih e q U nf cs' _ Q;obtain⟨as,k1,k2,k3⟩:=hg.list;refine⟨(as,cs'),hg.1.symm,by rw[k1];exact hg.1.symm,λj v M=>?_,k2,k3⟩
      unfold World.cells? at N;split at N
      .have:=mapM_some_get N j j (by
        have:j<cs'.length:=(az.1 M).1;have e2:=mapM_some_length N;rw[List.length_range]at e2;have e3:j<P.cellsOf e:=aa
        simp[fH e3])
       rw[M,<-hce]at this;exact this
      .cases N
     obtain⟨rows,hrl,L⟩:=SL len Wr
     have WE:∀(i j:Nat)(v:Value),w.cell? ((a.add (i*q.length)).add j)=some v->a.spot=none\/i*q.length+j≠0:=by
      intro i j v M
      by_cases h0:i*q.length+j=0
      .left;have hi0:i*q.length=0:=by omega
       have hj0:j=0:=aa
       simp only[hi0,hj0,Addr.add,if_true]at M;exact KT M
      .exact .inr h0
     have X:0<len->a.spot=none:=by
      intro hl;obtain⟨r1,r2,r3,_,_⟩:=L 0 (rows[0]'aa) (aF aa)
      have hlt:0<(rows[0]'aa).2.length:=by rw[r1];exact Y
      have N:=r3 0 _ (aF hlt)
      rcases WE 0 0 _ N with h | h
      .exact h
      .simp at h
     have hcell:∀(i j:Nat)(v:Value),0<len->w.cell? ((a.add (i*q.length)).add j)=some v->w.cell? ⟨a.block,a.off+i*q.length+j,none⟩=some v:=by
      intro i j v hl M;have hs:=X hl
      have:(a.add (i*q.length)).add j=⟨a.block,a.off+i*q.length+j,none⟩:=by
       obtain⟨b,o,sp⟩:=a;dsimp only at hs;subst hs;unfold Addr.add;split<;>split<;>simp_all
      rw[this]at M;exact M
     have build:∀(mk:List AV->AV),(∀(i:Nat)(r:List AV×List Value),rows[i]? = some r->(mk r.1).cells=r.1)->mM (λ_=>False) w (.en false (rows.map λr=>mk r.1)) (.slice (some a) len cap):=by
      intro mk hmk;have F:(rows.map λr=>mk r.1).length=len:=by simp[hrl]
      have Di:∀(i:Nat)(y:AV),(rows.map λr=>mk r.1)[i]? = some y->∃r,rows[i]? = some r/\y=mk r.1/\i<len:=by
       intro i y E;rw[bM]at E;cases S:rows[i]? with
       |none=>rw[S]at E;cases E
       |some r =>
        rw[S]at E;simp at E;exact⟨r,rfl,E.symm,by have:=(az.1 S).1;omega⟩
      have hf:∀(i:Nat)(y:AV),(rows.map λr=>mk r.1)[i]? = some y->y.cells.length=q.length/\∀(j:Nat)(c:AV),y.cells[j]? = some c->∃v,w.cell? ⟨a.block,a.off+i*q.length+j,none⟩=some v/\v.oneCell'=true/\mM (λ_=>False) w c v:=by
       intro i y E;obtain⟨r,S,rfl,hi⟩:=Di i y E;obtain⟨r1,r2,r3,r4,r5⟩:=L i r S;rw[hmk i r S];refine⟨r2,λj c N=>?_⟩
       have hj:j<r.2.length:=by rw[r1,<-r2];exact(az.1 N).1
       have M:=aF hj;obtain⟨q1,q2⟩:=r4 j c _ N M;exact⟨_,hcell i j _ aa (r3 j _ M),q2,q1⟩
      have:=mM.en (O:=λ_=>False) (w:=w) false (rows.map λr=>mk r.1) (some a) cap a.block a.off q.length (λi j=>(w.cell? ⟨a.block,a.off+i*q.length+j,none⟩).getD Go.undef)
       (λh=>by cases h) (by rw[F];exact hle) (λhne=>by
        have hl:0<len:=by
         rcases dx len with h0 | h0
         .exact absurd (aV (by rw[F];exact h0)) hne
         .exact h0
        have hs:=X hl;refine⟨by obtain⟨b,o,sp⟩:=a;dsimp only at hs;subst hs;rfl,id,?_⟩
        obtain⟨y,E⟩:∃y,(rows.map λr=>mk r.1)[0]? = some y:=⟨_,aF (by rw[F];exact hl)⟩
        obtain⟨f1,f2⟩:=hf 0 y E;obtain⟨v,M,_⟩:=f2 0 (y.cells[0]'(by rw[f1];exact Y)) (aF _)
        exact DB (a:=⟨a.block,a.off+0*q.length+0,none⟩) M)
       (λi y E=>⟨(hf i y E).1,Y⟩)
       (λi y E j c N=>by obtain⟨v,h1,_⟩:=(hf i y E).2 j c N;rw[h1];rfl)
       (λi y E j c N=>by obtain⟨v,h1,h2,_⟩:=(hf i y E).2 j c N;rw[h1];exact h2)
       (λi y E j c N=>by obtain⟨v,h1,_,h3⟩:=(hf i y E).2 j c N;rw[h1];exact h3)
      rw[F]at this;exact this
     split at z
     .cases z;refine .one ⟨_,build AV.agg (λ_ _ _=>rfl),.la q _ (by simp[hrl];omega) (λi=>(rows.getD i ([],[])).1) (λi y E=>?_) (λi y E j c G N Q=>?_),rfl⟩
      .rw[bM]at E;cases S:rows[i]? with
       |none=>rw[S]at E;cases E
       |some r =>
        rw[S]at E;simp at E;have:=L i r S;rw[bK,S];exact⟨E.symm,this.2.1⟩
      .rw[bM]at E;cases S:rows[i]? with
       |none=>rw[S]at E;cases E
       |some r =>
        rw[bK,S]at N;exact(L i r S).2.2.2.2 j c G N Q
     .split at z
      .rename_i h1;cases z;obtain⟨G,rfl⟩:=dP.1 h1;have hagg:∀r∈rows,∃y,r.1=[y]/\mL G y:=by
        intro r S;obtain⟨i,hi⟩:=cU S;obtain⟨_,r2,_,_,r5⟩:=L i r hi;obtain⟨y,E⟩:=dP.1 (by simpa using r2)
        exact⟨y,E,r5 0 y G (by rw[E];rfl) rfl⟩
       refine .one ⟨_,build (λl=>l.headD .dead) (λi r hi=>?_),.l1 G _ (by simp[hrl];omega) (λy E=>?_),rfl⟩
       .obtain⟨y,h1,h2⟩:=hagg r (bE hi);rw[h1];cases h2<;>rfl
       .obtain⟨r,S,rfl⟩:=b7.1 E;obtain⟨y,h1,h2⟩:=hagg r S;rw[h1];exact h2
      .cases z
   .cases z
  .rename_i fs W;simp only[aD]at z;obtain⟨q,U,z⟩:=z;split at z
   .rename_i F;cases z;cases A with
    |zero=>cases hx
    |succ A =>
     have hx':cs.length=P.cellsOf t/\∃xs,fs.toList.mapM (λf=>DataW.trod enc P w 0 (λ_=>true) true A f.type ((cs.drop f.offset).take (P.cellsOf f.type)))=some xs:=by
      simp only[DataW.trod,W]at hx;split at hx
      .rename_i hl;simp only[dB]at hx;obtain⟨xs,T,_⟩:=hx;exact⟨hl,xs,T⟩
      .cases hx
     obtain⟨hl,xs,T⟩:=hx'
     have go:∀(l:List Field)(K res:List TD)(ys:List (DataW H×List MemPlace)),l.foldlM (λK f=>(vk P n f.type).bind λcs=>if f.offset=K.length/\cs.length=P.cellsOf f.type then some (K++cs)else none) K=some res->
       l.mapM (λf=>DataW.trod enc P w 0 (λ_=>true) true A f.type ((cs.drop f.offset).take (P.cellsOf f.type)))=some ys->
       (K.length<=cs.length/\∀(j:Nat)(G:TD)(v:Value),K[j]? = some G->cs[j]? = some v->Gx (λ_=>False) w G v)->
       (res.length<=cs.length/\∀(j:Nat)(G:TD)(v:Value),res[j]? = some G->cs[j]? = some v->Gx (λ_=>False) w G v):=by
      intro l
      induction l with
      |nil =>
       intro K res ys h1 _ h3;simp only[List.foldlM_nil]at h1;cases h1;exact h3
      |cons f l ihl =>
       intro K res ys h1 h2 h3;rw[List.foldlM_cons]at h1;rw[gD]at h2;simp only[Option.bind_eq_bind,aD]at h1 h2;obtain⟨acc',⟨fc,hfc,Z⟩,h1⟩:=h1;obtain⟨y,E,ys',hys,_⟩:=h2;split at Z
       .rename_i N;cases Z;have hg:=ih f.type fc hfc A _ y E;have hgl:fc.length=((cs.drop f.offset).take (P.cellsOf f.type)).length:=hg.1;rw[bI,bW]at hgl;refine ihl _ res ys' h1 hys ⟨by rw[aG];omega,λj G v Q M=>?_⟩
        by_cases hj:j<K.length
        .rw[aI hj]at Q;exact h3.2 j G v Q M
        .rw[aQ aa]at Q
         refine hg.2 (j-K.length) G v Q ?_;have hlt:j-K.length<fc.length:=(az.1 Q).1;rw[cH,if_pos aa,bR,N.1,show K.length+(j-K.length)=j from by omega]
         exact M
       .cases Z
     obtain⟨_,k⟩:=go fs.toList [] _ xs U T ⟨bp _,λj G v Q=>by simp at Q⟩
     exact⟨by rw[F,hl],k⟩
   .cases z
  .rename_i m e W;simp only[aD]at z;obtain⟨q,U,z⟩:=z;split at z
   .rename_i F;cases z;cases A with
    |zero=>cases hx
    |succ A =>
     have hx':cs.length=P.cellsOf t/\∃xs,(List.range m).mapM (λi=>DataW.trod enc P w 0 (λ_=>true) true A e ((cs.drop (i*P.cellsOf e)).take (P.cellsOf e)))=some xs:=by
      simp only[DataW.trod,W]at hx;split at hx
      .rename_i hl;simp only[dB]at hx;obtain⟨xs,T,_⟩:=hx;exact⟨hl,xs,T⟩
      .cases hx
     obtain⟨hl,xs,T⟩:=hx';have hxl:=mapM_some_length T;rw[List.length_range]at hxl
     have go:∀k,k<=m->(List.replicate k q).flatten.length=k*q.length/\∀(j:Nat)(G:TD)(v:Value),(List.replicate k q).flatten[j]? = some G->cs[j]? = some v->Gx (λ_=>False) w G v:=by
      intro k
      induction k with
      |zero=>intro _;exact⟨ah,λj G v Q=>by simp at Q⟩
      |succ k ihk =>
       intro hk;obtain⟨h1,h2⟩:=ihk aa
       have E:=mapM_some_get T k k (fH aa)
       rw[aF aa]at E
       have hg:=ih e q U A _ _ E;have hgl:q.length=((cs.drop (k*P.cellsOf e)).take (P.cellsOf e)).length:=hg.1;rw[bI,bW]at hgl;have er:(List.replicate (k+1) q).flatten=(List.replicate k q).flatten++q:=by rw[gG,List.flatten_append];simp
       rw[er];refine⟨by rw[aG,h1,gQ],λj G v Q M=>?_⟩
       by_cases hj:j<(List.replicate k q).flatten.length
       .rw[aI hj]at Q;exact h2 j G v Q M
       .rw[aQ aa,h1]at Q
        rw[h1]at hj;refine hg.2 (j-k*q.length) G v Q ?_;have hlt:j-k*q.length<q.length:=(az.1 Q).1;rw[cH,if_pos aa,bR,<-F.1,show k*q.length+(j-k*q.length)=j from by omega]
        exact M
     obtain⟨_,k⟩:=go m (aT _);exact⟨by rw[F.2,hl],k⟩
   .cases z
  .cases z
end
open Go.ChangeShapes Go.WideShapes Go.ChangeAt Go.RowKit
def isStr(P:Program)(t:TypeId):Bool:=match P.underlying t with | some (.struct _)=>true | some (.array _ _)=>true | _=>false
def xh(str:Bool)(b:List TD)(a:AV):Prop :=
 if str then ∃cs,a = .agg cs/\cs.length=b.length/\∀(j:Nat)(y:AV)(h:TD),cs[j]? = some y->b[j]? = some h->mL h y
 else ∃h,b=[h]/\mL h a
theorem mL.jD{l:TD}{a:AV}(h:mL l a):a.jD=true:=by cases h<;>rfl
def xh.jE{str:Bool}{b:List TD}{a:AV}(h:xh str b a):a.jE=true:=by
 unfold xh at h;split at h
 .obtain⟨cs,rfl,hl,o⟩:=h;show cs.all AV.jD=true;rw[aJ];intro y n;let⟨j,l⟩:=cU n;have i:j<b.length:=by rw[<-hl];exact(az.1 l).1
  exact(o j y _ l (aF i)).jD
 .let⟨q,_,h⟩:=h;cases h<;>rfl
section
variable{H:Type}{enc:TypeId×Value->H}{P:Program}{w:World}
def OO{n:Nat}{t:TypeId}{l:List TD}(h:vk P n t=some l){base:Nat}{v:Value}(i:Value.okWide P w .any base t v){d:DataW H}{ps:List MemPlace}
  (G:DataW.Trod enc P w 0 (λ_=>true) true t v d ps):∃a,mM (λ_=>False) w a v/\xh (isStr P t) l a:=by
 let⟨A,G⟩:=G;have hg:=trod_good n t l h A _ _ G;let⟨as,o,x,E⟩:=hg.list;unfold isStr xh;cases n with
 |zero=>cases h
 |succ n =>
  simp only[vk]at h;unfold Value.okWide at i
  have one:v.cells = #[v]->(∃q,l=[q])->∃a,mM (λ_=>False) w a v/\∃q,l=[q]/\mL q a:=by
   rintro K ⟨q,rfl⟩
   rw[K]at o x;obtain⟨a,rfl⟩:=dP.1 (show as.length=1 by simpa using o)
   exact⟨a,(x 0 a v rfl rfl).1,q,rfl,E 0 a q rfl rfl⟩
  split at h
  .rename_i b;simp only[b]at i⊢;cases h;simp only[Cell.okWide,b]at i;refine one ?_ ⟨_,rfl⟩;cases v<;>first | rfl | (simp[Cell.ok,b]at i;done)
  .rename_i k b;simp only[b]at i⊢;cases h;simp only[Cell.okWide,b]at i;refine one ?_ ⟨_,rfl⟩;cases v<;>first | rfl | (simp[Cell.ok,b]at i;done)
  .rename_i b;simp only[b]at i⊢;cases h;simp only[Cell.okWide,b]at i;refine one ?_ ⟨_,rfl⟩;cases v<;>first | rfl | (simp[Cell.ok,b]at i;done)
  .rename_i e b;simp only[b]at i⊢;simp only[Cell.okWide,b]at i;refine one ?_ ?_
   .cases v<;>first | rfl | (simp[Cell.ok,b]at i;done)
   .simp only[aD]at h;let⟨cs,_,h⟩:=h;split at h
    .split at h
     .cases h;exact⟨_,rfl⟩
     .split at h
      .cases h;exact⟨_,rfl⟩
      .cases h
    .cases h
  .rename_i L b;simp only[b]at i⊢;obtain⟨cs,rfl,_,_⟩:=i;refine⟨.agg as,?_,as,rfl,by rw[o];exact hg.1.symm,E⟩
   have:Value.agg cs = .agg cs.toList.toArray:=ah
   rw[this];refine .agg as cs.toList (by rw[o];rfl) (λu b=>?_) (λj y u F b=>(x j y u F b).1)
   let⟨j,z⟩:=cU b;have r:j<as.length:=by rw[o];exact(az.1 z).1
   exact(x j _ u (aF r) z).2
  .rename_i m e b;simp only[b]at i⊢;obtain⟨cs,rfl,_,_⟩:=i;refine⟨.agg as,?_,as,rfl,by rw[o];exact hg.1.symm,E⟩
   have:Value.agg cs = .agg cs.toList.toArray:=ah
   rw[this];refine .agg as cs.toList (by rw[o];rfl) (λu b=>?_) (λj y u F b=>(x j y u F b).1)
   let⟨j,z⟩:=cU b;have r:j<as.length:=by rw[o];exact(az.1 z).1
   exact(x j _ u (aF r) z).2
  .cases h
def qi(P:Program)(n:Nat):List TypeId->Option (List (Bool×List TD))
 | []=>some []
 |t::l=>(vk P n t).bind λb=>(qi P n l).bind λr=>some ((isStr P t,b)::r)
inductive pO:List (Bool×List TD)->List AV->Prop where
 |nil:pO [] []
 |cons {p:Bool×List TD} {l:List (Bool×List TD)} {a:AV} {as:List AV} (h:xh p.1 p.2 a) (t:pO l as):pO (p::l) (a::as)
def pO.jE{l:List (Bool×List TD)}{as:List AV}(h:pO l as):as.all AV.jE=true:=by
 induction h with
 |nil=>rfl
 |cons h t b=>simp[h.jE,b]
def Cp{n:Nat}{base:Nat}:∀(b:List TypeId)(vs:List Value)(o:List (DataW H))(ps:List MemPlace)(l:List (Bool×List TD)),qi P n b=some l->
  (∀(j:Nat) t v,b[j]? = some t->vs[j]? = some v->Value.okWide P w .any base t v)->DataW.TrodAll enc P w 0 (λ_=>true) true b vs o ps->
  ∃as:List AV,pO l as/\as.length=vs.length/\o.length=b.length/\∀(j:Nat)(y:AV)(u:Value),as[j]? = some y->vs[j]? = some u->mM (λ_=>False) w y u
 | [],[],[],ps,l,hl,_,_=>by
  simp only[qi]at hl;cases hl;exact⟨[],.nil,rfl,rfl,λj y u i=>by simp at i⟩
 | [],[],_::_,_,_,_,_,h=>h.elim
 | [],_::_,_,_,_,_,_,h=>h.elim
 |_::_,[],_,_,_,_,_,h=>h.elim
 |_::_,_::_,[],_,_,_,_,h=>h.elim
 |t::b,v::vs,d::o,ps,l,hl,F,h=>by
  let⟨p,q,h1,h2,_⟩:=h;simp only[qi,aD]at hl;let⟨G,A,r,Q,hl⟩:=hl;cases hl;let⟨a,S,E⟩:=OO A (F 0 t v rfl rfl) h1;let⟨as,N,M,L,K⟩:=Cp b vs o q r Q (λj t v O x=>F (j+1) t v (ak O) (ak x)) h2
  refine⟨a::as,.cons E N,by simp[M],by simp[L],λj y u i z=>?_⟩
  cases j with
  |zero=>simp at i z;subst i;subst z;exact S
  |succ j=>exact K j y u (ak i) (ak z)
def uj(hl:laidOutB P=true){W y:World}(r:Below W.heap.size W y):∀ {l:List TypeId} {vs:List Value} {o:List (DataW H)} {ps:List MemPlace},l.all (λt=>P.readableRec t&&decide (t<P.types.size))=true->
  DataW.TrodAll enc P W 0 (λ_=>true) true l vs o ps->(∀x∈ps,x.block<W.heap.size)->DataW.TrodAll enc P y 0 (λb=>decide (b<W.heap.size)) true l vs o ps
 | [],[],[],_,_,h,_=>h
 | [],[],_::_,_,_,h,_=>h.elim
 | [],_::_,_,_,_,h,_=>h.elim
 |_::_,[],_,_,_,h,_=>h.elim
 |_::_,_::_,[],_,_,h,_=>h.elim
 |t::l,v::vs,d::o,ps,n,h,i=>by
  obtain⟨p,q,h1,h2,rfl⟩:=h;simp only[cm,aC,decide_eq_true_eq]at n;exact⟨p,q,Below.trod hl n.1.1 n.1.2 h1 r (λx hx=>i x (by simp[hx])),uj hl r n.2 h2 (λx hx=>i x (by simp[hx])),rfl⟩
def AM{W h:World}(b:Below W.heap.size W h)(may:MemPlace->Prop):W.keptBut h may:=by
 refine⟨b.os,b.output,λi l=>?_⟩
 rw[b.block i l];cases n:W.heap[i]? with
 |none=>rfl
 |some o=>cases o<;>simp
def C5{Γ:ja}(hm:P.follows .mixedOrders=true)(Q:js P Γ)(A:laidOutB P=true){f:FuncId}{F:AF}(ok:okF P f F=true){fn:Func}{s:ChangeSpec}(L:s.vars=[])
  (z:fn.params.toList.all (λt=>P.readableRec t&&decide (t<P.types.size))=true) {n:Nat} {l:List (Bool×List TD)} (T:qi P n fn.params.toList=some l)
  {tb:TypeId} (Y:fn.resultTypes = #[tb]) (U:P.underlying tb=some .bool) (hs:∀(H:Type)(r:List (DataW H)),r.length=fn.params.size->s.fn H r={results:=[.lit (.bool true)],args:=r})
  (O:∀args,pO l args->qP Γ F args=some (.bool true))
  {W:World} (hg:∀p∈G0,∃cur t fr,W.heap[p.1]? = some (.cells cur t fr)/\p.2 cur) {base:Nat} {args:Array Value} {r gs:List (DataW H)} {before:List MemPlace} (K:∀(j:Nat) t v,fn.params[j]? = some t->args[j]? = some v->Value.okWide P W .any base t v)
  (hW:DataW.Whole enc P fn.params.toList s.vars false W args.toList r gs before) :
  Calls P f args W λe W'=>∃v,e = .returned v/\s.post enc P fn false true false false W args v W':=by
 have M:=hW;obtain⟨p,q,hA,hV,rfl,hfz,hnd⟩:=hW;rw[L]at hV;have hgq:gs=[]/\q=[]:=by
  cases gs with
  |nil=>exact⟨rfl,hV⟩
  |cons g gs=>exact hV.elim
 obtain⟨rfl,rfl⟩:=hgq;let⟨as,k1,k2,k3,k4⟩:=Cp fn.params.toList args.toList r p l T (λj t v ht S=>K j t v (ak ht) (ak S)) hA
 let⟨_,G⟩:=Ep hm Q ok k1.jE (O as k1) []
 let β0:iW:=λ_ _=>none
 have o:∀c,¬Own (λ_=>False) β0 [] c:=by
  rintro c (h | ⟨i,X,hX,_⟩)
  .exact h
  .simp at hX
 have R0:Rel (λ_=>False) β0 [] W:=⟨λc h=>h.elim,λi c _ h=>h,λ_ _ _=>rfl,λi v sz es v' h=>by simp at h,λi b h=>by simp at h,λi j c ⟨X,hX,_⟩=>by simp at hX,λp hp=>⟨o p.1,hg p hp⟩⟩
 have hc:=G (λ_=>False) β0 W args.toList R0 (ak k2) λj y u hy hu=>.pure _ _ ((k4 j y u hy hu).mono ⟨aT _,λb _ _=>⟨rfl,o b⟩⟩)
 rw[dy]at hc;refine hc.mono ?_
 rintro e W' ⟨v,β',rfl,R1,N,V1⟩
 have S:=V1.lK;subst S;have hb:Below W.heap.size W W':=⟨N.os,N.tape,N.output,N.stay.1,λk hk=>(N.stay.2 k hk (o k)).1⟩
 have Z:∀x∈p,x.block<W.heap.size:=λx hx=>by have:=M.lt x (ak hx);simpa using this
 have E:=hs H (r++[]) (ak k3)
 refine⟨_,rfl,r,[],p++[],[],p,[],M,?_,?_,?_,AM hb _,λh=>by cases h⟩
 .rw[E,Y];exact⟨[],[],⟨1,by simp[DataW.trod,U,Value.cells]⟩,rfl,rfl⟩
 .rw[E,b9];exact uj A hb z hA Z
 .rw[E,L];exact rfl
end
end Go.Am
