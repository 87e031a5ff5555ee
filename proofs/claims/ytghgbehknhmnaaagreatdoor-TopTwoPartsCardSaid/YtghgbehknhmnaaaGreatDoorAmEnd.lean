/- Part of the proof that TopTwoPartsCard holds. -/
import Derived.Test.YtghgbehknhmnaaaGreatDoorAmPu
import Derived.ProofKit
import Derived.Deep.Slices
import Derived.DataReads
set_option linter.all false
namespace Go.Am
open Go.Deep
inductive TD where
 |b
 |i (k:IntKind)
 |s
 |l (agg:Bool) (cs:List TD)
 deriving Inhabited
inductive nL:TD->AV->Prop where
 |b (x:Bool):nL .b (.bool x)
 |i (k:IntKind) (n:Int) (h1:k.min<=n) (h2:n<=k.max):nL (.i k) (.int k n)
 |s (l:au) (h:l.length<=maxLen):nL .s (.str l)
 |l1 (td:TD) (es:List AV) (hl:es.length<=maxLen) (h:∀x∈es,nL td x):nL (.l false [td]) (.b9 false es)
 |la (SI:List TD) (es:List AV) (hl:es.length<=maxLen) (g:Nat->List AV) (h0:∀(i:Nat)(x:AV),es[i]? = some x->x = .agg (g i)/\(g i).length=SI.length)
   (h2:∀(i:Nat)(x:AV),es[i]? = some x->∀(j:Nat)(y:AV)(td:TD),(g i)[j]? = some y->SI[j]? = some td->nL td y):nL (.l true SI) (.b9 false es)
def v8(P:Program):Nat->TypeId->Option (List TD)
 |0,_=>none
 |n+1,t =>
  match P.underlying t with
  |some .bool=>some [.b]
  |some (.int k)=>some [.i k]
  |some .string=>some [.s]
  |some (.slice e)=>(v8 P n e).bind λcs =>
   if 0<cs.length/\cs.length=P.cellsOf e then
    (match P.underlying e with
     |some (.struct _)=>some [.l true cs]
     |_=>if cs.length=1 then some [.l false cs]else none)
   else none
  |some (.struct o)=>(o.toList.foldlM (λh f=>(v8 P n f.type).bind λcs=>if f.offset=h.length/\cs.length=P.cellsOf f.type then some (h++cs)else none) []).bind λcs=>if cs.length=P.cellsOf t then some cs else none
  |some (.array m e)=>(v8 P n e).bind λcs=>if cs.length=P.cellsOf e/\(List.replicate m cs).flatten.length=P.cellsOf t then some (List.replicate m cs).flatten else none
  |_=>none
section
variable{H:Type}{enc:TypeId×Value->H}{P:Program}{w:World}{O:az}
def GS(O:az)(w:World)(b:TD)(v:Value):Prop:=∃a,oF O w a v/\nL b a/\v.oneCell'=true
def wV(O:az)(w:World)(b:List TD)(cs:List Value):Prop:=b.length=cs.length/\∀(j:Nat)(h:TD)(v:Value),b[j]? = some h->cs[j]? = some v->GS O w h v
def wV.one{b:TD}{v:Value}(h:GS O w b v):wV O w [b] [v]:=by
 refine⟨rfl,λj i v' h1 h2=>?_⟩
 cases j with
 |zero=>simp at h1 h2;subst h1;subst h2;exact h
 |succ j=>simp at h1
def S9{α:Type}{p:Nat->α->Prop}(n:Nat)(i:∀j,j<n->∃u,p j u):∃vs:List α,vs.length=n/\∀(j:Nat)(u:α),vs[j]? = some u->p j u:=by
 induction n with
 |zero=>exact⟨[],rfl,λj u h=>by simp at h⟩
 |succ n l =>
  let⟨vs,hl,o⟩:=l λj q=>i j af
  let⟨u,h⟩:=i n af
  refine⟨vs++[u],by simp[hl],λj x b=>?_⟩
  by_cases q:j<n
  .rw[aJ af]at b;exact o j x b
  .rw[aQ af]at b
   have:j=n:=by
    have:=(aD.1 b).1;simp at this;omega
   subst this;simp[hl]at b;subst b;exact h
def wV.list{b:List TD}{cs:List Value}(h:wV O w b cs):∃as:List AV,as.length=cs.length/\(∀(j:Nat)(a:AV)(v:Value),as[j]? = some a->cs[j]? = some v->oF O w a v/\v.oneCell'=true)/\∀(j:Nat)(a:AV)(i:TD),as[j]? = some a->b[j]? = some i->nL i a:=by
 let⟨as,h1,h2⟩:=S9 (p:=λj a=>∀i v,b[j]? = some i->cs[j]? = some v->oF O w a v/\nL i a/\v.oneCell'=true) cs.length (λj l=>by
  have e1:cs[j]? = some cs[j]:=aH l;have x:b[j]? = some (b[j]'(by rw[h.1];exact l)):=aH _
  let⟨a,k⟩:=h.2 j _ _ x e1;refine⟨a,λi v f1 r=>?_⟩
  rw[x]at f1;rw[e1]at r;cases f1;cases r;exact k)
 refine⟨as,h1,λj a v n o=>?_,λj a i n q=>?_⟩
 .have l:j<b.length:=by rw[h.1];exact(aD.1 o).1
  let⟨z,_,y⟩:=h2 j a n _ v (aH l) o;exact⟨z,y⟩
 .have l:j<cs.length:=by rw[<-h.1];exact(aD.1 q).1
  exact(h2 j a n i _ q (aH l)).2.1
def Lf{a:Addr}{v:Value}(h:w.cell? a=some v):a.spot=none:=by
 unfold World.cell? at h;split at h
 .split at h
  .cases h
  .rename_i hs;simpa using hs
 .cases h
def trod_good:∀(n:Nat)(t:TypeId)(SI:List TD),v8 P n t=some SI->∀(A:Nat)(cs:List Value)(x:DataW H×List MemPlace),DataW.trod enc P w 0 (λ_=>true) true A t cs=some x->wV (λ_=>False) w SI cs:=by
 intro n
 induction n with
 |zero=>intro t SI h;cases h
 |succ n ih =>
  intro t SI z A cs x F;simp only[v8]at z;split at z
  .rename_i X;cases z;cases A with
   |zero=>cases F
   |succ A =>
    simp only[DataW.trod,X]at F;split at F<;>first | (cases F;done) | skip
    all_goals (rename_i heq;first | (cases heq;done) | skip)
    exact .one ⟨.bool _,.bool _,.b _,rfl⟩
  .rename_i k X;cases z;obtain⟨m,rfl,_,hw⟩:=DataW.trod_int X F;simp only[Lit.wf,aF,decide_eq_true_eq]at hw;exact .one ⟨.int k m,.int k m,.i k m hw.1 hw.2,rfl⟩
  .rename_i X;cases z;cases A with
   |zero=>cases F
   |succ A =>
    simp only[DataW.trod,X]at F;split at F<;>first | (cases F;done) | skip
    all_goals (rename_i heq;first | (cases heq;done) | skip)
    split at F
    .rename_i s hs;exact .one ⟨.str _,.str s,.s _ (by simpa using hs),rfl⟩
    .cases F
  .rename_i e X;simp only[aG]at z;obtain⟨q,W,z⟩:=z;split at z
   .rename_i G;obtain⟨Z,hce⟩:=G
    rcases open_slice X F with⟨rfl,_⟩ | ⟨a,len,cap,m,nf,D,Pl,rfl,_,hle,ak0,hm,_,hel⟩
    .have N:oF (λ_=>False) w (.b9 false []) (.slice none 0 0) :=
      .b9 false [] none 0 0 0 0 (λ_ _=>Go.undef) (λh=>by cases h) (aV _) (λh=>absurd rfl h) (λi x F=>by simp at F) (λi x F=>by simp at F) (λi x F=>by simp at F) (λi x F=>by simp at F)
     split at z
     .cases z;exact .one ⟨_,N,.la q [] (aT _) (λ_=>[]) (λi x F=>by simp at F) (λi x F=>by simp at F),rfl⟩
     .split at z
      .rename_i h1;cases z;obtain⟨K,rfl⟩:=dV.1 h1;exact .one ⟨_,N,.l1 K [] (aT _) (λx F=>by simp at F),rfl⟩
      .cases z
    ·
     have WH:∀i,i<len->∃r:List AV×List Value,r.2.length=q.length/\r.1.length=q.length/\(∀j v,r.2[j]? = some v->w.cell? ((a.add (i*q.length)).add j)=some v)/\
       (∀(j:Nat)(y:AV)(v:Value),r.1[j]? = some y->r.2[j]? = some v->oF (λ_=>False) w y v/\v.oneCell'=true)/\(∀(j:Nat)(y:AV)(K:TD),r.1[j]? = some y->q[j]? = some K->nL K y):=by
      intro i hi;obtain⟨cs',Q,S⟩:=hel i (by rw[hm];simp;omega)
      have hg:=ih e q W nf cs' _ S;obtain⟨as,k1,k2,k3⟩:=hg.list;refine⟨(as,cs'),hg.1.symm,by rw[k1];exact hg.1.symm,λj v N=>?_,k2,k3⟩
      unfold World.cells? at Q;split at Q
      .have:=mapM_some_get Q j j (by
        have:j<cs'.length:=(aD.1 N).1;have e2:=mapM_some_length Q;rw[List.length_range]at e2;have e3:j<P.cellsOf e:=af
        simp[gh e3])
       rw[N,<-hce]at this;exact this
      .cases Q
     obtain⟨rows,hrl,M⟩:=S9 len WH
     have WT:∀(i j:Nat)(v:Value),w.cell? ((a.add (i*q.length)).add j)=some v->a.spot=none\/i*q.length+j≠0:=by
      intro i j v N
      by_cases h0:i*q.length+j=0
      .left;have hi0:i*q.length=0:=by omega
       have hj0:j=0:=af
       simp only[hi0,hj0,Addr.add,if_true]at N;exact Lf N
      .exact .inr h0
     have Y:0<len->a.spot=none:=by
      intro hl;obtain⟨r1,r2,r3,_,_⟩:=M 0 (rows[0]'af) (aH af)
      have hlt:0<(rows[0]'af).2.length:=by rw[r1];exact Z
      have Q:=r3 0 _ (aH hlt)
      rcases WT 0 0 _ Q with h | h
      .exact h
      .simp at h
     have hcell:∀(i j:Nat)(v:Value),0<len->w.cell? ((a.add (i*q.length)).add j)=some v->w.cell? ⟨a.block,a.off+i*q.length+j,none⟩=some v:=by
      intro i j v hl N;have hs:=Y hl
      have:(a.add (i*q.length)).add j=⟨a.block,a.off+i*q.length+j,none⟩:=by
       obtain⟨b,o,sp⟩:=a;dsimp only at hs;subst hs;unfold Addr.add;split<;>split<;>simp_all
      rw[this]at N;exact N
     have build:∀(mk:List AV->AV),(∀(i:Nat)(r:List AV×List Value),rows[i]? = some r->(mk r.1).cells=r.1)->oF (λ_=>False) w (.b9 false (rows.map λr=>mk r.1)) (.slice (some a) len cap):=by
      intro mk hmk;have G:(rows.map λr=>mk r.1).length=len:=by simp[hrl]
      have NR:∀(i:Nat)(y:AV),(rows.map λr=>mk r.1)[i]? = some y->∃r,rows[i]? = some r/\y=mk r.1/\i<len:=by
       intro i y E;rw[bP]at E;cases T:rows[i]? with
       |none=>rw[T]at E;cases E
       |some r =>
        rw[T]at E;simp at E;exact⟨r,rfl,E.symm,by have:=(aD.1 T).1;omega⟩
      have hf:∀(i:Nat)(y:AV),(rows.map λr=>mk r.1)[i]? = some y->y.cells.length=q.length/\∀(j:Nat)(c:AV),y.cells[j]? = some c->∃v,w.cell? ⟨a.block,a.off+i*q.length+j,none⟩=some v/\v.oneCell'=true/\oF (λ_=>False) w c v:=by
       intro i y E;obtain⟨r,T,rfl,hi⟩:=NR i y E;obtain⟨r1,r2,r3,r4,r5⟩:=M i r T;rw[hmk i r T];refine⟨r2,λj c Q=>?_⟩
       have hj:j<r.2.length:=by rw[r1,<-r2];exact(aD.1 Q).1
       have N:=aH hj;obtain⟨q1,q2⟩:=r4 j c _ Q N;exact⟨_,hcell i j _ af (r3 j _ N),q2,q1⟩
      have:=oF.b9 (O:=λ_=>False) (w:=w) false (rows.map λr=>mk r.1) (some a) cap a.block a.off q.length (λi j=>(w.cell? ⟨a.block,a.off+i*q.length+j,none⟩).getD Go.undef)
       (λh=>by cases h) (by rw[G];exact hle) (λhne=>by
        have hl:0<len:=by
         rcases dH len with h0 | h0
         .exact absurd (bh (by rw[G];exact h0)) hne
         .exact h0
        have hs:=Y hl;refine⟨by obtain⟨b,o,sp⟩:=a;dsimp only at hs;subst hs;rfl,id,?_⟩
        obtain⟨y,E⟩:∃y,(rows.map λr=>mk r.1)[0]? = some y:=⟨_,aH (by rw[G];exact hl)⟩
        obtain⟨f1,f2⟩:=hf 0 y E;obtain⟨v,N,_⟩:=f2 0 (y.cells[0]'(by rw[f1];exact Z)) (aH _)
        exact qu (a:=⟨a.block,a.off+0*q.length+0,none⟩) N)
       (λi y E=>⟨(hf i y E).1,Z⟩)
       (λi y E j c Q=>by obtain⟨v,h1,_⟩:=(hf i y E).2 j c Q;rw[h1];rfl)
       (λi y E j c Q=>by obtain⟨v,h1,h2,_⟩:=(hf i y E).2 j c Q;rw[h1];exact h2)
       (λi y E j c Q=>by obtain⟨v,h1,_,h3⟩:=(hf i y E).2 j c Q;rw[h1];exact h3)
      rw[G]at this;exact this
     split at z
     .cases z;refine .one ⟨_,build AV.agg (λ_ _ _=>rfl),.la q _ (by simp[hrl];omega) (λi=>(rows.getD i ([],[])).1) (λi y E=>?_) (λi y E j c K Q S=>?_),rfl⟩
      .rw[bP]at E;cases T:rows[i]? with
       |none=>rw[T]at E;cases E
       |some r =>
        rw[T]at E;simp at E;have:=M i r T;rw[bY,T];exact⟨E.symm,this.2.1⟩
      .rw[bP]at E;cases T:rows[i]? with
       |none=>rw[T]at E;cases E
       |some r =>
        rw[bY,T]at Q;exact(M i r T).2.2.2.2 j c K Q S
     .split at z
      .rename_i h1;cases z;obtain⟨K,rfl⟩:=dV.1 h1;have hagg:∀r∈rows,∃y,r.1=[y]/\nL K y:=by
        intro r T;obtain⟨i,hi⟩:=dy T;obtain⟨_,r2,_,_,r5⟩:=M i r hi;obtain⟨y,E⟩:=dV.1 (by simpa using r2)
        exact⟨y,E,r5 0 y K (by rw[E];rfl) rfl⟩
       refine .one ⟨_,build (λl=>l.headD .dead) (λi r hi=>?_),.l1 K _ (by simp[hrl];omega) (λy E=>?_),rfl⟩
       .obtain⟨y,h1,h2⟩:=hagg r (bL hi);rw[h1];cases h2<;>rfl
       .obtain⟨r,T,rfl⟩:=cQ.1 E;obtain⟨y,h1,h2⟩:=hagg r T;rw[h1];exact h2
      .cases z
   .cases z
  .rename_i fs X;simp only[aG]at z;obtain⟨q,W,z⟩:=z;split at z
   .rename_i G;cases z;cases A with
    |zero=>cases F
    |succ A =>
     have hx':cs.length=P.cellsOf t/\∃xs,fs.toList.mapM (λf=>DataW.trod enc P w 0 (λ_=>true) true A f.type ((cs.drop f.offset).take (P.cellsOf f.type)))=some xs:=by
      simp only[DataW.trod,X]at F;split at F
      .rename_i hl;simp only[dW]at F;obtain⟨xs,U,_⟩:=F;exact⟨hl,xs,U⟩
      .cases F
     obtain⟨hl,xs,U⟩:=hx'
     have go:∀(l:List Field)(L res:List TD)(ys:List (DataW H×List MemPlace)),l.foldlM (λL f=>(v8 P n f.type).bind λcs=>if f.offset=L.length/\cs.length=P.cellsOf f.type then some (L++cs)else none) L=some res->
       l.mapM (λf=>DataW.trod enc P w 0 (λ_=>true) true A f.type ((cs.drop f.offset).take (P.cellsOf f.type)))=some ys->
       (L.length<=cs.length/\∀(j:Nat)(K:TD)(v:Value),L[j]? = some K->cs[j]? = some v->GS (λ_=>False) w K v)->
       (res.length<=cs.length/\∀(j:Nat)(K:TD)(v:Value),res[j]? = some K->cs[j]? = some v->GS (λ_=>False) w K v):=by
      intro l
      induction l with
      |nil =>
       intro L res ys h1 _ h3;simp only[List.foldlM_nil]at h1;cases h1;exact h3
      |cons f l ihl =>
       intro L res ys h1 h2 h3;rw[List.foldlM_cons]at h1;rw[ic]at h2;simp only[Option.bind_eq_bind,aG]at h1 h2;obtain⟨acc',⟨fc,hfc,hacc⟩,h1⟩:=h1;obtain⟨y,E,ys',hys,_⟩:=h2;split at hacc
       .rename_i Q;cases hacc;have hg:=ih f.type fc hfc A _ y E;have hgl:fc.length=((cs.drop f.offset).take (P.cellsOf f.type)).length:=hg.1;rw[bF,bU]at hgl;refine ihl _ res ys' h1 hys ⟨by rw[aU];omega,λj K v S N=>?_⟩
        by_cases hj:j<L.length
        .rw[aJ hj]at S;exact h3.2 j K v S N
        .rw[aQ af]at S
         refine hg.2 (j-L.length) K v S ?_;have hlt:j-L.length<fc.length:=(aD.1 S).1;rw[dg,if_pos af,bX,Q.1,show L.length+(j-L.length)=j from by omega]
         exact N
       .cases hacc
     obtain⟨_,k⟩:=go fs.toList [] _ xs W U ⟨aT _,λj K v S=>by simp at S⟩
     exact⟨by rw[G,hl],k⟩
   .cases z
  .rename_i m e X;simp only[aG]at z;obtain⟨q,W,z⟩:=z;split at z
   .rename_i G;cases z;cases A with
    |zero=>cases F
    |succ A =>
     have hx':cs.length=P.cellsOf t/\∃xs,(List.range m).mapM (λi=>DataW.trod enc P w 0 (λ_=>true) true A e ((cs.drop (i*P.cellsOf e)).take (P.cellsOf e)))=some xs:=by
      simp only[DataW.trod,X]at F;split at F
      .rename_i hl;simp only[dW]at F;obtain⟨xs,U,_⟩:=F;exact⟨hl,xs,U⟩
      .cases F
     obtain⟨hl,xs,U⟩:=hx';have hxl:=mapM_some_length U;rw[List.length_range]at hxl
     have go:∀k,k<=m->(List.replicate k q).flatten.length=k*q.length/\∀(j:Nat)(K:TD)(v:Value),(List.replicate k q).flatten[j]? = some K->cs[j]? = some v->GS (λ_=>False) w K v:=by
      intro k
      induction k with
      |zero=>intro _;exact⟨ai,λj K v S=>by simp at S⟩
      |succ k ihk =>
       intro hk;obtain⟨h1,h2⟩:=ihk af
       have E:=mapM_some_get U k k (gh af)
       rw[aH af]at E
       have hg:=ih e q W A _ _ E;have hgl:q.length=((cs.drop (k*P.cellsOf e)).take (P.cellsOf e)).length:=hg.1;rw[bF,bU]at hgl;have er:(List.replicate (k+1) q).flatten=(List.replicate k q).flatten++q:=by rw[ij,List.flatten_append];simp
       rw[er];refine⟨by rw[aU,h1,gL],λj K v S N=>?_⟩
       by_cases hj:j<(List.replicate k q).flatten.length
       .rw[aJ hj]at S;exact h2 j K v S N
       .rw[aQ af,h1]at S
        rw[h1]at hj;refine hg.2 (j-k*q.length) K v S ?_;have hlt:j-k*q.length<q.length:=(aD.1 S).1;rw[dg,if_pos af,bX,<-G.1,show k*q.length+(j-k*q.length)=j from by omega]
        exact N
     obtain⟨_,k⟩:=go m (aV _);exact⟨by rw[G.2,hl],k⟩
   .cases z
  .cases z
end
open Go.ChangeShapes Go.WideShapes Go.ChangeAt Go.RowKit
def isStr(P:Program)(t:TypeId):Bool:=match P.underlying t with | some (.struct _)=>true | some (.array _ _)=>true | _=>false
def yD(str:Bool)(b:List TD)(a:AV):Prop :=
 if str then ∃cs,a = .agg cs/\cs.length=b.length/\∀(j:Nat)(y:AV)(h:TD),cs[j]? = some y->b[j]? = some h->nL h y
 else ∃h,b=[h]/\nL h a
theorem nL.jW{l:TD}{a:AV}(h:nL l a):a.jW=true:=by cases h<;>rfl
def yD.j8{str:Bool}{b:List TD}{a:AV}(h:yD str b a):a.j8=true:=by
 unfold yD at h;split at h
 .obtain⟨cs,rfl,hl,o⟩:=h;show cs.all AV.jW=true;rw[aM];intro y n;let⟨j,l⟩:=dy n;have i:j<b.length:=by rw[<-hl];exact(aD.1 l).1
  exact(o j y _ l (aH i)).jW
 .let⟨q,_,h⟩:=h;cases h<;>rfl
section
variable{H:Type}{enc:TypeId×Value->H}{P:Program}{w:World}
def Pa{n:Nat}{t:TypeId}{l:List TD}(h:v8 P n t=some l){base:Nat}{v:Value}(i:Value.okWide P w .any base t v){d:DataW H}{ps:List MemPlace}
  (G:DataW.Trod enc P w 0 (λ_=>true) true t v d ps):∃a,oF (λ_=>False) w a v/\yD (isStr P t) l a:=by
 let⟨A,G⟩:=G;have hg:=trod_good n t l h A _ _ G;let⟨as,o,x,E⟩:=hg.list;unfold isStr yD;cases n with
 |zero=>cases h
 |succ n =>
  simp only[v8]at h;unfold Value.okWide at i
  have one:v.cells = #[v]->(∃q,l=[q])->∃a,oF (λ_=>False) w a v/\∃q,l=[q]/\nL q a:=by
   rintro K ⟨q,rfl⟩
   rw[K]at o x;obtain⟨a,rfl⟩:=dV.1 (show as.length=1 by simpa using o)
   exact⟨a,(x 0 a v rfl rfl).1,q,rfl,E 0 a q rfl rfl⟩
  split at h
  .rename_i b;simp only[b]at i⊢;cases h;simp only[Cell.okWide,b]at i;refine one ?_ ⟨_,rfl⟩;cases v<;>first | rfl | (simp[Cell.ok,b]at i;done)
  .rename_i k b;simp only[b]at i⊢;cases h;simp only[Cell.okWide,b]at i;refine one ?_ ⟨_,rfl⟩;cases v<;>first | rfl | (simp[Cell.ok,b]at i;done)
  .rename_i b;simp only[b]at i⊢;cases h;simp only[Cell.okWide,b]at i;refine one ?_ ⟨_,rfl⟩;cases v<;>first | rfl | (simp[Cell.ok,b]at i;done)
  .rename_i e b;simp only[b]at i⊢;simp only[Cell.okWide,b]at i;refine one ?_ ?_
   .cases v<;>first | rfl | (simp[Cell.ok,b]at i;done)
   .simp only[aG]at h;let⟨cs,_,h⟩:=h;split at h
    .split at h
     .cases h;exact⟨_,rfl⟩
     .split at h
      .cases h;exact⟨_,rfl⟩
      .cases h
    .cases h
  .rename_i L b;simp only[b]at i⊢;obtain⟨cs,rfl,_,_⟩:=i;refine⟨.agg as,?_,as,rfl,by rw[o];exact hg.1.symm,E⟩
   have:Value.agg cs = .agg cs.toList.toArray:=ai
   rw[this];refine .agg as cs.toList (by rw[o];rfl) (λu b=>?_) (λj y u F b=>(x j y u F b).1)
   let⟨j,z⟩:=dy b;have r:j<as.length:=by rw[o];exact(aD.1 z).1
   exact(x j _ u (aH r) z).2
  .rename_i m e b;simp only[b]at i⊢;obtain⟨cs,rfl,_,_⟩:=i;refine⟨.agg as,?_,as,rfl,by rw[o];exact hg.1.symm,E⟩
   have:Value.agg cs = .agg cs.toList.toArray:=ai
   rw[this];refine .agg as cs.toList (by rw[o];rfl) (λu b=>?_) (λj y u F b=>(x j y u F b).1)
   let⟨j,z⟩:=dy b;have r:j<as.length:=by rw[o];exact(aD.1 z).1
   exact(x j _ u (aH r) z).2
  .cases h
def qV(P:Program)(n:Nat):List TypeId->Option (List (Bool×List TD))
 | []=>some []
 |t::l=>(v8 P n t).bind λb=>(qV P n l).bind λr=>some ((isStr P t,b)::r)
inductive qv:List (Bool×List TD)->List AV->Prop where
 |nil:qv [] []
 |cons {p:Bool×List TD} {l:List (Bool×List TD)} {a:AV} {as:List AV} (h:yD p.1 p.2 a) (t:qv l as):qv (p::l) (a::as)
def qv.j8{l:List (Bool×List TD)}{as:List AV}(h:qv l as):as.all AV.j8=true:=by
 induction h with
 |nil=>rfl
 |cons h t b=>simp[h.j8,b]
def Dh{n:Nat}{base:Nat}:∀(b:List TypeId)(vs:List Value)(o:List (DataW H))(ps:List MemPlace)(l:List (Bool×List TD)),qV P n b=some l->
  (∀(j:Nat) t v,b[j]? = some t->vs[j]? = some v->Value.okWide P w .any base t v)->DataW.TrodAll enc P w 0 (λ_=>true) true b vs o ps->
  ∃as:List AV,qv l as/\as.length=vs.length/\o.length=b.length/\∀(j:Nat)(y:AV)(u:Value),as[j]? = some y->vs[j]? = some u->oF (λ_=>False) w y u
 | [],[],[],ps,l,hl,_,_=>by
  simp only[qV]at hl;cases hl;exact⟨[],.nil,rfl,rfl,λj y u i=>by simp at i⟩
 | [],[],_::_,_,_,_,_,h=>h.elim
 | [],_::_,_,_,_,_,_,h=>h.elim
 |_::_,[],_,_,_,_,_,h=>h.elim
 |_::_,_::_,[],_,_,_,_,h=>h.elim
 |t::b,v::vs,d::o,ps,l,hl,F,h=>by
  let⟨p,q,h1,h2,_⟩:=h;simp only[qV,aG]at hl;let⟨G,A,r,Q,hl⟩:=hl;cases hl;let⟨a,S,E⟩:=Pa A (F 0 t v rfl rfl) h1;let⟨as,N,M,L,K⟩:=Dh b vs o q r Q (λj t v O x=>F (j+1) t v (an O) (an x)) h2
  refine⟨a::as,.cons E N,by simp[M],by simp[L],λj y u i z=>?_⟩
  cases j with
  |zero=>simp at i z;subst i;subst z;exact S
  |succ j=>exact K j y u (an i) (an z)
def uH(hl:laidOutB P=true){W z:World}(y:Below W.heap.size W z):∀ {l:List TypeId} {vs:List Value} {r:List (DataW H)} {ps:List MemPlace},l.all (λt=>P.readableRec t&&decide (t<P.types.size))=true->
  DataW.TrodAll enc P W 0 (λ_=>true) true l vs r ps->(∀x∈ps,x.block<W.heap.size)->DataW.TrodAll enc P z 0 (λb=>decide (b<W.heap.size)) true l vs r ps
 | [],[],[],_,_,h,_=>h
 | [],[],_::_,_,_,h,_=>h.elim
 | [],_::_,_,_,_,h,_=>h.elim
 |_::_,[],_,_,_,h,_=>h.elim
 |_::_,_::_,[],_,_,h,_=>h.elim
 |t::l,v::vs,d::r,ps,n,h,i=>by
  obtain⟨p,q,h1,h2,rfl⟩:=h;simp only[bV,aF,decide_eq_true_eq]at n;exact⟨p,q,Below.trod hl n.1.1 n.1.2 h1 y (λx o=>i x (by simp[o])),uH hl y n.2 h2 (λx o=>i x (by simp[o])),rfl⟩
def B8{W h:World}(b:Below W.heap.size W h)(may:MemPlace->Prop):W.keptBut h may:=by
 refine⟨b.os,b.output,λi l=>?_⟩
 rw[b.block i l];cases n:W.heap[i]? with
 |none=>rfl
 |some o=>cases o<;>simp
def DR{Γ:jE}(hm:P.follows .mixedOrders=true)(Q:j3 P Γ)(A:laidOutB P=true){f:FuncId}{F:AF}(ok:okF P f F=true){fn:Func}{s:ChangeSpec}(L:s.vars=[])
  (z:fn.params.toList.all (λt=>P.readableRec t&&decide (t<P.types.size))=true) {n:Nat} {l:List (Bool×List TD)} (T:qV P n fn.params.toList=some l)
  {tb:TypeId} (Y:fn.resultTypes = #[tb]) (U:P.underlying tb=some .bool) (hs:∀(H:Type)(r:List (DataW H)),r.length=fn.params.size->s.fn H r={results:=[.lit (.bool true)],args:=r})
  (O:∀args,qv l args->pg Γ F args=some (.bool true))
  {W:World} (hg:∀p∈G0,W.cell? ⟨p.1,0,none⟩=some p.2) {base:Nat} {args:Array Value} {r gs:List (DataW H)} {before:List MemPlace} (K:∀(j:Nat) t v,fn.params[j]? = some t->args[j]? = some v->Value.okWide P W .any base t v)
  (hW:DataW.Whole enc P fn.params.toList s.vars false W args.toList r gs before) :
  Calls P f args W λe W'=>∃v,e = .returned v/\s.post enc P fn false true false false W args v W':=by
 have M:=hW;obtain⟨p,q,hA,hV,rfl,hfz,hnd⟩:=hW;rw[L]at hV;have hgq:gs=[]/\q=[]:=by
  cases gs with
  |nil=>exact⟨rfl,hV⟩
  |cons g gs=>exact hV.elim
 obtain⟨rfl,rfl⟩:=hgq;let⟨as,k1,k2,k3,k4⟩:=Dh fn.params.toList args.toList r p l T (λj t v ht S=>K j t v (an ht) (an S)) hA
 let⟨_,G⟩:=E9 hm Q ok k1.j8 (O as k1) []
 let β0:jO:=λ_ _=>none
 have o:∀c,¬Own (λ_=>False) β0 [] c:=by
  rintro c (h | ⟨i,X,hX,_⟩)
  .exact h
  .simp at hX
 have R0:Rel (λ_=>False) β0 [] W:=⟨λc h=>h.elim,λi c _ h=>h,λ_ _ _=>rfl,λi v sz es v' h=>by simp at h,λi b h=>by simp at h,λi j c ⟨X,hX,_⟩=>by simp at hX,λp hp=>⟨o p.1,hg p hp⟩⟩
 have hc:=G (λ_=>False) β0 W args.toList R0 (an k2) λj y u hy hu=>.pure _ _ ((k4 j y u hy hu).mono ⟨aV _,λb _ _=>⟨rfl,o b⟩⟩)
 rw[dI]at hc;refine hc.mono ?_
 rintro e W' ⟨v,β',rfl,R1,N,V1⟩
 have S:=V1.mY;subst S;have hb:Below W.heap.size W W':=⟨N.os,N.tape,N.output,N.stay.1,λk hk=>(N.stay.2 k hk (o k)).1⟩
 have Z:∀x∈p,x.block<W.heap.size:=λx hx=>by have:=M.lt x (an hx);simpa using this
 have E:=hs H (r++[]) (an k3)
 refine⟨_,rfl,r,[],p++[],[],p,[],M,?_,?_,?_,B8 hb _,λh=>by cases h⟩
 .rw[E,Y];exact⟨[],[],⟨1,by simp[DataW.trod,U,Value.cells]⟩,rfl,rfl⟩
 .rw[E,cC];exact uH A hb z hA Z
 .rw[E,L];exact rfl
end
end Go.Am
