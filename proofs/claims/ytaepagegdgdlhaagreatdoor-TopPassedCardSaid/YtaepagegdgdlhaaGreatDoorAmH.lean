/- Part of the proof that TopPassedCard holds. -/
import Derived.Test.YtaepagegdgdlhaaGreatDoorAmD
set_option linter.all false
namespace Go.Am
variable{sz:Nat}{es:List AV}{O:az}
def jW.mono{O':az}{w w':World}(hst:lS O w O' w'){f:Nat->Option Value}(h:jW O w f sz es):jW O' w' f sz es:=by
  intro i x hx;let⟨h1,h2⟩:=h i x hx;refine⟨h1,λj y hy=>?_⟩
  let⟨v,e1,e2,e3⟩:=h2 j y hy;exact⟨v,e1,e2,e3.mono hst⟩
def jW.congr{w:World}{f g:Nat->Option Value}(h:jW O w f sz es)(hfg:∀k,k<es.length*sz->f k=g k):jW O w g sz es:=by
  intro i x hx;let⟨h1,h2⟩:=h i x hx;refine⟨h1,λj y hy=>?_⟩
  let⟨v,e1,e2,e3⟩:=h2 j y hy;refine⟨v,?_,e2,e3⟩;rw[<-hfg]
  . exact e1
  . have hi:i<es.length:=(aF.1 hx).1;have hj:j<sz:=by rw[<-h1];exact(aF.1 hy).1
    calc i*sz+j<i*sz+sz:=by omega
      _=(i+1)*sz:=by rw[bR];omega
      _<=es.length*sz:=bD _ aa
def jW.list{O : Nat -> Prop}{w : World}{f : Nat -> Option Value}(h : jW O w f sz es):
    ∃vs:List Value,vs.length=es.length*sz/\(∀(k:Nat)(u:Value),vs[k]? = some u->f k=some u)/\(∀u∈vs,u.oneCell'=true)/\jW O w (λk=>vs[k]?) sz es:=by
  have hk:∀k,k<es.length*sz->∃u,f k=some u/\u.oneCell'=true:=by
    intro k hk
    have hsz : 0 < sz := by rcases cM sz with h0 | h0; · subst h0; omega
                            . exact h0
    have hi:k / sz<es.length:=je (by rw[fK];exact hk)
    let⟨h1,h2⟩:=h (k / sz) es[k / sz] (by simp[hi])
    have hj:k%sz<es[k / sz].cells.length:=by rw[h1];exact dP _ hsz
    let⟨v,e1,e2,_⟩:=h2 (k%sz) (es[k / sz].cells[k%sz]) (by simp[hj])
    refine⟨v,?_,e2⟩;rw[<-e1,fK,Nat.div_add_mod]
  have hl:((List.range (es.length*sz)).map λk=>(f k).getD Go.undef).length=es.length*sz:=ah
  refine⟨(List.range (es.length*sz)).map λk=>(f k).getD Go.undef,hl,?_,?_,?_⟩
  . intro k u hu;have hlt:k<es.length*sz:=by rw[<-hl];exact(aF.1 hu).1
    let⟨v,e1,_⟩:=hk k hlt;simp[hlt,e1]at hu;rw[e1,hu]
  . intro u hu;obtain⟨k,hk',rfl⟩:=bx.1 hu;let⟨v,e1,e2⟩:=hk k (an hk')
    simp[e1,e2]
  . refine h.congr λk hlt=>?_
    let⟨v,e1,_⟩:=hk k hlt;simp[hlt,e1]
def jW.nil{w:World}{f:Nat->Option Value}:jW O w f sz []:=by
  intro i x hx;simp at hx
def jW.append{w:World}{f:Nat->Option Value}{es':List AV}(h:jW O w f sz es)(h':jW O w (λk=>f (es.length*sz+k)) sz es'):jW O w f sz (es++es'):=by
  intro i x hx
  by_cases hi:i<es.length
  . rw[aK hi]at hx;exact h i x hx
  . rw[aV aa]at hx
    let⟨h1,h2⟩:=h' (i-es.length) x hx;refine⟨h1,λj y hy=>?_⟩
    let⟨v,e1,e2,e3⟩:=h2 j y hy;refine⟨v,?_,e2,e3⟩;rw[<-e1]
    congr 1
    have:i=es.length+(i-es.length):=aa
    conv=>lhs;rw[this,bR]
    omega
def jW.drop{w:World}{f:Nat->Option Value}(h:jW O w f sz es)(o:Nat):jW O w (λk=>f (o*sz+k)) sz (es.drop o):=by
  intro i x hx;rw[bU]at hx;let⟨h1,h2⟩:=h (o+i) x hx;refine⟨h1,λj y hy=>?_⟩
  let⟨v,e1,e2,e3⟩:=h2 j y hy;have ea:o*sz+(i*sz+j)=(o+i)*sz+j:=by rw[bR];omega
  exact⟨v,by rw[<-e1,<-ea],e2,e3⟩
def jW.take{w:World}{f:Nat->Option Value}(h:jW O w f sz es)(n:Nat):jW O w f sz (es.take n):=by
  intro i x hx;rw[cC]at hx;split at hx
  . exact h i x hx
  . cases hx
def jW.kK{w:World}{f:Nat->Option Value}{sz':Nat}(h:jW O w f sz es)(hs:kK sz' es=true):jW O w f sz' es:=by
  by_cases hne:es=[]
  . subst hne;exact .nil
  . have:sz'=sz:=by
      obtain⟨x,l,rfl⟩:=ga hne;have h1:=(h 0 x rfl).1;simp only[Am.kK,bH,aH,beq_iff_eq]at hs;exact hs.1.symm.trans h1
    subst this;exact h
section reads
variable{Z:az}{β:kW}{h:AH}{w:World}
def Cy (R:Rel Z β h w) {a:AV} {cs:List AV} (hc:j7 h a=some cs) {v:Value} (hv:VR β (Own Z β h) w a v) :
    ∃blk o,v = .pointer (some ⟨blk,o,none⟩)/\∀(j:Nat)(y:AV),cs[j]? = some y->∃u,w.cell? ⟨blk,o+j,none⟩=some u/\u.oneCell'=true/\VR β (Own Z β h) w y u:=by
  cases a with
  |kE cs' =>
    simp only[j7,bp]at hc;subst hc;cases hv with
    |pure _ _ hv=>cases hv
    |kE _ blk o f hO hw h1 h3 h2=>exact⟨blk,o,rfl,λj y hy=>⟨f j,h1 j y hy,h3 j y hy,.pure _ _ (h2 j y hy)⟩⟩
  |ptr b vv i o =>
    obtain⟨bd,c,hb,hcb,rfl⟩:=hv.oE;simp only[j7]at hc;split at hc
    . rename_i cs0 hcs;split at hc
      . rename_i nR;obtain⟨rfl,rfl,ho⟩:=nR;cases hc;let⟨c',cur,elem,e1,e2,e3,e4⟩:=R.blk b _ hcs;rw[hb]at e1;cases e1;cases hcb;refine⟨c,o,ah,λj y hy=>?_⟩
        rw[bU]at hy;let⟨u,g1,g2,g3⟩:=e4 (o+j) y hy;exact⟨u,by rw[cell_of_row w c (o+j) cur elem (0,0) e2];exact g1,g2,g3⟩
      . cases hc
    . rename_i v' sz es lJ;split at hc
      . rename_i hvv;subst hvv;simp only[aI]at hc;let⟨x,hx,hc⟩:=hc;split at hc
        . rename_i ho;cases hc;let⟨_,zk,e1,e2,e3⟩:=R.blk b _ lJ;rw[hb]at e1;cases e1
          rcases e3 with⟨e3,_⟩ | ⟨c',cur,elem,g1,g2,g3,g4,g5⟩
          . rw[hcb]at e3;cases e3
          . rw[hcb]at g1;cases g1;refine⟨c,_,rfl,λj y hy=>?_⟩
            rw[bU]at hy;let⟨u,k1,k2,k3⟩:=(g5 i x hx).2 (o+j) y hy;refine⟨u,?_,k2,.pure _ _ k3⟩;rw[cell_of_row w c _ cur elem (0,0) g2,<-k1,e2]
            congr 1;omega
        . cases hc
      . cases hc
    . rename_i v' sz es lJ;split at hc
      . rename_i hvv;subst hvv;simp only[aI]at hc;let⟨x,hx,hc⟩:=hc;split at hc
        . rename_i ho;cases hc;let⟨_,zk,e1,e2,e3⟩:=R.blk b _ lJ;rw[hb]at e1;cases e1
          rcases e3 with⟨e3,_⟩ | ⟨c',cur,elem,fr,g1,_,g2,g3,g4,g5⟩
          . rw[hcb]at e3;cases e3
          . rw[hcb]at g1;cases g1;refine⟨c,_,rfl,λj y hy=>?_⟩
            rw[bU]at hy;let⟨u,k1,k2,k3⟩:=(g5 i x hx).2 (o+j) y hy;refine⟨u,?_,k2,.pure _ _ k3⟩;rw[cell_of_row w c _ cur elem fr g2,<-k1,e2]
            congr 1;omega
        . cases hc
      . cases hc
    . cases hc
  |_=>simp[j7]at hc
def vk{cur:Array Value}{elem:TypeId}{fr:Nat×Nat}{cb base o n:Nat}(g2:w.heap[cb]? = some (.cells cur elem fr))(g5:qx O w cur base sz es):
    jW O w (λk=>w.cell? ⟨cb,base+o*sz+k,none⟩) sz ((es.drop o).take n):=by
  refine((jW.drop g5 o).take n).congr λk _=>?_
  rw[cell_of_row w cb _ cur elem fr g2]
  congr 1
  omega
def pS (R:Rel Z β h w) {a:AV} (hc:elems h a=some es) {v:Value} (hv:VR β (Own Z β h) w a v) :
    ∃ad c,v = .slice ad es.length c/\es.length<=c/\(es≠[]->∃blk o sz,0<sz/\ad=some ⟨blk,o,none⟩/\jW (Own Z β h) w (λk=>w.cell? ⟨blk,o+k,none⟩) sz es):=by
  cases a with
  |jB full es' =>
    simp only[elems,bp]at hc;subst hc;cases hv.oJ with
    |jB _ _ ad c blk o sz f hf hc ha hs h1 h3 h2 =>
      refine⟨ad,c,rfl,hc,λhne=>?_⟩
      let⟨x,l,hxl⟩:=ga hne;refine⟨blk,o,sz,(hs 0 x (by rw[hxl];rfl)).2,(ha hne).1,λi x hx=>⟨(hs i x hx).1,λj y hy=>⟨f i j,?_,h3 i x hx j y hy,h2 i x hx j y hy⟩⟩⟩
      rw[<-h1 i x hx j y hy,cz]
  |own b vv o n =>
    obtain⟨bd,ad,c,hb,rfl,h2⟩:=hv.mg;simp only[elems]at hc;split at hc
    . rename_i v' sz es' lJ;split at hc
      . rename_i nR;obtain⟨rfl,hn⟩:=nR;cases hc;have hlen:((es'.drop o).take n).length=n:=by simp;omega
        rw[hlen];let⟨hsz,zk,e1,e2,e3⟩:=R.blk b _ lJ;rw[hb]at e1;cases e1
        rcases h2 with⟨h2,WO⟩ | ⟨cb,q1,q2,q3,q4⟩
        . subst WO;exact⟨ad,c,rfl,aa,ah⟩
        . refine⟨ad,c,rfl,q3,λ_=>?_⟩
          rcases e3 with⟨e3,_⟩ | ⟨c',cur,elem,g1,g2,g3,g4,g5⟩
          . rw[q1]at e3;cases e3
          . rw[q1]at g1;cases g1;subst e2;exact⟨cb,_,_,hsz,q2,vk g2 g5⟩
      . cases hc
    . rename_i v' sz es' lJ;split at hc
      . rename_i nR;obtain⟨rfl,hn⟩:=nR;cases hc;have hlen:((es'.drop o).take n).length=n:=by simp;omega
        rw[hlen];let⟨hsz,zk,e1,e2,e3⟩:=R.blk b _ lJ;rw[hb]at e1;cases e1
        rcases h2 with⟨h2,WO⟩ | ⟨cb,q1,q2,q3,q4⟩
        . subst WO;exact⟨ad,c,rfl,aa,ah⟩
        . refine⟨ad,c,rfl,q3,λ_=>?_⟩
          rcases e3 with⟨e3,_⟩ | ⟨c',cur,elem,fr,g1,_,g2,g3,g4,g5⟩
          . rw[q1]at e3;cases e3
          . rw[q1]at g1;cases g1;subst e2;exact⟨cb,_,_,hsz,q2,vk g2 g5⟩
      . cases hc
    . cases hc
  |_=>simp[elems]at hc
end reads
def jZ{α:Type}(l:List α)(o:Nat)(xs:List α)(h:o+xs.length<=l.length):(over l o xs).length=l.length:=by
 simp[over];omega
def kj{α:Type}(l:List α)(o:Nat)(xs:List α)(h:o+xs.length<=l.length)(j:Nat):
  (over l o xs)[j]? = if o<=j/\j<o+xs.length then xs[j-o]? else l[j]? := by
 unfold over
 by_cases h1:j<o
 .rw[if_neg aa,cF,aK aj,cC,if_pos h1]
 .by_cases h2 : j < o + xs.length
  .rw[if_pos ⟨aa,h2⟩,aK aj,aV aj]
   congr 1;simp;omega
  .rw[if_neg aa,aV aj,bU]
   congr 1;simp;omega
variable{sz b v:Nat}{es es':List AV}
def M4{i i' j j':Nat}(h:i'≠i)(hj:j<sz)(hj':j'<sz):i'*sz+j≠i*sz+j':=by
 rcases Nat.lt_or_gt_of_ne h with h1 | h1
 .have:(i'+1)*sz<=i*sz:=bD _ h1;rw[bR]at this;omega
 .have:(i+1)*sz<=i'*sz:=bD _ h1;rw[bR]at this;omega
section
variable{Z:az}{β:kW}{h:AH}{w:World}
def Rel.RZ(R:Rel Z β h w){cs:List AV}(hb:h[b]? = some (.var cs))(o:Nat)(xs:List AV)(us:List Value)(hl:xs.length=us.length)(hfit:o+xs.length<=cs.length)
  (h1:∀u∈us,u.oneCell'=true) (h2:∀(j:Nat)(y:AV)(u:Value),xs[j]? = some y->us[j]? = some u->VR β (Own Z β h) w y u) :
  ∃c cur elem,β b 0=some ⟨some c,0,cs.length,cs.length⟩/\w.heap[c]? = some (.cells cur elem (0,0))/\cur.size=cs.length/\
   Rel Z β (h.set b (.var (over cs o xs))) (w.setRow c (over cur.toList o us).toArray)/\Fr Z β h w β (h.set b (.var (over cs o xs))) (w.setRow c (over cur.toList o us).toArray):=by
 let⟨c,cur,elem,e1,e2,e3,e4⟩:=R.blk b _ hb;refine⟨c,cur,elem,e1,e2,e3,?_⟩;have hlen:=jZ cs o xs hfit;have hown:owned β h b c:=⟨_,hb,_,rfl,e1⟩;refine R.wv (aF.1 hb).1 rfl rfl rfl (λ_ _ _=>rfl) (λ_ _ e=>e) ah ?_ (by simp[World.setRow]) (λb' _ hb'=>setRow_other w c b' _ (λe=>hb' (e▸hown))) ?_
 .rintro c' ⟨bd,q1,q2⟩
  exact .inl ⟨_,hb,bd,q1,q2⟩
 .intro hst;refine⟨c,_,elem,by rw[e1,hlen],setRow_heap w c cur _ elem (0,0) e2,by simp[jZ cur.toList o us aj,jZ cs o xs hfit,e3],λj y hy=>?_⟩
  rw[kj cs o xs hfit]at hy;simp only[bN];rw[kj cur.toList o us aj]
  by_cases hj:o<=j/\j<o+xs.length
  .rw[if_pos hj]at hy;rw[if_pos aa]
   have hlt:j-o<us.length:=aa
   exact⟨us[j-o],by simp[hlt],h1 _ (aS hlt),(h2 (j-o) y us[j-o] hy (by simp[hlt])).mono (λ_ _ _ e=>e) hst⟩
  .rw[if_neg hj]at hy;rw[if_neg aa]
   let⟨u,g1,g2,g3⟩:=e4 j y hy;exact⟨u,an g1,g2,g3.mono (λ_ _ _ e=>e) hst⟩
def Rel.GI(R:Rel Z β h w)(hb:h[b]? = some (.row v sz es)){bd:Bd}{c:Nat}{cur:Array Value}{elem:TypeId}
  (hbd:β b v=some bd) (hc:bd.cb=some c) (sS:w.heap[c]? = some (.cells cur elem (0,0))) (cur':List Value) (hsize:cur'.length=cur.size) (hlen:es'.length=es.length)
  (hel:qx (Own Z β h) w cur'.toArray bd.base sz es') :
  Rel Z β (h.set b (.row v sz es')) (w.setRow c cur'.toArray)/\Fr Z β h w β (h.set b (.row v sz es')) (w.setRow c cur'.toArray):=by
 let⟨hsz,zk,e1,e2,e3⟩:=R.blk b _ hb;rw[hbd]at e1;cases e1;have hown:owned β h b c:=⟨_,hb,bd,hc,hbd⟩
 rcases e3 with⟨e3,_⟩ | ⟨c',ara,alL,g1,g2,g3,g4,_⟩
 .rw[hc]at e3;cases e3
 rw[hc]at g1;cases g1;rw[sS]at g2;cases g2;refine R.wv (aF.1 hb).1 rfl rfl rfl (λ_ _ _=>rfl) (λ_ _ e=>e) ?_ ?_ (by simp[World.setRow]) (λb' _ hb'=>setRow_other w c b' _ (λe=>hb' (e▸hown))) ?_
 .intro v1 sz1 es1 v2 e hv;cases e;exact R.later b v sz es v2 hb hv
 .rintro c' ⟨zk,q1,q2⟩
  exact .inl ⟨_,hb,zk,q1,q2⟩
 .intro hst;exact⟨hsz,bd,hbd,e2,.inr ⟨c,cur'.toArray,elem,hc,setRow_heap w c cur _ elem (0,0) sS,by simp[hsize,g3],by rw[hlen];exact g4,jW.mono hst hel⟩⟩
def Rel.vR(R:Rel Z β h w)(hb:h[b]? = some (.row v sz es)){bd:Bd}{c:Nat}{cur:Array Value}{elem:TypeId}
  (hbd:β b v=some bd) (hc:bd.cb=some c) (sS:w.heap[c]? = some (.cells cur elem (0,0))) (cur':List Value) (hsize:cur'.length=cur.size) (o:Nat)
  (hfit:bd.base+o*sz+es'.length*sz<=cur.size) (hel:qx (Own Z β h) w cur'.toArray (bd.base+o*sz) sz es') :
  ∃β',Rel Z β' (h.set b (.row (v+1) sz es')) (w.setRow c cur'.toArray)/\Fr Z β h w β' (h.set b (.row (v+1) sz es')) (w.setRow c cur'.toArray)/\
   ∀n cap,n<=cap->bd.base+o*sz+cap*sz<=cur.size->VR β' (Own Z β' (h.set b (.row (v+1) sz es'))) (w.setRow c cur'.toArray) (.own b (v+1) 0 n) (.slice (some ⟨c,bd.base+o*sz,none⟩) n cap):=by
 let⟨hsz,zk,e1,e2,e3⟩:=R.blk b _ hb;rw[hbd]at e1;cases e1;have hown:owned β h b c:=⟨_,hb,bd,hc,hbd⟩
 rcases e3 with⟨e3,_⟩ | ⟨c',ara,alL,g1,g2,g3,g4,_⟩
 .rw[hc]at e3;cases e3
 rw[hc]at g1;cases g1;rw[sS]at g2;cases g2;have hnone:β b (v+1)=none:=R.later b v sz es (v+1) hb aa
 let CB:Bd:=⟨some c,bd.base+o*sz,cur.size,sz⟩
 let β':kW:=λi k=>if i=b/\k=v+1 then some CB else β i k
 have Ev:β' b (v+1)=some CB:=by simp[β']
 refine⟨β',?_⟩
 have key:=R.wv (X':=.row (v+1) sz es') (β':=β') (w':=w.setRow c cur'.toArray) (aF.1 hb).1 rfl rfl rfl
  (λj k hj=>by simp[β',hj]) (λk bd0 e=>?_) ?_ ?_ (by simp[World.setRow]) (λb' _ hb'=>setRow_other w c b' _ (λe=>hb' (e▸hown))) ?_
 .refine⟨key.1,key.2,λn cap hn hcap=>?_⟩
  refine .own b (v+1) 0 n CB _ cap Ev (.inr ⟨c,rfl,by simp[CB],hn,?_⟩)
  simpa[CB]using hcap
 .by_cases hk:k=v+1
  .subst hk;rw[hnone]at e;cases e
  .simp[β',hk,e]
 .intro v1 sz1 es1 v2 e hv;cases e;simp only[β'];rw[if_neg aa]
  exact R.later b v sz es v2 hb aa
 .rintro c' ⟨bd0,q1,q2⟩
  simp only[Ev]at q2;cases q2;simp[CB]at q1;subst q1;exact .inl hown
 .intro hst;exact⟨hsz,CB,Ev,rfl,.inr ⟨c,cur'.toArray,elem,rfl,setRow_heap w c cur _ elem (0,0) sS,by simp[hsize,CB],by simpa[CB]using hfit,jW.mono hst hel⟩⟩
def Rel.FN(R:Rel Z β h w)(hb:h[b]? = some (.row v sz es)){w':World}{cur:Array Value}{elem:TypeId}
  (hos:w'.os=w.os) (zU:w'.tape=w.tape) (hout:w'.output=w.output) (hh:w'.heap=w.heap.push (.cells cur elem (0,0)))
  (hfit:es'.length*sz<=cur.size) (hel:qx (Own Z β h) w cur 0 sz es') :
  ∃β',Rel Z β' (h.set b (.row (v+1) sz es')) w'/\Fr Z β h w β' (h.set b (.row (v+1) sz es')) w'/\
   ∀n cap,n<=cap->cap*sz<=cur.size->VR β' (Own Z β' (h.set b (.row (v+1) sz es'))) w' (.own b (v+1) 0 n) (.slice (some ⟨w.heap.size,0,none⟩) n cap):=by
 let⟨hsz,bd,hbd,e2,e3⟩:=R.blk b _ hb;have hnone:β b (v+1)=none:=R.later b v sz es (v+1) hb aa
 let CB:Bd:=⟨some w.heap.size,0,cur.size,sz⟩
 let β':kW:=λi k=>if i=b/\k=v+1 then some CB else β i k
 have Ev:β' b (v+1)=some CB:=by simp[β']
 have hold:∀k,k<w.heap.size->w'.heap[k]? = w.heap[k]? := λk hk=>by rw[hh,fA,if_neg aa]
 have hnew:w'.heap[w.heap.size]? = some (.cells cur elem (0,0)):=by rw[hh];simp
 refine⟨β',?_⟩
 have key:=R.wv (X':=.row (v+1) sz es') (β':=β') (w':=w') (aF.1 hb).1 hos zU hout
  (λj k hj=>by simp[β',hj]) (λk bd0 e=>?_) ?_ ?_ (by rw[hh];simp) (λb' hb' _=>hold b' hb') ?_
 .refine⟨key.1,key.2,λn cap hn hcap=>?_⟩
  refine .own b (v+1) 0 n CB _ cap Ev (.inr ⟨w.heap.size,rfl,by simp[CB],hn,by simpa[CB]using hcap⟩)
 .by_cases hk:k=v+1
  .subst hk;rw[hnone]at e;cases e
  .simp[β',hk,e]
 .intro v1 sz1 es1 v2 e hv;cases e;simp only[β'];rw[if_neg aa]
  exact R.later b v sz es v2 hb aa
 .rintro c' ⟨bd0,q1,q2⟩
  simp only[Ev]at q2;cases q2;simp[CB]at q1;exact .inr aa
 .intro hst;exact⟨hsz,CB,Ev,rfl,.inr ⟨w.heap.size,cur,elem,rfl,hnew,rfl,by simpa[CB]using hfit,jW.mono hst hel⟩⟩
def Rel.Nn(R:Rel Z β h w)(hb:h[b]? = some (.row v sz es)):
  ∃β',Rel Z β' (h.set b (.row (v+1) sz [])) w/\Fr Z β h w β' (h.set b (.row (v+1) sz [])) w/\
   ∀a,VR β' (Own Z β' (h.set b (.row (v+1) sz []))) w (.own b (v+1) 0 0) (.slice a 0 0):=by
 let⟨hsz,bd,hbd,e2,e3⟩:=R.blk b _ hb;have hnone:β b (v+1)=none:=R.later b v sz es (v+1) hb aa
 let CB:Bd:=⟨none,0,0,sz⟩
 let β':kW:=λi k=>if i=b/\k=v+1 then some CB else β i k
 have Ev:β' b (v+1)=some CB:=by simp[β']
 refine⟨β',?_⟩
 have key:=R.wv (X':=.row (v+1) sz []) (β':=β') (w':=w) (aF.1 hb).1 rfl rfl rfl
  (λj k hj=>by simp[β',hj]) (λk bd0 e=>?_) ?_ ?_ (aN _) (λb' _ _=>rfl) ?_
 .exact⟨key.1,key.2,λa=>.own b (v+1) 0 0 CB a 0 Ev (.inl ⟨rfl,rfl⟩)⟩
 .by_cases hk:k=v+1
  .subst hk;rw[hnone]at e;cases e
  .simp[β',hk,e]
 .intro v1 sz1 es1 v2 e hv;cases e;simp only[β'];rw[if_neg aa]
  exact R.later b v sz es v2 hb aa
 .rintro c' ⟨bd0,q1,q2⟩
  simp only[Ev]at q2;cases q2;simp[CB]at q1
 .intro _;exact⟨hsz,CB,Ev,rfl,.inl ⟨rfl,rfl⟩⟩
def Rel.freeze(R:Rel Z β h w)(hb:h[b]? = some (.row v sz es)):
  Rel Z β (h.set b (.qa v sz es)) w/\Fr Z β h w β (h.set b (.qa v sz es)) w:=by
 let⟨hsz,bd,hbd,e2,e3⟩:=R.blk b _ hb;have hi:=(aF.1 hb).1;refine R.wv hi rfl rfl rfl (λ_ _ _=>rfl) (λ_ _ e=>e) ah ?_ (aN _) (λ_ _ _=>rfl) ?_
 .rintro c ⟨zk,q1,q2⟩
  exact q2.elim
 .intro hst;refine⟨hsz,bd,hbd,e2,?_⟩
  rcases e3 with e3 | ⟨c,cur,elem,g1,g2,g3,g4,g5⟩
  .exact .inl e3
  .refine .inr ⟨c,cur,elem,(0,0),g1,?_,g2,g3,g4,jW.mono hst g5⟩
   rintro(hz | ⟨j,X,hX,hj⟩)
   .exact R.CG b c ⟨_,hb,bd,g1,hbd⟩ hz
   by_cases hjb:j=b
   .subst hjb;simp[hi]at hX;subst hX;let⟨_,_,q⟩:=hj;exact q
   .rw[aJ (Ne.symm hjb)]at hX;exact hjb (R.apart j b c ⟨X,hX,hj⟩ ⟨_,hb,bd,g1,hbd⟩)
def Ek(R:Rel Z β h w)(hb:h[b]? = some (.qa v sz es)){o n:Nat}(hn:o+n<=es.length){u:Value}(hu:VR β (Own Z β h) w (.own b v o n) u):
  VR β (Own Z β h) w (.jB false ((es.drop o).take n)) u:=by
 obtain⟨bd,ad,c,hbd,rfl,h2⟩:=hu.mg;let⟨hsz,zk,e1,e2,e3⟩:=R.blk b _ hb;rw[hbd]at e1;cases e1;have hlen:((es.drop o).take n).length=n:=aj
 refine .pure _ _ ?_
 rcases h2 with⟨h2,WO⟩ | ⟨cb,q1,q2,q3,q4⟩
 .subst WO h2;have hz:(es.drop o).take 0=[]:=by simp
  rw[hz];exact .jB false [] ad 0 0 0 0 (λ_ _=>.bool true) ah ah ah ah ah ah ah
 .by_cases hz : (es.drop o).take n = []
  .rw[hz]at hlen⊢;simp at hlen;subst hlen;exact .jB false [] ad c 0 0 0 (λ_ _=>.bool true) ah ah ah ah ah ah ah
  .rcases e3 with⟨e3,_⟩ | ⟨c',cur,elem,fr,g1,g1',g2,g3,g4,g5⟩
   .rw[q1]at e3;cases e3
   .rw[q1]at g1;cases g1;subst e2;have hsrc:=vk (o:=o) (n:=n) g2 g5
    have:=qW.jB (O:=Own Z β h) (w:=w) false ((es.drop o).take n) ad c cb (bd.base+o*bd.sz) bd.sz (λi j=>(w.cell? ⟨cb,bd.base+o*bd.sz+(i*bd.sz+j),none⟩).getD Go.undef)
     ah (by rw[hlen];exact q3) (λ_=>⟨q2,g1',(aW.1 g2).1⟩) (λi x hx=>⟨(hsrc i x hx).1,hsz⟩)
     (λi x hx j y hy=>by let⟨u,k1,_,_⟩:=(hsrc i x hx).2 j y hy;dsimp only at k1;rw[cz,k1];rfl)
     (λi x hx j y hy=>by let⟨u,k1,k2,_⟩:=(hsrc i x hx).2 j y hy;dsimp only at k1;simp only[k1,bO];exact k2)
     (λi x hx j y hy=>by let⟨u,k1,_,k3⟩:=(hsrc i x hx).2 j y hy;dsimp only at k1;simp only[k1,bO];exact k3)
    rw[hlen]at this;exact this
end
variable{av a' x:AV}{h':AH}
section
variable{Z:az}{β:kW}{h:AH}{w:World}
def DW(R:Rel Z β h w){a:AV}(hp:qe h a=some (a',h')){v:Value}(hv:VR β (Own Z β h) w a v):
  Rel Z β h' w/\Fr Z β h w β h' w/\VR β (Own Z β h') w a' v/\a'.kZ=true:=by
 have pure:∀ {a:AV},VR β (Own Z β h) w a v->(if a.kZ=true then some (a,h)else none)=some (a',h')->Rel Z β h' w/\Fr Z β h w β h' w/\VR β (Own Z β h') w a' v/\a'.kZ=true:=by
  intro a hv hp;split at hp
  .rename_i hs;cases hp;exact⟨R,Fr.refl _ _ _ _,hv,hs⟩
  .cases hp
 cases a with
 |own b vv o n =>
  simp only[qe]at hp;split at hp
  .rename_i v' sz es lJ;split at hp
   .rename_i nR;obtain⟨rfl,hn⟩:=nR;cases hp;let⟨R',F⟩:=R.freeze lJ;exact⟨R',F,Ek R' (sz:=sz) (es:=es) (by simp[(aF.1 lJ).1]) hn (hv.fr F),rfl⟩
   .cases hp
  .rename_i v' sz es lJ;split at hp
   .rename_i nR;obtain⟨rfl,hn⟩:=nR;cases hp;exact⟨R,Fr.refl _ _ _ _,Ek R lJ hn hv,rfl⟩
   .cases hp
  .cases hp
 |_=>exact pure hv hp
def LC:∀(cs:List AV){h:AH}(_:Rel Z β h w){cs':List AV}{h':AH}(_:wR h cs=some (cs',h')){vs:List Value}(_:cs.length=vs.length)
  (_:∀(j:Nat)(y:AV)(u:Value),cs[j]? = some y->vs[j]? = some u->VR β (Own Z β h) w y u),
  Rel Z β h' w/\Fr Z β h w β h' w/\cs'.length=vs.length/\(∀(j:Nat)(y:AV)(u:Value),cs'[j]? = some y->vs[j]? = some u->VR β (Own Z β h') w y u)/\∀y∈cs',y.kZ=true
 | [],h,R,cs',h',hp,vs,hl,_=>by
  simp only[wR]at hp;cases hp;exact⟨R,Fr.refl _ _ _ _,hl,λj y u hy=>by simp at hy,ah⟩
 |a::cs,h,R,cs',h',hp,vs,hl,hv=>by
  simp only[wR,aI]at hp;let⟨⟨a1,h1⟩,hp1,⟨l2,h2⟩,hp2,Wg⟩:=hp;cases Wg;cases vs with
  |nil=>simp at hl
  |cons v vs =>
   let⟨R1,F1,V1,S1⟩:=DW R hp1 (hv 0 a v rfl rfl);let⟨R2,F2,L2,V2,S2⟩:=LC cs R1 hp2 (vs:=vs) (an hl) (λj y u hy hu=>(hv (j+1) y u (an hy) (an hu)).fr F1)
   refine⟨R2,F1.trans F2,by simp[L2],λj y u hy hu=>?_,λy hy=>?_⟩
   .cases j with
    |zero=>simp at hy hu;subst hy hu;exact V1.fr F2
    |succ j=>exact V2 j y u (an hy) (an hu)
   grind
def zA(R:Rel Z β h w){a:AV}(hp:oT h a=some (a',h')){v:Value}(hv:VR β (Own Z β h) w a v):
  Rel Z β h' w/\Fr Z β h w β h' w/\VR β (Own Z β h') w a' v/\a'.lT=true:=by
 unfold oT at hp;split at hp
 .rename_i hE;cases hp;exact⟨R,Fr.refl _ _ _ _,hv,hE⟩
 .split at hp
  .rename_i cs _;simp only[aI]at hp;let⟨⟨cs',h2⟩,hp1,hp2⟩:=hp;cases hp2;obtain⟨vs,rfl,hl,h1,WO⟩:=hv.qV;let⟨R2,F2,L2,V2,S2⟩:=LC cs R hp1 hl WO;exact⟨R2,F2,.agg cs' vs L2 h1 V2,by simpa[AV.lT]using S2⟩
  .let⟨R2,F2,V2,S2⟩:=DW R hp hv;refine⟨R2,F2,V2,?_⟩;cases a'<;>simp_all[AV.kZ,AV.lT]
def uF:∀(cs:List AV){h:AH}(_:Rel Z β h w){cs':List AV}{h':AH}(_:kY h cs=some (cs',h')){vs:List Value}(_:cs.length=vs.length)
  (_:∀(j:Nat)(y:AV)(u:Value),cs[j]? = some y->vs[j]? = some u->VR β (Own Z β h) w y u),
  Rel Z β h' w/\Fr Z β h w β h' w/\cs'.length=vs.length/\(∀(j:Nat)(y:AV)(u:Value),cs'[j]? = some y->vs[j]? = some u->VR β (Own Z β h') w y u)/\∀y∈cs',y.lT=true
 | [],h,R,cs',h',hp,vs,hl,_=>by
  simp only[kY]at hp;cases hp;exact⟨R,Fr.refl _ _ _ _,hl,λj y u hy=>by simp at hy,ah⟩
 |a::cs,h,R,cs',h',hp,vs,hl,hv=>by
  simp only[kY,aI]at hp;let⟨⟨a1,h1⟩,hp1,⟨l2,h2⟩,hp2,Wg⟩:=hp;cases Wg;cases vs with
  |nil=>simp at hl
  |cons v vs =>
   let⟨R1,F1,V1,S1⟩:=zA R hp1 (hv 0 a v rfl rfl);let⟨R2,F2,L2,V2,S2⟩:=uF cs R1 hp2 (vs:=vs) (an hl) (λj y u hy hu=>(hv (j+1) y u (an hy) (an hu)).fr F1)
   refine⟨R2,F1.trans F2,by simp[L2],λj y u hy hu=>?_,λy hy=>?_⟩
   .cases j with
    |zero=>simp at hy hu;subst hy hu;exact V1.fr F2
    |succ j=>exact V2 j y u (an hy) (an hu)
   grind
def LA(R:Rel Z β h w){a:AV}(hp:sD h a=some (a',h')){v:Value}(hv:VR β (Own Z β h) w a v):
  Rel Z β h' w/\Fr Z β h w β h' w/\VR β (Own Z β h') w a' v/\a'.jO=true:=by
 unfold sD at hp;split at hp
 .rename_i hE;cases hp;exact⟨R,Fr.refl _ _ _ _,hv,hE⟩
 .split at hp
  .rename_i cs _;simp only[aI]at hp;let⟨⟨cs',h2⟩,hp1,hp2⟩:=hp;cases hp2;obtain⟨vs,rfl,hl,WO⟩:=hv.CT;let⟨R2,F2,L2,V2,S2⟩:=uF cs R hp1 hl WO;exact⟨R2,F2,.kT cs' vs L2 V2,by simpa[AV.jO]using S2⟩
  .let⟨R2,F2,V2,S2⟩:=zA R hp hv;refine⟨R2,F2,V2,?_⟩;cases a'<;>simp_all[AV.jO,AV.lT,AV.kZ]
end
def jS(P:Program)(Z:az)(β:kW)(h:AH)(w:World)(s:Sem Value)(av:AV)(h':AH):Prop :=
 ∃v w' β',s.run P w = .ok v w'/\Rel Z β' h' w'/\Fr Z β h w β' h' w'/\VR β' (Own Z β' h') w' av v
section
variable{P:Program}{Z:az}{β:kW}{h:AH}{w:World}
def jS.of(R:Rel Z β h w){s:Sem Value}{v:Value}(hr:s.run P w = .ok v w)(hv:VR β (Own Z β h) w av v):jS P Z β h w s av h :=
 ⟨v,w,β,hr,R,Fr.refl _ _ _ _,hv⟩
def VR.of_int{O:az}(k:IntKind)(n:Int):VR β O w (.int k n) (.int k n):=.pure _ _ (.int k n)
def VR.of_bool{O:az}(b:Bool):VR β O w (.bool b) (.bool b):=.pure _ _ (.bool b)
def VR.IQ{O:az}{b:ByteArray}{s:au}(hb:b.data.toList=s):VR β O w (.str s) (.string b):=by subst hb;exact .pure _ _ (.str b)
def toList_data(b:ByteArray):b.toList=b.data.toList:=ByteArray.toList_eq b
def Lg:∀x y:au,Op.bytesLess x y=jP x y
 |_,[]=>by simp[Op.bytesLess,jP]
 | [],_::_=>rfl
 |a::x,b::y=>by simp only[Op.bytesLess,jP,Lg x y]
def NQ(R:Rel Z β h w){x y:au}{op:BinOp}(hx:lB x y op=some av){a b:ByteArray}(ha:a.data.toList=x)(hb:b.data.toList=y):
  jS P Z β h w (Op.stringOp op a b) av h:=by
 have e1:a.toList=x:=(toList_data a).trans ha;have e2:b.toList=y:=(toList_data b).trans hb;have hab:(a++b).data.toList=x++y:=by rw[ByteArray.data_append,Array.toList_append,ha,hb]
 have ea:a.size=x.length:=by rw[<-ha];rfl
 have eb:b.size=y.length:=by rw[<-hb];rfl
 have aeC:(x==y)=decide (x=y):=by rw[Bool.eq_iff_iff];simp
 cases op<;>simp only[lB]at hx<;>try (cases hx;done)
 case add =>
  split at hx
  .rename_i hl;cases hx;refine jS.of R (v:=.string (a++b)) ?_ (.IQ hab)
   have:¬((a.size+b.size:Nat):Int)>IntKind.i64.max:=by
    have:IntKind.i64.max=9223372036854775807:=by rfl
    rw[this,ea,eb];omega
   simp only[Op.stringOp,this,if_false,Sem.run_pure]
  .cases hx
 all_goals
  cases hx;refine jS.of R (v:=.bool _) ?_ (.of_bool _);simp only[Op.stringOp,Sem.run_pure,e1,e2,Lg,aeC]
def OA(R:Rel Z β h w){k:IntKind}{x y:Int}{op:BinOp}(hx:qi k x y op=some av)(t:TypeId):
  jS P Z β h w (binOp op t (.int k x) (.int k y)) av h:=by
 have aeC:(x==y)=decide (x=y):=by rw[Bool.eq_iff_iff];simp
 cases op<;>simp only[qi]at hx<;>try (cases hx;done)
 case quo =>
  split at hx
  .cases hx
  .rename_i hy;cases hx;exact jS.of R (v:=.int k _) (by simp[binOp,Op.intDiv,hy]) (.of_int _ _)
 case rem =>
  split at hx
  .cases hx
  .rename_i hy;cases hx;exact jS.of R (v:=.int k _) (by simp[binOp,Op.intDiv,hy]) (.of_int _ _)
 all_goals
  cases hx
  first
   |exact jS.of R (v:=.int k _) (by simp[binOp,Op.intArith,Op.intBits];done) (.of_int _ _)
   |exact jS.of R (v:=.bool _) (by simp[binOp,Op.intCmp,aeC,bne];done) (.of_bool _)
def aa8(R:Rel Z β h w){op:BinOp}{y:AV}(hx:bin op x y=some av){a b:Value}(ha:VR β (Own Z β h) w x a)(hb:VR β (Own Z β h) w y b)(t:TypeId):
  jS P Z β h w (binOp op t a b) av h/\∀ox oy,(eqGuard op t ox oy a b).run P w = .ok () w:=by
 cases x with
 |int k x =>
  cases y with
  |int k' y =>
   have:=ha.nr;subst this;have:=hb.nr;subst this
   have hg:∀ox oy,(eqGuard op t ox oy (.int k x) (.int k' y)).run P w = .ok () w:=by
    intro ox oy;cases op<;>simp[eqGuard]
   refine⟨?_,hg⟩;simp only[bin]at hx;cases op
   case shl =>
    dsimp only at hx;split at hx
    .cases hx
    .rename_i hy;cases hx;exact jS.of R (v:=.int k _) (by simp[binOp,Op.shift,hy]) (.of_int _ _)
   case shr =>
    dsimp only at hx;split at hx
    .cases hx
    .rename_i hy;cases hx;exact jS.of R (v:=.int k _) (by simp[binOp,Op.shift,hy]) (.of_int _ _)
   all_goals
    dsimp only at hx;split at hx
    .rename_i hk;subst hk;exact OA R hx t
    .cases hx
  |_=>simp[bin]at hx
 |str x =>
  cases y with
  |str y =>
   obtain⟨a',rfl,ha'⟩:=ha.pH;obtain⟨b',rfl,hb'⟩:=hb.pH;refine⟨?_,λox oy=>by cases op<;>simp[eqGuard]⟩
   have:binOp op t (.string a') (.string b')=Op.stringOp op a' b':=by cases op<;>rfl
   rw[this];exact NQ R hx ha' hb'
  |_=>simp[bin]at hx
 |_=>simp[bin]at hx
def acC(R:Rel Z β h w){op:UnOp}(hx:un op x=some av){a:Value}(ha:VR β (Own Z β h) w x a):jS P Z β h w (Op.unary op a) av h:=by
 cases x with
 |bool b =>
  have:=ha.pF;subst this;cases op<;>simp[un]at hx
  subst hx;exact jS.of R (v:=.bool (!b)) (by simp[Op.unary]) (.of_bool _)
 |int k n =>
  have:=ha.nr;subst this;cases op<;>simp[un]at hx
  subst hx;exact jS.of R (v:=.int k _) (by simp[Op.unary,Op.intArith]) (.of_int _ _)
 |_=>simp[un]at hx
end
def nU(b o j:Nat):(⟨b,o,none⟩:Addr).add j=⟨b,o+j,none⟩:=by
 unfold Addr.add;split
 .rename_i hj;subst hj;rfl
 .rfl
def ZS{p:Nat->Value->Prop}(n:Nat)(hp:∀j,j<n->∃u,p j u):∃vs:List Value,vs.length=n/\∀(j:Nat)(u:Value),vs[j]? = some u->p j u:=by
 induction n with
 |zero=>exact⟨[],rfl,λj u hu=>by simp at hu⟩
 |succ n ih =>
  let⟨vs,hl,hv⟩:=ih λj hj=>hp j aa
  let⟨u,hu⟩:=hp n aa
  refine⟨vs++[u],by simp[hl],λj x hx=>?_⟩
  by_cases hj:j<n
  .rw[aK aa]at hx
   exact hv j x hx
  .rw[aV aa]at hx
   have:j-vs.length=0:=by
    have:=(aF.1 hx).1;simp at this;omega
   rw[this]at hx;simp at hx;have:j=n:=aa
   subst this;subst hx;exact hu
def lC(P:Program)(t:TypeId)(sz:Nat):Bool:=match P.info? t with | some i=>i.size==sz | none=>false
def Db(P:Program)(t:TypeId)(n:Nat):Bool:=match P.info? t with | some i=>i.bytes==n | none=>false
def we(P:Program)(t:TypeId)(agg:Bool):Bool :=
 match P.underlying t with
 |some (.struct _)=>agg
 |some (.array _ _)=>agg
 |some _=>!agg
 |none=>false
def eqS:Value->AV->Bool
 | .bool b,.bool b'=>b==b'
 | .int k n,.int k' n'=>decide (k=k')&&decide (n=n')
 | .string s,.str l=>decide (s.data.toList=l)
 | .pointer none,.oI=>true
 | .map none,.pg=>true
 | .slice none 0 0,.jB true []=>true
 | .nilFunc,.nh=>true
 | .nilIface,.pn=>true
 |_,_=>false
def GC:List Value->List AV->Bool
 | [],[]=>true
 |v::vs,a::as=>eqS v a&&GC vs as
 |_,_=>false
def eqV:Value->AV->Bool
 | .agg cs,.agg l=>GC cs.toList l
 |v,a=>eqS v a
def Dh(P:Program)(t:TypeId)(cs:List AV):Bool:=match P.info? t with
 |some i=>match i.zero with
  |some z=>GC z.cells.toList cs
  |none=>false
 |none=>false
def zeroV(P:Program)(t:TypeId)(a:AV):Bool:=match P.info? t with
 |some i=>match i.zero with
  |some z=>eqV z a
  |none=>false
 |none=>false
def Ju{O:az}{w:World}{v:Value}{a:AV}(he:eqS v a=true):qW O w a v/\v.oneCell'=true/\a.kZ=true:=by
 unfold eqS at he;split at he
 .simp at he;subst he;exact⟨.bool _,rfl,rfl⟩
 .simp at he;obtain⟨rfl,rfl⟩:=he;exact⟨.int _ _,rfl,rfl⟩
 .simp at he;subst he;exact⟨.str _,rfl,rfl⟩
 .exact⟨.oI,rfl,rfl⟩
 .exact⟨.pg,rfl,rfl⟩
 .exact⟨.jB true [] none 0 0 0 0 (λ_ _=>.bool true) ah ah ah ah ah ah ah,rfl,rfl⟩
 .exact⟨.nh,rfl,rfl⟩
 .exact⟨.pn,rfl,rfl⟩
 .cases he
def tc{O:az}{w:World}:∀ {vs:List Value} {as:List AV},GC vs as=true->
  as.length=vs.length/\(∀u∈vs,u.oneCell'=true)/\(∀(j:Nat)(y:AV)(u:Value),as[j]? = some y->vs[j]? = some u->qW O w y u)/\as.all AV.kZ=true
 | [],[],_=>⟨rfl,ah,ah,rfl⟩
 |v::vs,a::as,he=>by
  simp only[GC,aH]at he;let⟨e1,e2⟩:=he;let⟨p1,p2,p3⟩:=Ju (O:=O) (w:=w) e1;let⟨q1,q2,q3,q4⟩:=tc (O:=O) (w:=w) e2;refine⟨by simp[q1],?_,λj y u hy hu=>?_,by simp[p3];simpa using q4⟩
  .intro u hu
   rcases aP.1 hu with rfl | hu
   .exact p2
   .exact q2 u hu
  .cases j with
   |zero=>simp at hy hu;subst hy hu;exact p1
   |succ j=>exact q3 j y u (an hy) (an hu)
 | [],_::_,he=>by simp[GC]at he
 |_::_,[],he=>by simp[GC]at he
def QK{O:az}{w:World}{v:Value}{a:AV}(he:eqV v a=true):qW O w a v/\a.lT=true:=by
 unfold eqV at he;split at he
 .rename_i cs l;let⟨q1,q2,q3,q4⟩:=tc (O:=O) (w:=w) he;refine⟨.agg l cs.toList q1 q2 q3,by simpa[AV.lT]using q4⟩
 .let⟨p1,p2,p3⟩:=Ju (O:=O) (w:=w) he;refine⟨p1,?_⟩;cases a<;>simp_all[AV.kZ,AV.lT]
variable{sz:Nat}
section
variable{P:Program}{Z:az}{β:kW}{h:AH}{w:World}
def mo{t:TypeId}(hs:lC P t sz=true)(w:World):(sizeOf t).run P w = .ok sz w:=by
 unfold lC at hs;split at hs
 .rename_i i hi;simp at hs;simp[sizeOf,typeInfo,hi,hs]
 .cases hs
def xP{t:TypeId}{agg:Bool}(ha:we P t agg=true)(w:World):(isAgg t).run P w = .ok agg w:=by
 unfold we at ha;unfold isAgg;split at ha
 .rename_i f hf;simp[run_underlying hf,ha]
 .rename_i n e hf;simp[run_underlying hf,ha]
 .rename_i d h1 h2 hf;simp only[Sem.run_bind,run_underlying hf,Result.andThen_ok];cases d<;>simp_all
 .cases ha
def Hh(R:Rel Z β h w){a:AV}{cs:List AV}(hc:j7 h a=some cs){agg:Bool}{av:AV}(hs:shape sz agg cs=some av){v:Value}(hv:VR β (Own Z β h) w a v)
  {t:TypeId} (hsz:lC P t sz=true) (hag:we P t agg=true):∃u,(Instr.loadAt t v).run P w = .ok u w/\VR β (Own Z β h) w av u:=by
 obtain⟨blk,o,rfl,hcell⟩:=Cy R hc hv;unfold shape at hs;split at hs
 .cases hs
 .rename_i hlen;have hl:sz<=cs.length:=by omega
  split at hs
  .rename_i hagg;cases hs
   let⟨vs,hvl,hvs⟩:=ZS (p:=λj u=>w.cell? ⟨blk,o+j,none⟩=some u/\u.oneCell'=true/\VR β (Own Z β h) w (cs.getD j .dead) u) sz (λj hj=>by
    let⟨u,h1,h2,h3⟩:=hcell j cs[j] (by simp[show j<cs.length by omega])
    exact⟨u,h1,h2,by simpa[show j<cs.length by omega]using h3⟩)
   refine⟨.agg vs.toArray,?_,.agg _ vs (by simp[hvl];omega) ?_ ?_⟩
   .have Qp:=run_loadCells_list (P:=P) w ⟨blk,o,none⟩ vs (λj u hu=>by rw[nU];exact(hvs j u hu).1)
    rw[hvl]at Qp;subst hagg;simp only[Instr.loadAt,Instr.sureAddr,loadVar,Sem.run_bind,Sem.run_pure,Result.andThen_ok,xP hag,if_true,mo hsz,Qp]
   .intro u hu;obtain⟨j,hj,rfl⟩:=dW hu;exact(hvs j _ (by simp[hj])).2.1
   .intro j y u hy hu;let⟨_,_,h3⟩:=hvs j u hu;rw[cC]at hy;split at hy
    .simpa[List.getD,hy]using h3
    .cases hy
  .rename_i hagg;split at hs
   .rename_i akm;let⟨u,h1,h2,h3⟩:=hcell 0 av (by simpa[iR]using hs)
    refine⟨u,?_,h3⟩;have WK:agg=false:=by simpa using hagg
    subst WK;simp only[ct]at h1;simp only[Instr.loadAt,Instr.sureAddr,loadVar,Sem.run_bind,Sem.run_pure,Result.andThen_ok,xP hag,aU,if_false,run_load,h1]
   .cases hs
def zM(R:Rel Z β h w){a:AV}{cs:List AV}(hc:j7 h a=some cs){agg:Bool}{av:AV}(hs:shape sz agg cs=some av){v:Value}(hv:VR β (Own Z β h) w a v)
  {t:TypeId} (hsz:lC P t sz=true) (hag:we P t agg=true):jS P Z β h w (Instr.loadAt t v) av h:=by
 let⟨u,h1,h2⟩:=Hh (P:=P) R hc hs hv hsz hag;exact jS.of R h1 h2
def CH{e:AV}{o:Nat}{xs:List AV}(hs:xs.all AV.kZ=true)(hfit:o+xs.length<=e.cells.length):(e.mQ (over e.cells o xs)).cells=over e.cells o xs:=by
 by_cases hag:∃cs,e = .agg cs
 .obtain⟨cs,rfl⟩:=hag;rfl
 .have hc:e.cells=[e]:=by cases e<;>first | rfl | (exact absurd ⟨_,rfl⟩ hag)
  have hw:∀l,e.mQ l=l.headD .dead:=by intro l;cases e<;>first | rfl | (exact absurd ⟨_,rfl⟩ hag)
  rw[hw,hc];rw[hc]at hfit;cases xs with
  |nil =>
   have:over [e] o []=[e]:=by simp[over]
   rw[this];simpa using hc
  |cons x xs =>
   simp at hfit;have h0:o=0:=aa
   have hx:xs=[]:=aY aa
   subst h0 hx;have:over [e] 0 [x]=[x]:=by simp[over]
   rw[this];simp at hs⊢;cases x<;>first | rfl | (simp[AV.kZ]at hs;done)
def GP (R:Rel Z β h w) {a x:AV} {h':AH} (hs:storeAt h sz a x=some h') {v u:Value} (hv:VR β (Own Z β h) w a v) (hu:VR β (Own Z β h) w x u)
  {t:TypeId} (hsz:lC P t sz=true):∃w',(Instr.storeAt t v u).run P w = .ok () w'/\Rel Z β h' w'/\Fr Z β h w β h' w':=by
 cases a with
 |ptr b vv i o =>
  obtain⟨bd,c,hbd,hcb,rfl⟩:=hv.oE;simp only[storeAt]at hs;split at hs
  .rename_i cs hcs;split at hs
   .rename_i nR;obtain⟨rfl,rfl,hok,hlen,hfit⟩:=nR;cases hs;let⟨us,e1,e2,e3,e4⟩:=hu.cells hok;let⟨c',cur,elem,g1,g2,g3,g4,g5⟩:=R.RZ hcs o x.cells us e2 aa e3 e4
    rw[hbd]at g1;cases g1;cases hcb;refine⟨_,?_,g4,g5⟩;have hst:=run_storeCells_at P c o elem us 0 cur w g2 aa e3
    simp only[ct]at hst;have aeh:u.cells.size=sz:=by rw[e1];simp;omega
    simp only[Instr.storeAt,Instr.sureAddr,storeVar,Sem.run_bind,Sem.run_pure,Result.andThen_ok,mo hsz,aeh,ne_eq,not_true_eq_false,if_false,Sem.run_ite];rw[e1]
    simpa[over]using hst
   .cases hs
  .simp only[aI]at hs;let⟨⟨x',h1⟩,hp,hs⟩:=hs;let⟨R1,F1,V1,S1⟩:=zA R hp hu;dsimp only at hs;split at hs
   .rename_i v' sz' es lJ;simp only[aI]at hs;let⟨e,he,hs⟩:=hs;split at hs
    .rename_i nR;obtain⟨rfl,hok,hlen,hfit⟩:=nR;cases hs
     let⟨us,e1,e2,e3,e4⟩:=V1.cells (by
      rw[aO]at hok⊢;exact λy hy=>yM (hok y hy))
     let⟨SX,zk,q1,q2,q3⟩:=R1.blk b _ lJ;rw[hbd]at q1;cases q1
     rcases q3 with⟨q3,_⟩ | ⟨c',cur,elem,g1,g2,g3,g4,g5⟩
     .rw[hcb]at q3;cases q3
     rw[hcb]at g1;cases g1;subst q2;have hi:i<es.length:=(aF.1 he).1;have hel:=(g5 i e he).1;have Ey:bd.base+i*bd.sz+bd.sz<=cur.size:=by
      have:(i+1)*bd.sz<=es.length*bd.sz:=bD _ hi;rw[bR]at this;omega
     have oS:bd.base+i*bd.sz+o+us.length<=cur.toList.length:=aj
     let⟨W1,W2⟩:=R1.GI lJ hbd hcb g2 (over cur.toList (bd.base+i*bd.sz+o) us) (by simp[jZ _ _ _ oS]) (es':=es.set i (e.mQ (over e.cells o x'.cells))) ah (by
      intro i1 x1 hx1
      by_cases hi1:i1=i
      .subst hi1;rw[aZ hi]at hx1;cases hx1;have hwc:=CH (e:=e) hok (by omega:o+x'.cells.length<=e.cells.length)
       rw[hwc];refine⟨by rw[jZ _ _ _ aa];exact hel,λj y hy=>?_⟩
       rw[kj _ _ _ aa]at hy
       simp only[bN];rw[kj _ _ _ oS]
       by_cases hj:o<=j/\j<o+x'.cells.length
       .rw[if_pos hj]at hy;rw[if_pos aa]
        have ej:bd.base+(i1*bd.sz+j)-(bd.base+i1*bd.sz+o)=j-o:=aa
        rw[ej];have hlt:j-o<us.length:=aa
        refine⟨us[j-o],by simp[hlt],e3 _ (aS hlt),(e4 (j-o) y us[j-o] hy (by simp[hlt])).Lx ?_⟩
        exact aO.1 hok y (aR hy)
       .rw[if_neg hj]at hy;rw[if_neg aa]
        let⟨u',k1,k2,k3⟩:=(g5 i1 e he).2 j y hy;exact⟨u',an k1,k2,k3⟩
      .rw[aJ (Ne.symm hi1)]at hx1;let⟨k0,k⟩:=g5 i1 x1 hx1;refine⟨k0,λj y hy=>?_⟩
       let⟨u',k1,k2,k3⟩:=k j y hy;have hj:j<bd.sz:=by rw[<-k0];exact(aF.1 hy).1
       refine⟨u',?_,k2,k3⟩;simp only[bN];rw[kj _ _ _ oS,if_neg]
       .simpa using k1
       .rintro⟨m1,m2⟩
        have xl:=M4 (j':=bd.base+(i1*bd.sz+j)-(bd.base+i*bd.sz)) hi1 hj aa
        omega)
     refine⟨_,?_,W1,F1.trans W2⟩;have hst:=run_storeCells_at P c (bd.base+i*bd.sz+o) elem us 0 cur w g2 (an oS) e3
     simp only[ct]at hst;have aeh:u.cells.size=sz:=by rw[e1];simp;omega
     simp only[Instr.storeAt,Instr.sureAddr,storeVar,Sem.run_bind,Sem.run_pure,Result.andThen_ok,mo hsz,aeh,ne_eq,not_true_eq_false,if_false,Sem.run_ite];rw[e1]
     simpa[over]using hst
    .cases hs
   .cases hs
  .cases hs
 |_=>simp[storeAt]at hs
end
end Go.Am
