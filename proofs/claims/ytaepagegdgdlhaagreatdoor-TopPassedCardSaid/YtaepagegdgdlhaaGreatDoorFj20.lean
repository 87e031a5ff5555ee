/- Part of the proof that TopPassedCard holds. -/
import Derived.Test.YtaepagegdgdlhaaGreatDoorFd20
import Derived.Test.YtaepagegdgdlhaaGreatDoorWq20
import Derived.Test.YtaepagegdgdlhaaGreatDoorCrP
set_option linter.all false
namespace Go.Proofs.YtaepagegdgdlhaaGreatDoor.F
open Go.Am Go.Am.Nm Go.Tr Go.Lib
open T (lG Bt Tv Nd En I B okB vN mB)
open R
open Y (jK lU mI cnt qA pat)
def GY(A:Nat->AB)(Y:AH):(qB A++Y)[8]? = Y[0]? := by
 rw[aV ah];simp
def PK(A:Nat->AB)(Y:AH):(qB A++Y)[9]? = Y[1]? := by
 rw[aV ah];simp
def DJ(A:Nat->AB)(b c:AB)(Y:AH):(qB A++(c::Y)).set 8 b=qB A++(b::Y):=by
 rw[eD _ _ ah];simp
def Iu(A:Nat->AB)(Y:AH){g:Nat}(h:g<8):(qB A++Y)[g]? = some (A g):=by
 rw[aK (an h),PJ A h]
def N4(A:Nat->AB)(Y:AH){g:Nat}(h:g<8)(b:AB):(qB A++Y).set g b=(qB λj=>if j=g then b else A j)++Y:=by
 rw[gi _ _ (an h),Zg]
def UG(h0:AH)(A:Nat->AB)(v:aA)(C:Nat->List AV)(hA:∀j,j<8->A j = .row (v j) 6 (C j)):j5 19 R8 h0 11 (qB A)=qB λj=>.row 0 6 (C j):=by
 have e:∀B:Nat->AB,qB B=[B 0,B 1,B 2,B 3,B 4,B 5,B 6,B 7]:=λ_=>rfl
 rw[e,e,hA 0 af,hA 1 af,hA 2 af,hA 3 af,hA 4 af,hA 5 af,hA 6 af,hA 7 af]
 simp[j5,kL]
def abR(t:Tr.Tree)(l:List Sh.P)(s:HS)(p:Tr.Node)(e:Env)(k:Int)(he:e 23=I k)(ks:ax)(a:Nat->AV)(A:Nat->AB)(Y:AH)(v n:aA)(C:Nat->List AV)(hA:∀j,j<8->A j = .row (v j) 6 (C j))(ha:∀j∈ks,j<8/\a j = .own (j+11) (v j) 0 (n j)):
  head 19 R8 [23] ⟨e,hQ t l s p++(.mp (rF ks a)::(qB A++Y))⟩=([I k],hQ t l s p++(.mp (rF ks λj=>.own (j+11) 0 0 (n j))::qB λj=>.row 0 6 (C j))):=by
 have uv:(hQ t l s p++(.mp (rF ks a)::(qB A++Y))).take 19=hQ t l s p++(.mp (rF ks a)::qB A):=by
  have:hQ t l s p++(.mp (rF ks a)::(qB A++Y))=(hQ t l s p++(.mp (rF ks a)::qB A))++Y:=ah
  rw[this,List.take_left' ah]
 rw[head_eq];simp only[uv];generalize hH:hQ t l s p++(.mp (rF ks a)::(qB A++Y))=H
 have hQn:j5 19 R8 H 0 (hQ t l s p)=hQ t l s p:=by
  have hc1:((λp:Int×AV=>(p.1,j9 19 R8 H p.2))∘λp:Int×Int=>(p.1,I p.2))=λp=>(p.1,I p.2):=rfl
  have yC:((λp:au×AV=>(p.1,j9 19 R8 H p.2))∘λp:au×Int=>(p.1,I p.2))=λp=>(p.1,I p.2):=rfl
  simp[j5,kL,j9,AV.kZ,AV.lT]
 have hrow:∀j,j<8->H[j+11]? = some (.row (v j) 6 (C j)):=λj hj=>by
  rw[<-hH,<-hA j hj];rw[aV ah,aQ]
  simp only[aQ,bq];rw[show j+11-(0+1+1+1+1+1+1+1+1+1+1)=j+1 by omega,bG,Iu A Y hj]
 have hmp:(rF ks a).map (λp=>(p.1,j9 19 R8 H p.2))=rF ks λj=>.own (j+11) 0 0 (n j):=by
  unfold rF;rw[gL];apply cS;intro j hj;let⟨h8,hj⟩:=ha j hj
  have hc:List.contains R8 (j+11)=true:=by
   rcases(by omega:j=0\/j=1\/j=2\/j=3\/j=4\/j=5\/j=6\/j=7)with h | h | h | h | h | h | h | h<;>subst h<;>rfl
  show ((j:Int),j9 19 R8 H (a j))=_;rw[hj];simp only[j9,hrow j h8];rw[if_pos aa,if_pos hc,if_pos trivial]
 rw[oH,hQn,j5,kL,hmp];have e11:0+(hQ t l s p).length+1=11:=ah
 rw[e11,UG H A v C hA];have hk:sR 19 R8 H e [23]=[I k]:=by
  simp[he,nP,AV.lT]
 rw[hk]
def akK(t:Tr.Tree)(l:List Sh.P)(s:HS)(p:Tr.Node)(e:Env)(k:Int)(he:e 23=I k)(h7:e 7 = .nQ 10)(ks:ax)(a:Nat->AV)(A:Nat->AB)(Y:AH)(v n:aA)(C:Nat->List AV)(hA:∀j,j<8->A j = .row (v j) 6 (C j))(ha:∀j∈ks,j<8/\a j = .own (j+11) (v j) 0 (n j)):
  head 19 R8 [23] (kO 11 KE ⟨e,hQ t l s p++(.mp (rF ks a)::(qB A++Y))⟩)=([I k],hQ t l s p++(.mp (rF ks λj=>.own (j+11) 0 0 (n j))::qB λj=>.row 0 6 (C j))):=by
 have hm:(hQ t l s p++(.mp (rF ks a)::(qB A++Y)))[10]? = some (.mp (rF ks a)):=rfl;have:=xQ (s:=⟨e,hQ t l s p++(.mp (rF ks a)::(qB A++Y))⟩) h7 hm 8 0 λi _ _ hi=>⟨v i,n i,(ha i hi).2⟩
 rw[show adK 0 8=KE from rfl,bE]at this
 rw[this];exact abR t l s p e k he ks a A Y v n C hA ha
def akM(t:Tr.Tree)(l:List Sh.P)(s:HS)(p:Tr.Node)(e:Env)(k:Int)(he:e 23=I k)(h7:e 7 = .nQ 10)(ks:ax)(a:Nat->AV)(A:Nat->AB)(Y0:AB)(v n:aA)(C:Nat->List AV)(g:Nat)(hg:g<8)(u:Nat)(hA:∀j,j<8->j≠g->A j = .row (v j) 6 (C j))(hAg:A g = .row u 6 [])(YJ:g∈ks)(hn:ks.Nodup)(hag:a g = .own 20 0 0 (C g).length)(hng:n g=(C g).length)(ha:∀j∈ks,j≠g->j<8/\a j = .own (j+11) (v j) 0 (n j)):
  head 19 R8 [23] (kO 11 KE ⟨e,hQ t l s p++(.mp (rF ks a)::(qB A++[Y0,.row 0 6 (C g)]))⟩)=([I k],hQ t l s p++(.mp (rF ks λj=>.own (j+11) 0 0 (n j))::qB λj=>.row 0 6 (C j))):=by
 have hm:∀a A Y,(hQ t l s p++(.mp (rF ks a)::(qB A++Y)))[10]? = some (.mp (rF ks a)):=λ_ _ _=>rfl
 have es:KE=adK 0 g++((7,g,6)::adK (g+1) (7-g)):=by
  rcases(by omega:g=0\/g=1\/g=2\/g=3\/g=4\/g=5\/g=6\/g=7)with h | h | h | h | h | h | h | h<;>subst h<;>rfl
 have el:(adK 0 g).length=g:=by simp[adK]
 have k1:=xQ (s:=⟨e,hQ t l s p++(.mp (rF ks a)::(qB A++[Y0,.row 0 6 (C g)]))⟩) h7 (hm _ _ _) g 0 λi _ hi hik=>⟨v i,n i,(ha i hik aa).2⟩
 rw[bE]at k1;rw[es,Lq,el,k1,kO]
 have k2:tD (11+g) ⟨e,hQ t l s p++(.mp (rF ks a)::(qB A++[Y0,.row 0 6 (C g)]))⟩ (7,g,6)=⟨e,hQ t l s p++(.mp (rF ks λj=>if j=g then .own (g+11) (u+1) 0 (C g).length else a j)::(qB (λj=>if j=g then .row (u+1) 6 (C g)else A j)++[Y0,.row 1 6 []]))⟩:=by
  have hf:((rF ks a).find? λp=>decide (p.1=(g:Int))).map (λp=>p.2)=some (.own 20 0 0 (C g).length):=by
   rw[Ee,if_pos YJ,<-hag];rfl
  have h1:∀(X:AV),mN (rF ks a) (g:Int) X=rF ks λj=>if j=g then X else a j:=λX=>by
   rw[IW _ _ _ _ hn,if_pos YJ]
  have akH:11+g=g+1+1+1+1+1+1+1+1+1+1+1:=aa
  have KU:¬20=11+g:=aa
  have g20:(hQ t l s p++(.mp (rF ks a)::(qB A++[Y0,AB.row 0 6 (C g)])))[20]? = some (.row 0 6 (C g)):=by
   simp only[bK,bB,bG,PK,bz]
  have gg:(hQ t l s p++(.mp (rF ks a)::(qB A++[Y0,AB.row 0 6 (C g)])))[11+g]? = some (.row u 6 []):=by
   simp only[akH,bK,bB,bG,Iu A _ hg,hAg]
  have q1:(qB A++[Y0,AB.row 0 6 (C g)]).set 9 (.row 1 6 [])=qB A++[Y0,.row 1 6 []]:=by
   rw[eD _ _ ah];simp
  have s1:((hQ t l s p++(.mp (rF ks a)::(qB A++[Y0,AB.row 0 6 (C g)]))).set 20 (.row (0+1) 6 [])).set (11+g) (.row (u+1) 6 (C g))=hQ t l s p++(.mp (rF ks a)::(qB (λj=>if j=g then .row (u+1) 6 (C g)else A j)++[Y0,.row 1 6 []])):=by
   simp only[akH,bK,bB,List.set_cons_succ,bE,q1,N4 A _ hg]
  have s2:∀es B Z,(hQ t l s p++(.mp (rF ks a)::(qB B++Z))).set 10 (.mp es)=hQ t l s p++(.mp es::(qB B++Z)):=λ_ _ _=>rfl
  unfold tD r6 AE;simp only[h7,hm,hf,KU,if_false,g20,gg];simp only[true_and,if_true,s1,hm,s2,h1];rw[show 11+g=g+11 by omega]
 rw[k2]
 have ha':∀j∈ks,j<8/\(if j=g then AV.own (g+11) (u+1) 0 (C g).length else a j) = .own (j+11) (if j=g then u+1 else v j) 0 (n j):=λj hj=>by
  by_cases c:j=g
  .subst c;rw[if_pos rfl,if_pos rfl,hng];exact⟨hg,rfl⟩
  .rw[if_neg c,if_neg c];exact ha j hj c
 have k3:=xQ (s:=⟨e,hQ t l s p++(.mp (rF ks λj=>if j=g then .own (g+11) (u+1) 0 (C g).length else a j)::(qB (λj=>if j=g then .row (u+1) 6 (C g)else A j)++[Y0,.row 1 6 []]))⟩) h7 (hm _ _ _) (7-g) (g+1) λi _ hi hik=>⟨_,_,(ha' i hik).2⟩
 rw[show g+1+11=11+g+1 by omega]at k3
 rw[k3];refine abR t l s p e k he ks _ _ _ (λj=>if j=g then u+1 else v j) n C (λj hj=>?_) ha'
 by_cases c:j=g
 .subst c;rw[if_pos rfl,if_pos rfl]
 .rw[if_neg c,if_neg c];exact hA j hj c
def VK{Γ:kP}(t:Tr.Tree)(ht:t.nodes.length<=200)(l:List Sh.P)(hr:jK l)(f:Bool)(s:HS)(p:Tr.Node)(ks:ax)(hn:ks.Nodup)(hk8:∀j∈ks,j<8)(r:Nat->List Tr.Node)(hk:∀j,j∉ks->r j=[])(k:Nat)(yS:k<t.nodes.length)(x:Tr.Node)(hx:x=t.nodes[k])(m:Nat)(hm:m<l.length)(hg:uh s.m x.ino=m)(y:Sh.P)(hy:y=l[m])(g:Nat)(hyg:y.gr=g)(hg8:g<8)(hrl:∀j,(r j).length<=200)
  (e0:Env) (h0:e0 0 = .jB f (l.map Sh.D)) (h5:e0 5 = .nQ 2) (h7:e0 7 = .nQ 10) (Mt:e0 21 = .jB t.fn (t.nodes.map Nd)) (Ta:e0 22=I t.nodes.length) :
  lD Γ 11 KE [23] [(.exit 0,[])] MT e0 19 R8 ([I k],hQ t l s p++(.mp (rF ks (SC (λj=>(r j).length) λ_=>0))::qB (Sv r λ_=>0))) =
   some (.inl ([I (k+1)],hQ t l s p++(.mp (rF (if g∈ks then ks else ks++[g]) (SC (λj=>(NT r g x j).length) λ_=>0))::qB (Sv (NT r g x) λ_=>0)))):=by
 have hl:=hr.le
 by_cases YJ:g∈ks
 .have hrg:=PJ (Sv r λ_=>0) hg8
  unfold hQ;have Jf:=hrl g;have hl8:=λA=>Zh A
  unfold KE R8;simp(disch:=omega)[-kO,-head_eq,jV,Nf,h0,h5,h7,Mt,Ta,<-hx,w9,hg,<-hy,hyg,wX,IW,YJ,SC,Sv,GY,DJ,Iu,N4];have:=akK t l s p;simp only[bK,bB]at this;rw[this _ (k+1) aq (by simp(disch:=omega)[h7]) ks _ _ _ (λj=>if j=g then 1 else 0) (λj=>(NT r g x j).length) (λj=>(NT r g x j).map Nd) (λj hj=>?_) (λj hj=>?_)]
  .rfl
  .unfold NT;split<;>simp[*]
  .unfold NT;refine⟨hk8 j hj,?_⟩;split<;>simp[*]
 .unfold hQ;have Jf:=hrl g;have zV:=hk g YJ;unfold KE R8;simp(disch:=omega)[-kO,-head_eq,jV,Nf,h0,h5,h7,Mt,Ta,<-hx,w9,hg,<-hy,hyg,wX,IW,YJ,SC,GY,DJ];have:=akM t l s p;simp only[bK,bB]at this;have hC:((λj=>(NT r g x j).map Nd) g)=[Nd x]:=by simp[NT,zV]
  have hN:∀(e:Env),e 23=I (k+1)->e 7 = .nQ 10->_:=λe he h7=>this e (k+1) he h7 (ks++[g]) (λj=>if j=g then .own 20 0 0 1 else .own (j+11) 0 0 (r j).length) (λj=>.row 0 6 ((r j).map Nd)) (vN x) (λ_=>0) (λj=>(NT r g x j).length) (λj=>(NT r g x j).map Nd) g hg8 0
   (λj hj hne=>by simp[NT,hne]) (by simp[zV]) ah (fq.2 ⟨hn,ah,λj hj i hi e=>YJ (by rw[aM]at hi;rw[<-hi,<-e];exact hj)⟩) (by simp[hC]) ah (λj hj hne=>by
    have:j∈ks:=by simpa[hne]using hj
    exact⟨hk8 j this,by simp[hne,NT]⟩)
  simp only[hC]at hN;exact hN _ aq (by simp(disch:=omega)[h7])
open Go.Am Go.Am.Nm Go.Tr Go.Lib
open T (lG Bt Tv Nd En I B okB vN mB)
open R
open Y (jK lU mI cnt qA pat)
abbrev Gs:=ax×(Nat->List Tr.Node)
def gK(gr:Tr.Node->Nat)(s:Gs)(x:Tr.Node):Gs:=(if gr x∈s.1 then s.1 else s.1++[gr x],NT s.2 (gr x) x)
structure TQ(gr:Tr.Node->Nat)(L:List Tr.Node)(s:Gs):Prop where
 nd:s.1.Nodup
 lt:∀j∈s.1,j<8
 no:∀j,j∉s.1->s.2 j=[]
 eq:∀j,s.2 j=L.filter λx=>decide (gr x=j)
def abX{gr:Tr.Node->Nat}{L:List Tr.Node}{s:Gs}(h:TQ gr L s)(x:Tr.Node)(hx:gr x<8):TQ gr (L++[x]) (gK gr s x):=by
 unfold gK;refine⟨?_,λj hj=>?_,λj hj=>?_,λj=>?_⟩
 .dsimp only;split
  .exact h.nd
  .rename_i hn;exact fq.2 ⟨h.nd,ah,λj hj i hi e=>hn (by rw[aM]at hi;rw[<-hi,<-e];exact hj)⟩
 .dsimp only at hj;split at hj
  .exact h.lt j hj
  .rcases aX.1 hj with hj | hj
   .exact h.lt j hj
   .rw[aM]at hj;omega
 .dsimp only at hj⊢;have hj1:j∉s.1/\j≠gr x:=by
   split at hj
   .rename_i hm;exact⟨hj,λe=>hj (e▸hm)⟩
   .simpa using hj
  unfold NT;rw[if_neg hj1.2,h.no j hj1.1]
 .dsimp only;unfold NT;rw[eV,h.eq j]
  by_cases c:j=gr x
  .subst c;simp
  .rw[if_neg c];have:¬gr x=j:=λe=>c e.symm
   simp[this]
def Qv{gr:Tr.Node->Nat}:∀(M L:List Tr.Node)(s:Gs),(∀x∈M,gr x<8)->TQ gr L s->TQ gr (L++M) (M.foldl (gK gr) s)
 | [],L,s,_,h=>by simpa using h
 |x::M,L,s,hM,h=>by
  have:=Qv M (L++[x]) (gK gr s x) (λy hy=>hM y (bt _ hy)) (abX h x (hM x bu))
  simpa using this
def ksF(gr:Tr.Node->Nat)(l:List Tr.Node):ax:=(l.foldl (gK gr) ([],λ_=>[])).1
def VO{gr:Tr.Node->Nat}{l:List Tr.Node}(h:∀x∈l,gr x<8):l.foldl (gK gr) ([],λ_=>[])=(ksF gr l,λj=>l.filter λx=>decide (gr x=j))/\TQ gr l (ksF gr l,λj=>l.filter λx=>decide (gr x=j)):=by
 have hf:=Qv (gr:=gr) l [] ([],λ_=>[]) h ⟨ah,ah,ah,ah⟩
 rw[bB]at hf;unfold ksF;generalize l.foldl (gK gr) ([],λ_=>[])=A at hf⊢
 let⟨ks,r⟩:=A;have er:r=λj=>l.filter λx=>decide (gr x=j):=funext λj=>hf.eq j
 subst er;exact⟨rfl,hf⟩
def ajG{Γ:kP}(t:Tr.Tree)(ht:t.nodes.length<=200)(l:List Sh.P)(hr:jK l)(f:Bool)(s:HS)(p:Tr.Node)(gr:Tr.Node->Nat)(hg:∀x∈t.nodes,∃(m:Nat) (hm:m<l.length),uh s.m x.ino=m/\(l[m]).gr=(gr x:Int)/\gr x<8)(e0:Env)(h0:e0 0 = .jB f (l.map Sh.D))(h5:e0 5 = .nQ 2)(h7:e0 7 = .nQ 10)(Mt:e0 21 = .jB t.fn (t.nodes.map Nd))(Ta:e0 22=I t.nodes.length):
  iter (lD Γ 11 KE [23] [(.exit 0,[])] MT e0 19 R8) ([.int .i64 0],hQ t l s p++(.mp []::qB λ_=>.row 0 6 [])) =
   some (.exit 0,[],hQ t l s p++(.mp (rF (ksF gr t.nodes) λj=>.own (j+11) 0 0 (t.nodes.filter λx=>decide (gr x=j)).length)::qB λj=>.row 0 6 ((t.nodes.filter λx=>decide (gr x=j)).map Nd))):=by
 have:=jU (f:=lD Γ 11 KE [23] [(.exit 0,[])] MT e0 19 R8) (λk (A:Gs)=>([.int .i64 (k:Int)],hQ t l s p++(.mp (rF A.1 (SC (λj=>(A.2 j).length) λ_=>0))::qB (Sv A.2 λ_=>0)))) t.nodes (gK gr) (λA=>(.exit 0,[],hQ t l s p++(.mp (rF A.1 (SC (λj=>(A.2 j).length) λ_=>0))::qB (Sv A.2 λ_=>0)))) (λk A=>TQ gr (t.nodes.take k) A)
  (λk hk A hσ=>by
   have hxm:=aS hk;let⟨m,hm,h1,h2,h3⟩:=hg _ hxm;refine⟨by rw[bC hk];exact abX hσ _ h3,?_⟩
   exact VK t ht l hr f s p A.1 hσ.nd hσ.lt A.2 hσ.no k hk _ rfl m hm h1 _ rfl _ h2 h3 (λj=>by
    rw[hσ.eq j];have e1:=cr (λx=>decide (gr x=j)) (t.nodes.take k)
    have e2:=List.length_take_le' k t.nodes;omega) e0 h0 h5 h7 Mt Ta)
  (λA hσ=>by
   simp(disch:=omega)[-kO,-head_eq,jV,Nf,Ta]) ([],λ_=>[]) ⟨ah,ah,ah,ah⟩
 rw[(VO λx hx=>(hg x hx).choose_spec.choose_spec.2.2).1]at this
 exact this
open Go.Am Go.Am.Nm Go.Tr Go.Lib
open T (lG Bt Tv Nd En I B okB vN mB)
open R
open Y (jK lU mI cnt qA pat)
def Lm:AB->Bool
 | .row _ 6 _=>true
 | .qa _ 6 _=>true
 |_=>false
def Sq(h0:AH)(A:Nat->AB)(hA:∀j,j<8->Lm (A j)=true):j5 21 [20] h0 11 (qB A)=qB A:=by
 have e:qB A=[A 0,A 1,A 2,A 3,A 4,A 5,A 6,A 7]:=rfl
 have key:∀i j,i≠20->j<8->kL 21 [20] h0 i (A j)=A j:=λi j hi hj=>by
  have:=hA j hj;generalize A j=b at this;unfold Lm at this;split at this
  .simp[kL,hi]
  .simp[kL,hi]
  .cases this
 rw[e];simp only[j5,key _ 0 (show (11:Nat)≠20 by decide) af,key _ 1 (show 11+1≠20 by decide) af,key _ 2 (show 11+1+1≠20 by decide) af,key _ 3 (show 11+1+1+1≠20 by decide) af,key _ 4 (show 11+1+1+1+1≠20 by decide) af,key _ 5 (show 11+1+1+1+1+1≠20 by decide) af,key _ 6 (show 11+1+1+1+1+1+1≠20 by decide) af,key _ 7 (show 11+1+1+1+1+1+1+1≠20 by decide) af]
abbrev hS(t:Tr.Tree)(l:List Sh.P)(s:HS)(p:Tr.Node)(ks:ax)(n:aA)(A:Nat->AB)(f0:Bool)(a1 a2:Int)(u m:Nat)(C:List AV):AH :=
 hQ t l s p++(.mp (rF ks λj=>.own (j+11) 0 0 (n j))::(qB A++[.var [.jB f0 (l.map Sh.D),.own 20 u 0 m,.int .i64 a1,.int .i64 a2],.row u 2 C]))
def Wu(t:Tr.Tree)(l:List Sh.P)(s:HS)(p:Tr.Node)(ks:ax)(hks:∀j∈ks,j<8)(n:aA)(A:Nat->AB)(hA:∀j,j<8->Lm (A j)=true)(f0:Bool)(a1 a2:Int)(u m:Nat)(C:List AV)(e:Env)(k:Int)(he:e 50=I k):
  head 21 [20] [50] ⟨e,hS t l s p ks n A f0 a1 a2 u m C⟩=([I k],hS t l s p ks n A f0 a1 a2 0 m C):=by
 have g20:(hS t l s p ks n A f0 a1 a2 u m C)[20]? = some (.row u 2 C):=by
  simp only[bK,bB,bG,PK,bz]
 rw[head_eq];have uv:(hS t l s p ks n A f0 a1 a2 u m C).take 21=hS t l s p ks n A f0 a1 a2 u m C:=br ah
 simp only[uv];have hk:sR 21 [20] (hS t l s p ks n A f0 a1 a2 u m C) e [50]=[I k]:=by simp[he,nP,AV.lT]
 rw[hk]
 have main:∀H:AH,H[20]? = some (.row u 2 C)->j5 21 [20] H 0 (hS t l s p ks n A f0 a1 a2 u m C)=hS t l s p ks n A f0 a1 a2 0 m C:=by
  intro H g20
  have hQn:j5 21 [20] H 0 (hQ t l s p)=hQ t l s p:=by
   have hc1:((λp:Int×AV=>(p.1,j9 21 [20] H p.2))∘λp:Int×Int=>(p.1,I p.2))=λp=>(p.1,I p.2):=rfl
   have yC:((λp:au×AV=>(p.1,j9 21 [20] H p.2))∘λp:au×Int=>(p.1,I p.2))=λp=>(p.1,I p.2):=rfl
   simp[j5,kL,j9,AV.kZ,AV.lT]
  have hmp:(rF ks λj=>.own (j+11) 0 0 (n j)).map (λp=>(p.1,j9 21 [20] H p.2))=rF ks λj=>.own (j+11) 0 0 (n j):=by
   unfold rF;rw[gL];apply cS;intro j hj;have h8:=hks j hj;have hc:¬List.contains [20] (j+11)=true:=aj
   show ((j:Int),j9 21 [20] H (.own (j+11) 0 0 (n j)))=_;simp only[j9];rw[if_pos aa,if_neg hc]
  unfold hS;rw[oH,hQn,j5,kL,hmp];have e11:0+(hQ t l s p).length+1=11:=ah
  rw[e11,oH,Sq H A hA];simp[j5,kL,j9,AV.kZ,g20]
 rw[main _ g20]
def abQ(t:Tr.Tree)(l:List Sh.P)(s:HS)(p:Tr.Node)(ks:ax)(hks:∀j∈ks,j<8)(n:aA)(A:Nat->AB)(hA:∀j,j<8->Lm (A j)=true)(f0:Bool)(a1 a2:Int)(u m:Nat)(C:List AV)(e:Env)(k:Int)(he:e 50=I k)(h11:e 11 = .ptr 19 0 0 0):
  head 21 [20] [50] (kO 20 [(11,1,2)] ⟨e,hS t l s p ks n A f0 a1 a2 u m C⟩)=([I k],hS t l s p ks n A f0 a1 a2 0 m C):=by
 have g19:(hS t l s p ks n A f0 a1 a2 u m C)[19]? = some (.var [.jB f0 (l.map Sh.D),.own 20 u 0 m,.int .i64 a1,.int .i64 a2]):=by
  simp only[bK,bB,bG,GY,bz]
 have apH:kO 20 [(11,1,2)] ⟨e,hS t l s p ks n A f0 a1 a2 u m C⟩=⟨e,hS t l s p ks n A f0 a1 a2 u m C⟩:=by
  unfold kO kO tD r6;simp only[h11,g19];rfl
 rw[apH];exact Wu t l s p ks hks n A hA f0 a1 a2 u m C e k he
def IZ(r:Nat->List Tr.Node)(S:List Ar)(k:Nat):List Ar:=if r k=[]then S else S++[((k:Int),r k)]
def stA(r:Nat->List Tr.Node)(A:Nat->AB)(k:Nat):Nat->AB:=if r k=[]then A else λj=>if j=k then .qa 0 6 ((r k).map Nd)else A j
def ajF{Γ:kP}(f0:Bool)(a1 a2:Int)(t:Tr.Tree)(l:List Sh.P)(s:HS)(p:Tr.Node)(ks:ax)(hks:∀j∈ks,j<8)(r:Nat->List Tr.Node)(hno:∀j,j∉ks->r j=[])(hrl:∀j,(r j).length<=200)(S:List Ar)(hS':S.length<=10)(k:Nat)(hk8:k<8)(A:Nat->AB)(hA:∀j,k<=j->j<8->A j = .row 0 6 ((r j).map Nd))(hA':∀j,j<8->Lm (A j)=true)(e0:Env)(h7:e0 7 = .nQ 10)(h11:e0 11 = .ptr 19 0 0 0):
  (∀j,k+1<=j->j<8->stA r A k j = .row 0 6 ((r j).map Nd))/\(∀j,j<8->Lm (stA r A k j)=true)/\
  lD Γ 20 [(11,1,2)] [50] [(.exit 2,[])] Rf e0 21 [20] ([I k],hS t l s p ks (λj=>(r j).length) A f0 a1 a2 0 S.length (S.map Lv)) =
   some (.inl ([I (k+1)],hS t l s p ks (λj=>(r j).length) (stA r A k) f0 a1 a2 0 (IZ r S k).length ((IZ r S k).map Lv))):=by
 have hAk:=hA k (aN _) hk8;unfold IZ stA
 by_cases c:r k=[]
 .simp only[if_pos c];refine⟨λj h1 h2=>hA j aa h2,hA',?_⟩
  have hh:=abQ t l s p ks hks (λj=>(r j).length) A hA' f0 a1 a2 0 S.length (S.map Lv)
  simp only[bK,bB]at hh
  by_cases hkk:k∈ks
  .simp(disch:=omega)[-kO,-head_eq,jV,HZ,h7,wX,hkk,c];exact hh _ (k+1) aq (by simp(disch:=omega)[h11])
  .simp(disch:=omega)[-kO,-head_eq,jV,HZ,h7,wX,hkk];exact hh _ (k+1) aq (by simp(disch:=omega)[h11])
 .simp only[if_neg c];have hkk:k∈ks:=cT λh=>c (hno k h)
  have hpos:0<(r k).length:=dX.2 c;have:=hrl k
  have hA2:∀j,j<8->Lm ((λj=>if j=k then AB.qa 0 6 ((r k).map Nd)else A j) j)=true:=λj hj=>by
   dsimp only;split
   .rfl
   .exact hA' j hj
  refine⟨λj h1 h2=>by rw[if_neg aa];exact hA j aa h2,hA2,?_⟩
  have hh:=abQ t l s p ks hks (λj=>(r j).length) _ hA2 f0 a1 a2 1 (S.length+1) (S.map Lv++[Lv ((k:Int),r k)])
  simp only[bK,bB,Lv]at hh
  have q9:∀(A:Nat->AB)(a b c:AB),(qB A++[a,b]).set 9 c=qB A++[a,c]:=λA a b c=>by
   rw[eD _ _ ah];simp
  simp(disch:=omega)[-kO,-head_eq,jV,HZ,h7,h11,wX,hkk,hpos,GY,PK,DJ,Iu,N4,hAk,q9];exact hh _ (k+1) aq (by simp(disch:=omega)[h11])
open Go.Am Go.Am.Nm Go.Tr Go.Lib
open T (lG Bt Tv Nd En I B okB vN mB)
open R
open Y (jK lU mI cnt qA pat kD)
def abF{Γ:kP}(f0:Bool)(a1 a2:Int)(t:Tr.Tree)(l:List Sh.P)(s:HS)(p:Tr.Node)(ks:ax)(hks:∀j∈ks,j<8)(r:Nat->List Tr.Node)(hno:∀j,j∉ks->r j=[])(hrl:∀j,(r j).length<=200)(e0:Env)(h7:e0 7 = .nQ 10)(h11:e0 11 = .ptr 19 0 0 0):∀(m k:Nat)(S:List Ar)(A:Nat->AB),k+m=8->S.length<=k->(∀j,k<=j->j<8->A j = .row 0 6 ((r j).map Nd))->(∀j,j<8->Lm (A j)=true)->
  iter (lD Γ 20 [(11,1,2)] [50] [(.exit 2,[])] Rf e0 21 [20]) ([.int .i64 (k:Int)],hS t l s p ks (λj=>(r j).length) A f0 a1 a2 0 S.length (S.map Lv)) =
   some (.exit 2,[],hS t l s p ks (λj=>(r j).length) ((List.range' k m).foldl (stA r) A) f0 a1 a2 0 ((List.range' k m).foldl (IZ r) S).length (((List.range' k m).foldl (IZ r) S).map Lv))
 |0,k,S,A,hk,hS0,hA,hA'=>by
  have hk:k=8:=aa
  subst hk;rw[iter_eq];simp[-kO,-head_eq,jV,HZ]
 |m+1,k,S,A,hk,hS0,hA,hA'=>by
  let⟨q1,q2,q3⟩:=ajF (Γ:=Γ) f0 a1 a2 t l s p ks hks r hno hrl S aa k aa A hA hA' e0 h7 h11
  have hS1:(IZ r S k).length<=k+1:=by
   unfold IZ;split
   .omega
   .simp;omega
  have q4:=abF (Γ:=Γ) f0 a1 a2 t l s p ks hks r hno hrl e0 h7 h11 m (k+1) (IZ r S k) _ aa hS1 q1 q2
  rw[iter_eq,q3];rw[List.range'_succ,aT,aT];exact q4
def SJ(gr:Tr.Node->Int)(l:List Tr.Node):(List.range' 0 8).foldl (IZ (λj=>nO gr l (j:Int))) []=lg gr l [0,1,2,3,4,5,6,7]:=by
 have:=Em gr l [0,1,2,3,4,5,6,7] [];rw[bB]at this;exact this
def s44{n:Nat}(hn:160<n){l:List Sh.P}{t:Tr.Tree}(h:Md l t)(f:Bool):(jJ.jG n).p 44 [.jB f (l.map Sh.D),Tv t]=some (Fv (j6 f l t)):=by
 have hl:=h.rp.le;have hnl:=h.w.wf.len;let⟨b,p,OP⟩:=s43 (n:=160) af h.w l h.rp f
 obtain⟨s,hsv⟩:∃s,s=hdn t (UK l) 14 1 [] ⟨[(1,0)],1,true⟩:=⟨_,rfl⟩
 have KR:∀x∈t.nodes,∃(m:Nat) (hm:m<l.length),uh s.m x.ino=m/\(l[m]).gr=(((mM l t x).toNat:Nat):Int)/\(mM l t x).toNat<8:=λx hx=>by
  have he:=Wi (Oh l) (Vp l) h.w h.all (ZF l) hx;rw[<-hsv]at he;let⟨m,hm,e1,e2,e3,e4⟩:=EH h.rp h.w hx (h.all x hx);exact⟨m,hm,by rw[he,e1],by rw[<-e2];omega,aa⟩
 rw[<-hsv]at OP;clear hsv
 have hfl:∀j:Nat,(t.nodes.filter λx=>decide ((mM l t x).toNat=j))=nO (mM l t) t.nodes (j:Int):=λj=>by
  unfold nO;apply List.filter_congr;intro x hx;let⟨m,hm,e1,e2,e3⟩:=KR x hx;have:=h.mM hx
  by_cases c:mM l t x=(j:Int)
  .rw[decide_eq_true c,decide_eq_true aa]
  .rw[decide_eq_false c,decide_eq_false aa]
 have hol:∀j:Nat,(nO (mM l t) t.nodes (j:Int)).length<=200:=λj=>by
  have:=cr (λn=>decide (mM l t n=(j:Int))) t.nodes
  unfold nO;omega
 rw[pp 44 rfl hn rfl,jA,jy];have l1:=λe0 q0 q5 q7 q21 q22=>ajG (Γ:=jJ.jG 160) t aa l h.rp f s p (λx=>(mM l t x).toNat) KR e0 q0 q5 q7 q21 q22
 have hks:=(VO (gr:=λx=>(mM l t x).toNat) (l:=t.nodes) λx hx=>(KR x hx).choose_spec.choose_spec.2.2).2
 simp only[hfl]at l1 hks;generalize ksF (λx=>(mM l t x).toNat) t.nodes=ks at l1 hks
 have e8:(qB λ_=>.row 0 6 [])=[.row 0 6 [],.row 0 6 [],.row 0 6 [],.row 0 6 [],.row 0 6 [],.row 0 6 [],.row 0 6 [],.row 0 6 []]:=rfl
 simp only[e8,bK,bB]at l1;simp only[Tv,hs,vZ]at OP;have hc1:∀n R h,((λp:Int×AV=>(p.1,j9 n R h p.2))∘λp:Int×Int=>(p.1,I p.2))=λp=>(p.1,I p.2):=λ_ _ _=>rfl
 have yC:∀n R h,((λp:au×AV=>(p.1,j9 n R h p.2))∘λp:au×Int=>(p.1,I p.2))=λp=>(p.1,I p.2):=λ_ _ _=>rfl
 have hfn:∀h,j9 19 R8 h OY=OY:=λh=>by simp[j9,AV.lT,OY]
 unfold j6 Fv;simp[-kO,c44,OP,hc1,yC,hfn];rw[l1 _ rfl rfl rfl rfl rfl];simp[-kO,-head_eq,GY,DJ];have hh:=Wu t l s p ks hks.lt (λj=>(nO (mM l t) t.nodes (j:Int)).length) (λj=>.row 0 6 ((nO (mM l t) t.nodes (j:Int)).map Nd)) (λ_ _=>rfl) f t.next t.jC 0 0 []
 have hL:=λe0 q7 q11=>abF (Γ:=jJ.jG 160) f t.next t.jC t l s p ks hks.lt (λj=>nO (mM l t) t.nodes (j:Int)) hks.no hol e0 q7 q11 8 0 [] (λj=>.row 0 6 ((nO (mM l t) t.nodes (j:Int)).map Nd)) rfl (aN _) (λ_ _ _=>rfl) (λ_ _=>rfl)
 simp only[SJ]at hL;generalize(List.range' 0 8).foldl (stA λj=>nO (mM l t) t.nodes (j:Int)) (λj=>.row 0 6 ((nO (mM l t) t.nodes (j:Int)).map Nd))=A' at hL
 simp only[bK,bB,bQ,bq,cW]at hh hL;rw[hh _ 0 rfl];rw[hL _ rfl rfl];simp[GY,PK,DJ]
open Go.Am Go.Am.Nm Go.Tr Go.Lib
open T (lG Bt Tv Nd En I B okB vN mB)
open R
open Y (jK lU mI cnt qA pat kD pU)
def s19{n:Nat}(hn:229<n){l l':List Sh.P}{t:Tr.Tree}(h:Md l t)(h':Md l' t)(fp rB:Bool)(e:Int):(jJ.jG n).p 19 [Fv (j6 fp l t),.jB rB (l'.map Sh.D),I e]=some (.kT [Fv (if e=0 then j6 rB l' t else j6 fp l t),I e]):=by
 have hW:=whole' (n:=229) af h fp
 have hS:=s44 (n:=229) af h'.ff rB
 rw[QG]at hS;rw[pp 19 rfl hn rfl,jA,jy];generalize j6 rB l' t=f' at *
 generalize j6 fp l t=f at *
 by_cases c:e=0
 .rw[if_pos c];subst c;simp only[Fv,Tv]at *
  simp(disch:=omega)[c19,ca 37,hW,ca 44,hS]
 .rw[if_neg c];simp only[Fv,Tv]at *
  simp(disch:=omega)[c19,c]
def s8{n:Nat}(hn:230<n){l:List Sh.P}{t:Tr.Tree}(h:Md l t)(fp:Bool)(s:au)(hs:s.length<=1000)(g:Int):∃rB,(jJ.jG n).p 8 [Fv (j6 fp l t),.str s,I g]=some (.kT [Fv (if (kD l s g).2=0 then j6 rB (kD l s g).1 t else j6 fp l t),I (kD l s g).2]):=by
 have WQ:=Y.s18 (n:=230) af l h.rp fp s g
 have hm:=(h.move s g).1;generalize kD l s g=r at *
 let⟨l',e⟩:=r;simp only at WQ hm⊢;generalize(fp && !decide (e=0))=rB at *
 have h19:=s19 (n:=230) af h hm fp rB e
 refine⟨rB,?_⟩;rw[p8 hn,jA,jy];have ep:(j6 fp l t).ps=l:=rfl;have ef:(j6 fp l t).fp=fp:=rfl;generalize(if e=0 then j6 rB l' t else j6 fp l t)=f' at *
 generalize j6 fp l t=f at *
 subst ep ef;simp only[Fv]at *
 simp(disch:=omega)[c8,ca 18,WQ,ca 19,h19]
end Go.Proofs.YtaepagegdgdlhaaGreatDoor.F
namespace Go.Proofs.YtaepagegdgdlhaaGreatDoor.X
open Go.Am Go.Am.Nm Go.Lib Go.Cr
def abd{PS:List au}{w:Wd}(H:Inv jH kr PS w){k:Nat}{b:Bo}(hb:w.bs[k]? = some b):(lR b).length<=64:=by
 have h1:=pT H k;have h2:=Fc H k;unfold KD at h1;rw[hb]at h1;simp only[bJ,bO]at h1;omega
set_option maxHeartbeats 1000000 in
def ajI{n:Nat}(hn:146<=n){PS:List au}{w:Wd}(Hi:Inv jH kr PS w)(vu:w.jE.length<=1000000)(P:AH)(k:Nat)(hk:k<P.length)(cl:Cl P.length P)(e0:Env)(q2:e0 2 = .ptr k 0 0 0):
  iter (lD (jJ.jG n) P.length [(2,0,3),(2,1,3),(2,2,5),(2,3,3),(2,4,1)] [6] [(.exit 2,[])] Ro e0 (P.length+5) [P.length,P.length+1,P.length+2,P.length+3,P.length+4]) ([.int .i64 0],Hd P k w)=some (.exit 2,[],Hd P k ([0,1,2,3].foldl zv w)):=by
 refine jU (f:=lD (jJ.jG n) P.length [(2,0,3),(2,1,3),(2,2,5),(2,3,3),(2,4,1)] [6] [(.exit 2,[])] Ro e0 (P.length+5) [P.length,P.length+1,P.length+2,P.length+3,P.length+4]) (λi (s:Wd)=>([.int .i64 (i:Int)],Hd P k s)) [0,1,2,3] zv (λs=>(.exit 2,[],Hd P k s)) (λ_ s=>Inv jH kr PS s/\s.jE.length<=1000000)
  (λg hg s hs=>?_) (λs hs=>by
   simp(disch:=omega)[-kO,-head_eq,jV,RK]
   done) w ⟨Hi,vu⟩
 obtain⟨Hs,hd⟩:=hs;have hg:g<4:=hg
 have eg:([0,1,2,3]:ax)[g]=g:=by
  match g,hg with
  |0,_=>rfl
  |1,_=>rfl
  |2,_=>rfl
  |3,_=>rfl
 rw[eg];have hgb:g<s.bs.length:=by rw[Hs.lb];exact hg
 have hgp:g<s.ps.length:=by rw[Hs.lp];exact hg
 have gb:=aG hgb;have gp:=aG hgp;obtain⟨bo,Gy⟩:∃bo,bo=s.bs[g]:=⟨_,rfl⟩;obtain⟨pt,hpt⟩:∃pt,pt=s.ps[g]:=⟨_,rfl⟩;rw[<-Gy]at gb;rw[<-hpt]at gp
 have alI:zv s g=kf (kf s (lR bo)) (uo pt):=by
  unfold zv;rw[gb];simp only[gp]
 have Hs1:=Hs.send (zh Hs gb);have hr:=Eu Hs g;rw[vV gp]at hr;refine⟨⟨Hs.say g,by rw[alI];exact hd⟩,?_⟩
 rw[alI];have KU:=s72 (n:=n) aa bo (I7 Hs gb)
 have Ta:=s73 (n:=n) aa pt aa
 have hw:=Hs.wi
 -- the first send
 obtain⟨h2,b2,u2,Jy,H2,F2⟩:=s71 (n:=n) aa s (lR bo) false (Hd P k s) _ _ (F7 s hk cl) hw (by have:=abd Hs gb;omega)
 obtain⟨k1,k2⟩:=aga hk F2
 have hkb:∀j,j<5->k≠b2 j:=λj hj=>by
  have:=F2.new j hj;rw[l9]at this;omega
 have H2':=H2.other k (.var (WC b2 u2 (kf s (lR bo)))) hkb (mP H2.lt)
 -- the second one
 obtain⟨h3,X2,u3,alM,H3,F3⟩:=s71 (n:=n) aa (kf s (lR bo)) (uo pt) false _ b2 u2 H2' Hs1.wi (by unfold uo;simp;omega)
 obtain⟨k3,k4⟩:=F3.keep (q:=k) (B:=.var (WC b2 u2 (kf s (lR bo)))) (aZ k1) hkb
 have H3':=H3.other k (.var (WC X2 u3 (kf (kf s (lR bo)) (uo pt)))) (λj hj=>by
  rcases F3.new j hj with e | e
  .rw[e];exact hkb j hj
  .have:=F2.le;rw[l9]at this;simp at e;omega) (mP H3.lt)
 have FK:=((((Fk.start P k s).call F2).DC hk (.var (WC b2 u2 (kf s (lR bo))))).call F3).DC hk (.var (WC X2 u3 (kf (kf s (lR bo)) (uo pt))));have hst:=λe he=>FK.head hk cl H3' (aZ k3) e 2 he [6] [.int .i64 (g+1:Int)]
 have g5:=tv P k s hk;obtain⟨g1,g2⟩:=aF.1 g5;have gr0:=xJ P k s 0 af
 obtain⟨x1,x2⟩:=aF.1 gr0;have m1:h2[b2 1]'(H2.lt 1 af) = .row (u2 1) 3 (s.ps.map Pv):=(aF.1 H2.r1).2
 have m2:=H2.lt 1 af
 have m3:=hkb 1 af
 obtain⟨G,hG⟩:∃G,G=Hd P k s:=⟨_,rfl⟩;rw[<-hG]at Jy;simp only[<-hG]at g1 g2 x1 x2⊢;simp only[ct,Az,yf,bz,bO]at x1 x2;simp only[WC,ct]at Jy alM g2 k2 k4 hst;simp only[Bv]at KU;simp only[Pv]at Ta;simp(disch:=omega)[-kO,-head_eq,jV,RK,q2,g2,x2,hgb,<-Gy,Bv,KU,Jy,k2];have apW:g<(kf s (lR bo)).ps.length:=hgp;simp(disch:=omega)[-kO,-head_eq,m1,apW,<-hpt,Pv,Ta,alM,k4,q2];refine hst _ (by simp(disch:=omega)[q2]) λh'=>?_
 simp(disch:=omega)
open Go.Am Go.Am.Nm Go.Lib Go.Cr
def K7{PS:List au}{w:Wd}(Hi:Inv jH kr PS w)(i:Nat)(t:Bool):(mL jH kr w i t).jE=w.jE:=by
 cases hm:w.jQ[i]? with
 |none=>unfold mL;rw[hm]
 |some m =>
  let⟨w0,e0,H0,d,hd,hn,x,y,l,T,E⟩:=Il Hi hm t;rw[E.jE,e0];cases t<;>rfl
set_option maxHeartbeats 1000000 in
def abH{n:Nat}(hn:146<=n){PS:List au}(P:AH)(k:Nat)(hk:k<P.length)(cl:Cl P.length P)(e0:Env)(q2:e0 2 = .ptr k 0 0 0):∀(m:Nat){w:Wd},m<=2000->Inv jH kr PS w->w.jE.length<=1000000->
  iter (lD (jJ.jG n) P.length [(2,0,3),(2,1,3),(2,2,5),(2,3,3),(2,4,1)] [7] [(.exit 4,[])] Rn e0 (P.length+5) [P.length,P.length+1,P.length+2,P.length+3,P.length+4]) ([.int .i64 ((2000-m:Nat):Int)],Hd P k w)=some (.exit 4,[],Hd P k (mF jH kr m w))
 |0,w,_,Hi,vu=>by
  rw[iter_eq];unfold mF;simp(disch:=omega)[-kO,-head_eq,jV,Nh]
 |m+1,w,hm,Hi,vu=>by
  rw[iter_eq];let⟨g1,g2⟩:=aF.1 (tv P k w hk)
  by_cases hw:w.jQ.length=0
  .unfold mF;rw[if_pos hw];obtain⟨G,hG⟩:∃G,G=Hd P k w:=⟨_,rfl⟩;simp only[<-hG]at g1 g2⊢;simp only[WC,ct]at g2;have h1:(2000-(m+1):Nat)<2000:=by omega
   obtain⟨z,hz⟩:∃z,z=2000-(m+1):=⟨_,rfl⟩;rw[<-hz]at h1⊢;simp(disch:=omega)[-kO,-head_eq,jV,Nh,q2,g2,hw]
   done
  .have hw0:0<w.jQ.length:=by omega
   let⟨h2,b2,u2,e74,H2,F2⟩:=s74 (n:=n) aa Hi vu 0 hw0 false (Hd P k w) _ _ (F7 w hk cl)
   let⟨k1,k2⟩:=aga hk F2;have FK:=((Fk.start P k w).call F2).DC hk (.var (WC b2 u2 (mL jH kr w 0 false)));have hkb:=((Fk.start P k w).call F2).ne hk;have H2':=H2.other k (.var (WC b2 u2 (mL jH kr w 0 false))) hkb (mP H2.lt);have hst:=λe he=>FK.head hk cl H2' (aZ k1) e 2 he [7] [.int .i64 ((2000-m:Nat):Int)]
   have ih:=abH hn P k hk cl e0 q2 m aa (Hi.take 0 false) (by rw[K7 Hi];exact vu)
   have ed:mF jH kr (m+1) w=mF jH kr m (mL jH kr w 0 false):=by
    conv=>lhs;unfold mF
    rw[if_neg hw]
   rw[ed,<-ih];obtain⟨G,hG⟩:∃G,G=Hd P k w:=⟨_,rfl⟩;rw[<-hG]at e74;simp only[<-hG]at g1 g2⊢;simp only[WC,ct]at g2 e74 k2 hst;have h1:(2000-(m+1):Nat)<2000:=aa
   have h3:2000-m=(2000-(m+1))+1:=aa
   rw[h3]at hst ih⊢;obtain⟨z,hz⟩:∃z,z=2000-(m+1):=⟨_,rfl⟩;rw[<-hz]at h1 hst ih⊢;push_cast at e74 hst
   have key:lD (jJ.jG n) P.length [(2,0,3),(2,1,3),(2,2,5),(2,3,3),(2,4,1)] [7] [(.exit 4,[])] Rn e0 (P.length+5) [P.length,P.length+1,P.length+2,P.length+3,P.length+4] ([.int .i64 (z:Int)],G)=some (.inl ([.int .i64 ((z+1:Nat):Int)],Hd P k (mL jH kr w 0 false))):=by
    simp(disch:=omega)[-kO,-head_eq,jV,Nh,q2,g2,hw0,e74,k2];refine hst _ (by simp(disch:=omega)[q2]) λh'=>?_
    simp(disch:=omega)
   rw[key]
open Go.Am Go.Am.Nm Go.Lib Go.Cr
def Fk.fresh{P:AH}{k:Nat}{h:AH}{b:aA}(F:Fk P k h b){P':AH}(hl:P'.length=h.length)(ho:∀i,i<h.length->i≠k->(∀j,j<5->i≠b j)->P'[i]? = h[i]?)(hr:∀i,i<h.length->nV h i->nV P' i)(w:Wd)(hk:k<P.length):Fk P k (Hd P' k w) (λj=>P'.length+j):=by
 have hle:=F.le;refine⟨by rw[l9];omega,λi hi hne=>?_,λj hj=>?_,λj hj=>.inr aa⟩
 .rw[uq P' k w i aa hne,ho i aa hne λj hj=>by rcases F.new j hj with e | e<;>omega,F.old i hi hne]
 .let⟨C,q1,q2⟩:=hr _ aa (F.row j hj)
  exact⟨C,by rw[uq P' k w _ aa aa];exact q1,q2⟩
theorem KZ(τ:Nat)(a b c d e:Nat×Nat×Nat):tgt τ [a,b,c,d,e]=[τ,τ+1,τ+2,τ+3,τ+4]:=rfl
def Df(P:AH)(k:Nat)(w:Wd):(Hd P k w).take (P.length+5)=Hd P k w:=br (by rw[l9];exact aN _)
def Uz{PS:List au}{w:Wd}(Hi:Inv jH kr PS w):Inv jH kr PS ([0,1,2,3].foldl zv w):=Hi.Sk _
set_option maxHeartbeats 2000000 in
def abG{n:Nat}(hn:146<=n){PS:List au}(P:AH)(k:Nat)(hk:k<P.length)(cl:Cl P.length P)(N:Nat)(hN:N<=1000)(e0:Env)(q1:e0 1 = .int .i64 N)(q2:e0 2 = .ptr k 0 0 0):∀(m:Nat){w:Wd},m<=N->Inv jH kr PS w->w.jE.length<=1000000->
  iter (lD (jJ.jG n) P.length [(2,0,3),(2,1,3),(2,2,5),(2,3,3),(2,4,1)] [5] [(.exit 0,[])] Rm e0 (P.length+5) [P.length,P.length+1,P.length+2,P.length+3,P.length+4]) ([.int .i64 ((N-m:Nat):Int)],Hd P k w)=some (.exit 0,[],Hd P k (mV jH kr m w))
 |0,w,_,Hi,vu=>by
  rw[iter_eq];unfold mV;simp[-kO,-jX,-head_eq,jV,RJ,q1]
 |m+1,w,hm,Hi,vu=>by
  rw[iter_eq];have H0:=F7 w hk cl;let⟨P1,l1,cl1,f1,o1,r1⟩:=C7 2 k (Hd P k w) _ _ w H0 (tv P k w hk);rw[l9]at l1;have ND:k<P1.length:=aa
  obtain⟨w1,hw1⟩:∃w1,w1=[0,1,2,3].foldl zv w:=⟨_,rfl⟩;have Hi1:Inv jH kr PS w1:=by rw[hw1];exact Uz Hi
  have hd1:w1.jE.length<=1000000:=by rw[hw1,vj];exact vu
  have x1:=ajI hn Hi vu P1 k ND cl1;rw[<-hw1]at x1;have n1:=Dg (P:=P1) (k:=k) w ND cl1;have H1:=F7 w1 ND cl1;let⟨P2,l2,cl2,f2,o2,r2⟩:=C7 2 k (Hd P1 k w1) _ _ w1 H1 (tv P1 k w1 ND);rw[l9]at l2;have hk2:k<P2.length:=aa
  have x2:=λe0 q2=>abH (w:=w1) hn P2 k hk2 cl2 e0 q2 2000 (aN _) Hi1 hd1
  obtain⟨w2,OE⟩:∃w2,w2=mF jH kr 2000 w1:=⟨_,rfl⟩;rw[<-OE,jv]at x2;have ael:mD jH kr w=w2:=by rw[OE,hw1];rfl
  have n2:=Dg (P:=P2) (k:=k) w1 hk2 cl2;have FK:Fk P k (Hd P2 k w2) (λj=>P2.length+j):=((Fk.start P k w).fresh (P':=P1) (by rw[l9];exact l1) o1 r1 w1 hk).fresh (P':=P2) (by rw[l9];exact l2) o2 r2 w2 hk
  have Hi2:Inv jH kr PS w2:=by rw[OE];exact Hi1.drain 2000
  have hd2:w2.jE.length<=1000000:=by rw[OE,Ct 2000 Hi1];exact hd1
  have hst:=λe he=>FK.head hk cl (F7 w2 hk2 cl2) (tv P2 k w2 hk2) e 2 he [5] [.int .i64 ((N-m:Nat):Int)]
  have ih:=abG hn P k hk cl N hN e0 q1 q2 m aa Hi2 hd2
  have ec:mV jH kr (m+1) w=mV jH kr m w2:=by rw[<-ael];rfl
  rw[ec,<-ih];have h3:N-m=(N-(m+1))+1:=aa
  have h1:N-(m+1)<N:=aa
  rw[h3]at hst ih⊢;obtain⟨z,hz⟩:∃z,z=N-(m+1):=⟨_,rfl⟩;rw[<-hz]at h1 hst ih⊢;push_cast at hst x2;have a1:P.length+5=P1.length:=l1.symm;have a2:P1.length+5=P2.length:=l2.symm;have t1:=Df P1 k w;have t2:=Df P2 k w1
  have key:lD (jJ.jG n) P.length [(2,0,3),(2,1,3),(2,2,5),(2,3,3),(2,4,1)] [5] [(.exit 0,[])] Rm e0 (P.length+5) [P.length,P.length+1,P.length+2,P.length+3,P.length+4] ([.int .i64 (z:Int)],Hd P k w)=some (.inl ([.int .i64 ((z+1:Nat):Int)],Hd P k w2)):=by
   rw[a2]at x1 n1 t1;simp[-kO,-jX,-tgt,-head_eq,jV,RJ,q1];rw[f1 _ (by simp[q2])]
   simp[-kO,-jX,-tgt,KZ,l9,a1,a2,n1,t1];have nk1:¬k=P1.length/\¬k=P1.length+1/\¬k=P1.length+2/\¬k=P1.length+3/\¬k=P1.length+4:=aa
   have nk2:¬k=P2.length/\¬k=P2.length+1/\¬k=P2.length+2/\¬k=P2.length+3/\¬k=P2.length+4:=aa
   rw[x1 _ (by simp[q2,nk1])]
   simp[-kO,-jX,-tgt,-head_eq];rw[f1 _ (by simp[q2])]
   simp[-kO,-jX,-tgt,-head_eq,KZ,l9,a1,a2];rw[f2 _ (by simp[q2,nk1])]
   simp[-kO,-jX,-tgt,l9,n2,t2];rw[x2 _ (by simp[q2,nk1,nk2])]
   simp[-kO,-jX,-tgt,-head_eq];rw[f2 _ (by simp[-tgt,KZ,l9,a1,q2,nk1])]
   simp(disch:=omega)[-kO,-jX,-tgt,-head_eq,KZ,l9,a1,a2];rw[f2 _ (by simp(disch:=omega)[q2,nk1])]
   rw[a1]at hst;refine hst _ (by simp(disch:=omega)[q2,nk1,nk2]) λh'=>?_
   simp
  rw[key]
set_option maxHeartbeats 1000000 in
def s30{n:Nat}(hn:146<n){PS:List au}{w:Wd}(Hi:Inv jH kr PS w)(vu:w.jE.length<=1000000)(N:Nat)(hN:N<=1000)(h:AH)(b u:aA)(H:WH h b u w):
  ∃h' b' u',jM (jJ.jG n) 30 [.agg (WC b u w),.int .i64 N] h=some (.agg (WC b' u' (mV jH kr N w)),h')/\WH h' b' u' (mV jH kr N w)/\Fw h b h' b':=by
 rw[ph 30 rfl hn rfl,jy];have hl:=H.lt;obtain⟨Z,hZ⟩:∃Z:AB,Z = .var [AV.jB true [],AV.jB true [],AV.jB true [],AV.jB true [],AV.jB true []]:=⟨_,rfl⟩
 have H2:WH (h++[.var (WC b u w),Z]) b u w:=H.app (by
  simp only[aL,aQ,bq,Cl,bH,dh,dN,aH];exact⟨mP λj hj=>by have:=hl j hj;omega,by rw[hZ];simp[rQ,tV,AV.lT,AV.kZ]⟩)
 let⟨P,l0,cl,f,o,r⟩:=C7 2 h.length (h++[.var (WC b u w),Z]) b u w H2 ah
 have lP:P.length=h.length+2:=by rw[l0];simp
 have hk:h.length<P.length:=aa
 have x3:=λe0 q1 q2=>abG (n:=146) (aN _) (w:=w) P h.length hk cl N hN e0 q1 q2 N (aN _) Hi vu
 rw[jv]at x3;have n1:=Dg (P:=P) (k:=h.length) w hk cl;have t1:=Df P h.length w;obtain⟨w',hw'⟩:∃w',w'=mV jH kr N w:=⟨_,rfl⟩;rw[<-hw']at x3⊢;have yU:∀j,j<5->h.length≠b j/\h.length+1≠b j:=λj hj=>by have:=hl j hj;omega
 have pZ:P[h.length+1]? = some Z:=by
  rw[o (h.length+1) ah aa λj hj=>(yU j hj).2]
  simp
 have gZ:(Hd P h.length w')[h.length+1]? = some Z:=by rw[uq P _ w' _ aa aa,pZ]
 have gB:=tv P h.length w' hk;let⟨y1,y2⟩:=aF.1 gZ;let⟨y3,y4⟩:=aF.1 gB;have HW:=F7 (P:=P) (k:=h.length) w' hk cl;refine⟨(Hd P h.length w').set (h.length+1) (.var (WC (λj=>P.length+j) (λ_=>0) w')),λj=>P.length+j,λ_=>0,?_,?_,?_⟩
 .have a0:h.length+2=P.length:=lP.symm;rw[hZ]at y2;simp only[WC,ct]at y4⊢;have f':=f;rw[hZ]at f';simp only[WC]at f';push_cast at x3;simp[-kO,-jX,-tgt,c30];rw[f' _ rfl];simp(disch:=omega)[-kO,-jX,-tgt,KZ,l9,a0,n1];have nk:¬h.length=P.length/\¬h.length=P.length+1/\¬h.length=P.length+2/\¬h.length=P.length+3/\¬h.length=P.length+4:=by omega
  have nk':¬h.length+1=P.length/\¬h.length+1=P.length+1/\¬h.length+1=P.length+2/\¬h.length+1=P.length+3/\¬h.length+1=P.length+4:=aa
  rw[x3 _ rfl (by simp(disch:=omega)[nk])]
  simp(disch:=omega)[-kO,-jX,-tgt,-head_eq];rw[f' _ rfl];simp(disch:=omega)[-kO,-jX,-tgt,-head_eq,KZ,a0,nk,y4];rw[f' _ rfl];simp(disch:=omega)[-kO,-jX,-tgt,-head_eq,KZ,a0,nk,nk',y2];rw[f' _ rfl];simp(disch:=omega)[-kO,-jX,-tgt,-head_eq,nk,nk']
  done
 .exact HW.other _ _ (λj hj=>aa) (mP HW.lt)
 .refine⟨by rw[bL,l9];omega,λi hi hne=>?_,λj hj=>.inr aa,λi hi hr=>?_⟩
  .rw[aJ aa,uq P _ w' i aa aa,o i aj aa hne,aK hi]
  .let⟨C,q1,q2⟩:=r i aj (hr.app _)
   exact⟨C,by rw[aJ aa,uq P _ w' i aa aa];exact q1,q2⟩
end Go.Proofs.YtaepagegdgdlhaaGreatDoor.X
namespace Go.Proofs.YtaepagegdgdlhaaGreatDoor.F
open Go.Am Go.Am.Nm Go.Tr Go.Lib
open T (lG Bt Tv Nd En I B okB vN mB)
open R
open Y (jK lU mI cnt qA pat kD pU)
abbrev Ms:=List Ar×Nat
def Ei(did:aB)(f n:R.Fd)(s:Ms)(g:Nat):Ms :=
 (match uN (if did g=true then n.ls else f.ls) (g:Int)with | some x=>s.1++[x] | none=>s.1,if did g=true then s.2+1 else s.2)
def Eg(did:aB)(f n:R.Fd):∀(gs:ax)(s:Ms),gs.foldl (Ei did f n) s=(s.1++CL did f.ls n.ls gs,gs.foldl (λk g=>if did g=true then k+1 else k) s.2)
 | [],s=>by simp[CL]
 |g::gs,s=>by
  rw[aT,Eg did f n gs,CL,aT];unfold Ei;cases uN (if did g=true then n.ls else f.ls) (g:Int)<;>simp
abbrev hM(G:AH)(f n:R.Fd)(W:List AV)(s:Ms):AH :=
 G++[.var [.jB f.fp (f.ps.map Sh.D),.jB f.fl (f.ls.map Lv),.int .i64 f.next,.int .i64 f.jC],.var [.jB n.fp (n.ps.map Sh.D),.jB n.fl (n.ls.map Lv),.int .i64 n.next,.int .i64 n.jC],.var W,.var [.jB true [],.jB true [],.int .i64 0,.int .i64 0],
  .var [.jB (if s.2=0 then f else n).fp ((if s.2=0 then f else n).ps.map Sh.D),.own (G.length+5) 0 0 s.1.length,.int .i64 (if s.2=0 then f else n).next,.int .i64 (if s.2=0 then f else n).jC],.row 0 2 (s.1.map Lv)]
set_option maxHeartbeats 1000000 in
def l32{N:Nat}(hN:154<N)(G:AH)(cl:X.Cl G.length G)(a0 a1 a2 a3:AV)(c0:X.tV G.length a0=true)(c1:X.tV G.length a1=true)(c2:X.tV G.length a2=true)(c3:X.tV G.length a3=true)(b4 u4:Nat)(hb4:b4<G.length)(D:List (Bool×ay))(r4:G[b4] = .row u4 1 (D.map X.dv))(hD:D.length=4)(did:aB)(id:Int)(Bq:∀g (h:g<D.length),(D[g]).2.length<=1000000/\did g=decide (id∈(D[g]).2))(f n:R.Fd)(hf:f.ls.length<=1000)(hn:n.ls.length<=1000)
  (e0:Env) (q3:e0 3=I id) (q4:e0 4 = .ptr G.length 0 0 0) (q5:e0 5 = .ptr (G.length+1) 0 0 0) (q6:e0 6 = .ptr (G.length+2) 0 0 0) (q10:e0 10 = .ptr (G.length+4) 0 0 0) :
  iter (lD (jJ.jG N) (G.length+5) [(10,1,2)] [11,12] [(.exit 0,[11])] Rj e0 (G.length+6) [G.length+5]) ([.int .i64 0,.int .i64 0],hM G f n [a0,a1,a2,a3,.own b4 u4 0 4] ([],0)) =
   some (.exit 0,[.int .i64 (([0,1,2,3].foldl (Ei did f n) ([],0)).2:Nat)],hM G f n [a0,a1,a2,a3,.own b4 u4 0 4] ([0,1,2,3].foldl (Ei did f n) ([],0))):=by
 have hnt:=λh0 Y=>X.qt (G:=G) rfl cl (G.length+6) [G.length+5] aa (λr hr=>by simp only[aM]at hr;omega) h0 Y
 have Mh:∀ {x:AV},X.tV G.length x=true->∀h0,j9 (G.length+6) [G.length+5] h0 x=x:=λhx h0=>X.uJ (n:=G.length) aa (λr hr=>by simp only[aM]at hr;omega) hx
 have n0:=Mh c0;have n1:=Mh c1;have n2:=Mh c2;have n3:=Mh c3;have uv:=lN G;have hb5:¬b4=G.length+5:=aa
 exact jU (f:=lD (jJ.jG N) (G.length+5) [(10,1,2)] [11,12] [(.exit 0,[11])] Rj e0 (G.length+6) [G.length+5]) (λi (s:Ms)=>([.int .i64 (s.2:Int),.int .i64 (i:Int)],hM G f n [a0,a1,a2,a3,.own b4 u4 0 4] s)) [0,1,2,3] (Ei did f n) (λs=>(.exit 0,[.int .i64 (s.2:Int)],hM G f n [a0,a1,a2,a3,.own b4 u4 0 4] s)) (λi s=>s.1.length<=i/\s.2<=i)
  (λg hg s hs=>by
   have hg:g<4:=hg
   have eg:([0,1,2,3]:ax)[g]=g:=by
    match g,hg with
    |0,_=>rfl
    |1,_=>rfl
    |2,_=>rfl
    |3,_=>rfl
   rw[eg];have hgD:g<D.length:=aa
   let⟨h1,h2⟩:=Bq g hgD;obtain⟨dd,Br⟩:∃dd,dd=D[g]:=⟨_,rfl⟩;rw[<-Br]at h1 h2;have Bw:=s33 (n:=N) aa dd.2 dd.1 id h1
   rw[<-h2]at Bw;have NG:=s78 (n:=N) aa (if did g=true then n else f) (by split<;>omega) (g:Int)
   let⟨s1,s2⟩:=s;simp only at hs
   have hI:(Ei did f n (s1,s2) g).1.length<=g+1/\(Ei did f n (s1,s2) g).2<=g+1:=by
    unfold Ei;refine⟨?_,by dsimp only;split<;>omega⟩
    dsimp only;split
    .simp;omega
    .omega
   refine⟨hI,?_⟩;unfold Ei;cases hdg:did g with
   |true =>
    rw[hdg]at Bw NG;simp only[if_true]at NG⊢;cases hl:uN n.ls (g:Int)with
    |some x =>
     rw[hl]at NG;simp only[Fv,Lv]at NG;simp(disch:=omega)[jV,Fm,q3,q4,q5,q6,q10,hg,pz,r4,hb5,<-Br,X.dv,ca 33,Bw,ca 78,NG,hnt,n0,n1,n2,n3,uv]
    |none =>
     rw[hl]at NG;simp only[Fv]at NG;simp(disch:=omega)[jV,Fm,q3,q4,q5,q6,q10,hg,pz,r4,hb5,<-Br,X.dv,ca 33,Bw,ca 78,NG,hnt,n0,n1,n2,n3,uv]
   |false =>
    rw[hdg]at Bw NG;simp only[aU,if_false]at NG⊢;cases hl:uN f.ls (g:Int)with
    |some x =>
     rw[hl]at NG;simp only[Fv,Lv]at NG;simp(disch:=omega)[jV,Fm,q3,q4,q6,q10,hg,pz,r4,hb5,<-Br,X.dv,ca 33,Bw,ca 78,NG,hnt,n0,n1,n2,n3,uv]
    |none =>
     rw[hl]at NG;simp only[Fv]at NG;simp(disch:=omega)[jV,Fm,q3,q4,q6,q10,hg,pz,r4,hb5,<-Br,X.dv,ca 33,Bw,ca 78,NG,hnt,n0,n1,n2,n3,uv])
  (λs hs=>by simp(disch:=omega)[jV,Fm]) ([],0) ⟨aN _,aN _⟩
def CK(did:aB)(f n:R.Fd):Ms:=[0,1,2,3].foldl (Ei did f n) ([],0)
def vn(did:aB)(f n:R.Fd):R.Fd:=⟨(if (CK did f n).2=0 then f else n).fp,(if (CK did f n).2=0 then f else n).ps,false,(CK did f n).1,(if (CK did f n).2=0 then f else n).next,(if (CK did f n).2=0 then f else n).jC⟩
abbrev Yz(G:AH)(m:R.Fd):List AV:=[.jB m.fp (m.ps.map Sh.D),.own (G.length+5) 0 0 m.ls.length,.int .i64 m.next,.int .i64 m.jC]
def s32{N:Nat}(hN:155<N)(G:AH)(b u:aA)(w:Cr.Wd)(H:X.WH G b u w)(hD:w.did.length=4)(did:aB)(id:Int)(Bq:∀g (h:g<w.did.length),(w.did[g]).2.length<=1000000/\did g=decide (id∈(w.did[g]).2))(f n:R.Fd)(hf:f.ls.length<=1000)(hn:n.ls.length<=1000):
  jM (jJ.jG N) 32 [Fv f,Fv n,.agg (X.WC b u w),I id] G=some (.kT [.agg (Yz G (vn did f n)),.int .i64 ((CK did f n).2:Nat)],
   G++[.var [.jB f.fp (f.ps.map Sh.D),.jB f.fl (f.ls.map Lv),.int .i64 f.next,.int .i64 f.jC],.var [.jB n.fp (n.ps.map Sh.D),.jB n.fl (n.ls.map Lv),.int .i64 n.next,.int .i64 n.jC],.var (X.WC b u w),.var (Yz G (vn did f n)),.var (Yz G (vn did f n)),.row 0 2 ((vn did f n).ls.map Lv)]):=by
 have hl:=H.lt;have hb4:=hl 4 af
 have r4:=(aF.1 H.r4).2;have hx:=λc0 c1 c2 c3=>l32 (N:=155) af G H.cl (.own (b 0) (u 0) 0 w.bs.length) (.own (b 1) (u 1) 0 w.ps.length) (.own (b 2) (u 2) 0 w.jQ.length) (.own (b 3) (u 3) 0 w.jE.length) c0 c1 c2 c3 (b 4) (u 4) hb4 w.did r4 hD did id Bq f n hf hn
 have cc:=λj (hj:j<5) v n=>show X.tV G.length (.own (b j) v 0 n)=true by
  have:=hl j hj;simp[X.tV,this]
 have hx:=hx (cc 0 af _ _) (cc 1 af _ _) (cc 2 af _ _) (cc 3 af _ _)
 unfold vn;rw[show [0,1,2,3].foldl (Ei did f n) ([],0)=CK did f n from rfl]at hx
 generalize CK did f n=s at *
 have hnt:=λh0 Y=>X.qt (G:=G) rfl H.cl (G.length+6) [G.length+5] aa (λr hr=>by simp only[aM]at hr;omega) h0 Y
 have uv:=lN G;have nn:∀j,j<5->∀v n h0,j9 (G.length+6) [G.length+5] h0 (.own (b j) v 0 n) = .own (b j) v 0 n:=λj hj v n h0=>X.uJ (n:=G.length) aa (λr hr=>by simp only[aM]at hr;omega) (cc j hj v n)
 have n0:=nn 0 af
 have n1:=nn 1 af
 have n2:=nn 2 af
 have n3:=nn 3 af
 have n4:=nn 4 af
 obtain⟨o,ho⟩:∃o,o=if s.2=0 then f else n:=⟨_,rfl⟩
 unfold hM at hx;simp only[<-ho]at hx⊢;simp only[bq,bQ,if_true]at hx;unfold X.WC;rw[hD];rw[ph 32 rfl hN rfl,jy];simp(disch:=omega)[c32,hnt,uv,n0,n1,n2,n3,n4];rw[hx _ aq aq aq aq aq]
 simp(disch:=omega)
end Go.Proofs.YtaepagegdgdlhaaGreatDoor.F
