/- Part of the proof that TopScriptsCard holds. -/
import Derived.Test.YtahlmpbhfljalaaGreatDoorRp32a
set_option linter.all false
namespace Go.Proofs.YtahlmpbhfljalaaGreatDoor
open Go.Am Go.Tr
variable{n:Nat}
def abh(b:26<n)(x:Int):(gV.fk n).p 306 [I x]=some (.bool false):=by
 rw[pp 306 rfl b rfl,gd,b6];simp(disch:=omega)[afc]
def ow(x y:Int):Int:=if x<y then -1 else if y<x then 1 else 0
def Mc(h:27<n)(x y:Int):(gV.fk n).p 217 [I x,I y]=some (I (ow x y)):=by
 rw[pp 217 rfl h rfl,gd,b6];have h1:=abh (n:=27) af x
 have h2:=abh (n:=27) af y
 unfold ow
 by_cases b:x<y
 .simp(disch:=omega)[RC,ca 306,h1,h2,b]
 .by_cases c2:y<x
  .simp(disch:=omega)[RC,ca 306,h1,h2,b,c2]
  .simp(disch:=omega)[RC,ca 306,h1,h2,b,c2]
def ag2(b:45<n)(q:Tr.Node)(i:Int):(gV.fk n).p 336 [Nd q,I i]=some (I (ow q.ino i)):=by
 rw[pp 336 rfl b rfl,gd,b6];have h:=Mc (n:=45) af q.ino i
 simp(disch:=omega)[ae4,ca 217,h]
def vL(x y:Int):ow x y<0↔x<y:=by
 unfold ow;split
 .simp_all
 .split<;>simp_all
def nQ(x y:Int):ow x y=0↔x=y:=by
 unfold ow;split
 .constructor<;>intro h<;>omega
 .split
  .constructor<;>intro h<;>omega
  .constructor<;>intro h<;>omega
def Sx(E:54<n){l:List Tr.Node}(hs:kI l)(hl:l.length<=1000)(i:Int)(g:FuncId){X:AH}(G:tT X)(hg:∀x∈l,rF (gV.fk 54) g [Nd x,I i] X=some (I (ow x.ino i),X)):
  rF (gV.fk n) 312 [.en false (l.map Nd),I i,.fn (.func g) [] []] X=some (.iV [I (jf l i:Nat),.bool (find l i).isSome],X):=by
 rw[ph 312 rfl E rfl]
 have h:=bsG (Γ:=gV.fk 54) (z:=6) (cs:=λq:Tr.Node=>[.int .i64 q.ino,.int .i64 q.kind,.int .i64 q.links,.en false (q.data.map B),.en false (q.ek.map En),.int .i64 q.up]) (λ_=>rfl) (l:=l) aa G (CN X (cs:=λq:Tr.Node=>[.int .i64 q.ino,.int .i64 q.kind,.int .i64 q.links,.en false (q.data.map B),.en false (q.ek.map En),.int .i64 q.up]) (λ_=>rfl) l false) (I i) g [] [] (λx=>ow x.ino i) (λa b F A h=>by
  rw[vL]at h⊢;have:=(aW.1 hs) _ _ aa F A
  omega) hg
 have o:jZ (λx:Tr.Node=>decide (ow x.ino i<0)) l=jf l i:=by
  unfold jf
  congr 1
  funext x
  exact decide_eq_decide.2 (vL x.ino i)
 rw[o]at h;refine Eq.trans h ?_
 rcases oD hs i with⟨r,v,y⟩ | ⟨y,v⟩
 .rw[y,aF r];have:=(nQ l[jf l i].ino i).2 v;simp[this]
 .rw[y]
  by_cases r:jf l i<l.length
  .rw[aF r];have:¬ow l[jf l i].ino i=0:=λh=>v r ((nQ _ _).1 h)
   simp[this]
  .rw[cS aa]
   simp
def ag7(b:54<n)(t:Tr.Tree)(hs:kI t.nodes)(hl:t.nodes.length<=1000)(i:Int)(X:AH)(l:tT X):
  rF (gV.fk n) 312 [.en false (t.nodes.map Nd),I i,.fn (.func 336) [] []] X=some (.iV [I (jf t.nodes i:Nat),.bool (find t.nodes i).isSome],X) :=
 Sx b hs hl i 336 l λx _=>by
  have h:=ag2 (n:=54) af x i
  simp only[Nd]at h;simp(disch:=omega)[ca 336,h]
def JR(b:55<n)(t:Tr.Tree)(hs:kI t.nodes)(hl:t.nodes.length<=1000)(i:Int)(X:AH)(l:tT X)(k:Nat)(hk:X[k]? = some (.var [.en false (t.nodes.map Nd),.int .i64 t.next,.int .i64 t.gr])):
  rF (gV.fk n) 289 [.ptr k 0 0 0,I i] X=some (.iV [I (jf t.nodes i:Nat),.bool (find t.nodes i).isSome],X):=by
 rw[ph 289 rfl b rfl,b6];have h:=ag7 (n:=55) af t hs hl i X l
 simp(disch:=omega)[afj,hk,h]
def Ic{t:Tr.Tree}(hs:kI t.nodes)(i:Int):(∃q,find t.nodes i=some q/\jf t.nodes i<t.nodes.length/\t.nodes[jf t.nodes i]? = some q)\/find t.nodes i=none:=by
 rcases oD hs i with⟨h,_,b⟩ | ⟨b,_⟩
 .exact .inl ⟨_,b,h,aF h⟩
 .exact .inr b
def AD(v:59<n)(t:Tr.Tree)(hs:kI t.nodes)(hl:t.nodes.length<=1000)(i:Int):(gV.fk n).p 199 [Tv t,I i]=some (ud (find t.nodes i)):=by
 rw[pp 199 rfl v rfl,gd,b6];have b:=JR (n:=56) af t hs hl i [.var [.int .i64 0,.int .i64 0,.int .i64 0,.en false [],.en false [],.int .i64 0],.var [.en false (t.nodes.map Nd),.int .i64 t.next,.int .i64 t.gr],.var [.int .i64 0,.int .i64 0,.int .i64 0,.en false [],.en false [],.int .i64 0]] rfl 1 rfl
 have r:=U2 (n:=59) af
 unfold ud
 rcases Ic hs i with⟨q,l,x,o⟩ | l
 .rw[l]at b⊢;generalize jf t.nodes i=c at *
  have h:q=t.nodes[c]:=by rw[aF x]at o;exact(bB o).symm
  simp(disch:=omega)[Yp,r,b6,AY,b,<-h]
 .rw[l]at b⊢;generalize jf t.nodes i=c at *
  simp(disch:=omega)[Yp,r,b6,AY,b,jb]
def vV{t:Tr.Tree}(w:nB t):Bt t:=Ty w.bg aa
abbrev Tb(t:Tr.Tree):List AV:=[.en false (t.nodes.map Nd),.int .i64 t.next,.int .i64 t.gr]
abbrev Nc(q:Tr.Node):List AV:=[.int .i64 q.ino,.int .i64 q.kind,.int .i64 q.links,.en false (q.data.map B),.en false (q.ek.map En),.int .i64 q.up]
abbrev bs(t:Tr.Tree)(s:ax×Int)(rest:AH):AH:=.var (Tb t) :: .mp .i64 (s.1.map λx=>(x,.bool true)) :: .var [.kZ 1] :: .var [I s.2] :: .var [.fn (.func 296) [] [.ptr 0 0 0 0,.ptr 3 0 0 0,.ptr 2 0 0 0,.ptr 4 0 0 0]]::rest
def Ce(t:Tr.Tree)(k:Nat):Prop:=∀(i:Int)(s:ax×Int)(rest:AH),rest.all gX=true->It t s.1<k->s.1.Nodup->(∀x∈s.1,(find t.nodes x).isSome=true)->0<=s.2->s.2+dat t i<=4096*(s.1.length:Int)+4096->
 rF (kT (gV.fk 99) 296 xZ k) 296 [I i,.ptr 0 0 0 0,.ptr 3 0 0 0,.ptr 2 0 0 0,.ptr 4 0 0 0] (bs t s rest)=some (.iV [],bs t (wG t k i s) (rest++[.var (Nc (iq t i))]))
def Ke(l:ax)(x:Int):jO (l.map λy=>(y,AV.bool true)) x (.bool false) = .bool (l.contains x):=by
 unfold jO
 induction l with
 |nil=>rfl
 |cons y l b =>
  rw[bF,fD]
  by_cases h:y=x
  .subst h;simp
  .have h':¬x=y:=λe=>h e.symm
   simp only[h,decide_false];rw[b];simp[h']
def Mz{l:ax}{x:Int}(h:x∉l):lF (l.map λy=>(y,AV.bool true)) x (.bool true)=(l++[x]).map λy=>(y,AV.bool true):=by
 induction l with
 |nil=>rfl
 |cons y l b =>
  have h1:¬y=x:=λe=>h (by rw[e];exact cr)
  rw[bF,lF,if_neg h1,b λh'=>h (bD _ h')]
  rfl
def call33{k:Nat}(t:Tr.Tree)(w:nB t)(i:Int)(h:AH):rF (kT (gV.fk 99) 296 xZ k) 199 [Tv t,I i] h=some (ud (find t.nodes i),h) :=
 vO rfl ((yZ af _ k).trans (AD (n:=99) af t w.wf.jh (vV w).len i))
def HO{t:Tr.Tree}(w:nB t)(i:Int):0<=dat t i/\dat t i<=4096:=by
 unfold dat iq;cases b:find t.nodes i with
 |none=>simp[jb]
 |some q =>
  show 0<=((q.data.length:Nat):Int)/\((q.data.length:Nat):Int)<=4096
  rcases w.yj (gZ b).1 with⟨_,_,_,h,_⟩ | ⟨_,h,_⟩
  .omega
  .rw[h];simp
def Jv{t:Tr.Tree}(w:nB t)(l:ax):0<=wJ t l/\wJ t l<=4096*(l.length:Int):=by
 induction l with
 |nil=>simp[wJ]
 |cons x l b =>
  have:=HO w x;rw[B9,aK];omega
structure Gd(t:Tr.Tree)(k:Nat)(s:ax×Int):Prop where
 un:It t s.1<k+1
 nd:s.1.Nodup
 node:∀x∈s.1,(find t.nodes x).isSome=true
 b0:0<=s.2
 b1:s.2<=4096*(s.1.length:Int)+4096
def ES:∀ {l m:ax},l.Nodup->(∀x∈l,x∈m)->l.length<=m.length
 | [],_,_,_=>bp _
 |x::l,m,h,hs=>by
  let⟨h1,h2⟩:=fE.1 h;have hx:=hs x cr;have i:=ES (l:=l) (m:=m.erase x) h2 λy b=>(gJ λe=>h1 (by rw[<-e];exact b)).2 (hs y (bD _ b))
  rw[List.length_erase_of_mem hx]at i;have:=gh hx;rw[aK];omega
def Hg{t:Tr.Tree}{l:ax}(h:l.Nodup)(i:∀x∈l,(find t.nodes x).isSome=true):l.length<=t.nodes.length:=by
 have:(t.nodes.map Tr.Node.ino).length=t.nodes.length:=cw ..;rw[<-this]
 exact ES h λx hx=>by
  let⟨q,b⟩:=cC.1 (i x hx);let⟨h1,h2⟩:=gZ b;exact b7.2 ⟨q,h1,h2⟩
theorem zv(L:Nat)(R:au)(h:AH)(f:Fn)(a c:List AV):jV L R h (.fn f a c)=if (a++c).all (λx=>x.jE||match x with | .ptr b _ _ _=>decide (b<L) && !R.contains b | .kZ b=>decide (b<L) && !R.contains b | _=>false)then .fn f a c else .dead:=rfl
def Gd.step{t:Tr.Tree}(w:nB t){k:Nat}{s:ax×Int}(g:Gd t k s){e:Tr.Ent}(b:(find t.nodes e.ino).isSome=true):Gd t k (qv t k s e):=by
 let⟨new,p,_⟩:=zO k (wF w k) [e] s (λe' h=>by simp at h;rw[h];exact b) g.un g.nd g.node
 rw[cE,List.foldl_nil]at p;have h1:=Jv w new;have h2:=g.b0;have h3:=g.b1;refine⟨fM (DZ λx hx=>by rw[p.eq];exact dY _ hx) g.un,p.nd,p.node,by rw[p.sum];omega,?_⟩
 rw[p.sum,p.eq,aG];omega
theorem Ka(L:Nat)(R:au)(h:AH)(l:ax):l.map ((λp:Int×AV=>(p.1,jX L R h p.2))∘λx=>(x,AV.bool true))=l.map λx=>(x,AV.bool true):=rfl
def ai0{k:Nat}(t:Tr.Tree)(w:nB t)(P:Ce t k)(q:Tr.Node)(K:∀e∈q.ek,(find t.nodes e.ino).isSome=true)(H:q.ek.length<=1000)(s:ax×Int)(g:Gd t k s)(R:AH)(F:R.all gX=true)
  (e0:Env) (z:e0 22 = .en false (q.ek.map En)) (v:e0 23 = .int .i64 q.ek.length) (h3:e0 3 = .ptr 2 0 0 0) (h4:e0 4 = .ptr 4 0 0 0) (L:Nat) (O:R.length+5=L) :
  iter (round (kT (gV.fk 99) 296 xZ k) [24] [(.exit 0,[])] wU e0 L []) ([.int .i64 0],bs t s R)=some (.exit 0,[],bs t (q.ek.foldl (qv t k) s) R):=by
 subst O
 have:=sR (f:=round (kT (gV.fk 99) 296 xZ k) [24] [(.exit 0,[])] wU e0 (R.length+5) []) (λi (s:ax×Int)=>([.int .i64 (i:Int)],bs t s R)) q.ek (qv t k) (λs=>(.exit 0,[],bs t s R)) (λ_ s=>Gd t k s)
  (λi M s g=>by
   obtain⟨e,A⟩:∃e,e=q.ek[i]:=⟨_,rfl⟩;have r:=K e (by rw[A];exact aU M)
   rw[<-A];refine⟨g.step w r,?_⟩;have l:=Ke s.1 e.ino;have y:∀X:AH,List.take R.length (R++X)=R:=λX=>by rw[fG];rfl
   unfold qv;cases E:s.1.contains e.ino with
   |true =>
    rw[E]at l;simp(disch:=omega)[round_eq,wU,z,v,h3,<-A,l,iY _ _ R _ F,y,zv]
   |false =>
    rw[E]at l;have o:e.ino∉s.1:=by simpa using E
    have n:=Mz o;have Q:=DY r o
    have h:=P e.ino (s.1++[e.ino],s.2) (R++[.var [.str e.name,.int .i64 e.ino,.int .i64 e.gr]]) (by rw[cg,F];rfl) (by have:=g.un;simp only;omega) (by
      rw[fT];exact⟨g.nd,ah,λa N b G=>by simp at G;subst G;exact λe'=>o (e'▸N)⟩) (λx hx=>by
      rcases aZ.1 hx with hx | hx
      .exact g.node x hx
      .simp at hx;subst hx;exact r) g.b0 (by have:=g.b1;have:=HO w e.ino;simp only[aG,aK,aR];omega)
    generalize wG t k e.ino (s.1++[e.ino],s.2)=m at *
    simp only[bs,dS,bF,aX,bV,aM,aN]at h n;simp(disch:=omega)[round_eq,wU,z,v,h3,h4,<-A,l,n,h,iY _ _ R _ F,y,zv])
  (λs g=>by simp(disch:=omega)[round_eq,wU,v]) s g
 simpa using this
def Cd(t:Tr.Tree)(w:nB t):∀k:Nat,Ce t k
 |0=>λi s rest _ h=>absurd h aa
 |k+1=>by
  intro i s R H M o n Q v;have G:=Cd t w k;rw[oz,b6,BU];have l:=λh=>call33 (k:=k) t w i h
  let⟨b,K,_⟩:=WJ t i;have F:dat t i=((iq t i).data.length:Int):=rfl;have A:∀e∈(iq t i).ek,(find t.nodes e.ino).isSome=true:=λe P=>yw w P
  have E:(iq t i).ek.length<=1000:=by have:=(w.bg.iq i).1;omega
  have O:=Hg o n;have N:=w.wf.len;rw[F]at v;have g:Gd t k (s.1,s.2+((iq t i).data.length:Int)):=⟨M,o,n,by simp only;omega,v⟩
  simp only[K]at l;generalize iq t i=q at *
  have hl:=ai0 (k:=k) t w G q A E (s.1,s.2+(q.data.length:Int)) g (R++[.var (Nc q)]) (by rw[cg,H];rfl)
  have z:∀X:AB,(R++[X])[R.length]? = some X:=λX=>ah
  have y:∀X Y:AB,(R++[X]).set R.length Y=R++[Y]:=λX Y=>ah
  generalize q.ek.foldl (qv t k) (s.1,s.2+(q.data.length:Int))=m at *
  have x:∀X:AB,List.take (R.length+1) (R++[X])=R++[X]:=λX=>bf ah
  have r:∀(L:Nat)(h:AH)(i:Nat),iQ L [] h i (R++[.var (Nc q)])=R++[.var (Nc q)]:=λL h i=>iY L h _ i (by rw[cg,H];rfl)
  simp only[Nc]at r;simp only[Tv]at l;clear G;generalize kT (gV.fk 99) 296 xZ k=Γ at *
  simp only[bs,Nc,Tb]at hl⊢;simp(disch:=omega)[xZ,l,z,y,x,r,zv,Ka];rw[hl _ an an an an _ ah]
  simp(disch:=omega)
theorem sZ(f:Fn)(a c:List AV):(AV.fn f a c).cells=[.fn f a c]:=rfl
def nh{t:Tr.Tree}{d:Int}:jK t d=0↔∃q,find t.nodes d=some q/\q.kind=2:=by
 unfold jK;cases find t.nodes d with
 |none=>simp
 |some q =>
  simp only
  constructor
  .intro h;split at h
   .exact⟨q,rfl,by assumption⟩
   .cases h
  .rintro⟨b,h,hk⟩
   obtain rfl:=bB h;rw[if_pos hk]
def Rj{t:Tr.Tree}(w:nB t){d:Int}{q:Tr.Node}(b:find t.nodes d=some q)(hk:q.kind=2):dat t d=0:=by
 unfold dat;rw[iy b]
 rcases w.yj (gZ b).1 with⟨h,_⟩ | ⟨_,h,_⟩
 .omega
 .rw[h];rfl
def abu{n:Nat}(O:133<n)(t:Tr.Tree)(w:nB t)(d:Int):(gV.fk n).p 201 [Tv t,I d]=some (.iV [I (mO t d),I (mP t d)]):=by
 rw[pp 201 rfl O rfl,gd,b6];have i:=AD (n:=133) af t w.wf.jh (vV w).len d
 have N:=λargs h=>aih (n:=133) af args h
 have T:=λargs h=>(oz (Γ:=gV.fk 99) (f:=244) (F:=xZ) 300 args h).symm
 have y:∀s:ax×Int,s.1=[]->It t s.1<301:=λs hs=>by
  have hl:=w.wf.len;have:=bG (λq:Tr.Node=>!([]:ax).contains q.ino) t.nodes
  rw[hs];unfold It;omega
 unfold ud at i;unfold mO mP;cases o:find t.nodes d with
 |none =>
  have l:¬jK t d=0:=λh=>by
   let⟨q,h1,_⟩:=nh.1 h;rw[o]at h1;cases h1
  rw[o]at i;rw[if_neg l,if_neg l];simp only[dI,Tv,Nd,jb,aX]at i;simp(disch:=omega)[c201,sZ,ca 199,i]
 |some q =>
  rw[o]at i
  by_cases r:q.kind=2
  .have l:jK t d=0:=nh.2 ⟨q,o,r⟩;rw[if_pos l,if_pos l];have b:=Cd t w 301 d ([],0) [.var (Nc q)] rfl (y ([],0) rfl) List.nodup_nil (λx hx=>by cases hx) (eT 0) (by have:=HO w d;simp only[aR];omega)
   rw[oz]at b;let⟨L,K,v⟩:=EV w d
   have A:=Hg L (λx hx=>by
    let⟨p,e,_,h⟩:=(OW w).1 ((K x).1 hx);let⟨S,z,e',G,P⟩:=vB h;rw[<-P];exact yw w (by rw[iy z];exact G))
   have H:=Rj w o r;rw[H,Int.zero_add]at v;have e1:(wG t 301 d ([],0)).1=CX t d:=rfl;have E:=iy o;rw[E]at b;generalize wG t 301 d ([],0)=m at *
   rw[<-e1]at v A⊢;rw[<-v];have M:=w.wf.len;simp only[cG,Tv,Nd,r]at i;simp only[bs,Nc,Tb,r,aX,aM,aN]at b;generalize kT (gV.fk 99) 296 xZ 300=Γ at *
   generalize xZ=F at *
   simp(disch:=omega)[c201,sZ,ca 199,i,N,b]
  .have l:¬jK t d=0:=λh=>by
    let⟨Q,h1,h2⟩:=nh.1 h;rw[o]at h1;obtain rfl:=bB h1;exact r h2
   rw[if_neg l,if_neg l];simp only[cG,Tv,Nd]at i;simp(disch:=omega)[c201,sZ,ca 199,i,r]
variable{n:Nat}
@[simp]def Qv(x:Qu):AV:=.agg [.int .i64 x.ino,.int .i64 x.nodes,.int .i64 x.bytes]
@[simp]def akm(l:List Qu):iU 3 (l.map Qv)=true:=by simp[iU]
def Uw(b:43<n)(q:Qu)(i:Int):(gV.fk n).p 317 [Qv q,I i]=some (I (ow q.ino i)):=by
 rw[pp 317 rfl b rfl,gd,b6];have h:=Mc (n:=43) af q.ino i
 simp(disch:=omega)[ae5,ca 217,h]
def aiW(A:43<n)(l:List Qu)(hs:mh l)(hl:l.length<=1000)(f:Bool)(i:Int)(e0:Env)(h0:e0 0 = .en f (l.map Qv))(h1:e0 1=I i)(h2:e0 2 = .fn (.func 317) [] [])(X:AH)(z:X.all gX=true):
  iter (round (gV.fk n) [9,10] [(.exit 0,[9])] wR e0 X.length []) ([.int .i64 0,.int .i64 l.length],X)=some (.exit 0,[.int .i64 (jG l i:Nat)],X) :=
 vF (f:=round (gV.fk n) [9,10] [(.exit 0,[9])] wR e0 X.length []) (λi j=>([.int .i64 (i:Int),.int .i64 (j:Int)],X)) l.length (jG l i) (lB _ _) (λc=>(.exit 0,[.int .i64 (c:Int)],X))
  (λa j F G=>by
   have v:=Jf (i:=a) (j:=j);obtain⟨m,r⟩:∃m,m=(a+j) / 2:=⟨_,rfl⟩;rw[<-r]at v⊢;have E:m<l.length:=aa
   have b:=oW hs i E;obtain⟨x,hx⟩:∃x,x=l[m]:=⟨_,rfl⟩;rw[<-hx]at b;have y:=Uw (n:=n) A x i;have q:=vL x.ino i;simp only[Qv]at y;generalize ow x.ino i=ci at *
   by_cases h:m<jG l i
   .have o:ci<0:=q.2 (b.1 h);simp(disch:=omega)[round_eq,wR,h0,h1,h2,wrap_u64,v,<-hx,ca 317,y,h,o,iY _ _ X _ z]
   .have o:¬ci<0:=λh'=>h (b.2 (q.1 h'))
    simp(disch:=omega)[round_eq,wR,h0,h1,h2,wrap_u64,v,<-hx,ca 317,y,h,o,iY _ _ X _ z])
  (λa H=>by simp(disch:=omega)[round_eq,wR]) _ 0 l.length rfl (bp _) (lB _ _) (aT _)
def ag4(y:51<n)(l:List Qu)(hs:mh l)(hl:l.length<=1000)(f:Bool)(i:Int)(X:AH)(v:X.all gX=true):
  rF (gV.fk n) 316 [.en f (l.map Qv),I i,.fn (.func 317) [] []] X=some (.iV [I (jG l i:Nat),.bool (kD l i).isSome],X):=by
 rw[ph 316 rfl y rfl,b6];have h1:=λe0 h0 h1 h2=>aiW (n:=51) af l hs hl f i e0 h0 h1 h2 X v
 have o:=Ca hs i;simp(disch:=omega)[ae6,iY _ _ X _ v];rw[h1 _ an an an]
 generalize jG l i=c at *
 rcases o with⟨r,q,o⟩ | ⟨o,q⟩
 .rw[o];obtain⟨x,hx⟩:∃x,x=l[c]:=⟨_,rfl⟩;have hg:=Uw (n:=51) af x i
  have b:=(nQ x.ino i).2 (by rw[hx];exact q)
  rw[b]at hg;simp only[Qv]at hg;simp(disch:=omega)[<-hx,ca 317,hg]
 .rw[o]
  by_cases r:c<l.length
  .obtain⟨x,hx⟩:∃x,x=l[c]:=⟨_,rfl⟩;have hg:=Uw (n:=51) af x i
   have b:¬ow x.ino i=0:=λh=>q r (by rw[<-hx];exact(nQ x.ino i).1 h)
   generalize ow x.ino i=ci at *
   simp only[Qv]at hg;simp(disch:=omega)[<-hx,ca 317,hg,b]
  .simp(disch:=omega)
def abl(b:52<n)(l:List Qu)(hs:mh l)(hl:l.length<=1000)(f:Bool)(i:Int):
  (gV.fk n).p 234 [.en f (l.map Qv),I i]=some (.iV [I (jG l i:Nat),.bool (kD l i).isSome]):=by
 rw[pp 234 rfl b rfl,gd,b6];have h:=ag4 (n:=52) af l hs hl f i [] rfl
 simp(disch:=omega)[c234,h]
def abf(i:53<n)(l:List Qu)(hs:mh l)(hl:l.length<=1000)(f:Bool)(d:Int)(o:d≠0):
  rF (gV.fk n) 343 [I d,.ptr 0 0 0 0,.ptr 1 0 0 0] [.var [.en f (l.map Qv)],.var [I 0]]=some (.bool !(kD l d).isSome,[.var [.en f (l.map Qv)],.var [I (if (kD l d).isSome=true then d else 0)]]):=by
 rw[ph 343 rfl i rfl,b6];have b:=abl (n:=53) af l hs hl f d
 cases h:(kD l d).isSome with
 |true =>
  rw[h]at b;simp(disch:=omega)[X2,ca 234,b,o]
 |false =>
  rw[h]at b;simp(disch:=omega)[X2,ca 234,b]
def aiU(E:59<n)(t:Tr.Tree)(w:nB t)(l:List Qu)(hs:mh l)(hl:l.length<=1000)(f:Bool)(e0:Env)(h2:e0 2 = .fn (.func 343) [] [.ptr 0 0 0 0,.ptr 1 0 0 0])(h3:e0 3 = .iw (Tb t)){d:Int}{k:Nat}(hk:rK t d k):
  iter (round (gV.fk n) [1] [(.exit 0,[])] Af e0 2 []) ([I d],[.var [.en f (l.map Qv)],.var [I 0]])=some (.exit 0,[],[.var [.en f (l.map Qv)],.var [I (AQ t l (k+1) d)]]):=by
 have y:∀ {d:Int} {k:Nat},rK t d k->d≠0:=λh=>by
  cases h with
  |root=>decide
  |up h _ _ _=>have:=(w.wf.pos _ _ h).1;omega
 induction hk with
 |root =>
  rw[iter_eq];have o:=abf (n:=n) aa l hs hl f 1 af
  simp only[AQ,if_true];generalize(kD l 1).isSome=b at *
  cases b<;>simp(disch:=omega)[round_eq,Af,h2,o]
 | @up i q k x hk v F z =>
  rw[iter_eq];have o:=abf (n:=n) aa l hs hl f i (y (.up x hk v F))
  have r:=AD (n:=n) E t w.wf.jh (vV w).len i;have A:Is t i=q.up:=by unfold Is;rw[x];rfl
  unfold AQ;rw[A,if_neg v];unfold ud at r;rw[x]at r;simp only[cG,Tv,Nd]at r;generalize(kD l i).isSome=b at *
  cases b with
  |true=>simp(disch:=omega)[round_eq,Af,h2,o]
  |false =>
   simp(disch:=omega)[round_eq,Af,h2,h3,o,v,ca 199,r];exact z
def ahd(i:131<n)(t:Tr.Tree)(w:nB t)(l:List Qu)(hs:mh l)(hl:l.length<=1000)(f:Bool){d:Int}(q:jK t d=0):(gV.fk n).p 295 [Tv t,.en f (l.map Qv),I d]=some (I (dom t l d)):=by
 rw[pp 295 rfl i rfl,gd,b6];let⟨k,hk⟩:=Rg w q;have b:=λe0 h2 h3=>aiU (n:=130) af t w l hs hl f e0 h2 h3 hk
 rw[XC w hk (ff k)]at b;have h:=ah9 (n:=131) af
 generalize dom t l d=o at *
 simp(disch:=omega)[afh,h,b6,X4];rw[b _ an an]
 simp(disch:=omega)
def Pu{t:Tr.Tree}(w:nB t)(d:Int):0<=mO t d/\mO t d<=200/\0<=mP t d/\mP t d<=819200:=by
 unfold mO mP;let⟨n,l,_⟩:=EV w d
 have o:=Hg n (λx hx=>by
  let⟨p,e,_,h⟩:=(OW w).1 ((l x).1 hx);let⟨r,b,e',i,q⟩:=vB h;rw[<-q];exact yw w (by rw[iy b];exact i))
 have:=w.wf.len;have:=Jv w (CX t d);split<;>omega
def LK(l:List Qu){k:Nat}(hk:k<l.length):((l.map Qv).take k++(l.map Qv).drop (k+1)).take (k+(l.length-(k+1)))=(l.map Qv).take k++(l.map Qv).drop (k+1):=by
 rw[bf];simp;omega
def ahF{n:Nat}(U:150<n)(t:Tr.Tree)(w:nB t)(l:List Qu)(hs:mh l)(hl:l.length<=1000)(i a b:Int):
  (gV.fk n).p 131 [Tv t,.en false (l.map Qv),I i,I a,I b]=some (.iV [.en false ((tY t l i a b).1.map Qv),I (tY t l i a b).2]):=by
 rw[pp 131 rfl U rfl];have o:=AD (n:=150) af t w.wf.jh (vV w).len i
 have y:=abu (n:=150) af t w i
 have r:=abl (n:=150) af l hs hl false i
 have S:=aip (n:=150) af
 have L:=acn (n:=150) af
 have Q:=aio (n:=150) af
 have X:=Pu w i;unfold ud at o;unfold tY;cases M:find t.nodes i with
 |none =>
  have N:jK t i=70:=by unfold jK;rw[M]
  rw[M]at o;rw[N];simp only[dI,Tv,Nd,jb,aX]at o;rw[gd,b6];simp(disch:=omega)[c131,ca 199,o]
 |some q =>
  rw[M]at o;simp only[cG,Tv,Nd]at o
  by_cases E:q.kind=2
  .have N:jK t i=0:=by unfold jK;rw[M];simp[E]
   rw[N];simp only[Tv]at y
   rcases Ca hs i with⟨O,T,G⟩ | ⟨G,_⟩
   .rw[G]at r;have H:=Mr hs O T;have K:=Mx (x:=⟨i,a,b⟩) hs O T;have P:=LK l O
    by_cases c2:a<0
    .rw[H];generalize jG l i=k at *
     rw[gd,b6];simp(disch:=omega)[c131,ca 199,o,ca 234,r,E,c2,S,L,iL,jW,P]
    .by_cases z : a < mO t i
     .generalize mO t i=u at *
      generalize mP t i=v at *
      generalize jG l i=k at *
      rw[gd,b6];simp(disch:=omega)[c131,ca 199,o,ca 234,r,E,c2,ca 201,y,z]
     .by_cases A : b < mP t i
      .generalize mO t i=u at *
       generalize mP t i=v at *
       generalize jG l i=k at *
       rw[gd,b6];simp(disch:=omega)[c131,ca 199,o,ca 234,r,E,c2,ca 201,y,z,A]
      .have F:¬kD l i=none:=λh=>by rw[G]at h;cases h
       rw[K];generalize mO t i=u at *
       generalize mP t i=v at *
       simp only;generalize jG l i=k at *
       rw[gd,b6];simp(disch:=omega)[c131,ca 199,o,ca 234,r,E,c2,ca 201,y,z,A,F,L,iL,O];exact bf ah
   .rw[G]at r;have H:=JV G;have K:=JW (x:=⟨i,a,b⟩) G;have W:=Jw l i
    by_cases c2:a<0
    .rw[H];generalize jG l i=k at *
     rw[gd,b6];simp(disch:=omega)[c131,ca 199,o,ca 234,r,E,c2]
    .by_cases z : a < mO t i
     .generalize mO t i=u at *
      generalize mP t i=v at *
      generalize jG l i=k at *
      rw[gd,b6];simp(disch:=omega)[c131,ca 199,o,ca 234,r,E,c2,ca 201,y,z]
     .by_cases A : b < mP t i
      .generalize mO t i=u at *
       generalize mP t i=v at *
       generalize jG l i=k at *
       rw[gd,b6];simp(disch:=omega)[c131,ca 199,o,ca 234,r,E,c2,ca 201,y,z,A]
      .by_cases F : 16 <= l.length
       .generalize mO t i=u at *
        generalize mP t i=v at *
        generalize jG l i=k at *
        rw[gd,b6];simp(disch:=omega)[c131,ca 199,o,ca 234,r,E,c2,ca 201,y,z,A,G,F]
       .rw[K];generalize mO t i=u at *
        generalize mP t i=v at *
        simp only;generalize jG l i=k at *
        rw[gd,b6];simp(disch:=omega)[c131,ca 199,o,ca 234,r,E,c2,ca 201,y,z,A,G,F,L,Q,iL,kP];rw[bf aj]
  .have N:jK t i=73:=by unfold jK;rw[M];simp[E]
   rw[N];rw[gd,b6];simp(disch:=omega)[c131,ca 199,o,E]
structure Gi where
 a:UInt8
 n:Int
 b:Int
 n0 : -128<=n
 n1:n<=127
 b0 : -128<=b
 b1:b<=127
@[simp]def Gv(g:Gi):AV:=.agg [.int .u8 g.a.toNat,.int .i8 g.n,.int .i8 g.b]
@[simp]def akr(l:List Gi):iU 3 (l.map Gv)=true:=by simp[iU]
open Go.Am Go.Tr Go.Am.Nm
structure Bx(X:AH)(k:Nat)(t:Tr.Tree):Prop where
 pl:tT X
 at_:X[k]? = some (.var [.en false (t.nodes.map Nd),.int .i64 t.next,.int .i64 t.gr])
variable{X:AH}
def Bx.lt{k:Nat}{t:Tr.Tree}(h:Bx X k t):k<X.length:=(az.1 h.at_).1
def Bx.get{k:Nat}{t:Tr.Tree}(h:Bx X k t)(hk:k<X.length):X[k] = .var [.en false (t.nodes.map Nd),.int .i64 t.next,.int .i64 t.gr]:=by
 have:=h.at_;rw[aF hk]at this;exact bB this
def Bx.app{k:Nat}{t:Tr.Tree}(h:Bx X k t){Y:AH}(b:Y.all gX=true):Bx (X++Y) k t :=
 ⟨ID h.pl b,by rw[aI h.lt];exact h.at_⟩
def Bx.set{k:Nat}{t:Tr.Tree}(h:Bx X k t)(u:Tr.Tree):Bx (X.set k (.var (Tb u))) k u:=by
 exact⟨IC h.pl k rfl,by rw[bh h.lt]⟩
def CJ{n:Nat}(x:56<n)(t:Tr.Tree)(hs:kI t.nodes)(hl:t.nodes.length<=1000)(i:Int){k:Nat}(B:Bx X k t):
  rF (gV.fk n) 202 [.ptr k 0 0 0,I i] X=some (.iV [Nd (iq t i),.bool (find t.nodes i).isSome],X++[.var (Nc (iq t i))]):=by
 rw[U2 x,b6];have r:=B.app (Y:=[.var [.int .i64 0,.int .i64 0,.int .i64 0,.en false [],.en false [],.int .i64 0]]) rfl;have h:=JR (n:=56) af t hs hl i _ r.pl k r.at_
 have hk:=B.get;have y:=B.lt
 rcases Ic hs i with⟨q,b,z,o⟩ | b
 .rw[iy b];rw[b]at h⊢;have l:q=t.nodes[jf t.nodes i]:=by rw[aF z]at o;exact(bB o).symm
  generalize jf t.nodes i=c at *
  simp(disch:=omega)[AY,h,<-l,hk,agp]
 .have v:iq t i=jb:=by unfold iq;rw[b];rfl
  rw[v];rw[b]at h⊢;generalize jf t.nodes i=c at *
  simp(disch:=omega)[AY,h,jb]
structure Gw(X Y:AH)(k:Nat)(u:Tr.Tree):Prop where
 bx:Bx Y k u
 le:X.length<=Y.length
 old:∀j,j<X.length->j≠k->Y[j]? = X[j]?
def Gw.trans{X Y Z:AH}{k:Nat}{u v:Tr.Tree}(h:Gw X Y k u)(h':Gw Y Z k v):Gw X Z k v :=
 ⟨h'.bx,bQ h.le h'.le,λj i b=>(h'.old j (br i h.le) b).trans (h.old j i b)⟩
theorem Gw.of{X:AH}{k:Nat}{t:Tr.Tree}(B:Bx X k t)(u:Tr.Tree)(E:AH)(i:E.all gX=true):Gw X (X.set k (.var (Tb u))++E) k u :=
 ⟨(B.set u).app i,ah,λj h b=>by
  rw[aI (ak h),aL (Ne.symm b)]⟩
def tq{t:Tr.Tree}(hs:kI t.nodes)(n:Tr.Node):(iD t n).nodes.length<=t.nodes.length+1:=by
 rcases oD hs n.ino with⟨i,b,_⟩ | ⟨h,_⟩
 .rw[DW hs i b rfl];simp
 .rw[Bb hs h rfl];simp;omega
def Em{m:Nat}(r:81<m)(t:Tr.Tree)(hs:kI t.nodes)(hl:t.nodes.length<=1000)(n:Tr.Node){X:AH}{k:Nat}(B:Bx X k t):
  ∃Y,rF (gV.fk m) 190 [.ptr k 0 0 0,Nd n] X=some (.iV [],Y)/\Gw X Y k (iD t n):=by
 rw[ph 190 rfl r rfl,b6];have i:=JR (n:=81) af t hs hl n.ino _ B.pl k B.at_
 have hk:=B.get;have v:=B.lt;have b:=UZ (n:=81) af
 have l:=aik (n:=81) af
 rcases oD hs n.ino with⟨q,x,h⟩ | ⟨h,_⟩
 .rw[DW hs q x rfl];rw[h]at i;generalize jf t.nodes n.ino=c at *
  refine⟨X.set k (.var (Tb ⟨false,t.nodes.set c n,t.next,t.gr⟩))++[.lu 0 6 ((t.nodes.set c n).map Nd)],?_,Gw.of B _ _ rfl⟩;simp(disch:=omega)[Yr,i,q,hk,b,iL,lq,mB,yL,oF,agp];rw[bf ah]
  simp[Tb,List.map_set]
 .rw[Bb hs h rfl];rw[h]at i;have o:jf t.nodes n.ino<=t.nodes.length:=lB _ _;generalize jf t.nodes n.ino=c at *
  refine⟨X.set k (.var (Tb ⟨false,t.nodes.take c++n::t.nodes.drop c,t.next,t.gr⟩))++[.lu 1 6 ((t.nodes.take c++n::t.nodes.drop c).map Nd)],?_,Gw.of B _ _ rfl⟩;simp(disch:=omega)[Yr,i,hk,b,iL,l,kP,lq,mB,yL,oF,agp];rw[bf aj]
  simp[Tb]
open Go.Am Go.Tr Go.Am.Nm Go.Lib
def Rm{a b:aq}:compareBytes a b<0↔ij a b=true:=by
 rw[uO]
 by_cases h:a=b
 .subst h;rw[if_pos rfl,v8];simp
 .rw[if_neg h];cases ij a b<;>simp
def FR{a b:aq}:compareBytes a b=0↔a=b:=by
 rw[uO]
 by_cases h:a=b
 .simp[h]
 .rw[if_neg h];cases ij a b<;>simp[h]
variable{n:Nat}
def ahb(i:38<n)(a b:aq):(gV.fk n).p 300 [.str a,.str b]=some (I (compareBytes a b)):=by
 rw[pp 300 rfl i rfl,gd,b6];have h:(gV.fk 38).p 344 [.str a,.str b]=some (.int .i64 (compareBytes a b)):=by rw[ah8 af];rfl
 simp(disch:=omega)[afe,ca 344,h]
def Ux(b:39<n)(e:Tr.Ent)(s:aq):(gV.fk n).p 299 [En e,.str s]=some (I (compareBytes e.name s)):=by
 rw[pp 299 rfl b rfl,gd,b6];have h:=ahb (n:=39) af e.name s
 simp(disch:=omega)[aff,ca 300,h]
def aiZ(E:39<n)(l:List Tr.Ent)(hs:rA ij l)(hl:l.length<=1000)(f:Bool)(s:aq)(e0:Env)(h0:e0 0 = .en f (l.map En))(h1:e0 1 = .str s)(h2:e0 2 = .fn (.func 299) [] [])(X:AH)(A:X.all gX=true):
  iter (round (gV.fk n) [9,10] [(.exit 0,[9])] wT e0 X.length []) ([.int .i64 0,.int .i64 l.length],X)=some (.exit 0,[.int .i64 (kX ij l s:Nat)],X) :=
 vF (f:=round (gV.fk n) [9,10] [(.exit 0,[9])] wT e0 X.length []) (λi j=>([.int .i64 (i:Int),.int .i64 (j:Int)],X)) l.length (kX ij l s) (lB _ _) (λc=>(.exit 0,[.int .i64 (c:Int)],X))
  (λa j G H=>by
   have y:=Jf (i:=a) (j:=j);obtain⟨m,v⟩:∃m,m=(a+j) / 2:=⟨_,rfl⟩;rw[<-v]at y⊢;have F:m<l.length:=aa
   have o:=vK jI hs s F;obtain⟨x,hx⟩:∃x,x=l[m]:=⟨_,rfl⟩;rw[<-hx]at o;have z:=Ux (n:=n) E x s;have r:=Rm (a:=x.name) (b:=s);simp only[En]at z;generalize compareBytes x.name s=ci at *
   by_cases h:m<kX ij l s
   .have q:ci<0:=r.2 (o.1 h);simp(disch:=omega)[round_eq,wT,h0,h1,h2,wrap_u64,y,<-hx,ca 299,z,h,q,iY _ _ X _ A]
   .have q:¬ci<0:=λh'=>h (o.2 (r.1 h'))
    simp(disch:=omega)[round_eq,wT,h0,h1,h2,wrap_u64,y,<-hx,ca 299,z,h,q,iY _ _ X _ A])
  (λa K=>by simp(disch:=omega)[round_eq,wT]) _ 0 l.length rfl (bp _) (lB _ _) (aT _)
def ahc(y:65<n)(l:List Tr.Ent)(hs:rA ij l)(hl:l.length<=1000)(f:Bool)(s:aq)(X:AH)(v:X.all gX=true):
  rF (gV.fk n) 298 [.en f (l.map En),.str s,.fn (.func 299) [] []] X=some (.iV [I (kX ij l s:Nat),.bool (l.find? λe=>decide (e.name=s)).isSome],X):=by
 rw[ph 298 rfl y rfl,b6];have h1:=λe0 h0 h1 h2=>aiZ (n:=65) af l hs hl f s e0 h0 h1 h2 X v
 have o:=tP jI hs s;simp(disch:=omega)[afg,iY _ _ X _ v];rw[h1 _ an an an]
 generalize kX ij l s=c at *
 rcases o with⟨r,q,o⟩ | ⟨o,q⟩
 .rw[o];obtain⟨x,hx⟩:∃x,x=l[c]:=⟨_,rfl⟩;have hg:=Ux (n:=65) af x s
  have i:=(FR (a:=x.name) (b:=s)).2 (by rw[hx];exact q)
  rw[i]at hg;simp only[En]at hg;simp(disch:=omega)[<-hx,ca 299,hg]
 .rw[o]
  by_cases r:c<l.length
  .obtain⟨x,hx⟩:∃x,x=l[c]:=⟨_,rfl⟩;have hg:=Ux (n:=65) af x s
   have i:¬compareBytes x.name s=0:=λh=>q r (by rw[<-hx];exact FR.1 h)
   generalize compareBytes x.name s=ci at *
   simp only[En]at hg;simp(disch:=omega)[<-hx,ca 299,hg,i]
  .simp(disch:=omega)
def Md(b:66<n)(q:Tr.Node)(hs:rA ij q.ek)(hl:q.ek.length<=1000)(s:aq):
  (gV.fk n).p 207 [Nd q,.str s]=some (.iV [I (kX ij q.ek s:Nat),.bool (jd q s).isSome]):=by
 rw[pp 207 rfl b rfl,gd,b6];have h:=ahc (n:=66) af q.ek hs hl false s [] rfl
 unfold jd;simp(disch:=omega)[afu,h]
def UB(i:58<n)(s:aq):(gV.fk n).p 206 [.str s]=some (.bool (mT s)):=by
 rw[U1 i];have h:iN s=mT s:=by
  unfold iN mT
  have o:∀b,O9 b=okB b:=λb=>by
   unfold O9 okB
   by_cases h1:b.toNat<32<;>by_cases h2:b.toNat=47<;>simp[h1,h2]<;>omega
  have:s.all O9=s.all okB:=by congr 1;funext b;exact o b
  rw[this]
  congr 1
  cases s with
  |nil=>simp
  |cons x l =>
   have h1:1<=(x::l).length:=ah
   have h0:¬(x::l)=[]:=ah
   generalize x::l=y at *
   by_cases h2:32<y.length
   .have:¬y.length<=32:=by omega
    simp[h0,h2,this]
   .have:y.length<=32:=by omega
    simp[h0,h1,h2,this]
 rw[<-h];rfl
def Gw.same{X:AH}{k:Nat}{t:Tr.Tree}(B:Bx X k t){E:AH}(h:E.all gX=true):Gw X (X++E) k t :=
 ⟨B.app h,ah,λj b _=>aI b⟩
def PR{n:Nat}(o:57<n)(t:Tr.Tree)(hs:kI t.nodes)(hl:t.nodes.length<=1000)(i:Int){X:AH}{k:Nat}(B:Bx X k t):
  ∃Y,rF (gV.fk n) 205 [.ptr k 0 0 0,I i] X=some (.iV [Nd (uf t i),I (jK t i)],Y)/\Gw X Y k t:=by
 rw[ph 205 rfl o rfl,b6];have b:=CJ (n:=57) af t hs hl i (B.app (Y:=[.var [.int .i64 0,.int .i64 0,.int .i64 0,.en false [],.en false [],.int .i64 0]]) rfl)
 have r:=B.lt;unfold uf jK;unfold iq at b;refine⟨X++[.var (Nc (uf t i)),.var (Nc (iq t i)),.var (Nc (iq t i))],?_,Gw.same B rfl⟩;unfold uf iq;cases h:find t.nodes i with
 |none =>
  rw[h]at b;simp only[Option.getD_none,jb,Nd,Nc,aX]at b;simp(disch:=omega)[RD,b,jb]
 |some q =>
  rw[h]at b;simp only[cM,Nd,Nc]at b
  by_cases l:q.kind=2
  .simp(disch:=omega)[RD,b,l,jb]
  .simp(disch:=omega)[RD,b,l,jb]
def lY(t:Tr.Tree):Nat->Int->ax
 |0,_=>[]
 |d+1,i=>Is t i::lY t d (Is t i)
def oE(t:Tr.Tree):∀(d:Nat)(i:Int),(lY t d i).length=d
 |0,_=>rfl
 |d+1,i=>by simp[lY,oE t d]
def adg{n:Nat}(A:56<n)(t:Tr.Tree)(w:nB t){X:AH}{k:Nat}(B:Bx X k t)(e0:Env)(h0:e0 0 = .ptr k 0 0 0){d:Nat}{i:Int}(x:rK t i d):∀(l:ax),l.length+d<=t.nodes.length->
  iter (round (gV.fk n) [1,5] [(.exit 0,[5]),(.ret,[4])] DC e0 (X.length+1) [X.length]) ([I i,.own X.length 0 0 l.length],X++[.row 0 1 (l.map I)])=some (.exit 0,[.own X.length 0 0 (l++lY t d i).length],X++[.row 0 1 ((l++lY t d i).map I)]):=by
 have hl:=(vV w).len;have E:=B.lt;have hk:=B.get
 induction x with
 |root =>
  intro l G;rw[iter_eq];simp(disch:=omega)[round_eq,akQ,lY]
 | @up i q d r o h1 x y =>
  intro l G;have hit:=y (l++[q.up]) aj
  have v:=CJ (n:=n) A t w.wf.jh hl i (B.app (Y:=[.row 0 1 (l.map I)]) rfl);rw[iy r,r]at v;simp only[Nd,Nc]at v;have z:Is t i=q.up:=by unfold Is;rw[r];rfl
  have H:l++lY t (d+1) i=l++[q.up]++lY t d q.up:=by
   simp only[lY,z];simp
  rw[H];rw[iter_eq];have F:l.length<=t.nodes.length:=aa
  have h:=λY h0=>B.pl.tail (L:=X.length+1) (R:=[X.length]) aa ah h0 Y
  have b:=jq X;have K:(l++[q.up]).length=l.length+1:=ah
  rw[K]at hit;generalize l++[q.up]++lY t d q.up=M at *
  simp(disch:=omega)[round_eq,akQ,h0,h1,hk,v,o,h,b,agp]
  simpa using hit
def abd{n:Nat}(F:77<n)(t:Tr.Tree)(w:nB t){i:Int}(K:jK t i=0){X:AH}{k:Nat}(B:Bx X k t):
  ∃E,E.all gX=true/\rF (gV.fk n) 288 [.ptr k 0 0 0,I i] X=some (I (depth t i),X++E):=by
 rw[ph 288 rfl F rfl,b6];let⟨q,A,r⟩:=nh.1 K;let⟨d,b,z,_⟩:=w.dep _ _ A r;have H:=ri w b;rw[j9 b aa]
 have hl:=(vV w).len;have y:=acm (n:=77) af
 have h:=λe0 h0=>adg (n:=61) af t w B e0 h0 b [i] aj
 have M:([i]++lY t d i).length=d+1:=by simp[oE]
 generalize[i]++lY t d i=l at *
 refine⟨[.row 0 1 (l.map I)],rfl,?_⟩;have v:=λY h0=>B.pl.tail (L:=X.length+1) (R:=[X.length]) aa ah h0 Y
 have o:=jq X;have G:=B.lt;have x:¬k=X.length:=aa
 rw[M]at h;simp(disch:=omega)[afk,y,b6,c208,v,o];have h':=λe0 h0=>h e0 h0
 simp only[aK,aR,bF,aX]at h';rw[h' _ (by simp(disch:=omega)[x])]
 simp(disch:=omega)
def Js{t:Tr.Tree}{i:Int}(h:jK t i=0):∃q,find t.nodes i=some q/\q.kind=2/\uf t i=q:=by
 let⟨q,b,hk⟩:=nh.1 h;exact⟨q,b,hk,by unfold uf;rw[b];simp[hk]⟩
def abk{n:Nat}(T:78<n)(t:Tr.Tree)(w:nB t)(i:Int)(s:aq){X:AH}{k:Nat}(B:Bx X k t):
  ∃Y,rF (gV.fk n) 189 [.ptr k 0 0 0,I i,.str s] X=some (I (enter mT t i s),Y)/\Gw X Y k t:=by
 rw[ph 189 rfl T rfl,b6];have hl:=(vV w).len;let⟨Y,b,G⟩:=PR (n:=78) af t w.wf.jh hl i B
 have h:=UB (n:=78) af s
 unfold enter
 by_cases c0:jK t i=0
 .obtain⟨q, O, hk, A⟩ := Js c0;rw[c0, A]at b;rw[A];have L := iI O;have y := (w.wf.dir _ _ O hk).2;have K : q.ek.length <= 1000 := by have := y.len; omega
  have l:=Md (n:=78) af q y.jh K s
  have B2:Bx (Y++[.var (Nc q)]) k t:=G.bx.app rfl;let⟨E,W,o⟩:=abd (n:=78) af t w c0 B2
  have N:=B2.get;have M:=G.bx.lt;have H:Gw X (Y++[.var (Nc q)]) k t:=G.trans (Gw.same G.bx rfl);have S:Gw X (Y++[.var (Nc q)]++E) k t:=H.trans (Gw.same B2 W);unfold full;rw[L];simp only[Nd,Nc]at b l o N H S;have P:kX ij q.ek s<=q.ek.length:=lB _ _;generalize kX ij q.ek s=c at *
  generalize(jd q s).isSome=v at *
  cases Q:mT s with
  |false =>
   rw[Q]at h;refine⟨_,?_,H⟩;simp(disch:=omega)[FZ,b,ca 206,h]
  |true =>
   rw[Q]at h;cases v with
   |true =>
    refine⟨_,?_,H⟩;simp(disch:=omega)[FZ,b,ca 206,h,ca 207,l]
   |false =>
    by_cases r:64<=q.ek.length
    .refine⟨_,?_,H⟩;simp(disch:=omega)[FZ,b,ca 206,h,ca 207,l,r]
    .refine⟨_,?_,S⟩
     by_cases x:12<=depth t i
     .simp(disch:=omega)[FZ,b,ca 206,h,ca 207,l,r,o,x]
     .have U:k<Y.length:=G.bx.lt;have z:=G.bx.get
      by_cases F:1099511627776<=t.gr
      .simp(disch:=omega)[FZ,b,ca 206,h,ca 207,l,r,o,x,F,z,agp]
      .simp(disch:=omega)[FZ,b,ca 206,h,ca 207,l,r,o,x,F,z,agp]
 .refine⟨Y++[.var (Nc (uf t i))],?_,G.trans (Gw.same G.bx rfl)⟩;have M:=G.bx.lt;simp only[Nd,Nc]at b⊢;generalize jK t i=e at *
  simp(disch:=omega)[FZ,b,c0]
def JS{n:Nat}(Q:84<n)(t:Tr.Tree)(w:kI t.nodes)(hl:t.nodes.length<=1000){i:Int}{q:Tr.Node}(K:find t.nodes i=some q)(hs:rA ij q.ek)(H:q.ek.length<=1000){s:aq}(O:jd q s=none)
  (W:0<=t.gr) (U:t.gr<=4398046511104) (of:Int) {X:AH} {k:Nat} (B:Bx X k t) :
  ∃Y,rF (gV.fk n) 191 [.ptr k 0 0 0,I i,.str s,I of] X=some (.iV [],Y)/\Gw X Y k (iT ij t i s of):=by
 rw[ph 191 rfl Q rfl,b6];have E:=CJ (n:=84) af t w hl i B
 rw[iy K,K]at E;have h:=Md (n:=84) af q hs H s
 have M:=U0 (n:=84) af
 have N:=aij (n:=84) af
 have S:=B.lt;have hk:=B.get;unfold iT;rw[iy K];have l:=Nn jI hs (e:=⟨s,of,t.gr⟩) O;rw[O]at h;have P:kX ij q.ek s<=q.ek.length:=lB _ _;simp only at l;rw[l];generalize kX ij q.ek s=c at *
 obtain⟨r,b⟩:∃r:Tr.Tree,r=⟨t.fn,t.nodes,t.next,t.gr+1⟩:=⟨_,rfl⟩;obtain⟨v,y⟩:∃v:Tr.Node,v={q with fe:=false,ek:=q.ek.take c++(⟨s,of,t.gr⟩:Tr.Ent)::q.ek.drop c}:=⟨_,rfl⟩
 rw[<-b,<-y];have L:Bx (X.set k (.var (Tb r))++[.var (Nc q),.var (Nc v),.lu 1 3 (v.ek.map En)]) k r:=(B.set r).app rfl;let⟨Y,o,G⟩:=Em (n:=v) (m:=84) af r (by rw[b];exact w) (by rw[b];exact hl) L
 refine⟨Y,?_,G.bx,bQ ah G.le,λj T z=>?_⟩
 .subst b y;simp only[Nd,Nc,Tb,dS,bF]at E h o;simp only[fL,eu]at E h;have F:=jq X;have x:∀A:AV,List.take (q.ek.length+1) (List.take c (List.map En q.ek)++A::List.drop c (List.map En q.ek))=List.take c (List.map En q.ek)++A::List.drop c (List.map En q.ek):=λA=>bf aj
  simp only[List.map_take,List.map_drop,En]at o x;simp(disch:=omega)[afx,F,x,E,ca 207,h,M,N,iL,kP,hk,mB,agp,o]
 .rw[G.old j aj z,aI (ak T),aL (Ne.symm z)]
def jC{Y:AH}{j:Nat}{A:AB}(h:Y[j]? = some A)(b:j<Y.length):Y[j]=A:=by
 rw[aF b]at h;exact bB h
def ahL{n:Nat}(hn:85<n)(t:Tr.Tree)(w:nB t)(i:Int)(s:aq)(kind:Int):
  (gV.fk n).p 116 [Tv t,I i,.str s,I kind]=some (.iV [Tv (Tr.add mT ij t i s kind).1,I (Tr.add mT ij t i s kind).2.1,I (Tr.add mT ij t i s kind).2.2]):=by
 rw[pp 116 rfl hn rfl,gd,b6];have hl:=(vV w).len;unfold add
 by_cases hk:kind≠1/\kind≠2
 .rw[if_pos hk];let⟨k1,k2⟩:=hk;simp(disch:=omega)[c116,k1,k2]
 .rw[if_neg hk];have B:Bx [.var [.en false [],.int .i64 0,.int .i64 0],.var (Tb t)] 1 t:=⟨rfl,rfl⟩;let⟨Y,l,G⟩:=abk (n:=85) af t w i s B
  have b:=G.old 0 ah ah
  have A:=G.bx.get;have L:=G.le;simp only[Tb,aS,aK,aR]at l b L;have b:=jC b
  by_cases M:enter mT t i s=0
  .rw[if_neg (show ¬(enter mT t i s≠0)from λh=>h M)]
   rw[M]at l
   by_cases c1:200<=t.nodes.length
   .rw[if_pos (show 200<=t.nodes.length\/1099511627776<=t.next from .inl c1)]
    rcases(by omega:kind=1\/kind=2)with rfl | rfl
    .simp(disch:=omega)[c116,l,b,A]
    .simp(disch:=omega)[c116,l,b,A]
   .by_cases c2 : 1099511627776 <= t.next
    .rw[if_pos (show 200<=t.nodes.length\/1099511627776<=t.next from .inr c2)]
     rcases(by omega:kind=1\/kind=2)with rfl | rfl
     .simp(disch:=omega)[c116,l,b,A,c2]
     .simp(disch:=omega)[c116,l,b,A,c2]
    .rw[if_neg (show ¬(200<=t.nodes.length\/1099511627776<=t.next) by omega)]
     let⟨p,U,p2,po3,T,po5,po6,po7⟩:=oV M;obtain⟨o,q⟩:∃o:Tr.Tree,o=⟨t.fn,t.nodes,t.next+1,t.gr⟩:=⟨_,rfl⟩;obtain⟨y,z⟩:∃y:Tr.Node,y=⟨t.next,kind,1,true,[],true,[],if kind=2 then i else 0⟩:=⟨_,rfl⟩
     rw[<-q,<-z];have F:kI o.nodes:=by rw[q];exact w.wf.jh
     have hl1:o.nodes.length<=1000:=by rw[q];exact hl
     have B1:Bx (Y.set 1 (.var (Tb o))++[.var (Nc y)]) 1 o:=(G.bx.set o).app rfl;let⟨Y2,K,N⟩:=Em (m:=85) af o F hl1 y B1
     have W:kI (iD o y).nodes:=mZ F
     have hl2:(iD o y).nodes.length<=1000:=by
      have h1:=tq F y;have h2:o.nodes.length<200:=by rw[q];simp only;omega
      omega
     have hpos:=w.wf.pos _ _ U
     have X:find (iD o y).nodes i=some p:=by
      rw[jM F,z,q];simp only;rw[if_neg aa]
      exact U
     have QI:=(w.wf.dir _ _ U p2).2;have Z:jd p s=none:=cv.2 λe hem=>by simpa using T e hem
     have S2:(iD o y).gr=t.gr:=by unfold iD;rw[q]
     have ajF:=w.wf.KS;have akD:=w.wf.XK;let⟨Y3,H,S⟩:=JS (n:=85) af (iD o y) W hl2 X QI.jh aa Z aa aa t.next N.bx
     have E:=N.old 0 ah ah
     have v:=N.old Y.length ah aa
     have x:=S.old 0 (by have:=N.le;simp at this;omega) ah
     have r:=S.old Y.length (by have:=N.le;simp at this;omega) aa
     have O:=N.le;have akA:=S.le;rw[E]at x;rw[v]at r;have e0:(Y.set 1 (.var (Tb o))++[.var (Nc y)])[0]? = Y[0]? := wD aa ah
     have e2:(Y.set 1 (.var (Tb o))++[.var (Nc y)])[Y.length]? = some (.var (Nc y)):=by rw[mB aa];simp
     rw[e0]at E x;rw[e2]at v r;have P:Y[0]? = some (.var [.en false [],.int .i64 0,.int .i64 0]):=by rw[aF aa,b]
     rw[P]at E x;simp only[aG,dM,aK,aR]at O;have E:=jC E;have v:=jC v;have x:=jC x;have r:=jC r;have Q:=S.bx.get;have n1:¬Y=[]:=λh=>by rw[h]at L;simp at L
     have n2:¬0=Y.length:=aa
     have n3:¬Y.length=0:=aa
     have n4:¬ []=Y:=λh=>n1 h.symm
     generalize iT ij (iD o y) i s t.next=t3 at *
     rcases(by omega:kind=1\/kind=2)with rfl | rfl
     .subst q;rw[if_neg af]at z
      subst z;simp only[Nd,Nc,Tb,aX]at K H v r;simp(disch:=omega)[c116,l,A,c2,mB,agp,K,v,H,x,Q,r,n2]
     .subst q;rw[if_pos rfl]at z;subst z;simp only[Nd,Nc,Tb,aX]at K H v r;simp(disch:=omega)[c116,l,A,c2,mB,agp,K,v,H,x,Q,r,n2]
  .rw[if_pos M];generalize enter mT t i s=e at *
   rcases(by omega:kind=1\/kind=2)with rfl | rfl
   .simp(disch:=omega)[c116,l,M,b]
   .simp(disch:=omega)[c116,l,M,b]
def abw{n:Nat}(F:116<n)(t:Tr.Tree)(hs:kI t.nodes)(hl:t.nodes.length<=1000)(i:Int):(gV.fk n).p 195 [Tv t,I i]=some (.iV [Tv (free t i).1,I (free t i).2]):=by
 rw[pp 195 rfl F rfl,gd,b6];have h:=JR (n:=56) af t hs hl i [.var [.en false [],.int .i64 0,.int .i64 0],.var [.en false (t.nodes.map Nd),.int .i64 t.next,.int .i64 t.gr],.var [.int .i64 0,.int .i64 0,.int .i64 0,.en false [],.en false [],.int .i64 0]] rfl 1 rfl
 have r:=U2 (n:=116) af
 have G:=acj (n:=116) af
 unfold free
 rcases Ic hs i with⟨q,l,E,A⟩ | l
 .rw[l]at h⊢;have b:q=t.nodes[jf t.nodes i]:=by rw[aF E]at A;exact(bB A).symm
  by_cases z:q.kind=2
  .generalize jf t.nodes i=c at *
   simp(disch:=omega)[Ou,r,b6,AY,h,<-b,z]
  .by_cases c2 : 0 < q.links
   .generalize jf t.nodes i=c at *
    simp(disch:=omega)[Ou,r,b6,AY,h,<-b,z,c2]
   .have o:=JR (n:=115) af t hs hl i [.var [.en false [],.int .i64 0,.int .i64 0],.var [.en false (t.nodes.map Nd),.int .i64 t.next,.int .i64 t.gr],.var [.int .i64 q.ino,.int .i64 q.kind,.int .i64 q.links,.en false (q.data.map B),.en false (q.ek.map En),.int .i64 q.up],.var [.int .i64 q.ino,.int .i64 q.kind,.int .i64 q.links,.en false (q.data.map B),.en false (q.ek.map En),.int .i64 q.up]] rfl 1 rfl
    rw[l]at o;have v:=xL hs E (by rw[<-b];exact(gZ l).2)
    have y:=UZ (n:=115) af
    have x:=ach (n:=115) af
    unfold kN;rw[v];generalize jf t.nodes i=c at *
    simp(disch:=omega)[Ou,r,G,b6,AY,Ry,h,o,<-b,z,c2,y,x,jW,iL];rw[bf aj]
 .rw[l]at h⊢;generalize jf t.nodes i=c at *
  simp(disch:=omega)[Ou,r,b6,AY,h]
variable{n:Nat}
@[simp]def Hv(x:Ho):AV:=.agg [.int .i64 x.c,.int .i64 x.h,.int .i64 x.ino]
@[simp]def akq(l:List Ho):iU 3 (l.map Hv)=true:=by simp[iU]
def abg(b:29<n)(x:Ho):(gV.fk n).p 307 [Hv x]=some (.agg [I x.c,I x.h]):=by
 rw[pp 307 rfl b rfl,gd,b6];simp(disch:=omega)[afb]
def ahr(q:89<n)(c h:Int):(gV.fk n).p 218 [.agg [I c,I h]]=some (.bool (Vs c h)):=by
 rw[pp 218 rfl q rfl,gd,b6];unfold Vs
 by_cases o:0<=c
 .by_cases c2 : c < 16
  .by_cases i : 0 <= h
   .by_cases l : h < 100
    .have b:h<=99:=by omega
     simp(disch:=omega)[c218,o,c2,i,l,b]
    .have b:¬h<=99:=by omega
     simp(disch:=omega)[c218,o,c2,i,l,b]
   .simp(disch:=omega)[c218,o,c2,i]
  .simp(disch:=omega)[c218,o,c2]
 .simp(disch:=omega)[c218,o]
def aiX{Γ:ja}(a b:Int)(f:Bool)(e0:Env)(h3:e0 3 = .int .i64 0)(i:e0 6 = .en f [I a,I b])(h:e0 7 = .int .i64 2):
  iter (round Γ [8] [(.exit 0,[]),(.ret,[2])] s8 e0 0 []) ([.int .i64 0],[])=some (if a=0 then(if b=0 then(.exit 0,[],[])else(.ret,[I b],[]))else(.ret,[I a],[])):=by
 rw[iter_eq]
 by_cases l:a=0
 .by_cases c2:b=0
  .subst l;subst c2;simp(disch:=omega)[round_eq,s8,h3,i,h];rw[iter_eq];simp(disch:=omega)[round_eq,s8,h3,i,h];rw[iter_eq];simp(disch:=omega)[round_eq,s8,h]
  .subst l;simp(disch:=omega)[round_eq,s8,h3,i,h,c2];rw[iter_eq];simp(disch:=omega)[round_eq,s8,h3,i,h,c2]
 .simp(disch:=omega)[round_eq,s8,h3,i,h,l]
def ag9(l:30<n)(a b:Int)(f:Bool):(gV.fk n).p 308 [.en f [I a,I b]]=some (I (if a≠0 then a else b)):=by
 rw[pp 308 rfl l rfl,gd,b6];have h:=aiX (Γ:=gV.fk 30) a b f;simp(disch:=omega)[afa];rw[h _ an an an]
 by_cases i:a=0
 .by_cases c2:b=0
  .simp(disch:=omega)[i,c2]
  .simp(disch:=omega)[i,c2]
 .simp(disch:=omega)[i]
def Dy(c h:Int)(x:Ho):Int:=if ow x.c c≠0 then ow x.c c else ow x.h h
def Ro(c h:Int)(x:Ho):Dy c h x<0↔jc c h x=true:=by
 unfold Dy jc;rw[decide_eq_true_eq]
 by_cases h1:x.c=c
 .rw[if_neg (by simpa using(nQ x.c c).2 h1),vL]
  omega
 .rw[if_pos (λh=>h1 ((nQ x.c c).1 h)),vL]
  omega
def Jy(c h:Int)(x:Ho):Dy c h x=0↔pW c h x=true:=by
 unfold Dy pW;rw[decide_eq_true_eq]
 by_cases h1:x.c=c
 .rw[if_neg (by simpa using(nQ x.c c).2 h1),nQ]
  omega
 .rw[if_pos (λh=>h1 ((nQ x.c c).1 h)),nQ]
  omega
def Uz(i:31<n)(c h:Int)(x:Ho)(a b:Int):(gV.fk n).p 220 [.agg [I c,I h],Hv x,.agg [I a,I b]]=some (I (Dy c h x)):=by
 rw[pp 220 rfl i rfl,gd,b6];have h1:=Mc (n:=31) af x.c c
 have h2:=Mc (n:=31) af x.h h
 have h3:=λf=>ag9 (n:=31) af (ow x.c c) (ow x.h h) f
 have h4:=abg (n:=31) af x
 unfold Dy;generalize ow x.c c=u at *
 generalize ow x.h h=v at *
 simp only[Hv]at h4;simp(disch:=omega)[afq,ca 307,h4,h1,h2,h3]
def ahp(i:32<n)(c h:Int)(x:Ho):(gV.fk n).p 225 [.agg [I c,I h],Hv x]=some (.bool (pW c h x)):=by
 rw[pp 225 rfl i rfl,gd,b6];have h4:=abg (n:=32) af x
 simp only[Hv]at h4;unfold pW;obtain⟨x1,x2,x3⟩:=x;simp only at h4
 by_cases b:x1=c
 .subst b
  by_cases c2:x2=h
  .subst c2;simp(disch:=omega)[RA,h4,iO]
  .simp(disch:=omega)[RA,h4,iO,c2]
 .simp(disch:=omega)[RA,h4,iO,b]
def ai4(A:31<n)(l:List Ho)(hs:pU l)(hl:l.length<=1000)(f:Bool)(c h:Int)(e0:Env)(h0:e0 0 = .en f (l.map Hv))(h4:e0 4 = .iw [I c,I h])(h2:e0 2 = .fn (.func 220) [.agg [I c,I h]] [])(X:AH)(z:X.all gX=true):
  iter (round (gV.fk n) [9,10] [(.exit 0,[9])] wY e0 X.length []) ([.int .i64 0,.int .i64 l.length],X)=some (.exit 0,[.int .i64 (jZ (jc c h) l:Nat)],X) :=
 vF (f:=round (gV.fk n) [9,10] [(.exit 0,[9])] wY e0 X.length []) (λi j=>([.int .i64 (i:Int),.int .i64 (j:Int)],X)) l.length (jZ (jc c h) l) (lB _ _) (λc=>(.exit 0,[.int .i64 (c:Int)],X))
  (λa j F G=>by
   have v:=Jf (i:=a) (j:=j);obtain⟨m,r⟩:∃m,m=(a+j) / 2:=⟨_,rfl⟩;rw[<-r]at v⊢;have E:m<l.length:=aa
   have b:=sY hs c h E;obtain⟨x,hx⟩:∃x,x=l[m]:=⟨_,rfl⟩;rw[<-hx]at b;have y:=Uz (n:=n) A c h x c h;have q:=Ro c h x;simp only[Hv]at y;generalize Dy c h x=ci at *
   by_cases h:m<jZ (jc c h) l
   .have o:ci<0:=q.2 (b.1 h);simp(disch:=omega)[round_eq,wY,h0,h4,h2,wrap_u64,v,<-hx,ca 220,y,h,o,iY _ _ X _ z]
   .have o:¬ci<0:=λh'=>h (b.2 (q.1 h'))
    simp(disch:=omega)[round_eq,wY,h0,h4,h2,wrap_u64,v,<-hx,ca 220,y,h,o,iY _ _ X _ z])
  (λa H=>by simp(disch:=omega)[round_eq,wY]) _ 0 l.length rfl (bp _) (lB _ _) (aT _)
def ahq(r:90<n)(l:List Ho)(hs:pU l)(hl:l.length<=1000)(f:Bool)(c h:Int)(X:AH)(q:X.all gX=true):
  rF (gV.fk n) 219 [.en f (l.map Hv),.agg [I c,I h],.fn (.func 220) [.agg [I c,I h]] []] X=some (.iV [I (jZ (jc c h) l:Nat),.bool (l.any (pW c h))],X):=by
 rw[ph 219 rfl r rfl,b6];have h1:=λe0 h0 h1 h2=>ai4 (n:=90) af l hs hl f c h e0 h0 h1 h2 X q
 have i:=KN hs c h;simp(disch:=omega)[afr,iY _ _ X _ q];rw[h1 _ an an an]
 generalize jZ (jc c h) l=k at *
 rcases i with⟨hk,o,i⟩ | ⟨i,o⟩
 .rw[i];obtain⟨x,hx⟩:∃x,x=l[k]:=⟨_,rfl⟩;have hg:=Uz (n:=90) af c h x c h
  have b:=(Jy c h x).2 (by rw[hx];exact o)
  rw[b]at hg;simp only[Hv]at hg;simp(disch:=omega)[<-hx,ca 220,hg]
 .rw[i]
  by_cases hk:k<l.length
  .obtain⟨x,hx⟩:∃x,x=l[k]:=⟨_,rfl⟩;have hg:=Uz (n:=90) af c h x c h
   have b:¬Dy c h x=0:=λh'=>by
    have h1:=(Jy c h x).1 h';have h2:=o hk;rw[hx]at h1;rw[h1]at h2;cases h2
   generalize Dy c h x=ci at *
   simp only[Hv]at hg;simp(disch:=omega)[<-hx,ca 220,hg,b]
  .simp(disch:=omega)
def Pb(l:List Ho)(q:Ho->Bool):Int:=(l.find? q).elim (-1) λ_=>((l.findIdx q:Nat):Int)
def ai3{Γ:ja}(l:List Ho)(hl:l.length<=1000)(f:Bool)(g:FuncId)(first cap:List AV)(q:Ho->Bool)(X:AH)(r:X.all gX=true)(hg:∀x∈l,rF Γ g (first++Hv x::cap) X=some (.bool (q x),X))(e0:Env)(h0:e0 0 = .en f (l.map Hv))(n:e0 7 = .int .i64 l.length)(h1:e0 1 = .fn (.func g) first cap):
  iter (round Γ [8] [(.exit 0,[]),(.ret,[4])] wX e0 X.length []) ([.int .i64 0],X)=some ((l.find? q).elim (.exit 0,[],X) λ_=>(.ret,[.int .i64 (l.findIdx q:Nat)],X)) :=
 Dl (f:=round Γ [8] [(.exit 0,[]),(.ret,[4])] wX e0 X.length []) (λi=>([.int .i64 (i:Int)],X)) l q (λk _=>(.ret,[.int .i64 (k:Int)],X)) (.exit 0,[],X)
  (λk hk=>by
   have h:=hg _ (aU hk);obtain⟨y,b⟩:∃y,y=l[k]:=⟨_,rfl⟩;rw[<-b]at h⊢;simp only[Hv]at h;cases o:q y with
   |true =>
    rw[o]at h;simp(disch:=omega)[round_eq,wX,h0,n,h1,<-b,h]
   |false =>
    rw[o]at h;simp(disch:=omega)[round_eq,wX,h0,n,h1,<-b,h,iY _ _ X _ r])
  (by simp(disch:=omega)[round_eq,wX,n])
variable{n:Nat}
def abp(i:112<n)(l:List Ho)(hl:l.length<=1000)(f:Bool)(g:FuncId)(first cap:List AV)(q:Ho->Bool)(X:AH)(b:X.all gX=true)(hg:∀x∈l,rF (gV.fk 112) g (first++Hv x::cap) X=some (.bool (q x),X)):
  rF (gV.fk n) 224 [.en f (l.map Hv),.fn (.func g) first cap] X=some (I (Pb l q),X):=by
 rw[ph 224 rfl i rfl,b6];have h:=ai3 (Γ:=gV.fk 112) l hl f g first cap q X b hg;unfold Pb;simp(disch:=omega)[afp,iY _ _ X _ b];rw[h _ an an an]
 cases l.find? q with
 |none=>simp(disch:=omega)
 |some y=>simp(disch:=omega)
def abx(r:113<n)(l:List Ho)(hl:l.length<=1000)(f:Bool)(g:FuncId)(first cap:List AV)(q:Ho->Bool)(X:AH)(v:X.all gX=true)(hg:∀x∈l,rF (gV.fk 112) g (first++Hv x::cap) X=some (.bool (q x),X)):
  rF (gV.fk n) 193 [.en f (l.map Hv),.fn (.func g) first cap] X=some (.bool (l.any q),X):=by
 rw[ph 193 rfl r rfl,b6];have h:=abp (n:=113) af l hl f g first cap q X v hg
 unfold Pb at h;cases b:l.find? q with
 |none =>
  rw[b]at h;have i:l.any q=false:=by
   rw[<-fm,ct]
   rintro⟨x,hx,o⟩
   exact(cv.1 b x hx) o
  simp(disch:=omega)[c193,h,i]
 |some y =>
  rw[b]at h;have i:l.any q=true:=ct.2 ⟨y,bN b,cW b⟩;simp(disch:=omega)[c193,h,i]
def ag8(b:40<n)(x:Ho)(i:Int)(X:AH)(k:Nat)(hk:X[k]? = some (.var [I i])):rF (gV.fk n) 311 [Hv x,.ptr k 0 0 0] X=some (.bool (decide (x.ino=i)),X):=by
 rw[ph 311 rfl b rfl,b6];simp(disch:=omega)[ae9,hk]
def aho(b:118<n)(l:List Ho)(hl:l.length<=1000)(f:Bool)(i:Int):(gV.fk n).p 227 [.en f (l.map Hv),I i]=some (.bool (sP l i)):=by
 rw[pp 227 rfl b rfl,gd,b6];have h:=abx (n:=118) af l hl f 311 [] [.ptr 0 0 0 0] (λx=>decide (x.ino=i)) [.var [I i]] rfl (λx _=>ag8 (n:=112) af x i _ 0 rfl)
 unfold sP;simp(disch:=omega)[c227,h]
def Uy(h:91<n)(q:Tr.Node):(gV.fk n).p 221 [Nd q]=some (.bool (nH q)):=by
 rw[pp 221 rfl h rfl,gd,b6];unfold nH
 by_cases b:q.kind=1
 .by_cases c2:q.links=0
  .simp(disch:=omega)[RB,b,c2]
  .simp(disch:=omega)[RB,b,c2]
 .simp(disch:=omega)[RB,b]
def abe(b:112<n)(l:List Ho)(hl:l.length<=1000)(f:Bool)(c h:Int)(X:AH)(i:X.all gX=true):
  rF (gV.fk n) 224 [.en f (l.map Hv),.fn (.func 225) [.agg [I c,I h]] []] X=some (I (Pb l (pW c h)),X) :=
 abp b l hl f 225 [.agg [I c,I h]] [] (pW c h) X i (λx _=>by
  have h4:=ahp (n:=112) af c h x
  simp only[Hv]at h4;simp(disch:=omega)[ca 225,h4])
def Fg{l:List Ho}{q:Ho->Bool}{y:Ho}(b:l.find? q=some y):∃k:Nat,Pb l q=k/\l.findIdx q=k/\k<l.length/\l[k]? = some y:=by
 have h:l.findIdx q<l.length:=dX ⟨y,bN b,cW b⟩;refine⟨l.findIdx q,by unfold Pb;rw[b];rfl,rfl,h,?_⟩
 rw[nL];exact b
def ahn(r:121<n)(l:List Ho)(hl:l.length<=1000)(f:Bool)(c h:Int):(gV.fk n).p 232 [.en f (l.map Hv),I c,I h]=some (.iV [I (Ks l c h).1,I (Ks l c h).2]):=by
 rw[pp 232 rfl r rfl,gd,b6];have b:=abe (n:=121) af l hl f c h [] rfl
 unfold Ks;cases q:l.find? (pW c h)with
 |none =>
  have e:Pb l (pW c h) = -1:=by unfold Pb;rw[q];rfl
  rw[e]at b;simp(disch:=omega)[c232,b]
 |some y =>
  let⟨k,e,_,hk,o⟩:=Fg q;have i:y=l[k]:=by rw[aF hk]at o;exact(bB o).symm
  rw[e]at b;simp(disch:=omega)[c232,b,<-i]
def ahG(K:94<n)(t:Tr.Tree)(H:kI t.nodes)(A:t.nodes.length<=1000)(l:List Ho)(hs:pU l)(hl:l.length<=1000)(f:Bool)(c h i:Int):
  (gV.fk n).p 125 [Tv t,.en f (l.map Hv),I c,I h,I i]=some (.iV [.en (f && !decide ((rY t l c h i).2=0)) ((rY t l c h i).1.map Hv),I (rY t l c h i).2]):=by
 rw[pp 125 rfl K rfl,gd,b6];have v:=ahr (n:=94) af c h
 have r:=AD (n:=94) af t H A i
 have E:=ack (n:=94) af
 have F:=ais (n:=94) af
 have L:=lB (jc c h) l;unfold rY;cases hk:Vs c h with
 |false =>
  rw[hk]at v;simp(disch:=omega)[Gf,ca 218,v]
 |true =>
  rw[hk]at v;unfold ud at r;have y:=λX M=>ahq (n:=94) af l hs hl f c h X M
  generalize l.any (pW c h)=u at *
  cases G:find t.nodes i with
  |none =>
   have b:=y [.var [I c,I h],.var [.int .i64 0,.int .i64 0,.int .i64 0,.en false [],.en false [],.int .i64 0]] rfl;rw[G]at r;simp only[dI,Tv,Nd,jb,aX]at r;generalize jZ (jc c h) l=k at *
   simp(disch:=omega)[Gf,ca 218,v,ca 199,r,b]
  |some q =>
   have b:=y [.var [I c,I h],.var [.int .i64 q.ino,.int .i64 q.kind,.int .i64 q.links,.en false (q.data.map B),.en false (q.ek.map En),.int .i64 q.up]] rfl;have x:=Uy (n:=94) af q
   rw[G]at r;simp only[cG,Tv,Nd]at r x
   show _=some (AV.iV [.en (f && !decide ((if nH q=true then(l,(70:Int))else if q.kind=2 then(l,72)else if u=true then(l,71)else if 64<=l.length then(l,76)else(zG l ⟨c,h,i⟩,0)).2=0)) ((if nH q=true then(l,(70:Int))else if q.kind=2 then(l,72)else if u=true then(l,71)else if 64<=l.length then(l,76)else(zG l ⟨c,h,i⟩,0)).1.map Hv),I (if nH q=true then(l,(70:Int))else if q.kind=2 then(l,72)else if u=true then(l,71)else if 64<=l.length then(l,76)else(zG l ⟨c,h,i⟩,0)).2])
   generalize nH q=o at *
   cases o with
   |true =>
    generalize jZ (jc c h) l=k at *
    simp(disch:=omega)[Gf,ca 218,v,ca 199,r,b,ca 221,x]
   |false =>
    by_cases z:q.kind=2
    .rw[z]at r b x;generalize jZ (jc c h) l=k at *
     simp(disch:=omega)[Gf,ca 218,v,ca 199,r,b,ca 221,x,z]
    .cases u with
     |true =>
      generalize jZ (jc c h) l=k at *
      simp(disch:=omega)[Gf,ca 218,v,ca 199,r,b,ca 221,x,z]
     |false =>
      by_cases c2:64<=l.length
      .generalize jZ (jc c h) l=k at *
       simp(disch:=omega)[Gf,ca 218,v,ca 199,r,b,ca 221,x,z,c2]
      .unfold zG;simp only;generalize jZ (jc c h) l=k at *
       simp(disch:=omega)[Gf,ca 218,v,ca 199,r,b,ca 221,x,z,c2,E,F,iL,kP];rw[bf aj]
def Ms(l:List Ho)(c h:Int)(k:Nat)(hk:l.findIdx (pW c h)=k):(rS l c h).map Hv=(l.map Hv).take k++(l.map Hv).drop (k+1):=by
 unfold rS;rw[hk];simp
def LJ(l:List Ho){k:Nat}(hk:k<l.length):((l.map Hv).take k++(l.map Hv).drop (k+1)).take (k+(l.length-(k+1)))=(l.map Hv).take k++(l.map Hv).drop (k+1):=by
 grind
def abA{n:Nat}(Q:119<n)(t:Tr.Tree)(N:kI t.nodes)(H:t.nodes.length<=1000)(l:List Ho)(hl:l.length<=1000)(f:Bool)(c h:Int):
  (gV.fk n).p 126 [Tv t,.en f (l.map Hv),I c,I h]=some (.iV [Tv (ajg t l c h).1,.en (f && !decide ((ajg t l c h).2.2=0)) ((ajg t l c h).2.1.map Hv),I (ajg t l c h).2.2]):=by
 rw[pp 126 rfl Q rfl,gd,b6];have F:=abe (n:=119) af l hl f c h [.var [.en false (t.nodes.map Nd),.int .i64 t.next,.int .i64 t.gr],.var [.en false [],.int .i64 0,.int .i64 0]] rfl
 have E:=ack (n:=119) af
 have A:=air (n:=119) af
 unfold ajg;cases P:l.find? (pW c h)with
 |none =>
  have e:Pb l (pW c h) = -1:=by unfold Pb;rw[P];rfl
  rw[e]at F;simp(disch:=omega)[KY,F]
 |some y =>
  let⟨k,e,T,hk,M⟩:=Fg P;have v:y=l[k]:=by rw[aF hk]at M;exact(bB M).symm
  have z:=Ms l c h k T;have x:=LJ l hk
  have K:(rS l c h).length<=1000:=by
   have:=congrArg List.length z;simp at this;omega
  rw[e]at F;have i:=AD (n:=119) af t N H y.ino
  have G:=aho (n:=119) af (rS l c h) K false y.ino
  have L:=abw (n:=119) af t N H y.ino
  rw[z]at G;show _=some (AV.iV [Tv (if Qx t y.ino=true/\sP (rS l c h) y.ino=false then(free t y.ino).1 else t),.en (f && !decide ((0:Int)=0)) ((rS l c h).map Hv),I 0])
  rw[z];generalize sP (rS l c h) y.ino=S at *
  clear z K;have b:Qx t y.ino=(find t.nodes y.ino).elim false nH:=rfl;generalize Qx t y.ino=o at *
  unfold ud at i;cases O:find t.nodes y.ino with
  |none =>
   rw[O]at i b;have b:o=false:=b;subst b;simp only[dI,Tv,Nd,jb,aX]at i;simp(disch:=omega)[KY,F,<-v,E,A,iL,jW,x,ca 199,i]
  |some q =>
   have r:=Uy (n:=119) af q
   rw[O]at i b;have b:o=nH q:=b;rw[<-b]at r;clear b;simp only[cG,Tv,Nd]at i r L⊢;cases o with
   |false=>simp(disch:=omega)[KY,F,<-v,E,A,iL,jW,x,ca 199,i,ca 221,r]
   |true =>
    cases S with
    |true=>simp(disch:=omega)[KY,F,<-v,E,A,iL,jW,x,ca 199,i,ca 221,r,ca 227,G]
    |false=>simp(disch:=omega)[KY,F,<-v,E,A,iL,jW,x,ca 199,i,ca 221,r,ca 227,G,ca 195,L]
def og(a:ax)(q:Tr.Node):ax:=if nH q=true then a++[q.ino]else a
def Qc(l:List Tr.Node):∀a:ax,l.foldl og a=a++(l.filter nH).map Tr.Node.ino:=by
 induction l with
 |nil=>intro a;simp
 |cons q l b =>
  intro a;rw[cE,b,bX];unfold og;cases nH q<;>simp
def ai5{n:Nat}(v:91<n)(t:Tr.Tree)(hl:t.nodes.length<=1000)(e0:Env)(r:e0 7 = .en false (t.nodes.map Nd))(l:e0 8 = .int .i64 t.nodes.length):
  iter (round (gV.fk n) [3,9] [(.exit 0,[3])] w6 e0 1 [0]) ([.own 0 0 0 0,.int .i64 0],[.row 0 1 []])=some (.exit 0,[.own 0 0 0 (qj t).length],[.row 0 1 ((qj t).map I)]):=by
 have:=sR (f:=round (gV.fk n) [3,9] [(.exit 0,[3])] w6 e0 1 [0]) (λi (a:ax)=>([.own 0 0 0 a.length,.int .i64 (i:Int)],[.row 0 1 (a.map I)])) t.nodes og (λa=>(.exit 0,[.own 0 0 0 a.length],[.row 0 1 (a.map I)])) (λi a=>a.length<=i)
  (λi y a x=>by
   obtain⟨q,h⟩:∃q,q=t.nodes[i]:=⟨_,rfl⟩;rw[<-h];have b:=Uy (n:=n) v q;simp only[Nd]at b;unfold og;generalize nH q=o at *
   cases o with
   |true =>
    refine⟨aj,?_⟩
    simp(disch:=omega)[round_eq,w6,r,l,<-h,ca 221,b]
   |false =>
    refine⟨aj,?_⟩
    simp(disch:=omega)[round_eq,w6,r,l,<-h,ca 221,b])
  (λa x=>by simp(disch:=omega)[round_eq,w6,l]) [] ah
 rw[Qc,aN]at this
 simpa[qj]using this
def ahx{n:Nat}(b:106<n)(t:Tr.Tree)(hl:t.nodes.length<=1000):(gV.fk n).p 192 [Tv t]=some (.en false ((qj t).map I)):=by
 rw[pp 192 rfl b rfl,gd,b6];have h:=ai5 (n:=106) af t hl
 generalize qj t=o at *
 simp(disch:=omega)[afw];rw[h _ an an]
 simp(disch:=omega)
def QT{t:Tr.Tree}(b:Bt t)(i:Int):Bt (free t i).1:=by
 unfold free;split
 .exact b
 .split
  .exact b
  .split
   .exact b
   .exact⟨bQ (bG ..) b.len,λn h=>b.ek n (bU.1 h).1,b.ck0,b.ck,b.nx0,b.nx⟩
def gf(c:Int)(s:Tr.Tree×List Ho×Bool)(h:Int):Tr.Tree×List Ho×Bool:=((ajg s.1 s.2.1 c h).1,(ajg s.1 s.2.1 c h).2.1,s.2.2 && !decide ((ajg s.1 s.2.1 c h).2.2=0))
def QM(c:Int)(b:ax):∀s:Tr.Tree×List Ho×Bool,((b.foldl (gf c) s).1,(b.foldl (gf c) s).2.1)=sQ c b s.1 s.2.1:=by
 induction b with
 |nil=>intro s;rfl
 |cons k b h =>
  intro s;rw[cE,h];rfl
def Mt(l:List Ho)(c h:Int):(rS l c h).length<=l.length:=by
 unfold rS;rw[aG,bI,bW];omega
def Ad(t:Tr.Tree)(l:List Ho)(c h:Int):(ajg t l c h).2.1.length<=l.length:=by
 unfold ajg;split
 .exact aT _
 .exact Mt l c h
def NO{t:Tr.Tree}(hs:kI t.nodes)(i:Int):kI (free t i).1.nodes:=by
 unfold free;split
 .exact hs
 .split
  .exact hs
  .split
   .exact hs
   .exact hs.filter _
def HQ{t:Tr.Tree}(hs:kI t.nodes)(l:List Ho)(c h:Int):kI (ajg t l c h).1.nodes:=by
 unfold ajg;split
 .exact hs
 .simp only;split
  .exact NO hs _
  .exact hs
def KQ{t:Tr.Tree}(b:Bt t)(l:List Ho)(c h:Int):Bt (ajg t l c h).1:=by
 unfold ajg;split
 .exact b
 .simp only;split
  .exact QT b _
  .exact b
def gi(c:Int)(s:Tr.Tree×List Ho×Bool)(x:Ho):Tr.Tree×List Ho×Bool:=if x.c=c then gf c s x.h else s
def QK(c:Int)(l:List Ho):∀s:Tr.Tree×List Ho×Bool,l.foldl (gi c) s=(zj l c).foldl (gf c) s:=by
 induction l with
 |nil=>intro s;rfl
 |cons x l b =>
  intro s;rw[cE,b];unfold zj gi;rw[bX]
  by_cases h:x.c=c<;>simp[h]
def ai7{n:Nat}(E:119<n)(l:List Ho)(hl:l.length<=1000)(f:Bool)(c:Int)(s:Tr.Tree×List Ho×Bool)(hs:kI s.1.nodes)(v:Bt s.1)(b:s.2.1.length<=1000)(e0:Env)(A:e0 10 = .en f (l.map Hv))(q:e0 11 = .int .i64 l.length)(h2:e0 2=I c)(h3:e0 3 = .ptr 0 0 0 0):
  iter (round (gV.fk n) [1,12] [(.exit 0,[1])] w9 e0 2 []) ([.en s.2.2 (s.2.1.map Hv),.int .i64 0],[.var [.en false (s.1.nodes.map Nd),.int .i64 s.1.next,.int .i64 s.1.gr],.var [.en false [],.int .i64 0,.int .i64 0]]) =
   some (.exit 0,[.en (l.foldl (gi c) s).2.2 ((l.foldl (gi c) s).2.1.map Hv)],[.var [.en false ((l.foldl (gi c) s).1.nodes.map Nd),.int .i64 (l.foldl (gi c) s).1.next,.int .i64 (l.foldl (gi c) s).1.gr],.var [.en false [],.int .i64 0,.int .i64 0]]):=by
 have:=sR (f:=round (gV.fk n) [1,12] [(.exit 0,[1])] w9 e0 2 []) (λi (s:Tr.Tree×List Ho×Bool)=>([.en s.2.2 (s.2.1.map Hv),.int .i64 (i:Int)],[.var [.en false (s.1.nodes.map Nd),.int .i64 s.1.next,.int .i64 s.1.gr],.var [.en false [],.int .i64 0,.int .i64 0]])) l (gi c)
  (λs=>(.exit 0,[.en s.2.2 (s.2.1.map Hv)],[.var [.en false (s.1.nodes.map Nd),.int .i64 s.1.next,.int .i64 s.1.gr],.var [.en false [],.int .i64 0,.int .i64 0]])) (λ_ s=>kI s.1.nodes/\Bt s.1/\s.2.1.length<=1000)
  (λi F s hs=>by
   let⟨hs,v,b⟩:=hs;let⟨t,m,g⟩:=s;obtain⟨x,hx⟩:∃x,x=l[i]:=⟨_,rfl⟩;rw[<-hx];simp only at hs v b;have z:=abA (n:=n) aa t hs v.len m b g c x.h
   unfold gi gf
   by_cases y:x.c=c
   .refine⟨by rw[if_pos y];exact⟨HQ hs _ _ _,KQ v _ _ _,bQ (Ad _ _ _ _) b⟩,?_⟩
    rw[if_pos y];generalize ajg t m c x.h=r at *
    let⟨u,o,e⟩:=r;simp only[Tv]at z⊢;simp(disch:=omega)[round_eq,w9,A,q,h2,h3,<-hx,y,ca 126,z]
   .refine⟨by rw[if_neg y];exact⟨hs,v,b⟩,?_⟩
    rw[if_neg y];simp(disch:=omega)[round_eq,w9,A,q,h2,<-hx,y])
  (λs hs=>by simp(disch:=omega)[round_eq,w9,q]) s ⟨hs,v,b⟩
 simpa using this
def ag3{n:Nat}(b:125<n)(t:Tr.Tree)(hs:kI t.nodes)(i:Bt t)(l:List Ho)(hl:l.length<=1000)(f:Bool)(c:Int):
  (gV.fk n).p 138 [Tv t,.en f (l.map Hv),I c]=some (.iV [Tv ((zj l c).foldl (gf c) (t,l,f)).1,.en ((zj l c).foldl (gf c) (t,l,f)).2.2 (((zj l c).foldl (gf c) (t,l,f)).2.1.map Hv)]):=by
 rw[pp 138 rfl b rfl,gd,b6];have h:=ai7 (n:=125) af l hl f c (t,l,f) hs i hl
 rw[QK]at h;generalize(zj l c).foldl (gf c) (t,l,f)=r at *
 let⟨u,o,g⟩:=r;simp only at h⊢;simp(disch:=omega)[c138];rw[h _ an an an an]
 simp(disch:=omega)
end Go.Proofs.YtahlmpbhfljalaaGreatDoor
