/- Part of the proof that TopTwoPartsCard holds. -/
import Derived.Test.YtghgbehknhmnaaaGreatDoorA30
import Derived.Test.YtghgbehknhmnaaaGreatDoorTrQ
set_option linter.all false
namespace Go.Proofs.YtghgbehknhmnaaaGreatDoor
open Go.Am Go.Tr
abbrev I(n:Int):AV:=.int .i64 n
abbrev B(b:UInt8):AV:=.int .u8 (b.toNat:Int)
@[simp]def En(e:Tr.Ent):AV:=.agg [.str e.name,.int .i64 e.ino,.int .i64 e.ek]
@[simp]def Nd(n:Tr.Node):AV:=.agg [.int .i64 n.ino,.int .i64 n.kind,.int .i64 n.links,.b9 false (n.data.map B),.b9 false (n.b7.map En),.int .i64 n.up]
@[simp]def Tv(t:Tr.Tree):AV:=.agg [.b9 false (t.nodes.map Nd),.int .i64 t.next,.int .i64 t.ek]
@[simp]def szI(l:ay):jw 1 (l.map I)=true:=by simp[jw]
@[simp]def szB(l:au):jw 1 (l.map B)=true:=by simp[jw]
@[simp]def akP(l:List Tr.Ent):jw 3 (l.map En)=true:=by simp[jw]
@[simp]def akN(l:List Tr.Node):jw 6 (l.map Nd)=true:=by simp[jw]
structure Bt(t:Tr.Tree):Prop where
 len:t.nodes.length<=1000
 b7:∀n∈t.nodes,n.b7.length<=1000
 ON:0<=t.ek
 ck:t.ek<=4398046511104
 Qz:0<=t.next
 nx:t.next<=4398046511104
def KQ(l:List Tr.Node)(i:Int):Int:=(find l i).elim (-1) λ_=>((l.findIdx λn=>decide (n.ino=i):Nat):Int)
def ajz{Γ:jE}(t:Tr.Tree)(hl:t.nodes.length<=1000000)(i:Int)(e0:Env)(h2:e0 2 = .iV [.b9 false (t.nodes.map Nd),.int .i64 t.next,.int .i64 t.ek])(h1:e0 1=I i):
  iter (round Γ [5] [(.exit 0,[]),(.ret,[4])] ym e0 0 []) ([.int .i64 0],[])=some ((t.nodes.find? λn=>decide (n.ino=i)).elim (.exit 0,[],[]) λ_=>(.ret,[.int .i64 (t.nodes.findIdx λn=>decide (n.ino=i):Nat)],[])) :=
 pE (f:=round Γ [5] [(.exit 0,[]),(.ret,[4])] ym e0 0 []) (λi=>([.int .i64 (i:Int)],[])) t.nodes (λn=>decide (n.ino=i)) (λk _=>(.ret,[.int .i64 (k:Int)],[])) (.exit 0,[],[])
  (λk hk=>by
   obtain⟨y,b⟩:∃y,y=t.nodes[k]:=⟨_,rfl⟩;rw[<-b]
   by_cases h:y.ino=i
   .simp(disch:=omega)[round_eq,ym,h2,h1,<-b,h]
   .simp(disch:=omega)[round_eq,ym,h2,h1,<-b,h])
  (by simp(disch:=omega)[round_eq,ym,h2])
variable{n:Nat}
def ahZ(b:182<n)(t:Tr.Tree)(hl:t.nodes.length<=1000000)(i:Int):(en.cz n).p 159 [Tv t,I i]=some (I (KQ t.nodes i)):=by
 rw[pp 159 rfl b rfl,b8,b6];have h:=ajz (Γ:=en.cz 182) t hl i;unfold KQ find;simp(disch:=omega)[afI];rw[h _ aq aq]
 cases t.nodes.find? λn=>decide (n.ino=i)with
 |none=>simp(disch:=omega)
 |some y=>simp(disch:=omega)
def Rj{l:List Tr.Node}{i:Int}{q:Tr.Node}(h:find l i=some q):∃k:Nat,KQ l i=k/\k<l.length/\l[k]? = some q:=by
 have b:(l.findIdx λn=>decide (n.ino=i))<l.length:=cT ⟨q,(fk h).1,by simpa using(fk h).2⟩
 refine⟨l.findIdx λn=>decide (n.ino=i),by unfold KQ;rw[h];rfl,b,?_⟩
 rw[lu];exact h
def lq(o:Option Tr.Node):AV:=o.elim (.jg [Nd jo,.bool false]) λn=>.jg [Nd n,.bool true]
def IM(v:183<n)(t:Tr.Tree)(hl:t.nodes.length<=1000000)(i:Int):(en.cz n).p 100 [Tv t,I i]=some (lq (find t.nodes i)):=by
 rw[pp 100 rfl v rfl,b8,b6];have h:=ahZ (n:=183) ah t hl i
 simp only[Tv]at h;unfold lq;cases r:find t.nodes i with
 |none =>
  have e:KQ t.nodes i = -1:=by unfold KQ;rw[r];rfl
  rw[e]at h;simp(disch:=omega)[YM,ca 159,h,jo]
 |some q =>
  let⟨k,hk,l,o⟩:=Rj r;rw[hk]at h;have b:q=t.nodes[k]:=by rw[aH l]at o;exact(bB o).symm
  simp(disch:=omega)[YM,ca 159,h,<-b]
def pT(b:183<n)(t:Tr.Tree)(h:Bt t)(i:Int):(en.cz n).p 100 [Tv t,I i]=some (lq (find t.nodes i)):=IM b t (by have:=h.len;omega) i
def Kj(l:184<n)(t:Tr.Tree)(o:Bt t)(i:Int):(en.cz n).p 152 [Tv t,I i]=some (.jg [Nd (kD t i),I (jF t i)]):=by
 rw[pp 152 rfl l rfl,b8,b6];have h:=pT (n:=184) ah t o i
 simp only[Tv]at h;unfold kD jF;unfold lq at h;cases b:find t.nodes i with
 |none =>
  rw[b]at h;simp only[bS]at h;simp(disch:=omega)[Sb,ca 100,h,jo]
 |some q =>
  rw[b]at h;simp only[bC,Nd]at h
  by_cases hk:q.kind=2
  .simp(disch:=omega)[Sb,ca 100,h,hk]
  .simp(disch:=omega)[Sb,ca 100,h,hk,jo]
def wG(l:List Tr.Ent)(s:au):Int:=(l.find? λe=>decide (e.name=s)).elim (-1) λ_=>((l.findIdx λe=>decide (e.name=s):Nat):Int)
def ajB{Γ:jE}(q:Tr.Node)(l:q.b7.length<=1000)(s:au)(e0:Env)(h2:e0 2 = .iV [.int .i64 q.ino,.int .i64 q.kind,.int .i64 q.links,.b9 false (q.data.map B),.b9 false (q.b7.map En),.int .i64 q.up])(h1:e0 1 = .str s):
  iter (round Γ [5] [(.exit 0,[]),(.ret,[4])] yo e0 0 []) ([.int .i64 0],[])=some ((q.b7.find? λe=>decide (e.name=s)).elim (.exit 0,[],[]) λ_=>(.ret,[.int .i64 (q.b7.findIdx λe=>decide (e.name=s):Nat)],[])) :=
 pE (f:=round Γ [5] [(.exit 0,[]),(.ret,[4])] yo e0 0 []) (λi=>([.int .i64 (i:Int)],[])) q.b7 (λe=>decide (e.name=s)) (λk _=>(.ret,[.int .i64 (k:Int)],[])) (.exit 0,[],[])
  (λk hk=>by
   obtain⟨y,b⟩:∃y,y=q.b7[k]:=⟨_,rfl⟩;rw[<-b]
   by_cases h:y.name=s
   .simp(disch:=omega)[round_eq,yo,h2,h1,<-b,h]
   .simp(disch:=omega)[round_eq,yo,h2,h1,<-b,h])
  (by simp(disch:=omega)[round_eq,yo,h2])
def Mv(i:186<n)(q:Tr.Node)(b:q.b7.length<=1000)(s:au):(en.cz n).p 154 [Nd q,.str s]=some (I (wG q.b7 s)):=by
 rw[pp 154 rfl i rfl,b8,b6];have h:=ajB (Γ:=en.cz 186) q b s;unfold wG;simp(disch:=omega)[afM];rw[h _ aq aq]
 cases q.b7.find? λe=>decide (e.name=s)with
 |none=>simp(disch:=omega)
 |some y=>simp(disch:=omega)
def Jo(t:Tr.Tree)(i:Int):(find t.nodes i=none/\BT t i=0)\/∃q,find t.nodes i=some q/\BT t i=q.up:=by
 cases h:find t.nodes i with
 |none=>exact .inl ⟨rfl,by unfold BT;rw[h];rfl⟩
 |some q=>exact .inr ⟨q,rfl,zO h⟩
def adi{n:Nat}(x:183<n)(t:Tr.Tree)(y:Bt t)(e0:Env)(h2:e0 2 = .iV [.b9 false (t.nodes.map Nd),.int .i64 t.next,.int .i64 t.ek]):∀(k:Nat)(i:Int)(d:Nat),d+k=201->
  iter (round (en.cz n) [1,5] [(.exit 0,[5])] vG e0 0 []) ([.int .i64 i,.int .i64 (d:Int)],[])=some (.exit 0,[.int .i64 ((d+tj t k i:Nat):Int)],[])
 |0,i,d,A=>by
  have v:d=201:=af
  subst v;rw[iter_eq]
  by_cases h1:i=1
  .subst h1;simp(disch:=omega)[round_eq,vG,tj]
  .simp(disch:=omega)[round_eq,vG,h1,tj]
 |k+1,i,d,A=>by
  rw[iter_eq]
  by_cases h1:i=1
  .subst h1;simp(disch:=omega)[round_eq,vG,tj]
  .have b:=pT (n:=n) x t y i;have h:=adi x t y e0 h2 k (BT t i) (d+1) af
   have e:d+1+tj t k (BT t i)=d+tj t (k+1) i:=by simp only[tj];rw[if_neg h1];omega
   rw[e]at h;have z:d<=200:=af
   have E:((d+1:Nat):Int)=(d:Int)+1:=af
   rw[E]at h;simp only[Tv,lq]at b
   rcases Jo t i with⟨o,l⟩ | ⟨q,o,l⟩
   .rw[o]at b;rw[l]at h;simp only[bS,Nd,jo,aN]at b;generalize d+tj t (k+1) i=r at *
    simp(disch:=omega)[round_eq,vG,h2,h1,ca 100,b];exact h
   .rw[o]at b;rw[l]at h;simp only[bC,Nd]at b;generalize d+tj t (k+1) i=r at *
    simp(disch:=omega)[round_eq,vG,h2,h1,ca 100,b];exact h
def Mu{n:Nat}(b:193<n)(t:Tr.Tree)(l:Bt t)(i:Int):(en.cz n).p 157 [Tv t,I i]=some (I (depth t i)):=by
 rw[pp 157 rfl b rfl,b8,b6];have h:=λe0 h2=>adi (n:=193) ah t l e0 h2 201 i 0 rfl
 simp only[bW,eC]at h;unfold depth;simp(disch:=omega)[afK];rw[h _ aq]
 simp(disch:=omega)
def Il(t:Tr.Tree):Nat->Int->Int->Option Bool
 |0,_,_=>none
 |k+1,i,o=>if i=o then some true else if i=1 then some false else Il t k (BT t i) o
def JN(t:Tr.Tree)(o:Int):∀(k:Nat)(i:Int),(Il t k i o).getD false=wU t k i o
 |0,i=>rfl
 |k+1,i=>by
  simp only[Il,wU];split
  .rfl
  .split
   .rfl
   .exact JN t o k _
def adj{n:Nat}(y:183<n)(t:Tr.Tree)(r:Bt t)(o:Int)(e0:Env)(h3:e0 3 = .iV [.b9 false (t.nodes.map Nd),.int .i64 t.next,.int .i64 t.ek])(h2:e0 2=I o):∀(k:Nat)(i:Int)(j:Nat),j+k=t.nodes.length+1->
  iter (round (en.cz n) [1,7] [(.exit 0,[]),(.ret,[6])] vH e0 0 []) ([.int .i64 i,.int .i64 (j:Int)],[])=some ((Il t k i o).elim (.exit 0,[],[]) λb=>(.ret,[.bool b],[]))
 |0,i,j,A=>by
  have hl:=r.len;rw[iter_eq];simp(disch:=omega)[round_eq,vH,h3,Il]
 |k+1,i,j,A=>by
  have hl:=r.len;have z:j<=t.nodes.length:=af
  rw[iter_eq];simp only[Il]
  by_cases h1:i=o
  .simp(disch:=omega)[round_eq,vH,h2,h3,h1]
  .by_cases h4 : i = 1
   .simp(disch:=omega)[round_eq,vH,h2,h3,h4]
   .have h:=pT (n:=n) y t r i;have l:=adj y t r o e0 h3 h2 k (BT t i) (j+1) af
    have E:((j+1:Nat):Int)=(j:Int)+1:=af
    rw[E]at l;rw[if_neg h1,if_neg h4];simp only[Tv,lq]at h
    rcases Jo t i with⟨x,v⟩ | ⟨q,x,v⟩
    .rw[x]at h;rw[v]at l⊢;simp only[bS,Nd,jo,aN]at h;rw[<-l];simp(disch:=omega)[round_eq,vH,h2,h3,h1,h4,ca 100,h]
    .rw[x]at h;rw[v]at l⊢;simp only[bC,Nd]at h;rw[<-l];simp(disch:=omega)[round_eq,vH,h2,h3,h1,h4,ca 100,h]
def UI{n:Nat}(l:222<n)(t:Tr.Tree)(q:Bt t)(i o:Int):(en.cz n).p 155 [Tv t,I i,I o]=some (.bool (below t i o)):=by
 rw[pp 155 rfl l rfl,b8,b6];have h:=λe0 h2 h3=>adj (n:=222) ah t q o e0 h2 h3 (t.nodes.length+1) i 0 af
 simp only[eC]at h;unfold below;rw[<-JN];simp(disch:=omega)[afL];rw[h _ aq aq]
 cases Il t (t.nodes.length+1) i o with
 |none=>simp(disch:=omega)
 |some b=>simp(disch:=omega)
def ahD{n:Nat}(l:194<n)(t:Tr.Tree)(o:Bt t)(q:Tr.Node)(r:q.b7.length<=1000):(en.cz n).p 228 [Tv t,Nd q]=some (.bool (full t q)):=by
 rw[pp 228 rfl l rfl,b8,b6];have h:=Mu (n:=194) ah t o q.ino
 simp only[Tv]at h;unfold full
 by_cases b:64<=q.b7.length
 .simp(disch:=omega)[OS,b]
 .by_cases i : 12 <= depth t q.ino
  .simp(disch:=omega)[OS,b,ca 157,h,i]
  .by_cases c3:1099511627776<=t.ek
   .simp(disch:=omega)[OS,b,ca 157,h,i,c3]
   .simp(disch:=omega)[OS,b,ca 157,h,i,c3]
def wg(n:Tr.Node)(s:List Tr.Node×Bool)(m:Tr.Node):List Tr.Node×Bool :=
 if s.2=false/\n.ino<=m.ino then((s.1++[n])++(if m.ino≠n.ino then[m]else[]),true)else(s.1++(if m.ino≠n.ino then[m]else[]),s.2)
def PW(n:Tr.Node)(s:List Tr.Node×Bool):List Tr.Node:=if s.2=false then s.1++[n]else s.1
def Iu(n:Tr.Node):∀(l a:List Tr.Node),l.foldl (wg n) (a,true)=(a++l.filter (λm=>decide (m.ino≠n.ino)),true)
 | [],a=>ai
 |m::l,a=>by
  rw[bG];have e:wg n (a,true) m=(a++(if m.ino≠n.ino then[m]else[]),true):=by unfold wg;simp
  rw[e,Iu n l,bO]
  by_cases h:m.ino=n.ino<;>simp[h]
def LR(n:Tr.Node):∀(l a:List Tr.Node),PW n (l.foldl (wg n) (a,false))=a++ins n l
 | [],a=>by simp[PW,ins]
 |m::l,a=>by
  rw[bG]
  by_cases h:n.ino<=m.ino
  .have e:wg n (a,false) m=((a++[n])++(if m.ino≠n.ino then[m]else[]),true):=by unfold wg;simp[h]
   rw[e,Iu];unfold PW ins;have h':¬m.ino<n.ino:=af
   simp only[dA,cV,decide_eq_false h']
   by_cases h2:m.ino=n.ino<;>simp[h2]
  .have e:wg n (a,false) m=(a++[m],false):=by
    unfold wg;have:m.ino≠n.ino:=af
    simp[h,this]
   rw[e,LR n l];unfold ins;have h':m.ino<n.ino:=af
   simp[h']
def ajE{Γ:jE}(t:Tr.Tree)(o:Bt t)(n:Tr.Node)(e0:Env)(h2:e0 2 = .ptr 0 0 0 0)(h3:e0 3 = .iV [.int .i64 n.ino,.int .i64 n.kind,.int .i64 n.links,.b9 false (n.data.map B),.b9 false (n.b7.map En),.int .i64 n.up]):
  iter (round Γ [5,6,7] [(.exit 0,[5,6])] qF e0 3 [2]) ([.own 2 0 0 0,.bool false,.int .i64 0],[.var [.b9 false (t.nodes.map Nd),.int .i64 t.next,.int .i64 t.ek],.var [.b9 false [],.int .i64 0,.int .i64 0],.row 0 6 []]) =
   some (.exit 0,[.own 2 0 0 (t.nodes.foldl (wg n) ([],false)).1.length,.bool (t.nodes.foldl (wg n) ([],false)).2],[.var [.b9 false (t.nodes.map Nd),.int .i64 t.next,.int .i64 t.ek],.var [.b9 false [],.int .i64 0,.int .i64 0],.row 0 6 ((t.nodes.foldl (wg n) ([],false)).1.map Nd)]) :=
 kN (f := round Γ [5, 6, 7] [(.exit 0, [5, 6])] qF e0 3 [2]) (λi (s : List Tr.Node × Bool) => ([.own 2 0 0 s.1.length, .bool s.2, .int .i64 (i : Int)], [.var [.b9 false (t.nodes.map Nd), .int .i64 t.next, .int .i64 t.ek], .var [.b9 false [], .int .i64 0, .int .i64 0], .row 0 6 (s.1.map Nd)])) t.nodes (wg n) (λs => (.exit 0, [.own 2 0 0 s.1.length, .bool s.2], [.var [.b9 false (t.nodes.map Nd), .int .i64 t.next, .int .i64 t.ek], .var [.b9 false [], .int .i64 0, .int .i64 0], .row 0 6 (s.1.map Nd)])) (λi s => s.1.length <= 2 * i)
  (λi q s hs=>by
   have hl:=o.len;obtain⟨m,h⟩:∃m,m=t.nodes[i]:=⟨_,rfl⟩;let⟨a,d⟩:=s;rw[<-h];simp only at hs;unfold wg
   by_cases l:n.ino<=m.ino
   .by_cases b : m.ino = n.ino
    .cases d with
     |false =>
      refine⟨by simp[b];omega,?_⟩
      simp(disch:=omega)[round_eq,qF,h2,h3,<-h,b]
     |true =>
      refine⟨by simp[b];omega,?_⟩
      simp(disch:=omega)[round_eq,qF,h2,h3,<-h,b]
    .cases d with
     |false =>
      refine⟨by simp[l,b];omega,?_⟩
      simp(disch:=omega)[round_eq,qF,h2,h3,<-h,l,b]
     |true =>
      refine⟨by simp[b];omega,?_⟩
      simp(disch:=omega)[round_eq,qF,h2,h3,<-h,l,b]
   .have b:¬m.ino=n.ino:=by omega
    cases d with
    |false =>
     refine⟨by simp[l,b];omega,?_⟩
     simp(disch:=omega)[round_eq,qF,h2,h3,<-h,l,b]
    |true =>
     refine⟨by simp[b];omega,?_⟩
     simp(disch:=omega)[round_eq,qF,h2,h3,<-h,l,b])
  (λs hs=>by have hl:=o.len;simp(disch:=omega)[round_eq,qF,h2]) ([],false) ai
def E4{m:Nat}(r:196<m)(t:Tr.Tree)(o:Bt t)(n:Tr.Node):(en.cz m).p 148 [Tv t,Nd n]=some (Tv (iP t n)):=by
 rw[pp 148 rfl r rfl,b8,b6];have h:=ajE (Γ:=en.cz 196) t o n;have i:=LR n t.nodes [];have hl:=o.len;rw[aL]at i;unfold iP;rw[<-i]
 have b:(t.nodes.foldl (wg n) ([],false)).1.length<=2*t.nodes.length:=by
  have key:∀(l:List Tr.Node)(s:List Tr.Node×Bool),(l.foldl (wg n) s).1.length<=s.1.length+2*l.length:=by
   intro l
   induction l with
   |nil=>intro s;simp
   |cons m l q =>
    intro s;rw[bG];refine bJ (q _) ?_;unfold wg;split<;>split<;>simp<;>omega
  have:=key t.nodes ([],false)
  simpa using this
 simp(disch:=omega)[afP];rw[h _ aq aq]
 generalize t.nodes.foldl (wg n) ([],false)=s at *
 let⟨a,d⟩:=s;unfold PW;simp only at b;cases d with
 |false=>simp(disch:=omega)
 |true=>simp(disch:=omega)
def fold_filter{α:Type}(p:α->Bool):∀(l a:List α),l.foldl (λa x=>if p x=true then a++[x]else a) a=a++l.filter p
 | [],a=>ai
 |x::l,a=>by
  rw[bG,fold_filter p l,bO];cases h:p x<;>simp
def ajo{Γ:jE}(t:Tr.Tree)(h:Bt t)(i:Int)(e0:Env)(h2:e0 2 = .ptr 0 0 0 0)(h1:e0 1=I i):
  iter (round Γ [5,6] [(.exit 0,[5])] xV e0 3 [2]) ([.own 2 0 0 0,.int .i64 0],[.var [.b9 false (t.nodes.map Nd),.int .i64 t.next,.int .i64 t.ek],.var [.b9 false [],.int .i64 0,.int .i64 0],.row 0 6 []]) =
   some (.exit 0,[.own 2 0 0 (t.nodes.filter λm=>decide (m.ino≠i)).length],[.var [.b9 false (t.nodes.map Nd),.int .i64 t.next,.int .i64 t.ek],.var [.b9 false [],.int .i64 0,.int .i64 0],.row 0 6 ((t.nodes.filter λm=>decide (m.ino≠i)).map Nd)]):=by
 have:=kN (f:=round Γ [5,6] [(.exit 0,[5])] xV e0 3 [2]) (λk (a:List Tr.Node)=>([.own 2 0 0 a.length,.int .i64 (k:Int)],[.var [.b9 false (t.nodes.map Nd),.int .i64 t.next,.int .i64 t.ek],.var [.b9 false [],.int .i64 0,.int .i64 0],.row 0 6 (a.map Nd)])) t.nodes (λa x=>if decide (x.ino≠i)=true then a++[x]else a) (λa=>(.exit 0,[.own 2 0 0 a.length],[.var [.b9 false (t.nodes.map Nd),.int .i64 t.next,.int .i64 t.ek],.var [.b9 false [],.int .i64 0,.int .i64 0],.row 0 6 (a.map Nd)])) (λk a=>a.length<=k)
  (λk hk a l=>by
   have hl:=h.len;obtain⟨m,b⟩:∃m,m=t.nodes[k]:=⟨_,rfl⟩;rw[<-b]
   by_cases c:m.ino=i
   .refine⟨by simp[c];omega,?_⟩
    simp(disch:=omega)[round_eq,xV,h2,h1,<-b,c]
   .refine⟨by simp[c];omega,?_⟩
    simp(disch:=omega)[round_eq,xV,h2,h1,<-b,c])
  (λs hs=>by have hl:=h.len;simp(disch:=omega)[round_eq,xV,h2]) [] ai
 rw[fold_filter,aL]at this
 simpa using this
def abr{m:Nat}(n:205<m)(t:Tr.Tree)(l:Bt t)(i:Int):(en.cz m).p 232 [Tv t,I i]=some (Tv (kj t i)):=by
 rw[pp 232 rfl n rfl,b8,b6];have h:=ajo (Γ:=en.cz 205) t l i;have hl:=l.len;unfold kj;have b:=bz (λm:Tr.Node=>decide (m.ino≠i)) t.nodes
 generalize(t.nodes.filter λm=>decide (m.ino≠i))=r at *
 simp(disch:=omega)[afh];rw[h _ aq aq]
 simp(disch:=omega)
abbrev vN(q:Tr.Node):AB:=.var [.int .i64 q.ino,.int .i64 q.kind,.int .i64 q.links,.b9 false (q.data.map B),.b9 false (q.b7.map En),.int .i64 q.up]
def ajD{Γ:jE}(q:Tr.Node)(i:q.b7.length<=1000)(s:au)(e0:Env)(h:e0 7 = .ptr 1 0 0 0)(h2:e0 2 = .str s):
  iter (round Γ [9,10] [(.exit 0,[9])] yp e0 3 [2]) ([.own 2 0 0 0,.int .i64 0],[.var [.b9 false [],.int .i64 0,.int .i64 0],vN q,.row 0 3 []]) =
   some (.exit 0,[.own 2 0 0 (q.b7.filter λe=>decide (e.name≠s)).length],[.var [.b9 false [],.int .i64 0,.int .i64 0],vN q,.row 0 3 ((q.b7.filter λe=>decide (e.name≠s)).map En)]):=by
 have:=kN (f:=round Γ [9,10] [(.exit 0,[9])] yp e0 3 [2]) (λk (a:List Tr.Ent)=>([.own 2 0 0 a.length,.int .i64 (k:Int)],[.var [.b9 false [],.int .i64 0,.int .i64 0],vN q,.row 0 3 (a.map En)])) q.b7 (λa x=>if decide (x.name≠s)=true then a++[x]else a) (λa=>(.exit 0,[.own 2 0 0 a.length],[.var [.b9 false [],.int .i64 0,.int .i64 0],vN q,.row 0 3 (a.map En)])) (λk a=>a.length<=k)
  (λk hk a l=>by
   obtain⟨m,b⟩:∃m,m=q.b7[k]:=⟨_,rfl⟩;rw[<-b]
   by_cases c:m.name=s
   .refine⟨by simp[c];omega,?_⟩
    simp(disch:=omega)[round_eq,yp,h,h2,<-b,c]
   .refine⟨by simp[c];omega,?_⟩
    simp(disch:=omega)[round_eq,yp,h,h2,<-b,c])
  (λs hs=>by simp(disch:=omega)[round_eq,yp,h]) [] ai
 rw[fold_filter,aL]at this
 simpa using this
def tc(t:Tr.Tree)(i:Int):∃b,lq (find t.nodes i) = .jg [Nd (iS t i),.bool b]/\(iS t i=jo\/iS t i∈t.nodes):=by
 unfold iS lq;cases h:find t.nodes i with
 |none=>exact⟨false,rfl,.inl rfl⟩
 |some q=>exact⟨true,rfl,.inr (fk h).1⟩
def Qj{m:Nat}(E:220<m)(t:Tr.Tree)(l:Bt t)(i:Int)(s:au):(en.cz m).p 151 [Tv t,I i,.str s]=some (Tv (left t i s)):=by
 rw[pp 151 rfl E rfl,b8,b6];have hl:=l.len;have o:=pT (n:=220) ah t l i
 let⟨b,z,y⟩:=tc t i;rw[z]at o
 have A:(iS t i).b7.length<=1000:=by
  rcases y with h | h
  .rw[h];simp[jo]
  .exact l.b7 _ h
 unfold left;generalize iS t i=q at *
 have h:=ajD (Γ:=en.cz 220) q A s;have v:=E4 (m:=220) ah t l {q with fe:=false,b7:=q.b7.filter λe=>decide (e.name≠s)}
 have x:=bz (λe:Tr.Ent=>decide (e.name≠s)) q.b7
 generalize(q.b7.filter λe=>decide (e.name≠s))=r at *
 simp only[Tv,Nd]at o v;simp(disch:=omega)[afN,ca 100,o];rw[h _ aq aq]
 simp(disch:=omega)[ca 148,v]
def eg(e:Tr.Ent)(s:List Tr.Ent×Bool)(x:Tr.Ent):List Tr.Ent×Bool:=if s.2=false/\gr e.name x.name=true then((s.1++[e])++[x],true)else(s.1++[x],s.2)
def Rz(e:Tr.Ent)(s:List Tr.Ent×Bool):List Tr.Ent:=if s.2=false then s.1++[e]else s.1
def Jy(e:Tr.Ent):∀(l a:List Tr.Ent),l.foldl (eg e) (a,true)=(a++l,true)
 | [],a=>ai
 |x::l,a=>by
  rw[bG];have h:eg e (a,true) x=(a++[x],true):=by unfold eg;simp
  rw[h,Jy e l];simp
def OB(e:Tr.Ent):∀(l a:List Tr.Ent),Rz e (l.foldl (eg e) (a,false))=a++q7 gr e l
 | [],a=>by simp[Rz,q7]
 |x::l,a=>by
  rw[bG,xC]
  by_cases h:gr e.name x.name=true
  .have h1:eg e (a,false) x=((a++[e])++[x],true):=by unfold eg;simp[h]
   rw[h1,Jy,if_pos h];unfold Rz;simp
  .have h1:eg e (a,false) x=(a++[x],false):=by unfold eg;simp[h]
   rw[h1,OB e l,if_neg h];simp
def ajF{Γ:jE}(q:Tr.Node)(v:q.b7.length<=1000)(e:Tr.Ent)(T:List AV)(t:Tr.Tree)(o:T=[.b9 false (t.nodes.map Nd),.int .i64 t.next,.int .i64 t.ek])(e0:Env)(l:e0 9 = .ptr 2 0 0 0)(n:e0 11 = .ptr 3 0 0 0)(h2:e0 2 = .str e.name):
  iter (round Γ [12,13,14] [(.exit 0,[12,13])] tM e0 5 [4]) ([.own 4 0 0 0,.bool false,.int .i64 0],[.var T,.var [.b9 false [],.int .i64 0,.int .i64 0],vN q,.var [.str e.name,.int .i64 e.ino,.int .i64 e.ek],.row 0 3 []]) =
   some (.exit 0,[.own 4 0 0 (q.b7.foldl (eg e) ([],false)).1.length,.bool (q.b7.foldl (eg e) ([],false)).2],[.var T,.var [.b9 false [],.int .i64 0,.int .i64 0],vN q,.var [.str e.name,.int .i64 e.ino,.int .i64 e.ek],.row 0 3 ((q.b7.foldl (eg e) ([],false)).1.map En)]):=by
 subst o
 exact kN (f:=round Γ [12,13,14] [(.exit 0,[12,13])] tM e0 5 [4]) (λk (s:List Tr.Ent×Bool)=>([.own 4 0 0 s.1.length,.bool s.2,.int .i64 (k:Int)],[.var [.b9 false (t.nodes.map Nd),.int .i64 t.next,.int .i64 t.ek],.var [.b9 false [],.int .i64 0,.int .i64 0],vN q,.var [.str e.name,.int .i64 e.ino,.int .i64 e.ek],.row 0 3 (s.1.map En)])) q.b7 (eg e) (λs=>(.exit 0,[.own 4 0 0 s.1.length,.bool s.2],[.var [.b9 false (t.nodes.map Nd),.int .i64 t.next,.int .i64 t.ek],.var [.b9 false [],.int .i64 0,.int .i64 0],vN q,.var [.str e.name,.int .i64 e.ino,.int .i64 e.ek],.row 0 3 (s.1.map En)])) (λk s=>s.1.length<=2*k)
  (λk hk s hs=>by
   obtain⟨x,i⟩:∃x,x=q.b7[k]:=⟨_,rfl⟩;let⟨a,d⟩:=s;rw[<-i];simp only at hs;unfold eg;cases d with
   |true =>
    refine⟨ak,?_⟩
    simp(disch:=omega)[round_eq,tM,l,<-i]
   |false =>
    rcases xd e.name x.name with c | c | c
    .have b:=Ab c;have r:¬x.name=e.name:=λh=>Mr c h.symm
     refine⟨by simp[c];omega,?_⟩
     simp(disch:=omega)[round_eq,tM,l,n,h2,<-i,c,b,r]
    .have b:gr e.name x.name=false:=by rw[c];exact ov _
     refine⟨by simp[b];omega,?_⟩
     simp(disch:=omega)[round_eq,tM,l,h2,<-i,c,ov]
    .have b:=Ab c;refine⟨by simp[b];omega,?_⟩
     simp(disch:=omega)[round_eq,tM,l,h2,<-i,c,b])
  (λs hs=>by simp(disch:=omega)[round_eq,tM,l]) ([],false) ai
def E7{m:Nat}(L:197<m)(t:Tr.Tree)(o:Bt t)(i:Int)(s:au)(of:Int)(N:t.ek<4398046511104):(en.cz m).p 147 [Tv t,I i,.str s,I of]=some (Tv (iY gr t i s of)):=by
 rw[pp 147 rfl L rfl,b8,b6];have hl:=o.len;have E:=o.ON;have z:=pT (n:=197) ah t o i
 let⟨b,H,G⟩:=tc t i;rw[H]at z
 have K:(iS t i).b7.length<=1000:=by
  rcases G with h | h
  .rw[h];simp[jo]
  .exact o.b7 _ h
 unfold iY;generalize iS t i=q at *
 obtain⟨e,M⟩:∃e:Tr.Ent,e=⟨s,of,t.ek⟩:=⟨_,rfl⟩;have h:=ajF (Γ:=en.cz 197) q K e _ t rfl;have A:=OB e q.b7 [];rw[aL]at A
 have x:(q.b7.foldl (eg e) ([],false)).1.length<=2*q.b7.length:=by
  have key:∀(l:List Tr.Ent)(s:List Tr.Ent×Bool),(l.foldl (eg e) s).1.length<=s.1.length+2*l.length:=by
   intro l
   induction l with
   |nil=>intro s;simp
   |cons m l F =>
    intro s;rw[bG];refine bJ (F _) ?_;unfold eg;split<;>simp<;>omega
  have:=key q.b7 ([],false)
  simpa using this
 have y:Bt ⟨t.fn,t.nodes,t.next,t.ek+1⟩:=⟨o.len,o.b7,by simp only;omega,by simp only;omega,o.Qz,o.nx⟩
 have v:=E4 (m:=197) ah ⟨t.fn,t.nodes,t.next,t.ek+1⟩ y {q with fe:=false,b7:=q7 gr e q.b7}
 subst M;rw[<-A]at v⊢;simp only[Tv,Nd]at z v h;simp(disch:=omega)[afQ,ca 100,z];rw[h _ aq aq aq]
 generalize q.b7.foldl (eg ⟨s,of,t.ek⟩) ([],false)=r at *
 let⟨a,d⟩:=r;unfold Rz at v⊢;simp only at x;cases d with
 |true =>
  simp only[Bool.true_eq_false,if_false]at v;simp(disch:=omega)[ca 148,v]
 |false =>
  simp only[if_true,List.map_append,bN,aN,En]at v;simp(disch:=omega)[ca 148,v]
def abP{m:Nat}(x:219<m)(t:Tr.Tree)(o:Bt t)(i:Int)(hk:∀q,find t.nodes i=some q->-4398046511104<=q.links/\q.links<=4398046511104):(en.cz m).p 150 [Tv t,I i]=some (Tv (unnamed t i)):=by
 rw[pp 150 rfl x rfl,b8,b6];have l:=pT (n:=219) ah t o i
 have r:=abr (m:=219) ah t o i
 have y : -4398046511104<=(iS t i).links/\(iS t i).links<=4398046511104:=by
  unfold iS;cases z:find t.nodes i with
  |none=>simp[jo]
  |some q=>exact hk q z
 let⟨b,v,A⟩:=tc t i;rw[v]at l;unfold unnamed;generalize iS t i=q at *
 have h:=E4 (m:=219) ah t o {q with links:=q.links-1}
 by_cases c:q.kind=2
 .rw[if_pos c];simp only[Tv,Nd]at l r;simp(disch:=omega)[YC,ca 100,l,c,ca 232,r]
 .rw[if_neg c];simp only[Tv,Nd]at l h;simp(disch:=omega)[YC,ca 100,l,c,ca 148,h]
def okB(b:UInt8):Bool:=decide (32<=b.toNat) && !decide (b.toNat=47)
def j4(s:au):Bool:=decide (1<=s.length/\s.length<=32/\s≠[46]/\s≠[46,46])&&s.all okB
def ajC{Γ:jE}(s:au)(hs:s.length<=32)(e0:Env)(h0:e0 0 = .str s):
  iter (round Γ [3] [(.exit 0,[]),(.ret,[2])] oz e0 0 []) ([.int .i64 0],[])=some (if s.all okB=true then(.exit 0,[],[])else(.ret,[.bool false],[])) :=
 Jr (f:=round Γ [3] [(.exit 0,[]),(.ret,[2])] oz e0 0 []) (λi=>([.int .i64 (i:Int)],[])) s okB _ _ (λi r=>by
   obtain⟨b,n⟩:∃b,b=s[i]:=⟨_,rfl⟩;rw[<-n];unfold okB
   by_cases q:32<=b.toNat
   .have h:¬((b.toNat:Int)<32):=by omega
    by_cases o:b.toNat=47
    .have l:(b.toNat:Int)=47:=by omega
     simp(disch:=omega)[round_eq,oz,h0,<-n,o]
    .have l:¬(b.toNat:Int)=47:=by omega
     simp(disch:=omega)[round_eq,oz,h0,<-n,q,o,h,l]
   .have h:(b.toNat:Int)<32:=by omega
    simp(disch:=omega)[round_eq,oz,h0,<-n,q,h])
  (by simp(disch:=omega)[round_eq,oz,h0])
def Mw{n:Nat}(b:185<n)(s:au)(hs:s.length<=9223372036854775807):(en.cz n).p 153 [.str s]=some (.bool (j4 s)):=by
 rw[pp 153 rfl b rfl,b8,b6];unfold j4
 by_cases l:s.length<1
 .simp(disch:=omega)[BE]
 .by_cases i : 32 < s.length
  .simp(disch:=omega)[BE]
  .by_cases c3 : s = [46]
   .subst c3;simp(disch:=omega)[BE]
   .by_cases c4 : s = [46, 46]
    .subst c4;simp(disch:=omega)[BE]
    .have h:=ajC (Γ:=en.cz 185) s af
     generalize s.all okB=q at *
     simp(disch:=omega)[BE,c3,c4];rw[h _ aq]
     cases q with
     |true=>simp(disch:=omega)
     |false=>simp(disch:=omega)
def abQ{n:Nat}(F:195<n)(t:Tr.Tree)(A:Bt t)(i:Int)(s:au)(hs:s.length<=9223372036854775807):(en.cz n).p 146 [Tv t,I i,.str s]=some (I (enter j4 t i s)):=by
 rw[pp 146 rfl F rfl,b8,b6];have l:=Kj (n:=195) ah t A i
 have h:=Mw (n:=195) ah s hs
 have y:(kD t i).b7.length<=1000:=by
  unfold kD;cases G:find t.nodes i with
  |none=>simp[jo]
  |some p =>
   simp only;split
   .exact A.b7 _ (fk G).1
   .simp[jo]
 have z:=Mv (n:=195) ah (kD t i) y s
 have r:=ahD (n:=195) ah t A (kD t i) y
 unfold enter
 have o:(0<=wG (kD t i).b7 s)↔(jB (kD t i) s).isSome=true:=by
  unfold wG jB;cases(kD t i).b7.find? λe=>decide (e.name=s)with
  |none=>simp
  |some e=>simp
 generalize kD t i=q at *
 generalize jF t i=c at *
 simp only[Tv,Nd]at l z r
 by_cases x:c=0
 .cases E:j4 s with
  |false =>
   rw[E]at h;simp(disch:=omega)[Ln,ca 152,l,x,ca 153,h]
  |true =>
   rw[E]at h
   by_cases v:0<=wG q.b7 s
   .have b:=o.1 v;simp(disch:=omega)[Ln,ca 152,l,x,ca 153,h,ca 154,z,v,b]
   .have b:(jB q s).isSome=false:=by
     cases y:(jB q s).isSome with
     |false=>rfl
     |true=>exact absurd (o.2 y) v
    cases c3:full t q with
    |true =>
     rw[c3]at r;simp(disch:=omega)[Ln,ca 152,l,x,ca 153,h,ca 154,z,v,b,ca 228,r]
    |false =>
     rw[c3]at r;simp(disch:=omega)[Ln,ca 152,l,x,ca 153,h,ca 154,z,v,b,ca 228,r]
 .simp(disch:=omega)[Ln,ca 152,l,x]
def s47{n:Nat}(b:179<n):(en.cz n).p 47 []=some (Tv zk):=by
 rw[pp 47 rfl b rfl,b8,b6];simp(disch:=omega)[c47,zk]
def abH{n:Nat}(x:206<n)(t:Tr.Tree)(r:Bt t)(i:Int):(en.cz n).p 166 [Tv t,I i]=some (.jg [Tv (free t i).1,I (free t i).2]):=by
 rw[pp 166 rfl x rfl,b8,b6];have b:=pT (n:=206) ah t r i
 have l:=abr (m:=206) ah t r i
 unfold free;unfold lq at b;cases o:find t.nodes i with
 |none =>
  rw[o]at b;simp only[bS,Tv,Nd]at b;simp(disch:=omega)[OV,ca 100,b]
 |some q =>
  rw[o]at b;simp only[bC,Tv,Nd]at b l
  by_cases h:q.kind=2
  .simp(disch:=omega)[OV,ca 100,b,h]
  .by_cases v:0<q.links
   .simp(disch:=omega)[OV,ca 100,b,h,v]
   .simp(disch:=omega)[OV,ca 100,b,h,v,ca 232,l]
def pL{t:Tr.Tree}(h:Bt t)(i:Int):(kD t i).b7.length<=1000:=by
 unfold kD;cases b:find t.nodes i with
 |none=>simp[jo]
 |some p =>
  simp only;split
  .exact h.b7 _ (fk b).1
  .simp[jo]
def Ow{l:List Tr.Ent}{s:au}{e:Tr.Ent}(h:(l.find? λe=>decide (e.name=s))=some e):∃k:Nat,wG l s=k/\k<l.length/\l[k]? = some e:=by
 have b:(l.findIdx λe=>decide (e.name=s))<l.length:=cT ⟨e,bI h,by have:=cL h;simpa using this⟩
 refine⟨l.findIdx λe=>decide (e.name=s),by unfold wG;rw[h];rfl,b,?_⟩
 rw[lu];exact h
def Zp{n:Nat}(F:187<n)(t:Tr.Tree)(z:Bt t)(i:Int)(s:au)(hs:s.length<=9223372036854775807):(en.cz n).p 98 [Tv t,I i,.str s]=some (.jg [I (Tr.look j4 t i s).1,I (Tr.look j4 t i s).2]):=by
 rw[pp 98 rfl F rfl,b8,b6];have l:=Kj (n:=187) ah t z i
 have b:=Mw (n:=187) ah s hs
 have E:=pL z i;have h:=Mv (n:=187) ah (kD t i) E s
 unfold Tr.look;generalize kD t i=q at *
 generalize jF t i=c at *
 simp only[Tv,Nd]at l h
 by_cases o:c=0
 .cases A:j4 s with
  |false =>
   rw[A]at b;simp(disch:=omega)[c98,ca 152,l,o,ca 153,b]
  |true =>
   rw[A]at b;unfold jB;cases x:q.b7.find? λe=>decide (e.name=s)with
   |none =>
    have e1:wG q.b7 s = -1:=by unfold wG;rw[x];rfl
    rw[e1]at h;simp(disch:=omega)[c98,ca 152,l,o,ca 153,b,ca 154,h]
   |some e =>
    let⟨k,hk,r,y⟩:=Ow x;rw[hk]at h;have v:e=q.b7[k]:=by rw[aH r]at y;exact(bB y).symm
    simp(disch:=omega)[c98,ca 152,l,o,ca 153,b,ca 154,h,<-v]
 .simp(disch:=omega)[c98,ca 152,l,o]
def abW{n:Nat}(x:239<n)(t:Tr.Tree)(r:Bt t)(i:Int)(f:Bool)(d:au)(y:d.length<=9223372036854775807):(en.cz n).p 109 [Tv t,I i,.b9 f (d.map B)]=some (.jg [Tv (put t i d).1,I (put t i d).2]):=by
 rw[pp 109 rfl x rfl,b8,b6];have b:=pT (n:=239) ah t r i
 unfold put;unfold lq at b;cases o:find t.nodes i with
 |none =>
  rw[o]at b;simp only[bS,Tv,Nd]at b;simp(disch:=omega)[O1,ca 100,b]
 |some q =>
  have l:=E4 (m:=239) ah t r {q with fd:=false,data:=d}
  rw[o]at b;simp only[bC,Tv,Nd]at b l
  by_cases h:q.kind=2
  .simp(disch:=omega)[O1,ca 100,b,h]
  .by_cases v:4096<d.length
   .simp(disch:=omega)[O1,ca 100,b,h,v]
   .simp(disch:=omega)[O1,ca 100,b,h,v,ca 148,l]
def xD{t:Tr.Tree}(b:Bt t)(i:Int):(iS t i).b7.length<=1000:=by
 obtain⟨_,_,h | h⟩:=tc t i
 .rw[h];simp[jo]
 .exact b.b7 _ h
def s97{n:Nat}(H:221<n)(t:Tr.Tree)(v:Bt t)(i:Int)(s:au)(hs:s.length<=9223372036854775807)(o:(Tr.look j4 t i s).2=0->Bt (left t i s))
  (hk:∀q,find (left t i s).nodes (Tr.look j4 t i s).1=some q->-4398046511104<=q.links/\q.links<=4398046511104) :
  (en.cz n).p 97 [Tv t,I i,.str s]=some (.jg [Tv (Tr.un j4 t i s).1,I (Tr.un j4 t i s).2.1,I (Tr.un j4 t i s).2.2]):=by
 rw[pp 97 rfl H rfl,b8,b6];have h:=Zp (n:=221) ah t v i s hs
 have l:=Qj (m:=221) ah t v i s
 unfold Tr.un;generalize Tr.look j4 t i s=r at *
 let⟨x,e⟩:=r;simp only at h o hk⊢;have y:=pT (n:=221) ah t v x
 let⟨b,F,_⟩:=tc t x;rw[F]at y;have G:=xD v x;generalize iS t x=q at *
 by_cases E:e=0
 .subst E;have z:=abP (m:=221) ah (left t i s) (o rfl) x hk
  simp only[Tv,Nd]at h l y z
  by_cases A:0<q.b7.length
  .simp(disch:=omega)[c97,ca 98,h,ca 100,y,A]
  .simp(disch:=omega)[c97,ca 98,h,ca 100,y,A,ca 151,l,ca 150,z]
 .simp only[Tv]at h;simp(disch:=omega)[c97,ca 98,h,E]
def s94{n:Nat}(G:198<n)(t:Tr.Tree)(E:Bt t)(i to:Int)(s:au)(hs:s.length<=9223372036854775807)(z:t.ek<4398046511104)
  (A:∀q,find t.nodes i=some q->Bt (iP t {q with links:=q.links+1}))
  (hk:∀q,find t.nodes i=some q->-4398046511104<=q.links/\q.links<=4398046511104) :
  (en.cz n).p 94 [Tv t,I i,I to,.str s]=some (.jg [Tv (Tr.ln j4 gr t i to s).1,I (Tr.ln j4 gr t i to s).2]):=by
 rw[pp 94 rfl G rfl,b8,b6];have b:=pT (n:=198) ah t E i
 have r:=abQ (n:=198) ah t E to s hs
 unfold Tr.ln;unfold lq at b;cases x:find t.nodes i with
 |none =>
  rw[x]at b;simp only[bS,Tv,Nd]at b;simp(disch:=omega)[TI,ca 100,b]
 |some q =>
  have o:=E4 (m:=198) ah t E {q with links:=q.links+1}
  have y:=E7 (m:=198) ah (iP t {q with links:=q.links+1}) (A q x) to s i z
  have H:=hk q x;rw[x]at b;simp only[bC]at b;generalize enter j4 t to s=c at *
  dsimp only;obtain⟨v,F⟩:∃v,v=iP t {q with links:=q.links+1}:=⟨_,rfl⟩
  rw[<-F]at o y⊢;generalize iY gr v to s i=u at *
  simp only[Tv,Nd]at b o y r
  by_cases l:q.kind=1
  .by_cases h : q.links = 0
   .simp(disch:=omega)[TI,ca 100,b,l,h]
   .rw[l]at o
    by_cases c3:c=0
    .simp(disch:=omega)[TI,ca 100,b,l,h,ca 146,r,c3,ca 148,o,ca 147,y]
    .simp(disch:=omega)[TI,ca 100,b,l,h,ca 146,r,c3]
  .by_cases h : q.kind = 2
   .simp(disch:=omega)[TI,ca 100,b,h]
   .by_cases c3:c=0
    .simp(disch:=omega)[TI,ca 100,b,l,h,ca 146,r,c3,ca 148,o,ca 147,y]
    .simp(disch:=omega)[TI,ca 100,b,l,h,ca 146,r,c3]
def s96{n:Nat}(O:218<n)(t:Tr.Tree)(r:Bt t)(i:Int)(s:au)(hs:s.length<=9223372036854775807)(kind:Int)(F:t.ek<4398046511104)
  (K:t.next<1099511627776->t.nodes.length<200->Bt (nC t kind (if kind=2 then i else 0))) :
  (en.cz n).p 96 [Tv t,I i,.str s,I kind]=some (.jg [Tv (Tr.add j4 gr t i s kind).1,I (Tr.add j4 gr t i s kind).2.1,I (Tr.add j4 gr t i s kind).2.2]):=by
 rw[pp 96 rfl O rfl,b8,b6];have b:=abQ (n:=218) ah t r i s hs
 have hl:=r.len;have N:=r.Qz;have M:=r.nx;unfold Tr.add;generalize enter j4 t i s=c at *
 by_cases L:kind≠1/\kind≠2
 .rw[if_pos L];let⟨q,o⟩:=L;simp(disch:=omega)[PR,q,o]
 .rw[if_neg L]
  by_cases l:c=0
  .rw[if_neg (show ¬(c≠0)from λh=>h l)]
   simp only[Tv]at b
   by_cases c3:200<=t.nodes.length
   .rw[if_pos (show 200<=t.nodes.length\/1099511627776<=t.next from .inl c3)]
    by_cases o:kind=2
    .simp(disch:=omega)[PR,o,ca 146,b,l]
    .have q:kind=1:=by omega
     simp(disch:=omega)[PR,q,ca 146,b,l]
   .by_cases c4 : 1099511627776 <= t.next
    .rw[if_pos (show 200<=t.nodes.length\/1099511627776<=t.next from .inr c4)]
     by_cases o:kind=2
     .simp(disch:=omega)[PR,o,ca 146,b,l,c4]
     .have q:kind=1:=by omega
      simp(disch:=omega)[PR,q,ca 146,b,l,c4]
    .rw[if_neg (show ¬(200<=t.nodes.length\/1099511627776<=t.next) by omega)]
     have H:=K af af
     have G:Bt ⟨t.fn,t.nodes,t.next+1,t.ek⟩:=⟨r.len,r.b7,r.ON,r.ck,by simp only;omega,by simp only;omega⟩
     have x:=E4 (m:=218) ah ⟨t.fn,t.nodes,t.next+1,t.ek⟩ G (qY t kind (if kind=2 then i else 0))
     have y:=E7 (m:=218) ah (nC t kind (if kind=2 then i else 0)) H i s t.next F
     obtain⟨v,E⟩:∃v,v=nC t kind (if kind=2 then i else 0):=⟨_,rfl⟩
     have A:iP ⟨t.fn,t.nodes,t.next+1,t.ek⟩ (qY t kind (if kind=2 then i else 0))=v:=E.symm
     have z:iP ⟨t.fn,t.nodes,t.next+1,t.ek⟩ ⟨t.next,kind,1,true,[],true,[],if kind=2 then i else 0⟩=v:=E.symm
     rw[z];rw[A]at x;rw[<-E]at y;generalize iY gr v i s t.next=u at *
     simp only[Tv,Nd,qY,aN]at x y
     by_cases o:kind=2
     .subst o;simp only[if_true]at x;simp(disch:=omega)[PR,ca 146,b,l,c4,x,y]
     .have q:kind=1:=by omega
      subst q;simp only[show ¬((1:Int)=2) by omega,if_false]at x
      simp(disch:=omega)[PR,ca 146,b,l,c4,x,y]
  .rw[if_pos (show c≠0 from l)]
   simp only[Tv]at b
   by_cases o:kind=2
   .simp(disch:=omega)[PR,o,ca 146,b,l]
   .have q:kind=1:=by omega
    simp(disch:=omega)[PR,q,ca 146,b,l]
def abN{n:Nat}(r:223<n)(t:Tr.Tree)(o:Bt t)(x:Tr.Node)(y:Int):(en.cz n).p 156 [Tv t,Nd x,I y]=some (I (Tr.kT t x y)):=by
 rw[pp 156 rfl r rfl,b8,b6];have b:=pT (n:=223) ah t o y
 unfold Tr.kT;unfold lq at b;cases l:find t.nodes y with
 |none =>
  rw[l]at b;simp only[bS,Tv,Nd]at b;simp(disch:=omega)[GD,ca 100,b]
 |some q =>
  have v:=o.b7 _ (fk l).1;rw[l]at b;simp only[bC,Tv,Nd]at b
  by_cases i:x.kind=2
  .by_cases h : q.kind = 2
   .by_cases c3:0<q.b7.length
    .simp(disch:=omega)[GD,ca 100,b,i,h,c3]
    .simp(disch:=omega)[GD,ca 100,b,i,h,c3]
   .simp(disch:=omega)[GD,ca 100,b,i,h]
  .by_cases h : q.kind = 2
   .simp(disch:=omega)[GD,ca 100,b,i,h]
   .by_cases c3:0<q.b7.length
    .simp(disch:=omega)[GD,ca 100,b,i,h,c3]
    .simp(disch:=omega)[GD,ca 100,b,i,h,c3]
def JB(t:Tr.Tree):∀(k:Nat)(i:Int),tj t k i<=k
 |0,i=>by simp[tj]
 |k+1,i=>by
  simp only[tj];split
  .omega
  .have:=JB t k (BT t i);omega
def wL(t:Tr.Tree)(i:Int):depth t i<=201:=JB t 201 i
def hg(t:Tr.Tree)(i at_:Int)(m:Int)(n:Tr.Node):Int:=if n.kind=2/\below t n.ino i=true then max m (at_+depth t n.ino-depth t i+if 0<n.b7.length then 1 else 0)else m
def ajA{n:Nat}(L:224<=n)(t:Tr.Tree)(r:Bt t)(i at_:Int)(K:0<=at_)(H:at_<=1000)(e0:Env)(h3:e0 3 = .iV [.b9 false (t.nodes.map Nd),.int .i64 t.next,.int .i64 t.ek])(h1:e0 1=I i)(h2:e0 2=I at_)(h8:e0 8=I (depth t i)):
  iter (round (en.cz n) [7,9] [(.exit 0,[7])] qE e0 0 []) ([.int .i64 0,.int .i64 0],[])=some (.exit 0,[.int .i64 (t.nodes.foldl (hg t i at_) 0)],[]):=by
 have := kN (f := round (en.cz n) [7, 9] [(.exit 0, [7])] qE e0 0 []) (λk (m : Int) => ([.int .i64 m, .int .i64 (k : Int)], [])) t.nodes (hg t i at_) (λm => (.exit 0, [.int .i64 m], [])) (λ_ m => 0 <= m /\ m <= 2000)
  (λk hk m E=>by
   have hl:=r.len;have G:=wL t i;obtain⟨q,l⟩:∃q,q=t.nodes[k]:=⟨_,rfl⟩;have A:q.b7.length<=1000:=by rw[l];exact r.b7 _ (aP hk)
   have o:=UI (n:=n) af t r q.ino i
   have v:=Mu (n:=n) af t r q.ino
   have F:=wL t q.ino;rw[<-l];simp only[Tv]at o v;unfold hg;generalize depth t q.ino=x at *
   generalize depth t i=y at *
   by_cases h:q.kind=2
   .cases z:below t q.ino i with
    |true =>
     rw[z]at o
     by_cases c3:0<q.b7.length
     .refine⟨by simp only[h,c3,and_self,if_true];omega,?_⟩
      have b:=Int.le_total (at_+(x:Int)-y+1) m
      rcases b with b | b
      .rw[if_pos ⟨h,rfl⟩,if_pos c3,Int.max_eq_left b];simp(disch:=omega)[round_eq,qE,h3,h1,h2,h8,<-l,h,ca 155,o,ca 157,v,c3]
      .rw[if_pos ⟨h,rfl⟩,if_pos c3,Int.max_eq_right b];simp(disch:=omega)[round_eq,qE,h3,h1,h2,h8,<-l,h,ca 155,o,ca 157,v,c3]
     .refine⟨by simp only[h,c3,and_self,if_true,if_false];omega,?_⟩
      have b:=Int.le_total (at_+(x:Int)-y) m
      rcases b with b | b
      .rw[if_pos ⟨h,rfl⟩,if_neg c3,Int.add_zero,Int.max_eq_left b];simp(disch:=omega)[round_eq,qE,h3,h1,h2,h8,<-l,h,ca 155,o,ca 157,v,c3]
      .rw[if_pos ⟨h,rfl⟩,if_neg c3,Int.add_zero,Int.max_eq_right b];simp(disch:=omega)[round_eq,qE,h3,h1,h2,h8,<-l,h,ca 155,o,ca 157,v,c3]
    |false =>
     rw[z]at o;refine⟨ak,?_⟩
     simp(disch:=omega)[round_eq,qE,h3,h1,<-l,h,ca 155,o]
   .refine⟨by simp[h];omega,?_⟩
    simp(disch:=omega)[round_eq,qE,h3,<-l,h])
  (λm E=>by have hl:=r.len;simp(disch:=omega)[round_eq,qE,h3]) 0 af
 simpa using this
def abM{n:Nat}(r:224<n)(t:Tr.Tree)(o:Bt t)(i at_:Int)(l:0<=at_)(b:at_<=1000):(en.cz n).p 158 [Tv t,I i,I at_]=some (I (high t i at_)):=by
 rw[pp 158 rfl r rfl,b8,b6];have h:=ajA (n:=224) ah t o i at_ l b
 have q:=Mu (n:=224) ah t o i
 have e:high t i at_=t.nodes.foldl (hg t i at_) 0:=rfl;rw[e];simp only[Tv]at q;simp(disch:=omega)[afJ,ca 157,q];rw[h _ aq aq aq aq]
 simp(disch:=omega)
end Go.Proofs.YtghgbehknhmnaaaGreatDoor
