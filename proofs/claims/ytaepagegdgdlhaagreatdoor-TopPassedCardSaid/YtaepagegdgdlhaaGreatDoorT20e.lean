/- Part of the proof that TopPassedCard holds. -/
import Derived.Test.YtaepagegdgdlhaaGreatDoorRs20
set_option linter.all false
namespace Go.Proofs.YtaepagegdgdlhaaGreatDoor.T
open Go.Am Go.Tr
def Qz(t:Tr.Tree)(i:Int):(find t.nodes i=none/\GM t i=0)\/∃q,find t.nodes i=some q/\GM t i=q.up:=by
 cases h:find t.nodes i with
 |none=>exact .inl ⟨rfl,by unfold GM;rw[h];rfl⟩
 |some q=>exact .inr ⟨q,rfl,u6 h⟩
def ajJ{n:Nat}(hn:176<n)(t:Tr.Tree)(hb:Bt t)(e0:Env)(h2:e0 2 = .kE [.jB t.fn (t.nodes.map Nd),.int .i64 t.next,.int .i64 t.jC]):∀(k:Nat)(i:Int)(d:Nat),d+k=201->
  iter (round (jJ.jG n) [1,5] [(.exit 0,[5])] O8 e0 0 []) ([.int .i64 i,.int .i64 (d:Int)],[])=some (.exit 0,[.int .i64 ((d+xz t k i:Nat):Int)],[])
 |0,i,d,hd=>by
  have hd':d=201:=aa
  subst hd';rw[iter_eq]
  by_cases h1:i=1
  .subst h1;simp[round_eq,y9,xz]
  .simp[round_eq,y9,h1,xz]
 |k+1,i,d,hd=>by
  rw[iter_eq]
  by_cases h1:i=1
  .subst h1;simp(disch:=omega)[round_eq,y9,xz]
  .have hG:=wN (n:=n) hn t hb i;have ih:=ajJ hn t hb e0 h2 k (GM t i) (d+1) aa
   have e:d+1+xz t k (GM t i)=d+xz t (k+1) i:=by simp only[xz];rw[if_neg h1];omega
   rw[e]at ih;have vu:d<=200:=aa
   have hc:((d+1:Nat):Int)=(d:Int)+1:=aa
   rw[hc]at ih;simp only[Tv,mB]at hG
   rcases Qz t i with⟨hf,hu⟩ | ⟨q,hf,hu⟩
   .rw[hf]at hG;rw[hu]at ih;simp only[cK,Nd,mq,bQ]at hG;generalize d+xz t (k+1) i=r at *
    simp(disch:=omega)[round_eq,y9,h2,h1,ca 110,hG];exact ih
   .rw[hf]at hG;rw[hu]at ih;simp only[bw,Nd]at hG;generalize d+xz t (k+1) i=r at *
    simp(disch:=omega)[round_eq,y9,h2,h1,ca 110,hG];exact ih
def UC{n:Nat}(hn:205<n)(t:Tr.Tree)(hb:Bt t)(i:Int):(jJ.jG n).p 246 [Tv t,I i]=some (I (depth t i)):=by
 rw[pp 246 rfl hn rfl,jA,jy];have h:=λe0 h2=>ajJ (n:=205) af t hb e0 h2 201 i 0 rfl
 simp only[bE,cW]at h;unfold depth;simp[al2];rw[h _ rfl];simp
def Pe(t:Tr.Tree):Nat->Int->Int->Option Bool
 |0,_,_=>none
 |k+1,i,o=>if i=o then some true else if i=1 then some false else Pe t k (GM t i) o
def RB(t:Tr.Tree)(o:Int):∀(k:Nat)(i:Int),(Pe t k i o).getD false=Fj t k i o
 |0,i=>rfl
 |k+1,i=>by
  simp only[Pe,Fj];split
  .rfl
  .split
   .rfl
   .exact RB t o k _
def ajK{n:Nat}(hn:176<n)(t:Tr.Tree)(hb:Bt t)(o:Int)(e0:Env)(h3:e0 3 = .kE [.jB t.fn (t.nodes.map Nd),.int .i64 t.next,.int .i64 t.jC])(h2:e0 2=I o):∀(k:Nat)(i:Int)(j:Nat),j+k=t.nodes.length+1->
  iter (round (jJ.jG n) [1,7] [(.exit 0,[]),(.ret,[6])] O9 e0 0 []) ([.int .i64 i,.int .i64 (j:Int)],[])=some ((Pe t k i o).elim (.exit 0,[],[]) λb=>(.ret,[.bool b],[]))
 |0,i,j,hj=>by
  have hl:=hb.len;rw[iter_eq];simp(disch:=omega)[round_eq,za,h3,Pe]
 |k+1,i,j,hj=>by
  have hl:=hb.len;have hjl:j<=t.nodes.length:=aa
  rw[iter_eq];simp only[Pe]
  by_cases h1:i=o
  .simp(disch:=omega)[round_eq,za,h2,h3,h1]
  .by_cases h4 : i = 1
   .simp(disch:=omega)[round_eq,za,h2,h3,h4]
   .have hG:=wN (n:=n) hn t hb i;have ih:=ajK hn t hb o e0 h3 h2 k (GM t i) (j+1) aa
    have hc:((j+1:Nat):Int)=(j:Int)+1:=aa
    rw[hc]at ih;rw[if_neg h1,if_neg h4];simp only[Tv,mB]at hG
    rcases Qz t i with⟨hf,hu⟩ | ⟨q,hf,hu⟩
    .rw[hf]at hG;rw[hu]at ih⊢;simp only[cK,Nd,mq,bQ]at hG;rw[<-ih];simp(disch:=omega)[round_eq,za,h2,h3,h1,h4,ca 110,hG]
    .rw[hf]at hG;rw[hu]at ih⊢;simp only[bw,Nd]at hG;rw[<-ih];simp(disch:=omega)[round_eq,za,h2,h3,h1,h4,ca 110,hG]
def acV{n:Nat}(hn:219<n)(t:Tr.Tree)(hb:Bt t)(i o:Int):(jJ.jG n).p 244 [Tv t,I i,I o]=some (.bool (below t i o)):=by
 rw[pp 244 rfl hn rfl,jA,jy];have h:=λe0 h2 h3=>ajK (n:=219) af t hb o e0 h2 h3 (t.nodes.length+1) i 0 aa
 simp only[cW]at h;unfold below;rw[<-RB];simp[al3];rw[h _ rfl rfl];cases Pe t (t.nodes.length+1) i o with
 |none=>simp
 |some b=>simp
def anS{n:Nat}(hn:206<n)(t:Tr.Tree)(hb:Bt t)(q:Tr.Node)(hq:q.jF.length<=1000):(jJ.jG n).p 274 [Tv t,Nd q]=some (.bool (full t q)):=by
 rw[pp 274 rfl hn rfl,jA,jy];have h:=UC (n:=206) af t hb q.ino
 simp only[Tv]at h;unfold full
 by_cases c1:64<=q.jF.length
 .simp(disch:=omega)[XL,c1]
 .by_cases c2 : 12 <= depth t q.ino
  .simp(disch:=omega)[XL,c1,ca 246,h,c2]
  .by_cases c3:1099511627776<=t.jC
   .simp[XL,c1,ca 246,h,c2,c3]
   .simp(disch:=omega)[XL,c1,ca 246,h,c2,c3]
open Go.Am Go.Tr
def wg(n:Tr.Node)(s:List Tr.Node×Bool)(m:Tr.Node):List Tr.Node×Bool :=
 if s.2=false/\n.ino<=m.ino then((s.1++[n])++(if m.ino≠n.ino then[m]else[]),true)else(s.1++(if m.ino≠n.ino then[m]else[]),s.2)
def YY(n:Tr.Node)(s:List Tr.Node×Bool):List Tr.Node:=if s.2=false then s.1++[n]else s.1
def Pq(n:Tr.Node):∀(l a:List Tr.Node),l.foldl (wg n) (a,true)=(a++l.filter (λm=>decide (m.ino≠n.ino)),true)
 | [],a=>ah
 |m::l,a=>by
  rw[aT];have e:wg n (a,true) m=(a++(if m.ino≠n.ino then[m]else[]),true):=by unfold wg;simp
  rw[e,Pq n l,dD]
  by_cases h:m.ino=n.ino<;>simp[h]
def T9(n:Tr.Node):∀(l a:List Tr.Node),YY n (l.foldl (wg n) (a,false))=a++ins n l
 | [],a=>by simp[YY,ins]
 |m::l,a=>by
  rw[aT]
  by_cases h:n.ino<=m.ino
  .have e:wg n (a,false) m=((a++[n])++(if m.ino≠n.ino then[m]else[]),true):=by unfold wg;simp[h]
   rw[e,Pq];unfold YY ins;have h':¬m.ino<n.ino:=aa
   simp only[ir,fB,decide_eq_false h']
   by_cases h2:m.ino=n.ino<;>simp[h2]
  .have e:wg n (a,false) m=(a++[m],false):=by
    unfold wg;have:m.ino≠n.ino:=aa
    simp[h,this]
   rw[e,T9 n l];unfold ins;have h':m.ino<n.ino:=aa
   simp[h']
def ao8{Γ:kP}(t:Tr.Tree)(hb:Bt t)(n:Tr.Node)(e0:Env)(h2:e0 2 = .ptr 0 0 0 0)(h3:e0 3 = .kE [.int .i64 n.ino,.int .i64 n.kind,.int .i64 n.links,.jB n.fd (n.data.map B),.jB n.fe (n.jF.map En),.int .i64 n.up]):
  iter (round Γ [5,6,7] [(.exit 0,[5,6])] JO e0 3 [2]) ([.own 2 0 0 0,.bool false,.int .i64 0],[.var [.jB t.fn (t.nodes.map Nd),.int .i64 t.next,.int .i64 t.jC],.var [.jB true [],.int .i64 0,.int .i64 0],.row 0 6 []]) =
   some (.exit 0,[.own 2 0 0 (t.nodes.foldl (wg n) ([],false)).1.length,.bool (t.nodes.foldl (wg n) ([],false)).2],[.var [.jB t.fn (t.nodes.map Nd),.int .i64 t.next,.int .i64 t.jC],.var [.jB true [],.int .i64 0,.int .i64 0],.row 0 6 ((t.nodes.foldl (wg n) ([],false)).1.map Nd)]) :=
 jU (f := round Γ [5, 6, 7] [(.exit 0, [5, 6])] JO e0 3 [2]) (λi (s : List Tr.Node × Bool) => ([.own 2 0 0 s.1.length, .bool s.2, .int .i64 (i : Int)], [.var [.jB t.fn (t.nodes.map Nd), .int .i64 t.next, .int .i64 t.jC], .var [.jB true [], .int .i64 0, .int .i64 0], .row 0 6 (s.1.map Nd)])) t.nodes (wg n) (λs => (.exit 0, [.own 2 0 0 s.1.length, .bool s.2], [.var [.jB t.fn (t.nodes.map Nd), .int .i64 t.next, .int .i64 t.jC], .var [.jB true [], .int .i64 0, .int .i64 0], .row 0 6 (s.1.map Nd)])) (λi s => s.1.length <= 2 * i)
  (λi hi s hs=>by
   have hl:=hb.len;obtain⟨m,hm⟩:∃m,m=t.nodes[i]:=⟨_,rfl⟩;let⟨a,d⟩:=s;rw[<-hm];simp only at hs;unfold wg
   by_cases c1:n.ino<=m.ino
   .by_cases c2 : m.ino = n.ino
    .cases d with
     |false =>
      refine⟨by simp[c2];omega,?_⟩
      simp(disch:=omega)[round_eq,vP,h2,h3,<-hm,c2]
     |true =>
      refine⟨by simp[c2];omega,?_⟩
      simp(disch:=omega)[round_eq,vP,h2,h3,<-hm,c2]
    .cases d with
     |false =>
      refine⟨by simp[c1,c2];omega,?_⟩
      simp(disch:=omega)[round_eq,vP,h2,h3,<-hm,c1,c2]
     |true =>
      refine⟨by simp[c2];omega,?_⟩
      simp(disch:=omega)[round_eq,vP,h2,h3,<-hm,c1,c2]
   .have c2:¬m.ino=n.ino:=by omega
    cases d with
    |false =>
     refine⟨by simp[c1,c2];omega,?_⟩
     simp(disch:=omega)[round_eq,vP,h2,h3,<-hm,c1,c2]
    |true =>
     refine⟨by simp[c2];omega,?_⟩
     simp(disch:=omega)[round_eq,vP,h2,h3,<-hm,c1,c2])
  (λs hs=>by have hl:=hb.len;simp(disch:=omega)[round_eq,vP,h2]) ([],false) ah
def N1{m:Nat}(hn:208<m)(t:Tr.Tree)(hb:Bt t)(n:Tr.Node):(jJ.jG m).p 240 [Tv t,Nd n]=some (Tv (kG t n)):=by
 rw[pp 240 rfl hn rfl,jA,jy];have h:=ao8 (Γ:=jJ.jG 208) t hb n;have hf:=T9 n t.nodes [];have hl:=hb.len;rw[bB]at hf;unfold kG;rw[<-hf]
 have hlen:(t.nodes.foldl (wg n) ([],false)).1.length<=2*t.nodes.length:=by
  have key:∀(l:List Tr.Node)(s:List Tr.Node×Bool),(l.foldl (wg n) s).1.length<=s.1.length+2*l.length:=by
   intro l
   induction l with
   |nil=>intro s;simp
   |cons m l ih =>
    intro s;rw[aT];refine cQ (ih _) ?_;unfold wg;split<;>split<;>simp<;>omega
  have:=key t.nodes ([],false)
  simpa using this
 simp[al6];rw[h _ rfl rfl];generalize t.nodes.foldl (wg n) ([],false)=s at *
 let⟨a,d⟩:=s;unfold YY;simp only at hlen;cases d with
 |false=>simp(disch:=omega)
 |true=>simp
open Go.Am Go.Tr
def fold_filter{α:Type}(p:α->Bool):∀(l a:List α),l.foldl (λa x=>if p x=true then a++[x]else a) a=a++l.filter p
 | [],a=>ah
 |x::l,a=>by
  rw[aT,fold_filter p l,dD];cases h:p x<;>simp
def ao0{Γ:kP}(t:Tr.Tree)(hb:Bt t)(i:Int)(e0:Env)(h2:e0 2 = .ptr 0 0 0 0)(h1:e0 1=I i):
  iter (round Γ [5,6] [(.exit 0,[5])] JJ e0 3 [2]) ([.own 2 0 0 0,.int .i64 0],[.var [.jB t.fn (t.nodes.map Nd),.int .i64 t.next,.int .i64 t.jC],.var [.jB true [],.int .i64 0,.int .i64 0],.row 0 6 []]) =
   some (.exit 0,[.own 2 0 0 (t.nodes.filter λm=>decide (m.ino≠i)).length],[.var [.jB t.fn (t.nodes.map Nd),.int .i64 t.next,.int .i64 t.jC],.var [.jB true [],.int .i64 0,.int .i64 0],.row 0 6 ((t.nodes.filter λm=>decide (m.ino≠i)).map Nd)]):=by
 have:=jU (f:=round Γ [5,6] [(.exit 0,[5])] JJ e0 3 [2]) (λk (a:List Tr.Node)=>([.own 2 0 0 a.length,.int .i64 (k:Int)],[.var [.jB t.fn (t.nodes.map Nd),.int .i64 t.next,.int .i64 t.jC],.var [.jB true [],.int .i64 0,.int .i64 0],.row 0 6 (a.map Nd)])) t.nodes (λa x=>if decide (x.ino≠i)=true then a++[x]else a) (λa=>(.exit 0,[.own 2 0 0 a.length],[.var [.jB t.fn (t.nodes.map Nd),.int .i64 t.next,.int .i64 t.jC],.var [.jB true [],.int .i64 0,.int .i64 0],.row 0 6 (a.map Nd)])) (λk a=>a.length<=k)
  (λk hk a ha=>by
   have hl:=hb.len;obtain⟨m,hm⟩:∃m,m=t.nodes[k]:=⟨_,rfl⟩;rw[<-hm]
   by_cases c:m.ino=i
   .refine⟨by simp[c];omega,?_⟩
    simp(disch:=omega)[round_eq,Fp,h2,h1,<-hm,c]
   .refine⟨by simp[c];omega,?_⟩
    simp(disch:=omega)[round_eq,Fp,h2,h1,<-hm,c])
  (λs hs=>by have hl:=hb.len;simp(disch:=omega)[round_eq,Fp,h2]) [] ah
 rw[fold_filter,bB]at this
 simpa using this
def aio{m:Nat}(hn:211<m)(t:Tr.Tree)(hb:Bt t)(i:Int):(jJ.jG m).p 276 [Tv t,I i]=some (Tv (oC t i)):=by
 rw[pp 276 rfl hn rfl,jA,jy];have h:=ao0 (Γ:=jJ.jG 211) t hb i;have hl:=hb.len;unfold oC;have hlen:=cr (λm:Tr.Node=>decide (m.ino≠i)) t.nodes
 generalize(t.nodes.filter λm=>decide (m.ino≠i))=r at *
 simp[alY];rw[h _ rfl rfl];simp
abbrev vN(q:Tr.Node):AB:=.var [.int .i64 q.ino,.int .i64 q.kind,.int .i64 q.links,.jB q.fd (q.data.map B),.jB q.fe (q.jF.map En),.int .i64 q.up]
def ao7{Γ:kP}(q:Tr.Node)(hq:q.jF.length<=1000)(s:au)(e0:Env)(h7:e0 7 = .ptr 1 0 0 0)(h2:e0 2 = .str s):
  iter (round Γ [9,10] [(.exit 0,[9])] JM e0 3 [2]) ([.own 2 0 0 0,.int .i64 0],[.var [.jB true [],.int .i64 0,.int .i64 0],vN q,.row 0 3 []]) =
   some (.exit 0,[.own 2 0 0 (q.jF.filter λe=>decide (e.name≠s)).length],[.var [.jB true [],.int .i64 0,.int .i64 0],vN q,.row 0 3 ((q.jF.filter λe=>decide (e.name≠s)).map En)]):=by
 have:=jU (f:=round Γ [9,10] [(.exit 0,[9])] JM e0 3 [2]) (λk (a:List Tr.Ent)=>([.own 2 0 0 a.length,.int .i64 (k:Int)],[.var [.jB true [],.int .i64 0,.int .i64 0],vN q,.row 0 3 (a.map En)])) q.jF (λa x=>if decide (x.name≠s)=true then a++[x]else a) (λa=>(.exit 0,[.own 2 0 0 a.length],[.var [.jB true [],.int .i64 0,.int .i64 0],vN q,.row 0 3 (a.map En)])) (λk a=>a.length<=k)
  (λk hk a ha=>by
   obtain⟨m,hm⟩:∃m,m=q.jF[k]:=⟨_,rfl⟩;rw[<-hm]
   by_cases c:m.name=s
   .refine⟨by simp[c];omega,?_⟩
    simp(disch:=omega)[round_eq,Fs,h7,h2,<-hm,c]
   .refine⟨by simp[c];omega,?_⟩
    simp(disch:=omega)[round_eq,Fs,h7,h2,<-hm,c])
  (λs hs=>by simp(disch:=omega)[round_eq,Fs,h7]) [] ah
 rw[fold_filter,bB]at this
 simpa using this
def sX(t:Tr.Tree)(i:Int):∃b,mB (find t.nodes i) = .kT [Nd (kI t i),.bool b]/\(kI t i=mq\/kI t i∈t.nodes):=by
 unfold kI mB;cases h:find t.nodes i with
 |none=>exact⟨false,rfl,.inl rfl⟩
 |some q=>exact⟨true,rfl,.inr (jY h).1⟩
def Zf{m:Nat}(hn:217<m)(t:Tr.Tree)(hb:Bt t)(i:Int)(s:au):(jJ.jG m).p 243 [Tv t,I i,.str s]=some (Tv (left t i s)):=by
 rw[pp 243 rfl hn rfl,jA,jy];have hl:=hb.len;have hG:=wN (n:=217) af t hb i
 let⟨b,hv,hz⟩:=sX t i;rw[hv]at hG
 have hq:(kI t i).jF.length<=1000:=by
  rcases hz with h | h
  .rw[h];simp[mq]
  .exact hb.jF _ h
 unfold left;generalize kI t i=q at *
 have h:=ao7 (Γ:=jJ.jG 217) q hq s;have hw:=N1 (m:=217) af t hb {q with fe:=false,jF:=q.jF.filter λe=>decide (e.name≠s)}
 have hlen:=cr (λe:Tr.Ent=>decide (e.name≠s)) q.jF
 generalize(q.jF.filter λe=>decide (e.name≠s))=r at *
 simp only[Tv,Nd]at hG hw;simp[al4,ca 110,hG];rw[h _ rfl rfl];simp[ca 240,hw]
open Go.Am Go.Tr
def eg(e:Tr.Ent)(s:List Tr.Ent×Bool)(x:Tr.Ent):List Tr.Ent×Bool:=if s.2=false/\jP e.name x.name=true then((s.1++[e])++[x],true)else(s.1++[x],s.2)
def aaA(e:Tr.Ent)(s:List Tr.Ent×Bool):List Tr.Ent:=if s.2=false then s.1++[e]else s.1
def QL(e:Tr.Ent):∀(l a:List Tr.Ent),l.foldl (eg e) (a,true)=(a++l,true)
 | [],a=>ah
 |x::l,a=>by
  rw[aT];have h:eg e (a,true) x=(a++[x],true):=by unfold eg;simp
  rw[h,QL e l];simp
def Xr(e:Tr.Ent):∀(l a:List Tr.Ent),aaA e (l.foldl (eg e) (a,false))=a++wm jP e l
 | [],a=>by simp[aaA,wm]
 |x::l,a=>by
  rw[aT,Bk]
  by_cases h:jP e.name x.name=true
  .have h1:eg e (a,false) x=((a++[e])++[x],true):=by unfold eg;simp[h]
   rw[h1,QL,if_pos h];unfold aaA;simp
  .have h1:eg e (a,false) x=(a++[x],false):=by unfold eg;simp[h]
   rw[h1,Xr e l,if_neg h];simp
def ao9{Γ:kP}(q:Tr.Node)(hq:q.jF.length<=1000)(e:Tr.Ent)(T:List AV)(t:Tr.Tree)(hT:T=[.jB t.fn (t.nodes.map Nd),.int .i64 t.next,.int .i64 t.jC])(e0:Env)(h9:e0 9 = .ptr 2 0 0 0)(h11:e0 11 = .ptr 3 0 0 0)(h2:e0 2 = .str e.name):
  iter (round Γ [12,13,14] [(.exit 0,[12,13])] JP e0 5 [4]) ([.own 4 0 0 0,.bool false,.int .i64 0],[.var T,.var [.jB true [],.int .i64 0,.int .i64 0],vN q,.var [.str e.name,.int .i64 e.ino,.int .i64 e.jC],.row 0 3 []]) =
   some (.exit 0,[.own 4 0 0 (q.jF.foldl (eg e) ([],false)).1.length,.bool (q.jF.foldl (eg e) ([],false)).2],[.var T,.var [.jB true [],.int .i64 0,.int .i64 0],vN q,.var [.str e.name,.int .i64 e.ino,.int .i64 e.jC],.row 0 3 ((q.jF.foldl (eg e) ([],false)).1.map En)]):=by
 subst hT
 exact jU (f:=round Γ [12,13,14] [(.exit 0,[12,13])] JP e0 5 [4]) (λk (s:List Tr.Ent×Bool)=>([.own 4 0 0 s.1.length,.bool s.2,.int .i64 (k:Int)],[.var [.jB t.fn (t.nodes.map Nd),.int .i64 t.next,.int .i64 t.jC],.var [.jB true [],.int .i64 0,.int .i64 0],vN q,.var [.str e.name,.int .i64 e.ino,.int .i64 e.jC],.row 0 3 (s.1.map En)])) q.jF (eg e) (λs=>(.exit 0,[.own 4 0 0 s.1.length,.bool s.2],[.var [.jB t.fn (t.nodes.map Nd),.int .i64 t.next,.int .i64 t.jC],.var [.jB true [],.int .i64 0,.int .i64 0],vN q,.var [.str e.name,.int .i64 e.ino,.int .i64 e.jC],.row 0 3 (s.1.map En)])) (λk s=>s.1.length<=2*k)
  (λk hk s hs=>by
   obtain⟨x,hx⟩:∃x,x=q.jF[k]:=⟨_,rfl⟩;let⟨a,d⟩:=s;rw[<-hx];simp only at hs;unfold eg;cases d with
   |true =>
    refine⟨aj,?_⟩
    simp(disch:=omega)[round_eq,zb,h9,<-hx]
   |false =>
    rcases AJ e.name x.name with c | c | c
    .have c1:=DI c;have c2:¬x.name=e.name:=λh=>UB c h.symm
     refine⟨by simp[c];omega,?_⟩
     simp(disch:=omega)[round_eq,zb,h9,h11,h2,<-hx,c,c1,c2]
    .have c1:jP e.name x.name=false:=by rw[c];exact r9 _
     refine⟨by simp[c1];omega,?_⟩
     simp(disch:=omega)[round_eq,zb,h9,h2,<-hx,c,r9]
    .have c1:=DI c;refine⟨by simp[c1];omega,?_⟩
     simp(disch:=omega)[round_eq,zb,h9,h2,<-hx,c,c1])
  (λs hs=>by simp(disch:=omega)[round_eq,zb,h9]) ([],false) ah
def Lh{m:Nat}(hn:209<m)(t:Tr.Tree)(hb:Bt t)(i:Int)(s:au)(of:Int)(oV:t.jC<4398046511104):(jJ.jG m).p 239 [Tv t,I i,.str s,I of]=some (Tv (kJ jP t i s of)):=by
 rw[pp 239 rfl hn rfl,jA,jy];have hl:=hb.len;have akV:=hb.YT;have hG:=wN (n:=209) af t hb i
 let⟨b,hv,hz⟩:=sX t i;rw[hv]at hG
 have hq:(kI t i).jF.length<=1000:=by
  rcases hz with h | h
  .rw[h];simp[mq]
  .exact hb.jF _ h
 unfold kJ;generalize kI t i=q at *
 obtain⟨e,he⟩:∃e:Tr.Ent,e=⟨s,of,t.jC⟩:=⟨_,rfl⟩;have h:=ao9 (Γ:=jJ.jG 209) q hq e _ t rfl;have hf:=Xr e q.jF [];rw[bB]at hf
 have hlen:(q.jF.foldl (eg e) ([],false)).1.length<=2*q.jF.length:=by
  have key:∀(l:List Tr.Ent)(s:List Tr.Ent×Bool),(l.foldl (eg e) s).1.length<=s.1.length+2*l.length:=by
   intro l
   induction l with
   |nil=>intro s;simp
   |cons m l ih =>
    intro s;rw[aT];refine cQ (ih _) ?_;unfold eg;split<;>simp<;>omega
  have:=key q.jF ([],false)
  simpa using this
 have hb':Bt ⟨t.fn,t.nodes,t.next,t.jC+1⟩:=⟨hb.len,hb.jF,by simp only;omega,by simp only;omega,hb.nx0,hb.nx⟩
 have hw:=N1 (m:=209) af ⟨t.fn,t.nodes,t.next,t.jC+1⟩ hb' {q with fe:=false,jF:=wm jP e q.jF}
 subst he;rw[<-hf]at hw⊢;simp only[Tv,Nd]at hG hw h;simp(disch:=omega)[al7,ca 110,hG];rw[h _ aq aq aq]
 generalize q.jF.foldl (eg ⟨s,of,t.jC⟩) ([],false)=r at *
 let⟨a,d⟩:=r;unfold aaA at hw⊢;simp only at hlen;cases d with
 |true =>
  simp only[Bool.true_eq_false,if_false]at hw;simp(disch:=omega)[ca 240,hw]
 |false =>
  simp only[if_true,cZ,bF,bQ,En]at hw;simp(disch:=omega)[ca 240,hw]
def ais{m:Nat}(hn:216<m)(t:Tr.Tree)(hb:Bt t)(i:Int)(hk:∀q,find t.nodes i=some q->-4398046511104<=q.links/\q.links<=4398046511104):(jJ.jG m).p 242 [Tv t,I i]=some (Tv (unnamed t i)):=by
 rw[pp 242 rfl hn rfl,jA,jy];have hG:=wN (n:=216) af t hb i
 have hw:=aio (m:=216) af t hb i
 have hlk : -4398046511104<=(kI t i).links/\(kI t i).links<=4398046511104:=by
  unfold kI;cases hf:find t.nodes i with
  |none=>simp[mq]
  |some q=>exact hk q hf
 let⟨b,hv,hz⟩:=sX t i;rw[hv]at hG;unfold unnamed;generalize kI t i=q at *
 have OE:=N1 (m:=216) af t hb {q with links:=q.links-1}
 by_cases c:q.kind=2
 .rw[if_pos c];simp only[Tv,Nd]at hG hw;simp(disch:=omega)[afK,ca 110,hG,c,ca 276,hw]
 .rw[if_neg c];simp only[Tv,Nd]at hG OE;simp(disch:=omega)[afK,ca 110,hG,c,ca 240,OE]
open Go.Am Go.Tr
variable{n:Nat}
def UE(hn:10<n)(x:Int):(jJ.jG n).p 139 [I x]=some (.bool false):=by
 rw[pp 139 rfl hn rfl,jA,jy];simp[afT]
def GF(x y:Int):Int:=if x<y then -1 else if y<x then 1 else 0
def s91(hn:11<n)(x y:Int):(jJ.jG n).p 91 [I x,I y]=some (I (GF x y)):=by
 rw[pp 91 rfl hn rfl,jA,jy];have h1:=UE (n:=11) af x
 have h2:=UE (n:=11) af y
 unfold GF
 by_cases c1:x<y
 .simp[c91,ca 139,h1,h2,c1]
 .by_cases c2:y<x
  .simp[c91,ca 139,h1,h2,c1,c2]
  .simp[c91,ca 139,h1,h2,c1,c2]
def acU(hn:46<n)(q:Tr.Node)(i:Int):(jJ.jG n).p 269 [Nd q,I i]=some (I (GF q.ino i)):=by
 rw[pp 269 rfl hn rfl,jA,jy];have h:=s91 (n:=46) af q.ino i
 simp[alZ,ca 91,h]
def aaM(x y:Int):GF x y<0↔x<y:=by
 unfold GF;split
 .simp_all
 .split<;>simp_all
def QX(x y:Int):GF x y=0↔x=y:=by
 unfold GF;split
 .constructor<;>intro h<;>omega
 .split
  .constructor<;>intro h<;>omega
  .constructor<;>intro h<;>omega
def ao1(hn:46<n)(t:Tr.Tree)(hs:ym t.nodes)(hl:t.nodes.length<=1000)(i:Int)(e0:Env)(h0:e0 0 = .jB t.fn (t.nodes.map Nd))(h1:e0 1=I i)(h2:e0 2 = .fn (.func 269) [] [])(X:AH)(hX:X.all lE=true):
  iter (round (jJ.jG n) [9,10] [(.exit 0,[9])] JK e0 X.length []) ([.int .i64 0,.int .i64 t.nodes.length],X)=some (.exit 0,[.int .i64 (tj t.nodes i:Nat)],X) :=
 EM (f:=round (jJ.jG n) [9,10] [(.exit 0,[9])] JK e0 X.length []) (λi j=>([.int .i64 (i:Int),.int .i64 (j:Int)],X)) t.nodes.length (tj t.nodes i) (JD _ _) (λc=>(.exit 0,[.int .i64 (c:Int)],X))
  (λa j haj hj=>by
   have hh:=ak0 (i:=a) (j:=j);obtain⟨m,Z9⟩:∃m,m=(a+j) / 2:=⟨_,rfl⟩;rw[<-Z9]at hh⊢;have hm:m<t.nodes.length:=aa
   have hlt:=Ao hs i hm;obtain⟨x,hx⟩:∃x,x=t.nodes[m]:=⟨_,rfl⟩;rw[<-hx]at hlt;have hc:=acU (n:=n) hn x i;have S7:=aaM x.ino i;simp only[Nd]at hc;generalize GF x.ino i=ci at *
   by_cases h:m<tj t.nodes i
   .have CN:ci<0:=S7.2 (hlt.1 h);simp(disch:=omega)[round_eq,Fq,h0,h1,h2,wrap_u64,hh,<-hx,ca 269,hc,h,CN,kH _ _ X _ hX]
   .have CN:¬ci<0:=λh'=>h (hlt.2 (S7.1 h'))
    simp(disch:=omega)[round_eq,Fq,h0,h1,h2,wrap_u64,hh,<-hx,ca 269,hc,h,CN,kH _ _ X _ hX])
  (λa ha=>by simp(disch:=omega)[round_eq,Fq]) _ 0 t.nodes.length rfl (cH _) (JD _ _) (aN _)
def anT(hn:47<n)(t:Tr.Tree)(hs:ym t.nodes)(hl:t.nodes.length<=1000)(i:Int)(X:AH)(hX:X.all lE=true):
  jM (jJ.jG n) 268 [.jB t.fn (t.nodes.map Nd),I i,.fn (.func 269) [] []] X=some (.kT [I (tj t.nodes i:Nat),.bool (find t.nodes i).isSome],X):=by
 rw[ph 268 rfl hn rfl,jy];have h1:=λe0 h0 h1 h2=>ao1 (n:=47) af t hs hl i e0 h0 h1 h2 X hX
 have hf:=HR hs i;simp(disch:=omega)[al0,kH _ _ X _ hX];rw[h1 _ aq aq aq]
 generalize tj t.nodes i=c at *
 rcases hf with⟨hc,hi,hf⟩ | ⟨hf,hi⟩
 .rw[hf];obtain⟨x,hx⟩:∃x,x=t.nodes[c]:=⟨_,rfl⟩;have hg:=acU (n:=47) af x i
  have S7:=(QX x.ino i).2 (by rw[hx];exact hi)
  rw[S7]at hg;simp only[Nd]at hg;simp(disch:=omega)[<-hx,ca 269,hg]
 .rw[hf]
  by_cases hc:c<t.nodes.length
  .obtain⟨x,hx⟩:∃x,x=t.nodes[c]:=⟨_,rfl⟩;have hg:=acU (n:=47) af x i
   have S7:¬GF x.ino i=0:=λh=>hi hc (by rw[<-hx];exact(QX x.ino i).1 h)
   generalize GF x.ino i=ci at *
   simp only[Nd]at hg;simp(disch:=omega)[<-hx,ca 269,hg,S7]
  .simp(disch:=omega)
def anW(hn:48<n)(t:Tr.Tree)(hs:ym t.nodes)(hl:t.nodes.length<=1000)(i:Int)(X:AH)(hX:X.all lE=true)(k:Nat)(hk:X[k]? = some (.var [.jB t.fn (t.nodes.map Nd),.int .i64 t.next,.int .i64 t.jC])):
  jM (jJ.jG n) 225 [.ptr k 0 0 0,I i] X=some (.kT [I (tj t.nodes i:Nat),.bool (find t.nodes i).isSome],X):=by
 rw[ph 225 rfl hn rfl,jy];have hb:=anT (n:=48) af t hs hl i X hX
 simp[al9,hk,hb]
def agd{t:Tr.Tree}(hs:ym t.nodes)(i:Int):(∃q,find t.nodes i=some q/\tj t.nodes i<t.nodes.length/\t.nodes[tj t.nodes i]? = some q)\/find t.nodes i=none:=by
 rcases HR hs i with⟨h,_,hf⟩ | ⟨hf,_⟩
 .exact .inl ⟨_,hf,h,aG h⟩
 .exact .inr hf
def ac2(hn:50<n)(t:Tr.Tree)(hs:ym t.nodes)(hl:t.nodes.length<=1000)(i:Int):(jJ.jG n).p 103 [Tv t,I i]=some (mB (find t.nodes i)):=by
 rw[pp 103 rfl hn rfl,jA,jy];have hA:=anW (n:=49) af t hs hl i [.var [.int .i64 0,.int .i64 0,.int .i64 0,.jB true [],.jB true [],.int .i64 0],.var [.jB t.fn (t.nodes.map Nd),.int .i64 t.next,.int .i64 t.jC],.var [.int .i64 0,.int .i64 0,.int .i64 0,.jB true [],.jB true [],.int .i64 0]] rfl 1 rfl
 have hb:=aoI (n:=50) af
 unfold mB
 rcases agd hs i with⟨q,hf,hc,hq⟩ | hf
 .rw[hf]at hA⊢;generalize tj t.nodes i=c at *
  have YD:q=t.nodes[c]:=by rw[aG hc]at hq;exact(cu hq).symm
  simp(disch:=omega)[af7,hb,jy,aa1,hA,<-YD]
 .rw[hf]at hA⊢;generalize tj t.nodes i=c at *
  simp(disch:=omega)[af7,hb,jy,aa1,hA,mq]
end Go.Proofs.YtaepagegdgdlhaaGreatDoor.T
