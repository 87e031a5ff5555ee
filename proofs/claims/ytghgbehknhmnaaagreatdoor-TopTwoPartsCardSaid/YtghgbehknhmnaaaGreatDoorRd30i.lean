/- Part of the proof that TopTwoPartsCard holds. -/
import Derived.Test.YtghgbehknhmnaaaGreatDoorHi30f
set_option linter.all false
namespace Go.Proofs.YtghgbehknhmnaaaGreatDoor
open Go.Am Go.Tr Go.Am.Nm Go.Lib
section
variable{t:Tr.Tree}{l:List Qu}
def VL(w:lM t)(hl:l.length<=1000){j:Nat}(F:j<t.nodes.length)(q:Tr.Node)(E:q.b7.length<=64)(v:Int)(e0:Env)(h1:e0 1 = .b9 false (l.map Qv))(h2:e0 2 = .iV (Tb t))(h5:e0 5=I (j:Int))(h8:e0 8 = .ptr 0 0 0 0):
  ∃y,((∃v,y=(AX.exit 4,[I v],[AB.var (Nc q)]))\/∃H,y=(AX.ret,[AV.bool false],H))/\iter (round (en.cz 210) [6,9] [(.exit 4,[6]),(.ret,[4])] tH e0 1 []) ([I v,I 0],[.var (Nc q)])=some y :=
 iQ (f:=round (en.cz 210) [6,9] [(.exit 4,[6]),(.ret,[4])] tH e0 1 []) q.b7.length (λi (v:Int)=>([I v,I (i:Int)],[AB.var (Nc q)])) (λy=>(∃v,y=(AX.exit 4,[I v],[AB.var (Nc q)]))\/∃H,y=(AX.ret,[AV.bool false],H)) (λ_ _=>True)
  (λi v G _=>by
   obtain⟨e,h⟩:∃e,e=q.b7[i]:=⟨_,rfl⟩;obtain⟨p,b⟩:∃p,p=t.nodes[j]:=⟨_,rfl⟩;have A:=(nc w).len;obtain⟨r,o⟩:=ahn (n:=210) ah t w l hl q.ino
   simp only[Tv]at o
   by_cases x:e.ino=p.ino
   case neg=>exact .inl ⟨v,trivial,by simp(disch:=omega)[round_eq,tH,h2,h5,h8,<-h,<-b,x]⟩
   by_cases z:0<=v
   case neg=>exact .inl ⟨r,trivial,by simp(disch:=omega)[round_eq,tH,h1,h2,h5,h8,<-h,<-b,x,z,ca 273,o]⟩
   by_cases c3:r=v
   .exact .inl ⟨r,trivial,by simp(disch:=omega)[round_eq,tH,h1,h2,h5,h8,<-h,<-b,x,z,c3,ca 273,o]⟩
   .exact .inr ⟨_,.inr ⟨_,rfl⟩,by simp(disch:=omega)[round_eq,tH,h1,h2,h5,h8,<-h,<-b,x,z,c3,ca 273,o];rfl⟩)
  (λv _=>⟨_,.inl ⟨v,rfl⟩,by simp(disch:=omega)[round_eq,tH,h8]⟩) (aT _) v trivial
def VK(w:lM t)(hl:l.length<=1000){j:Nat}(x:j<t.nodes.length)(e0:Env)(h1:e0 1 = .b9 false (l.map Qv))(h2:e0 2 = .iV (Tb t))(h5:e0 5=I (j:Int)):
  ∃y,(y=(AX.exit 2,[],[])\/∃H,y=(AX.ret,[AV.bool false],H))/\iter (round (en.cz 210) [6,7] [(.exit 2,[]),(.ret,[4])] xW e0 0 []) ([I (-1),I 0],[])=some y :=
 iQ (f:=round (en.cz 210) [6,7] [(.exit 2,[]),(.ret,[4])] xW e0 0 []) t.nodes.length (λi (v:Int)=>([I v,I (i:Int)],[])) (λy=>y=(AX.exit 2,[],[])\/∃H,y=(AX.ret,[AV.bool false],H)) (λ_ _=>True)
  (λi v z _=>by
   have h:=jQ w (aP z);obtain⟨q,n⟩:∃q,q=t.nodes[i]:=⟨_,rfl⟩;rw[<-n]at h;have o:=(nc w).len;generalize b:round (en.cz 210) [6,7] [(.exit 2,[]),(.ret,[4])] xW e0 0 [] _=res;simp(disch:=omega)[round_eq,xW,h2,<-n]at b;generalize r:iter _ _=oo at b;obtain⟨_,⟨v',rfl⟩ | ⟨H,rfl⟩,rfl⟩:∃y,_/\oo=some y:=by rw[<-r];exact VL w hl x q h.1 v _ (by simp(disch:=omega)[h1]) (by simp(disch:=omega)[h2]) (by simp(disch:=omega)[h5]) aq
   .simp(disch:=omega)at b;exact .inl ⟨v',trivial,by rw[<-b];simp(disch:=omega)⟩
   .simp(disch:=omega)at b;exact .inr ⟨_,.inr ⟨_,rfl⟩,b.symm⟩)
  (λv _=>⟨_,.inl rfl,by simp(disch:=omega)[round_eq,xW,h2]⟩) (aT _) (-1) trivial
def VJ(w:lM t)(hl:l.length<=1000)(e0:Env)(h1:e0 1 = .b9 false (l.map Qv))(h2:e0 2 = .iV (Tb t)):
  ∃y,(y=(AX.exit 0,[],[])\/∃H,y=(AX.ret,[AV.bool false],H))/\iter (round (en.cz 210) [5] [(.exit 0,[]),(.ret,[4])] vA e0 0 []) ([I 0],[])=some y :=
 iQ (f:=round (en.cz 210) [5] [(.exit 0,[]),(.ret,[4])] vA e0 0 []) t.nodes.length (λi (_:Unit)=>([I (i:Int)],[])) (λy=>y=(AX.exit 0,[],[])\/∃H,y=(AX.ret,[AV.bool false],H)) (λ_ _=>True)
  (λi _ v _=>by
   obtain⟨q,h⟩:∃q,q=t.nodes[i]:=⟨_,rfl⟩;have n:=(nc w).len;generalize b:round (en.cz 210) [5] [(.exit 0,[]),(.ret,[4])] vA e0 0 [] _=res
   by_cases o:q.kind=1
   case neg =>
    simp(disch:=omega)[round_eq,vA,h2,<-h,o]at b;exact .inl ⟨(),trivial,by rw[<-b];simp(disch:=omega)⟩
   simp(disch:=omega)[round_eq,vA,h2,<-h,o]at b;generalize r:iter _ _=oo at b;obtain⟨_,rfl | ⟨H,rfl⟩,rfl⟩:∃y,_/\oo=some y:=by rw[<-r];exact VK w hl v _ (by simp(disch:=omega)[h1]) (by simp(disch:=omega)[h2]) aq
   .simp(disch:=omega)at b;exact .inl ⟨(),trivial,by rw[<-b];simp(disch:=omega)⟩
   .simp(disch:=omega)at b;exact .inr ⟨_,.inr ⟨_,rfl⟩,b.symm⟩)
  (λ_ _=>⟨_,.inl rfl,by simp(disch:=omega)[round_eq,vA,h2]⟩) (aT _) () trivial
def ahB{n:Nat}(o:210<n)(w:lM t)(hl:l.length<=1000):∃b,(en.cz n).p 230 [Tv t,.b9 false (l.map Qv)]=some (.bool b):=by
 generalize h:(en.cz n).p 230 _=res;rw[pp 230 rfl o rfl,b8,b6]at h;simp(disch:=omega)[afj]at h;generalize i:iter _ _=oo at h;obtain⟨_,rfl | ⟨H,rfl⟩,rfl⟩:∃y,_/\oo=some y:=by rw[<-i];exact VJ w hl _ aq aq
 .simp(disch:=omega)at h;exact⟨true,h.symm⟩
 .simp(disch:=omega)at h;exact⟨false,h.symm⟩
def VI(w:lM t)(hl:l.length<=1000)(e0:Env)(h1:e0 1 = .b9 false (l.map Qv))(h2:e0 2 = .iV (Tb t)):
  ∃y,(y=(AX.exit 0,[],[])\/∃H,y=(AX.ret,[AV.bool true],H))/\iter (round (en.cz 215) [5] [(.exit 0,[]),(.ret,[4])] vz e0 0 []) ([I 0],[])=some y :=
 iQ (f:=round (en.cz 215) [5] [(.exit 0,[]),(.ret,[4])] vz e0 0 []) l.length (λi (_:Unit)=>([I (i:Int)],[])) (λy=>y=(AX.exit 0,[],[])\/∃H,y=(AX.ret,[AV.bool true],H)) (λ_ _=>True)
  (λi _ o _=>by
   obtain⟨q,h⟩:∃q,q=l[i]:=⟨_,rfl⟩;have b:=abJ (n:=215) ah t w q.ino
   simp only[Tv]at b;generalize kR t q.ino=u at *
   generalize kS t q.ino=v at *
   by_cases x:u<=q.nodes
   .by_cases r:v<=q.bytes
    .exact .inl ⟨(),trivial,by simp(disch:=omega)[round_eq,vz,h1,h2,<-h,b]⟩
    .exact .inr ⟨_,.inr ⟨_,rfl⟩,by simp(disch:=omega)[round_eq,vz,h1,h2,<-h,b];rfl⟩
   .exact .inr ⟨_,.inr ⟨_,rfl⟩,by simp(disch:=omega)[round_eq,vz,h1,h2,<-h,b];rfl⟩)
  (λ_ _=>⟨_,.inl rfl,by simp(disch:=omega)[round_eq,vz,h1]⟩) (aT _) () trivial
def ahA{n:Nat}(o:215<n)(w:lM t)(hl:l.length<=1000):∃b,(en.cz n).p 231 [Tv t,.b9 false (l.map Qv)]=some (.bool b):=by
 generalize h:(en.cz n).p 231 _=res;rw[pp 231 rfl o rfl,b8,b6]at h;simp(disch:=omega)[afi]at h;generalize i:iter _ _=oo at h;obtain⟨_,rfl | ⟨H,rfl⟩,rfl⟩:∃y,_/\oo=some y:=by rw[<-i];exact VI w hl _ aq aq
 .simp(disch:=omega)at h;exact⟨false,h.symm⟩
 .simp(disch:=omega)at h;exact⟨true,h.symm⟩
end
section
variable{f:FS}{k:Nat}
abbrev LM:AB:=.var nY
def VY(A:mF k f){t:Tr.Tree}(w:lM t)(e0:Env)(h3:e0 3 = .ptr 0 0 0 0)(h4:e0 4 = .ptr 1 0 0 0):
  ∃y,(∃os:ay,os.length<=t.nodes.length/\y=(AX.exit 0,[AV.own 3 0 0 os.length],[AB.var (Fc f),.var (Tb t),LM,.row 0 1 (os.map I)]))/\
   iter (round (en.cz 216) [8,9] [(.exit 0,[8])] tL e0 4 [3]) ([.own 3 0 0 0,I 0],[.var (Fc f),.var (Tb t),LM,.row 0 1 []])=some y :=
 iQ (f:=round (en.cz 216) [8,9] [(.exit 0,[8])] tL e0 4 [3]) t.nodes.length (λi (os:ay)=>([.own 3 0 0 os.length,I (i:Int)],[AB.var (Fc f),.var (Tb t),LM,.row 0 1 (os.map I)]))
  (λy=>∃os:ay,os.length<=t.nodes.length/\y=(AX.exit 0,[AV.own 3 0 0 os.length],[AB.var (Fc f),.var (Tb t),LM,.row 0 1 (os.map I)])) (λi os=>os.length<=i)
  (λi os E r=>by
   obtain⟨q,h⟩:∃q,q=t.nodes[i]:=⟨_,rfl⟩;have v:=(nc w).len;have z:=A.hl;obtain⟨b,x⟩:=ahC (n:=216) ah f.holds af q.ino
   left
   by_cases l:q.kind=1
   case neg=>exact⟨os,af,by simp(disch:=omega)[round_eq,tL,h4,<-h,l,nY]⟩
   by_cases o:q.links=0
   case neg=>exact⟨os,af,by simp(disch:=omega)[round_eq,tL,h4,<-h,l,o,nY]⟩
   cases b with
   |true=>exact⟨os,af,by simp(disch:=omega)[round_eq,tL,h3,h4,<-h,l,o,ca 229,x,nY]⟩
   |false=>exact⟨os++[q.ino],ak,by simp(disch:=omega)[round_eq,tL,h3,h4,<-h,l,o,ca 229,x,nY]⟩)
  (λos r=>⟨_,⟨os,r,rfl⟩,by simp(disch:=omega)[round_eq,tL,h4]⟩) (aT _) [] (aV _)
def VX{t:Tr.Tree}(w:lM t)(os:ay)(q:os.length<=1000)(e0:Env)(h4:e0 4 = .ptr 1 0 0 0)(h8:e0 8 = .own 3 0 0 os.length):
  ∃y,(∃b,lM b/\y=(AX.exit 2,[],[AB.var (Fc f),.var (Tb b),LM,.row 0 1 (os.map I)]))/\
   iter (round (en.cz 216) [11] [(.exit 2,[])] BF e0 4 []) ([I 0],[.var (Fc f),.var (Tb t),LM,.row 0 1 (os.map I)])=some y :=
 iQ (f:=round (en.cz 216) [11] [(.exit 2,[])] BF e0 4 []) os.length (λi (t:Tr.Tree)=>([I (i:Int)],[AB.var (Fc f),.var (Tb t),LM,.row 0 1 (os.map I)]))
  (λy=>∃b,lM b/\y=(AX.exit 2,[],[AB.var (Fc f),.var (Tb b),LM,.row 0 1 (os.map I)])) (λ_ t=>lM t)
  (λi t v w=>by
   obtain⟨x,o⟩:∃x,x=os[i]:=⟨_,rfl⟩;have l:=abH (n:=216) ah t (nc w) x
   have h:=WF.free w x;generalize free t x=r at l h;simp only[Tv]at l;exact .inl ⟨r.1,h,by simp(disch:=omega)[round_eq,BF,h4,h8,v,<-o,l,nY]⟩)
  (λt w=>⟨_,⟨t,w,rfl⟩,by simp(disch:=omega)[round_eq,BF,h8]⟩) (aT _) t w
def VW{t:Tr.Tree}(w:lM t){l:List Qu}(hl:l.length<=1000)(os:ay)(e0:Env)(h2:e0 2 = .b9 false (l.map Qv))(h4:e0 4 = .ptr 1 0 0 0):
  ∃y,(y=(AX.exit 4,[AV.own 4 0 0 (l.filter λq=>(find t.nodes q.ino).isSome).length],[AB.var (Fc f),.var (Tb t),LM,.row 0 1 (os.map I),.row 0 3 ((l.filter λq=>(find t.nodes q.ino).isSome).map Qv)]))/\
   iter (round (en.cz 216) [14,15] [(.exit 4,[14])] yq e0 5 [4]) ([.own 4 0 0 0,I 0],[.var (Fc f),.var (Tb t),LM,.row 0 1 (os.map I),.row 0 3 []])=some y :=
 iQ (f:=round (en.cz 216) [14,15] [(.exit 4,[14])] yq e0 5 [4]) l.length (λi (qs:List Qu)=>([.own 4 0 0 qs.length,I (i:Int)],[AB.var (Fc f),.var (Tb t),LM,.row 0 1 (os.map I),.row 0 3 (qs.map Qv)]))
  (λy=>(y=(AX.exit 4,[AV.own 4 0 0 (l.filter λq=>(find t.nodes q.ino).isSome).length],[AB.var (Fc f),.var (Tb t),LM,.row 0 1 (os.map I),.row 0 3 ((l.filter λq=>(find t.nodes q.ino).isSome).map Qv)]))) (λi qs=>qs=(l.take i).filter λq=>(find t.nodes q.ino).isSome)
  (λi qs A h=>by
   obtain⟨x,v⟩:∃x,x=l[i]:=⟨_,rfl⟩;have z:qs.length<=l.length:=by rw[h];exact bJ (bz _ _) (by rw[bF];omega)
   have o:=pT (n:=216) ah t (nc w) x.ino
   have b:(l.take (i+1)).filter (λq=>(find t.nodes q.ino).isSome)=qs++if (find t.nodes x.ino).isSome=true then[x]else[]:=by
    rw[eR,aH A,dz,<-h,<-v];simp[bO]
   unfold lq at o;simp only[Tv]at o;left;cases r:find t.nodes x.ino with
   |none =>
    rw[r]at b;simp only[r,bS,Nd,jo,aN]at o;exact⟨qs,by rw[b];simp,by simp(disch:=omega)[round_eq,yq,h2,h4,<-v,o,nY]⟩
   |some q =>
    rw[r]at b;simp only[r,bC,Nd]at o;exact⟨qs++[x],by rw[b];simp,by simp(disch:=omega)[round_eq,yq,h2,h4,<-v,o,nY]⟩)
  (λqs h=>⟨_,rfl,by
   rw[aO (aV _)]at h;subst h;simp(disch:=omega)[round_eq,yq,h2]⟩) (aT _) [] rfl
def ah0{n:Nat}(K:216<n)(o:mF k f)(hk:k<=200){t:Tr.Tree}(w:lM t){l:List Qu}(hs:mE l)(hl:l.length<=16):∃G e,(en.cz n).p 149 [Fv f,Tv t,.b9 false (l.map Qv)]=some (.jg [Fv G,I e])/\mF (k+1) G:=by
 generalize b:(en.cz n).p 149 _=res;rw[pp 149 rfl K rfl,b8,b6]at b;have E:=(nc w).len;simp(disch:=omega)[afO]at b;generalize r:iter _ _=oo at b;obtain⟨_,⟨os,H,rfl⟩,rfl⟩:∃y,_/\oo=some y:=by rw[<-r];exact VY o w _ aq aq
 simp(disch:=omega)[nY]at b;generalize r:iter _ _=oo at b;obtain⟨_,⟨v,w',rfl⟩,rfl⟩:∃y,_/\oo=some y:=by rw[<-r];exact VX (f:=f) w os af _ aq aq
 simp(disch:=omega)[nY]at b;generalize r:iter _ _=oo at b;obtain⟨_,rfl,rfl⟩:∃y,_/\oo=some y:=by rw[<-r];exact VW (f:=f) w' (l:=l) af os _ aq aq
 have A:(l.filter λq=>(find v.nodes q.ino).isSome).length<=16:=bJ (bz _ _) hl
 have z:mE (l.filter λq=>(find v.nodes q.ino).isSome):=hs.filter _
 generalize(l.filter λq=>(find v.nodes q.ino).isSome)=qs at *
 obtain⟨b1,h⟩:=ahB (n:=216) ah w' (l:=qs) af
 obtain⟨L,i⟩:=ahA (n:=216) ah w' (l:=qs) af
 obtain⟨s',F,x⟩:=s55 (n:=216) ah o.s af w'
 simp only[Tv,Sv,Sc]at h i F;cases b1 with
 |false =>
  simp(disch:=omega)[nY,ca 230,h]at b;exact⟨f,91,b.symm,o.up⟩
 |true =>
 cases L with
 |true =>
  simp(disch:=omega)[nY,ca 230,h,ca 231,i]at b;exact⟨f,90,b.symm,o.up⟩
 |false =>
  simp(disch:=omega)[nY,ca 230,h,ca 231,i,ca 55,F]at b;exact⟨⟨s',f.holds,qs⟩,0,b.symm,⟨x,o.hs,o.hl,z,A⟩⟩
end
def Uy{n:Nat}(x:217<n){f:FS}{k:Nat}(q:mF k f)(hk:k<=200){t:Tr.Tree}(w:lM t){l:List Qu}(hs:mE l)(hl:l.length<=16)(e:Int){a:nH}(y:zM a):∃i v,(en.cz n).p 95 [Fv f,Tv t,.b9 false (l.map Qv),I e,Av a]=some (.jg [Fv i,Av v])/\mF (k+1) i/\zM v:=by
 generalize b:(en.cz n).p 95 _=res;rw[pp 95 rfl x rfl,b8,b6]at b;have h:=λe=>Uz (n:=217) ah e
 simp only[Av,Ac,aN]at h
 by_cases c:e=0
 case neg =>
  simp(disch:=omega)[c95,c,h]at b;exact⟨f,⟨e,0,0,0,0,[],[]⟩,b.symm,q.up,j7 ..⟩
 subst c;obtain⟨i,e',r,o⟩:=ah0 (n:=217) ah q hk w hs hl
 simp only[Fv,Fc,Sc,Tv,aK,aL]at r
 by_cases c:e'=0
 .subst c;simp(disch:=omega)[c95,ca 149,r]at b;exact⟨i,a,b.symm,o,y⟩
 .simp(disch:=omega)[c95,ca 149,r,c,h]at b;exact⟨f,⟨e',0,0,0,0,[],[]⟩,b.symm,q.up,j7 ..⟩
def We(d:au)(i:d.length<=5000)(K:Nat)(o:K<=10000)(at_:Nat)(b:au)(n:at_+b.length=K)(e0:Env)(h1:e0 1=I (at_:Int))(h2:e0 2 = .b9 false (b.map B)):
  ∃y,(∃h:au,K<=h.length/\h.length<=10000/\y=(AX.exit 0,[AV.own 0 0 0 h.length],[AB.row 0 1 (h.map B)]))/\iter (round (en.cz 238) [7] [(.exit 0,[7])] BI e0 1 [0]) ([.own 0 0 0 d.length],[.row 0 1 (d.map B)])=some y :=
 zF (f:=round (en.cz 238) [7] [(.exit 0,[7])] BI e0 1 [0]) (λ(d:au)=>([AV.own 0 0 0 d.length],[AB.row 0 1 (d.map B)])) (λy=>∃h:au,K<=h.length/\h.length<=10000/\y=(AX.exit 0,[AV.own 0 0 0 h.length],[AB.row 0 1 (h.map B)])) (λd=>d.length<=10000) (λd=>K-d.length)
  (λd i=>by
   have l:b.length<=10000:=af
   by_cases c:d.length<at_+b.length
   .exact .inl ⟨d++[0],ak,ak,by simp(disch:=omega)[round_eq,BI,h1,h2]⟩
   .exact .inr ⟨_,⟨d,af,i,rfl⟩,by simp(disch:=omega)[round_eq,BI,h1,h2]⟩)
  d af
def Wd(d:au)(v:d.length<=10000)(at_:Nat)(b:au)(z:at_+b.length<=d.length)(e0:Env)(h1:e0 1=I (at_:Int))(h2:e0 2 = .b9 false (b.map B))(q:e0 7 = .own 0 0 0 d.length):
  ∃y,(∃h:au,h.length=d.length/\y=(AX.exit 2,[],[AB.row 0 1 (h.map B)]))/\iter (round (en.cz 238) [8] [(.exit 2,[])] BH e0 1 []) ([I 0],[.row 0 1 (d.map B)])=some y :=
 iQ (f:=round (en.cz 238) [8] [(.exit 2,[])] BH e0 1 []) b.length (λi (h:au)=>([I (i:Int)],[AB.row 0 1 (h.map B)])) (λy=>∃h:au,h.length=d.length/\y=(AX.exit 2,[],[AB.row 0 1 (h.map B)])) (λ_ h=>h.length=d.length)
  (λi h r l=>by
   obtain⟨x,n⟩:∃x,x=b[i]:=⟨_,rfl⟩;have o:at_+i<h.length:=af
   exact .inl ⟨h.set (at_+i) x,an l,by simp(disch:=omega)[round_eq,BH,h1,h2,q,<-n]⟩)
  (λh l=>⟨_,⟨h,l,rfl⟩,by simp(disch:=omega)[round_eq,BH,h2]⟩) (aT _) d rfl
def aii{n:Nat}(o:238<n)(d:au)(v:d.length<=4096)(at_:Nat)(b:au)(x:at_+b.length<=4096):∃l:au,(en.cz n).p 108 [.b9 false (d.map B),I (at_:Int),.b9 false (b.map B)]=some (.b9 false (l.map B))/\l.length<=10000:=by
 generalize h:(en.cz n).p 108 _=res;rw[pp 108 rfl o rfl,b8,b6]at h
 by_cases c:b.length=0
 .simp(disch:=omega)[YJ,c]at h;exact⟨d,h.symm,af⟩
 .simp(disch:=omega)[YJ,c]at h;generalize i:iter _ _=oo at h;obtain⟨_,⟨r,h1,h2,rfl⟩,rfl⟩:∃y,_/\oo=some y:=by rw[<-i];exact We d af (at_+b.length) af at_ b rfl _ aq aq
  simp(disch:=omega)at h;generalize i:iter _ _=oo at h;obtain⟨_,⟨q,h3,rfl⟩,rfl⟩:∃y,_/\oo=some y:=by rw[<-i];exact Wd r h2 at_ b h1 _ aq aq aq
  simp(disch:=omega)[h3]at h;refine⟨q,?_,af⟩
  rw[<-h]
def af7{n:Nat}(b:218<n){t:Tr.Tree}(w:lM t)(i:Int)(s:au)(hs:s.length<=1000000)(kind:Int):(en.cz n).p 96 [Tv t,I i,.str s,I kind]=some (.jg [Tv (Tr.add j4 gr t i s kind).1,I (Tr.add j4 gr t i s kind).2.1,I (Tr.add j4 gr t i s kind).2.2]):=by
 refine s96 b t (nc w) i s af kind ?_ ?_
 .have:=w.bg.ck;omega
 .exact λ_ _=>wS (w.bg.nC kind _) af
def s49{n:Nat}(hn:226<n){f:FS}{k:Nat}(h:mF k f)(hk:k<=200){o:lX}(Z:uy o):∃F H,(en.cz n).p 49 [Fv f,Ov o]=some (.jg [Fv F,Av H])/\mF (k+1) F/\zM H:=by
 generalize b:(en.cz n).p 49 _=res;rw[pp 49 rfl hn rfl,b8,b6]at b;have hop:=Z.p;have hot:=Z.t;have A:=λe=>Uz (n:=226) ah e
 simp only[Av,Ac,aN]at A;obtain⟨d,s,e,N,W⟩:=s93 (n:=226) ah f.s.now h.s.w o.path af
 obtain⟨G,E,U,y,Y⟩:=s93 (n:=226) ah f.s.now h.s.w o.to af
 simp only[Tv]at N y
 by_cases c3:o.kind=3
 .have T:=s92 (n:=226) ah f.s.now h.s.w o.path af
  generalize mO f.s.now o.path=wk at *
  obtain⟨i,e0⟩:=wk;simp only[Tv]at T
  by_cases M:e0=0
  case neg =>
   simp(disch:=omega)[RQ,c3,ca 92,T,M,A]at b;exact⟨f,⟨e0,0,0,0,0,[],[]⟩,b.symm,h.up,j7 ..⟩
  by_cases x:U=0
  case neg =>
   simp(disch:=omega)[RQ,c3,ca 92,T,M,ca 93,y,x,A]at b;exact⟨f,⟨U,0,0,0,0,[],[]⟩,b.symm,h.up,j7 ..⟩
  subst M x
  have Q:(en.cz 226).p 94 [Tv f.s.now,I i,I G,.str E]=some (.jg [Tv (Tr.ln j4 gr f.s.now i G E).1,I (Tr.ln j4 gr f.s.now i G E).2]):=by
   have P:=h.s.w.bg;refine s94 ah f.s.now (nc h.s.w) i G E af (by have:=P.ck;omega) (λq S=>?_) λq S=>?_
   .have h1:=P.b7 q (fk S).1;have h2:=P.lk q (fk S).1;exact wS ((P.mono (show 0<=1 by omega)).iP (n:={q with links:=q.links+1}) (by simp only;omega) (by simp only;omega)) af
   .have:=P.lk q (fk S).1;omega
  have L:=WF.ln jM h.s.w i G E;generalize Tr.ln j4 gr f.s.now i G E=r at *
  obtain⟨t,e⟩:=r;obtain⟨F,H,z,l,v⟩:=Uy (n:=226) ah h hk L h.qs h.ql e (a:=⟨0,i,0,0,0,[],[]⟩) (j7 ..)
  simp only[Tv,Fv,Fc,Sc,Av,Ac,aK,aL,aN]at Q z;simp(disch:=omega)[RQ,c3,ca 92,T,ca 93,y,ca 94,Q,ca 95,z]at b;exact⟨F,H,b.symm,l,v⟩
 by_cases he:e=0
 case neg =>
  simp(disch:=omega)[RQ,c3,ca 93,N,he,A]at b;exact⟨f,⟨e,0,0,0,0,[],[]⟩,b.symm,h.up,j7 ..⟩
 subst he
 by_cases X:o.kind=2
 .have K:=af7 (n:=226) ah h.s.w d s W o.n
  have L:=WF.add jM h.s.w d s o.n;generalize Tr.add j4 gr f.s.now d s o.n=r at *
  obtain⟨t,i,e⟩:=r;obtain⟨F,H,z,l,v⟩:=Uy (n:=226) ah h hk L h.qs h.ql e (a:=⟨0,i,o.n,0,0,[],[]⟩) (j7 ..)
  simp only[Tv,Fv,Fc,Sc,Av,Ac,aK,aL,aN]at K z;simp(disch:=omega)[RQ,ca 93,N,X,ca 96,K,ca 95,z]at b;exact⟨F,H,b.symm,l,v⟩
 by_cases c4:o.kind=4
 .have O:=IB h.s.w d s;have K:=s97 (n:=226) ah f.s.now (nc h.s.w) d s af O.1 O.2
  have L:=WF.un jM h.s.w d s;generalize Tr.un j4 f.s.now d s=r at *
  obtain⟨t,i,e⟩:=r;obtain⟨F,H,z,l,v⟩:=Uy (n:=226) ah h hk L h.qs h.ql e (a:=⟨0,i,0,0,0,[],[]⟩) (j7 ..)
  simp only[Tv,Fv,Fc,Sc,Av,Ac,aK,aL,aN]at K z;simp(disch:=omega)[RQ,ca 93,N,c4,ca 97,K,ca 95,z]at b;exact⟨F,H,b.symm,l,v⟩
 by_cases x:U=0
 case neg =>
  simp(disch:=omega)[RQ,c3,ca 93,N,X,c4,y,x,A]at b;exact⟨f,⟨U,0,0,0,0,[],[]⟩,b.symm,h.up,j7 ..⟩
 subst x;have Q:=Zp (n:=226) ah f.s.now (nc h.s.w) d s af
 have O:=QC h.s.w d s G E;have K:=s99 (n:=226) ah f.s.now (nc h.s.w) d G s E af af (by have:=h.s.w.bg.ck;omega) O.1 O.2
 have L:=WF.mv jM h.s.w d s G E;generalize(Tr.look j4 f.s.now d s)=lk at *
 obtain⟨li,le⟩:=lk;generalize Tr.mv j4 gr f.s.now d s G E=r at *
 obtain⟨t,i,e⟩:=r;obtain⟨F,H,z,l,v⟩:=Uy (n:=226) ah h hk L h.qs h.ql e (a:=⟨0,li,0,0,0,[],[]⟩) (j7 ..)
 simp only[Tv,Fv,Fc,Sc,Av,Ac,aK,aL,aN]at Q K z;simp(disch:=omega)[RQ,c3,ca 93,N,X,c4,y,ca 98,Q,ca 99,K,ca 95,z]at b;exact⟨F,H,b.symm,l,v⟩
def Jm{l:List Tr.Node}(hl:zc 100000 l)(a:Int):∃q b,lq (find l a) = .jg [Nd q,.bool b]/\q.b7.length<=64/\q.data.length<=4096:=by
 unfold lq;cases h:find l a with
 |none=>exact⟨jo,false,rfl,by simp[jo],by simp[jo]⟩
 |some q=>exact⟨q,true,rfl,hl.sm q (fk h).1⟩
abbrev A7:AB:=.var (Ac Az)
abbrev T7(l:List Tr.Node):AB:=.var [.b9 false (l.map Nd),I 0,I 0]
def ac7(l:List Tr.Node)(q:Tr.Node)(r:q.b7.length<=64)(ps:List au)(f:Bool)(i:Nat)(z:i<ps.length)(e0:Env)(h8:e0 8 = .b9 f (ps.map AV.str))(b:e0 10 = .ptr 2 0 0 0)(h:e0 12=I (i:Int)):
  ∃y,(∃v,y=(AX.exit 2,[I v],[A7,T7 l,.var (Nc q)]))/\iter (round (en.cz 245) [13,14] [(.exit 2,[13])] C9 e0 3 []) ([I 0,I 0],[A7,T7 l,.var (Nc q)])=some y :=
 iQ (f:=round (en.cz 245) [13,14] [(.exit 2,[13])] C9 e0 3 []) q.b7.length (λj (v:Int)=>([I v,I (j:Int)],[A7,T7 l,.var (Nc q)])) (λy=>∃v,y=(AX.exit 2,[I v],[A7,T7 l,.var (Nc q)])) (λ_ _=>True)
  (λj v x _=>by
   obtain⟨e,o⟩:∃e,e=q.b7[j]:=⟨_,rfl⟩;obtain⟨p,n⟩:∃p,p=ps[i]:=⟨_,rfl⟩;left
   by_cases c:e.name=p
   .exact⟨e.ino,trivial,by simp(disch:=omega)[round_eq,C9,h8,b,h,<-o,<-n,j9,c]⟩
   .exact⟨v,trivial,by simp(disch:=omega)[round_eq,C9,h8,b,h,<-o,<-n,j9,c]⟩)
  (λv _=>⟨_,⟨v,rfl⟩,by simp(disch:=omega)[round_eq,C9,b]⟩) (aT _) 0 trivial
def ac6{l:List Tr.Node}(hl:zc 100000 l)(ps:List au)(L:ps.length<=1000){f:Bool}{q:Tr.Node}(x:q.b7.length<=64/\q.data.length<=4096)(e0:Env)(h4:e0 4 = .ptr 0 0 0 0)(h8:e0 8 = .b9 f (ps.map AV.str))(F:e0 9 = .ptr 1 0 0 0)(o:e0 10 = .ptr 2 0 0 0):
  ∃y,((∃q:Tr.Node,(q.b7.length<=64/\q.data.length<=4096)/\y=(AX.exit 0,[],[A7,T7 l,.var (Nc q)]))\/∃(e:Int) (H:AH),y=(AX.ret,[],AB.var (Ac ⟨e,0,0,0,0,[],[]⟩)::H))/\
   iter (round (en.cz 245) [12] [(.exit 0,[]),(.ret,[])] Bz e0 3 []) ([I 0],[A7,T7 l,.var (Nc q)])=some y :=
 iQ (f:=round (en.cz 245) [12] [(.exit 0,[]),(.ret,[])] Bz e0 3 []) ps.length (λi (q:Tr.Node)=>([I (i:Int)],[A7,T7 l,.var (Nc q)]))
  (λy=>(∃q:Tr.Node,(q.b7.length<=64/\q.data.length<=4096)/\y=(AX.exit 0,[],[A7,T7 l,.var (Nc q)]))\/∃(e:Int) (H:AH),y=(AX.ret,[],AB.var (Ac ⟨e,0,0,0,0,[],[]⟩)::H)) (λ_ q=>q.b7.length<=64/\q.data.length<=4096)
  (λi q M x=>by
   have r:=λe=>Uz (n:=245) ah e
   simp only[Av,Ac,aN]at r;generalize h:round (en.cz 245) [12] [(.exit 0,[]),(.ret,[])] Bz e0 3 [] _=res
   by_cases E:q.kind=2
   case neg =>
    simp(disch:=omega)[round_eq,Bz,h4,h8,o,E,ca 48,r]at h
    grind
   simp(disch:=omega)[round_eq,Bz,h8,o,E]at h;have key:=λe0 h8 o A=>ac7 l q x.1 ps f i M e0 h8 o A
   simp only[A7,T7,Nc,Ac,aN,E]at key;generalize G:iter _ _=oo at h;obtain⟨_,⟨v,rfl⟩,rfl⟩:∃y,_/\oo=some y:=by rw[<-G];exact key _ (by simp_all) (by simp_all) (by simp_all)
   have z:=IM (n:=245) ah ⟨false,l,0,0⟩ (by have:=hl.len;simp only;omega) v
   obtain⟨N,b,hg,K⟩:=Jm hl v;rw[hg]at z;simp only[Tv,Nd]at z;cases b with
   |false =>
    simp(disch:=omega)[h4,F,ca 100,z,ca 48,r]at h
    grind
   |true =>
    simp(disch:=omega)[F,o,ca 100,z]at h
    grind)
  (λq x=>⟨_,.inl ⟨q,x,rfl⟩,by simp(disch:=omega)[round_eq,Bz,h8]⟩) (aT _) q x
def ac5(l:List Tr.Node)(q:Tr.Node)(r:q.b7.length<=64)(e0:Env)(n:e0 10 = .ptr 2 0 0 0):
  ∃y,(∃b:List au,b.length=q.b7.length/\y=(AX.exit 4,[AV.own 3 0 0 b.length],[A7,T7 l,.var (Nc q),.row 0 1 (b.map AV.str)]))/\iter (round (en.cz 245) [17,18] [(.exit 4,[17])] Gx e0 4 [3]) ([.own 3 0 0 0,I 0],[A7,T7 l,.var (Nc q),.row 0 1 []])=some y :=
 iQ (f:=round (en.cz 245) [17,18] [(.exit 4,[17])] Gx e0 4 [3]) q.b7.length (λi (b:List au)=>([.own 3 0 0 b.length,I (i:Int)],[A7,T7 l,.var (Nc q),.row 0 1 (b.map AV.str)]))
  (λy=>∃b:List au,b.length=q.b7.length/\y=(AX.exit 4,[AV.own 3 0 0 b.length],[A7,T7 l,.var (Nc q),.row 0 1 (b.map AV.str)])) (λi b=>b.length=i)
  (λi b v h=>by
   obtain⟨x,o⟩:∃x,x=q.b7[i]:=⟨_,rfl⟩;exact .inl ⟨b++[x.name],by simp[h],by simp(disch:=omega)[round_eq,Gx,n,<-o,h]⟩)
  (λb h=>⟨_,⟨b,h,rfl⟩,by simp(disch:=omega)[round_eq,Gx,n,h]⟩) (aT _) [] rfl
def s52{n:Nat}(W:245<n){f:FS}{k:Nat}(X:mF k f)(hk:k<=200){o:lX}(T:uy o):∃N,(en.cz n).p 52 [Fv f,Ov o]=some (Av N)/\zM N:=by
 generalize b:(en.cz n).p 52 _=res;rw[pp 52 rfl W rfl,b8,b6]at b;have S:=T.p;have h:=λe=>Uz (n:=245) ah e
 simp only[Av,Ac,aN]at h;obtain⟨a,l,e,hl,A⟩:=aih (n:=245) ah X.s af o.n
 simp only[Sv,Sc]at A
 by_cases K:e=0
 case neg =>
  simp(disch:=omega)[c52,ca 110,A,K,ca 48,h]at b;exact⟨⟨e,0,0,0,0,[],[]⟩,b.symm,j7 ..⟩
 subst K;have x:=UN (n:=245) ah o.path af
 unfold spR at x;cases G:Nm.split o.path with
 |none =>
  rw[G]at x;simp(disch:=omega)[c52,ca 110,A,ca 111,x,ca 48,h]at b;exact⟨⟨60,0,0,0,0,[],[]⟩,b.symm,j7 ..⟩
 |some ps =>
  rw[G]at x;have Q:=vW G;have z:=IM (n:=245) ah ⟨false,l,0,0⟩ (by have:=hl.len;simp only;omega) a
  simp only[Tv]at z;obtain⟨q,Z,hg,P⟩:=Jm hl a;rw[hg]at z;simp only[Nd]at z;simp(disch:=omega)[c52,ca 110,A,ca 111,x,ca 100,z]at b;have key:=λe0 h4 h8 Y i=>ac6 hl ps af (f:=decide (o.path=[47])) P e0 h4 h8 Y i
  simp only[A7,T7,Nc,Ac,aN]at key;generalize E:iter _ _=oo at b;obtain⟨_,⟨v,F,rfl⟩ | ⟨e,H,rfl⟩,rfl⟩:∃y,_/\oo=some y:=by rw[<-E];exact key _ (by simp_all) (by simp_all) (by simp_all) (by simp_all)
  .have L:=λe0 i=>ac5 l v F.1 e0 i
   simp only[A7,T7,Nc,Ac,aN]at L;obtain⟨r,M⟩:=abY (n:=245) ah v af
   simp only[Nd]at M;simp(disch:=omega)at b;generalize E:iter _ _=oo at b;obtain⟨_,⟨O,U,rfl⟩,rfl⟩:∃y,_/\oo=some y:=by rw[<-E];exact L _ (by simp_all)
   simp(disch:=omega)[M]at b;exact⟨⟨0,v.ino,v.kind,v.links,r,O,v.data⟩,b.symm,⟨by simp only;omega,by simp only;omega⟩⟩
  .simp(disch:=omega)at b;exact⟨⟨e,0,0,0,0,[],[]⟩,b.symm,j7 ..⟩
end Go.Proofs.YtghgbehknhmnaaaGreatDoor
