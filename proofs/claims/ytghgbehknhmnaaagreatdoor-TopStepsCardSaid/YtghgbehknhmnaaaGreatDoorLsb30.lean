/- Part of the proof that TopStepsCard holds. -/
import Derived.Test.YtghgbehknhmnaaaGreatDoorLa30c
import Derived.KernelRfl
set_option linter.all false
namespace Go.Proofs.YtghgbehknhmnaaaGreatDoor
open Go.Am Go.Tr Go.Am.Nm Go.Lib
section
variable{t:Tr.Tree}{l:List Qu}
def VL(w:lM t)(hl:l.length<=1000){j:Nat}(F:j<t.nodes.length)(q:Tr.Node)(E:q.b7.length<=64)(v:Int)(e0:Env)(h1:e0 1 = .b9 false (l.map Qv))(h2:e0 2 = .iV (Tb t))(h5:e0 5=I (j:Int))(h8:e0 8 = .ptr 0 0 0 0):
  ∃y,((∃v,y=(AX.exit 4,[I v],[AB.var (Nc q)]))\/∃H,y=(AX.ret,[AV.bool false],H))/\iter (round (en.cz 210) [6,9] [(.exit 4,[6]),(.ret,[4])] tH e0 1 []) ([I v,I 0],[.var (Nc q)])=some y :=
 iQ (f:=round (en.cz 210) [6,9] [(.exit 4,[6]),(.ret,[4])] tH e0 1 []) q.b7.length (λi (v:Int)=>([I v,I (i:Int)],[AB.var (Nc q)])) (λy=>(∃v,y=(AX.exit 4,[I v],[AB.var (Nc q)]))\/∃H,y=(AX.ret,[AV.bool false],H)) (λ_ _=>True)
  (λi v G _=>by
   obtain⟨e,h⟩:∃e,e=q.b7[i]:=⟨_,rfl⟩;obtain⟨p,b⟩:∃p,p=t.nodes[j]:=⟨_,rfl⟩;have A:=(nc w).len;obtain⟨r,o⟩:=ahn (n:=210) ah t w l hl q.ino
   simp only[Tv]at o
   by_cases x:e.ino=p.ino
   case neg=>exact .inl ⟨v,trivial,by simp(disch:=omega)[round_eq,tH,h2,h5,h8,<-h,<-b,x]⟩
   by_cases z:0<=v
   case neg=>exact .inl ⟨r,trivial,by simp(disch:=omega)[round_eq,tH,h1,h2,h5,h8,<-h,<-b,x,z,ca 273,o]⟩
   by_cases c3:r=v
   .exact .inl ⟨r,trivial,by simp(disch:=omega)[round_eq,tH,h1,h2,h5,h8,<-h,<-b,x,z,c3,ca 273,o]⟩
   .exact .inr ⟨_,.inr ⟨_,rfl⟩,by simp(disch:=omega)[round_eq,tH,h1,h2,h5,h8,<-h,<-b,x,z,c3,ca 273,o];rfl⟩)
  (λv _=>⟨_,.inl ⟨v,rfl⟩,by simp(disch:=omega)[round_eq,tH,h8]⟩) (aR _) v trivial
def VK(w:lM t)(hl:l.length<=1000){j:Nat}(x:j<t.nodes.length)(e0:Env)(h1:e0 1 = .b9 false (l.map Qv))(h2:e0 2 = .iV (Tb t))(h5:e0 5=I (j:Int)):
  ∃y,(y=(AX.exit 2,[],[])\/∃H,y=(AX.ret,[AV.bool false],H))/\iter (round (en.cz 210) [6,7] [(.exit 2,[]),(.ret,[4])] xW e0 0 []) ([I (-1),I 0],[])=some y :=
 iQ (f:=round (en.cz 210) [6,7] [(.exit 2,[]),(.ret,[4])] xW e0 0 []) t.nodes.length (λi (v:Int)=>([I v,I (i:Int)],[])) (λy=>y=(AX.exit 2,[],[])\/∃H,y=(AX.ret,[AV.bool false],H)) (λ_ _=>True)
  (λi v z _=>by
   have h:=jQ w (aO z);obtain⟨q,n⟩:∃q,q=t.nodes[i]:=⟨_,rfl⟩;rw[<-n]at h;have o:=(nc w).len;generalize b:round (en.cz 210) [6,7] [(.exit 2,[]),(.ret,[4])] xW e0 0 [] _=res;simp(disch:=omega)[round_eq,xW,h2,<-n]at b;generalize r:iter _ _=oo at b;obtain⟨_,⟨v',rfl⟩ | ⟨H,rfl⟩,rfl⟩:∃y,_/\oo=some y:=by rw[<-r];exact VL w hl x q h.1 v _ (by simp(disch:=omega)[h1]) (by simp(disch:=omega)[h2]) (by simp(disch:=omega)[h5]) aq
   .simp(disch:=omega)at b;exact .inl ⟨v',trivial,by rw[<-b];simp(disch:=omega)⟩
   .simp(disch:=omega)at b;exact .inr ⟨_,.inr ⟨_,rfl⟩,b.symm⟩)
  (λv _=>⟨_,.inl rfl,by simp(disch:=omega)[round_eq,xW,h2]⟩) (aR _) (-1) trivial
def VJ(w:lM t)(hl:l.length<=1000)(e0:Env)(h1:e0 1 = .b9 false (l.map Qv))(h2:e0 2 = .iV (Tb t)):
  ∃y,(y=(AX.exit 0,[],[])\/∃H,y=(AX.ret,[AV.bool false],H))/\iter (round (en.cz 210) [5] [(.exit 0,[]),(.ret,[4])] vA e0 0 []) ([I 0],[])=some y :=
 iQ (f:=round (en.cz 210) [5] [(.exit 0,[]),(.ret,[4])] vA e0 0 []) t.nodes.length (λi (_:Unit)=>([I (i:Int)],[])) (λy=>y=(AX.exit 0,[],[])\/∃H,y=(AX.ret,[AV.bool false],H)) (λ_ _=>True)
  (λi _ v _=>by
   obtain⟨q,h⟩:∃q,q=t.nodes[i]:=⟨_,rfl⟩;have n:=(nc w).len;generalize b:round (en.cz 210) [5] [(.exit 0,[]),(.ret,[4])] vA e0 0 [] _=res
   by_cases o:q.kind=1
   case neg =>
    simp(disch:=omega)[round_eq,vA,h2,<-h,o]at b;exact .inl ⟨(),trivial,by rw[<-b];simp(disch:=omega)⟩
   simp(disch:=omega)[round_eq,vA,h2,<-h,o]at b;generalize r:iter _ _=oo at b;obtain⟨_,rfl | ⟨H,rfl⟩,rfl⟩:∃y,_/\oo=some y:=by rw[<-r];exact VK w hl v _ (by simp(disch:=omega)[h1]) (by simp(disch:=omega)[h2]) aq
   .simp(disch:=omega)at b;exact .inl ⟨(),trivial,by rw[<-b];simp(disch:=omega)⟩
   .simp(disch:=omega)at b;exact .inr ⟨_,.inr ⟨_,rfl⟩,b.symm⟩)
  (λ_ _=>⟨_,.inl rfl,by simp(disch:=omega)[round_eq,vA,h2]⟩) (aR _) () trivial
def ahB{n:Nat}(o:210<n)(w:lM t)(hl:l.length<=1000):∃b,(en.cz n).p 230 [Tv t,.b9 false (l.map Qv)]=some (.bool b):=by
 generalize h:(en.cz n).p 230 _=res;rw[pp 230 rfl o rfl,b8,b6]at h;simp(disch:=omega)[afj]at h;generalize i:iter _ _=oo at h;obtain⟨_,rfl | ⟨H,rfl⟩,rfl⟩:∃y,_/\oo=some y:=by rw[<-i];exact VJ w hl _ aq aq
 .simp(disch:=omega)at h;exact⟨true,h.symm⟩
 .simp(disch:=omega)at h;exact⟨false,h.symm⟩
def VI(w:lM t)(hl:l.length<=1000)(e0:Env)(h1:e0 1 = .b9 false (l.map Qv))(h2:e0 2 = .iV (Tb t)):
  ∃y,(y=(AX.exit 0,[],[])\/∃H,y=(AX.ret,[AV.bool true],H))/\iter (round (en.cz 215) [5] [(.exit 0,[]),(.ret,[4])] vz e0 0 []) ([I 0],[])=some y :=
 iQ (f:=round (en.cz 215) [5] [(.exit 0,[]),(.ret,[4])] vz e0 0 []) l.length (λi (_:Unit)=>([I (i:Int)],[])) (λy=>y=(AX.exit 0,[],[])\/∃H,y=(AX.ret,[AV.bool true],H)) (λ_ _=>True)
  (λi _ o _=>by
   obtain⟨q,h⟩:∃q,q=l[i]:=⟨_,rfl⟩;have b:=abJ (n:=215) ah t w q.ino
   simp only[Tv]at b;generalize kR t q.ino=u at *
   generalize kS t q.ino=v at *
   by_cases x:u<=q.nodes
   .by_cases r:v<=q.bytes
    .exact .inl ⟨(),trivial,by simp(disch:=omega)[round_eq,vz,h1,h2,<-h,b]⟩
    .exact .inr ⟨_,.inr ⟨_,rfl⟩,by simp(disch:=omega)[round_eq,vz,h1,h2,<-h,b];rfl⟩
   .exact .inr ⟨_,.inr ⟨_,rfl⟩,by simp(disch:=omega)[round_eq,vz,h1,h2,<-h,b];rfl⟩)
  (λ_ _=>⟨_,.inl rfl,by simp(disch:=omega)[round_eq,vz,h1]⟩) (aR _) () trivial
def ahA{n:Nat}(o:215<n)(w:lM t)(hl:l.length<=1000):∃b,(en.cz n).p 231 [Tv t,.b9 false (l.map Qv)]=some (.bool b):=by
 generalize h:(en.cz n).p 231 _=res;rw[pp 231 rfl o rfl,b8,b6]at h;simp(disch:=omega)[afi]at h;generalize i:iter _ _=oo at h;obtain⟨_,rfl | ⟨H,rfl⟩,rfl⟩:∃y,_/\oo=some y:=by rw[<-i];exact VI w hl _ aq aq
 .simp(disch:=omega)at h;exact⟨false,h.symm⟩
 .simp(disch:=omega)at h;exact⟨true,h.symm⟩
end
section
variable{f:FS}{k:Nat}
abbrev LM:AB:=.var nY
def VY(A:mF k f){t:Tr.Tree}(w:lM t)(e0:Env)(h3:e0 3 = .ptr 0 0 0 0)(h4:e0 4 = .ptr 1 0 0 0):
  ∃y,(∃os:ay,os.length<=t.nodes.length/\y=(AX.exit 0,[AV.own 3 0 0 os.length],[AB.var (Fc f),.var (Tb t),LM,.row 0 1 (os.map I)]))/\
   iter (round (en.cz 216) [8,9] [(.exit 0,[8])] tL e0 4 [3]) ([.own 3 0 0 0,I 0],[.var (Fc f),.var (Tb t),LM,.row 0 1 []])=some y :=
 iQ (f:=round (en.cz 216) [8,9] [(.exit 0,[8])] tL e0 4 [3]) t.nodes.length (λi (os:ay)=>([.own 3 0 0 os.length,I (i:Int)],[AB.var (Fc f),.var (Tb t),LM,.row 0 1 (os.map I)]))
  (λy=>∃os:ay,os.length<=t.nodes.length/\y=(AX.exit 0,[AV.own 3 0 0 os.length],[AB.var (Fc f),.var (Tb t),LM,.row 0 1 (os.map I)])) (λi os=>os.length<=i)
  (λi os E r=>by
   obtain⟨q,h⟩:∃q,q=t.nodes[i]:=⟨_,rfl⟩;have v:=(nc w).len;have z:=A.hl;obtain⟨b,x⟩:=ahC (n:=216) ah f.holds af q.ino
   left
   by_cases l:q.kind=1
   case neg=>exact⟨os,af,by simp(disch:=omega)[round_eq,tL,h4,<-h,l,nY]⟩
   by_cases o:q.links=0
   case neg=>exact⟨os,af,by simp(disch:=omega)[round_eq,tL,h4,<-h,l,o,nY]⟩
   cases b with
   |true=>exact⟨os,af,by simp(disch:=omega)[round_eq,tL,h3,h4,<-h,l,o,ca 229,x,nY]⟩
   |false=>exact⟨os++[q.ino],ak,by simp(disch:=omega)[round_eq,tL,h3,h4,<-h,l,o,ca 229,x,nY]⟩)
  (λos r=>⟨_,⟨os,r,rfl⟩,by simp(disch:=omega)[round_eq,tL,h4]⟩) (aR _) [] (aU _)
def VX{t:Tr.Tree}(w:lM t)(os:ay)(q:os.length<=1000)(e0:Env)(h4:e0 4 = .ptr 1 0 0 0)(h8:e0 8 = .own 3 0 0 os.length):
  ∃y,(∃b,lM b/\y=(AX.exit 2,[],[AB.var (Fc f),.var (Tb b),LM,.row 0 1 (os.map I)]))/\
   iter (round (en.cz 216) [11] [(.exit 2,[])] BF e0 4 []) ([I 0],[.var (Fc f),.var (Tb t),LM,.row 0 1 (os.map I)])=some y :=
 iQ (f:=round (en.cz 216) [11] [(.exit 2,[])] BF e0 4 []) os.length (λi (t:Tr.Tree)=>([I (i:Int)],[AB.var (Fc f),.var (Tb t),LM,.row 0 1 (os.map I)]))
  (λy=>∃b,lM b/\y=(AX.exit 2,[],[AB.var (Fc f),.var (Tb b),LM,.row 0 1 (os.map I)])) (λ_ t=>lM t)
  (λi t v w=>by
   obtain⟨x,o⟩:∃x,x=os[i]:=⟨_,rfl⟩;have l:=abH (n:=216) ah t (nc w) x
   have h:=WF.free w x;generalize free t x=r at l h;simp only[Tv]at l;exact .inl ⟨r.1,h,by simp(disch:=omega)[round_eq,BF,h4,h8,v,<-o,l,nY]⟩)
  (λt w=>⟨_,⟨t,w,rfl⟩,by simp(disch:=omega)[round_eq,BF,h8]⟩) (aR _) t w
def VW{t:Tr.Tree}(w:lM t){l:List Qu}(hl:l.length<=1000)(os:ay)(e0:Env)(h2:e0 2 = .b9 false (l.map Qv))(h4:e0 4 = .ptr 1 0 0 0):
  ∃y,(y=(AX.exit 4,[AV.own 4 0 0 (l.filter λq=>(find t.nodes q.ino).isSome).length],[AB.var (Fc f),.var (Tb t),LM,.row 0 1 (os.map I),.row 0 3 ((l.filter λq=>(find t.nodes q.ino).isSome).map Qv)]))/\
   iter (round (en.cz 216) [14,15] [(.exit 4,[14])] yq e0 5 [4]) ([.own 4 0 0 0,I 0],[.var (Fc f),.var (Tb t),LM,.row 0 1 (os.map I),.row 0 3 []])=some y :=
 iQ (f:=round (en.cz 216) [14,15] [(.exit 4,[14])] yq e0 5 [4]) l.length (λi (qs:List Qu)=>([.own 4 0 0 qs.length,I (i:Int)],[AB.var (Fc f),.var (Tb t),LM,.row 0 1 (os.map I),.row 0 3 (qs.map Qv)]))
  (λy=>(y=(AX.exit 4,[AV.own 4 0 0 (l.filter λq=>(find t.nodes q.ino).isSome).length],[AB.var (Fc f),.var (Tb t),LM,.row 0 1 (os.map I),.row 0 3 ((l.filter λq=>(find t.nodes q.ino).isSome).map Qv)]))) (λi qs=>qs=(l.take i).filter λq=>(find t.nodes q.ino).isSome)
  (λi qs A h=>by
   obtain⟨x,v⟩:∃x,x=l[i]:=⟨_,rfl⟩;have z:qs.length<=l.length:=by rw[h];exact bF (bt _ _) (by rw[bE];omega)
   have o:=pT (n:=216) ah t (nc w) x.ino
   have b:(l.take (i+1)).filter (λq=>(find t.nodes q.ino).isSome)=qs++if (find t.nodes x.ino).isSome=true then[x]else[]:=by
    rw[fB,aG A,dw,<-h,<-v];simp[bN]
   unfold lq at o;simp only[Tv]at o;left;cases r:find t.nodes x.ino with
   |none =>
    rw[r]at b;simp only[r,bQ,Nd,jo,aM]at o;exact⟨qs,by rw[b];simp,by simp(disch:=omega)[round_eq,yq,h2,h4,<-v,o,nY]⟩
   |some q =>
    rw[r]at b;simp only[r,bB,Nd]at o;exact⟨qs++[x],by rw[b];simp,by simp(disch:=omega)[round_eq,yq,h2,h4,<-v,o,nY]⟩)
  (λqs h=>⟨_,rfl,by
   rw[aN (aU _)]at h;subst h;simp(disch:=omega)[round_eq,yq,h2]⟩) (aR _) [] rfl
def ah0{n:Nat}(K:216<n)(o:mF k f)(hk:k<=200){t:Tr.Tree}(w:lM t){l:List Qu}(hs:mE l)(hl:l.length<=16):∃G e,(en.cz n).p 149 [Fv f,Tv t,.b9 false (l.map Qv)]=some (.jg [Fv G,I e])/\mF (k+1) G:=by
 generalize b:(en.cz n).p 149 _=res;rw[pp 149 rfl K rfl,b8,b6]at b;have E:=(nc w).len;simp(disch:=omega)[afO]at b;generalize r:iter _ _=oo at b;obtain⟨_,⟨os,H,rfl⟩,rfl⟩:∃y,_/\oo=some y:=by rw[<-r];exact VY o w _ aq aq
 simp(disch:=omega)[nY]at b;generalize r:iter _ _=oo at b;obtain⟨_,⟨v,w',rfl⟩,rfl⟩:∃y,_/\oo=some y:=by rw[<-r];exact VX (f:=f) w os af _ aq aq
 simp(disch:=omega)[nY]at b;generalize r:iter _ _=oo at b;obtain⟨_,rfl,rfl⟩:∃y,_/\oo=some y:=by rw[<-r];exact VW (f:=f) w' (l:=l) af os _ aq aq
 have A:(l.filter λq=>(find v.nodes q.ino).isSome).length<=16:=bF (bt _ _) hl
 have z:mE (l.filter λq=>(find v.nodes q.ino).isSome):=hs.filter _
 generalize(l.filter λq=>(find v.nodes q.ino).isSome)=qs at *
 obtain⟨b1,h⟩:=ahB (n:=216) ah w' (l:=qs) af
 obtain⟨L,i⟩:=ahA (n:=216) ah w' (l:=qs) af
 obtain⟨s',F,x⟩:=s55 (n:=216) ah o.s af w'
 simp only[Tv,Sv,Sc]at h i F;cases b1 with
 |false =>
  simp(disch:=omega)[nY,ca 230,h]at b;exact⟨f,91,b.symm,o.up⟩
 |true =>
 cases L with
 |true =>
  simp(disch:=omega)[nY,ca 230,h,ca 231,i]at b;exact⟨f,90,b.symm,o.up⟩
 |false =>
  simp(disch:=omega)[nY,ca 230,h,ca 231,i,ca 55,F]at b;exact⟨⟨s',f.holds,qs⟩,0,b.symm,⟨x,o.hs,o.hl,z,A⟩⟩
end
def Uy{n:Nat}(v:217<n){f:FS}{k:Nat}(q:mF k f)(hk:k<=200){t:Tr.Tree}(w:lM t){l:List Qu}(hs:mE l)(hl:l.length<=16)(e:Int){a:nH}(x:zM a):∃i a',(en.cz n).p 95 [Fv f,Tv t,.b9 false (l.map Qv),I e,Av a]=some (.jg [Fv i,Av a'])/\mF (k+1) i/\zM a':=by
 generalize b:(en.cz n).p 95 _=res;rw[pp 95 rfl v rfl,b8,b6]at b;have h:=λe=>Uz (n:=217) ah e
 simp only[Av,Ac,aM]at h
 by_cases c:e=0
 case neg =>
  simp(disch:=omega)[c95,c,h]at b;exact⟨f,⟨e,0,0,0,0,[],[]⟩,b.symm,q.up,j7 ..⟩
 subst c;obtain⟨i,e',r,o⟩:=ah0 (n:=217) ah q hk w hs hl
 simp only[Fv,Fc,Sc,Tv,aJ,aK]at r
 by_cases c:e'=0
 .subst c;simp(disch:=omega)[c95,ca 149,r]at b;exact⟨i,a,b.symm,o,x⟩
 .simp(disch:=omega)[c95,ca 149,r,c,h]at b;exact⟨f,⟨e',0,0,0,0,[],[]⟩,b.symm,q.up,j7 ..⟩
def We(d:au)(i:d.length<=5000)(K:Nat)(o:K<=10000)(at_:Nat)(b:au)(n:at_+b.length=K)(e0:Env)(h1:e0 1=I (at_:Int))(h2:e0 2 = .b9 false (b.map B)):
  ∃y,(∃h:au,K<=h.length/\h.length<=10000/\y=(AX.exit 0,[AV.own 0 0 0 h.length],[AB.row 0 1 (h.map B)]))/\iter (round (en.cz 238) [7] [(.exit 0,[7])] BI e0 1 [0]) ([.own 0 0 0 d.length],[.row 0 1 (d.map B)])=some y :=
 zF (f:=round (en.cz 238) [7] [(.exit 0,[7])] BI e0 1 [0]) (λ(d:au)=>([AV.own 0 0 0 d.length],[AB.row 0 1 (d.map B)])) (λy=>∃h:au,K<=h.length/\h.length<=10000/\y=(AX.exit 0,[AV.own 0 0 0 h.length],[AB.row 0 1 (h.map B)])) (λd=>d.length<=10000) (λd=>K-d.length)
  (λd i=>by
   have l:b.length<=10000:=af
   by_cases c:d.length<at_+b.length
   .exact .inl ⟨d++[0],ak,ak,by simp(disch:=omega)[round_eq,BI,h1,h2]⟩
   .exact .inr ⟨_,⟨d,af,i,rfl⟩,by simp(disch:=omega)[round_eq,BI,h1,h2]⟩)
  d af
def Wd(d:au)(v:d.length<=10000)(at_:Nat)(b:au)(z:at_+b.length<=d.length)(e0:Env)(h1:e0 1=I (at_:Int))(h2:e0 2 = .b9 false (b.map B))(q:e0 7 = .own 0 0 0 d.length):
  ∃y,(∃h:au,h.length=d.length/\y=(AX.exit 2,[],[AB.row 0 1 (h.map B)]))/\iter (round (en.cz 238) [8] [(.exit 2,[])] BH e0 1 []) ([I 0],[.row 0 1 (d.map B)])=some y :=
 iQ (f:=round (en.cz 238) [8] [(.exit 2,[])] BH e0 1 []) b.length (λi (h:au)=>([I (i:Int)],[AB.row 0 1 (h.map B)])) (λy=>∃h:au,h.length=d.length/\y=(AX.exit 2,[],[AB.row 0 1 (h.map B)])) (λ_ h=>h.length=d.length)
  (λi h r l=>by
   obtain⟨x,n⟩:∃x,x=b[i]:=⟨_,rfl⟩;have o:at_+i<h.length:=af
   exact .inl ⟨h.set (at_+i) x,an l,by simp(disch:=omega)[round_eq,BH,h1,h2,q,<-n]⟩)
  (λh l=>⟨_,⟨h,l,rfl⟩,by simp(disch:=omega)[round_eq,BH,h2]⟩) (aR _) d rfl
def aii{n:Nat}(o:238<n)(d:au)(v:d.length<=4096)(at_:Nat)(b:au)(x:at_+b.length<=4096):∃l:au,(en.cz n).p 108 [.b9 false (d.map B),I (at_:Int),.b9 false (b.map B)]=some (.b9 false (l.map B))/\l.length<=10000:=by
 generalize h:(en.cz n).p 108 _=res;rw[pp 108 rfl o rfl,b8,b6]at h
 by_cases c:b.length=0
 .simp(disch:=omega)[YJ,c]at h;exact⟨d,h.symm,af⟩
 .simp(disch:=omega)[YJ,c]at h;generalize i:iter _ _=oo at h;obtain⟨_,⟨r,h1,h2,rfl⟩,rfl⟩:∃y,_/\oo=some y:=by rw[<-i];exact We d af (at_+b.length) af at_ b rfl _ aq aq
  simp(disch:=omega)at h;generalize i:iter _ _=oo at h;obtain⟨_,⟨q,h3,rfl⟩,rfl⟩:∃y,_/\oo=some y:=by rw[<-i];exact Wd r h2 at_ b h1 _ aq aq aq
  simp(disch:=omega)[h3]at h;refine⟨q,?_,af⟩
  rw[<-h]
def Wh(q:Tr.Node)(M:q.b7.length<=64)(fr:Int)(H:AH)(K:oE H)(h0:H[0]? = some (.var (Nc q)))(e0:Env)(h2:e0 2=I fr)(l:e0 11 = .ptr 0 0 0 0)(L:Nat)(G:L=H.length):
  ∃y,(∃b:Int,-1<=b/\b<q.b7.length/\y=(AX.exit 2,[I b],H))/\iter (round (en.cz 228) [14,15] [(.exit 2,[14])] tP e0 L []) ([I (-1),I 0],H)=some y:=by
 subst G;have F:=(aA.1 h0).1;have h:=(aA.1 h0).2;have n:=K.same
 exact iQ (f:=round (en.cz 228) [14,15] [(.exit 2,[14])] tP e0 H.length []) q.b7.length (λi (b:Int)=>([I b,I (i:Int)],H)) (λy=>∃b:Int,-1<=b/\b<q.b7.length/\y=(AX.exit 2,[I b],H)) (λ_ b=>-1<=b/\b<q.b7.length)
  (λi b O o=>by
   obtain⟨x,r⟩:∃x,x=q.b7[i]:=⟨_,rfl⟩;left
   by_cases v:fr<=x.ek
   case neg=>exact⟨b,o,by simp(disch:=omega)[round_eq,tP,h2,l,h,<-r,v,n]⟩
   by_cases A:b<0
   .exact⟨i,⟨af,af⟩,by simp(disch:=omega)[round_eq,tP,h2,l,h,<-r,v,A,n]⟩
   obtain⟨m,rfl⟩:∃m:Nat,b=(m:Int):=⟨b.toNat,af⟩
   have N:m<q.b7.length:=af
   obtain⟨z,E⟩:∃z,z=q.b7[m]:=⟨_,rfl⟩
   by_cases c3:x.ek<z.ek
   .exact⟨i,⟨af,af⟩,by simp(disch:=omega)[round_eq,tP,h2,l,h,<-r,<-E,v,A,c3,n]⟩
   .exact⟨m,o,by simp(disch:=omega)[round_eq,tP,h2,l,h,<-r,<-E,v,A,c3,n]⟩)
  (λb o=>⟨_,⟨b,o.1,o.2,rfl⟩,by simp(disch:=omega)[round_eq,tP,l,h]⟩) (aR _) (-1) ⟨af,af⟩
def Wg(q:Tr.Node)(E:q.b7.length<=64){M:Nat}(K:1<=M)(N:M<=64)(i:Int)(e0:Env)(_h2:True)(h3:e0 3=I (M:Int))(l:e0 11 = .ptr 0 0 0 0):
  ∃y,(∃(es:List Tr.Ent) (nx e:Int),es.length<=64/\y=(AX.ret,[AV.own 1 0 0 es.length,I nx,I e],[AB.var (Nc q),.row 0 3 (es.map En)]))/\iter (round (en.cz 228) [2,13] [(.ret,[8,9,10])] BJ e0 2 [1]) ([I i,.own 1 0 0 0],[.var (Nc q),.row 0 3 []])=some y :=
 zF (f:=round (en.cz 228) [2,13] [(.ret,[8,9,10])] BJ e0 2 [1]) (λ(x:Int×List Tr.Ent)=>([I x.1,.own 1 0 0 x.2.length],[AB.var (Nc q),.row 0 3 (x.2.map En)]))
  (λy=>∃(es:List Tr.Ent) (nx e:Int),es.length<=64/\y=(AX.ret,[AV.own 1 0 0 es.length,I nx,I e],[AB.var (Nc q),.row 0 3 (es.map En)])) (λx=>x.2.length<=M) (λx=>M-x.2.length)
  (λx o=>by
   obtain⟨fr,es⟩:=x;simp only at o;have key:=λe0 h2 l=>Wh q E fr [.var (Nc q),.row 0 3 (es.map En)] (kf (by simp[gd,AV.jW])) rfl e0 h2 l 2 rfl
   simp only[Nc]at key;generalize h:round (en.cz 228) [2,13] [(.ret,[8,9,10])] BJ e0 2 [1] _=res;simp(disch:=omega)[round_eq,BJ]at h;generalize o:iter _ _=oo at h;obtain⟨_,⟨b,H,G,rfl⟩,rfl⟩:∃y,_/\oo=some y:=by rw[<-o];exact key _ aq (by simp(disch:=omega)[l])
   by_cases v:b<0
   .simp(disch:=omega)[v]at h;exact .inr ⟨_,⟨es,_,_,af,rfl⟩,by rw[<-h]⟩
   by_cases A:es.length=M
   .have F:M-1<es.length:=by omega
    have r:((M:Int)-1)=((M-1:Nat):Int):=af
    obtain⟨z,n⟩:∃z,z=es[M-1]:=⟨_,rfl⟩;simp(disch:=omega)[h3,v,A,r,<-n]at h;exact .inr ⟨_,⟨es,_,_,af,rfl⟩,by rw[<-h,A]⟩
   obtain⟨m,rfl⟩:∃m:Nat,b=(m:Int):=⟨b.toNat,af⟩
   have L:m<q.b7.length:=af
   obtain⟨z,n⟩:∃z,z=q.b7[m]:=⟨_,rfl⟩;simp(disch:=omega)[h3,l,v,<-n]at h;exact .inl ⟨(IntKind.i64.wrap (z.ek+1),es++[z]),ak,ak,by rw[<-h];simp(disch:=omega)⟩)
  (i,[]) (aR _)
def ain{n:Nat}(z:228<n)(t:Tr.Tree)(w:lM t)(d i m:Int):∃(F:Bool) (es:List Tr.Ent) (nx e:Int),(en.cz n).p 102 [Tv t,I d,I i,I m]=some (.jg [.b9 F (es.map En),I nx,I e])/\es.length<=64:=by
 generalize b:(en.cz n).p 102 _=res;rw[pp 102 rfl z rfl,b8,b6]at b
 by_cases h:i<0
 .simp(disch:=omega)[Ls,h]at b;exact⟨false,[],0,1,b.symm,ai⟩
 by_cases l:m<1
 .simp(disch:=omega)[Ls,h,l]at b;exact⟨false,[],0,1,b.symm,ai⟩
 by_cases c3:64<m
 .simp(disch:=omega)[Ls,h,l,c3]at b;exact⟨false,[],0,1,b.symm,ai⟩
 have o:=Kj (n:=228) ah t (nc w) d
 have x:(kD t d).b7.length<=64:=by
  unfold kD;cases A:find t.nodes d with
  |none=>simp[jo]
  |some q =>
   simp only;split
   .exact(jQ w (fk A).1).1
   .simp[jo]
 generalize kD t d=q at *
 generalize jF t d=e at *
 simp only[Tv,Nd]at o
 by_cases c4:e=0
 case neg =>
  simp(disch:=omega)[Ls,h,l,c3,ca 152,o,c4]at b;exact⟨false,[],0,e,b.symm,ai⟩
 subst c4;simp(disch:=omega)[Ls,h,l,c3,ca 152,o]at b;have key:=λe0 h2 h3 r=>Wg q x (M:=m.toNat) af af i e0 h2 h3 r
 rw[show ((m.toNat:Nat):Int)=m by omega]at key
 generalize v:iter _ _=oo at b;obtain⟨_,⟨es,nx,e,E,rfl⟩,rfl⟩:∃y,_/\oo=some y:=by rw[<-v];exact key _ trivial aq aq
 simp(disch:=omega)at b;exact⟨_,es,nx,e,b.symm,af⟩
def af7{n:Nat}(b:218<n){t:Tr.Tree}(w:lM t)(i:Int)(s:au)(hs:s.length<=1000000)(kind:Int):(en.cz n).p 96 [Tv t,I i,.str s,I kind]=some (.jg [Tv (Tr.add j4 gr t i s kind).1,I (Tr.add j4 gr t i s kind).2.1,I (Tr.add j4 gr t i s kind).2.2]):=by
 refine s96 b t (nc w) i s af kind ?_ ?_
 .have:=w.bg.ck;omega
 .exact λ_ _=>wS (w.bg.nC kind _) af
def s49{n:Nat}(hn:226<n){f:FS}{k:Nat}(h:mF k f)(hk:k<=200){o:lX}(Y:uy o):∃F a',(en.cz n).p 49 [Fv f,Ov o]=some (.jg [Fv F,Av a'])/\mF (k+1) F/\zM a':=by
 generalize b:(en.cz n).p 49 _=res;rw[pp 49 rfl hn rfl,b8,b6]at b;have hop:=Y.p;have hot:=Y.t;have A:=λe=>Uz (n:=226) ah e
 simp only[Av,Ac,aM]at A;obtain⟨d,s,e,M,U⟩:=s93 (n:=226) ah f.s.now h.s.w o.path af
 obtain⟨G,E,T,y,X⟩:=s93 (n:=226) ah f.s.now h.s.w o.to af
 simp only[Tv]at M y
 by_cases c3:o.kind=3
 .have S:=s92 (n:=226) ah f.s.now h.s.w o.path af
  generalize mO f.s.now o.path=wk at *
  obtain⟨i,e0⟩:=wk;simp only[Tv]at S
  by_cases L:e0=0
  case neg =>
   simp(disch:=omega)[RQ,c3,ca 92,S,L,A]at b;exact⟨f,⟨e0,0,0,0,0,[],[]⟩,b.symm,h.up,j7 ..⟩
  by_cases x:T=0
  case neg =>
   simp(disch:=omega)[RQ,c3,ca 92,S,L,ca 93,y,x,A]at b;exact⟨f,⟨T,0,0,0,0,[],[]⟩,b.symm,h.up,j7 ..⟩
  subst L x
  have P:(en.cz 226).p 94 [Tv f.s.now,I i,I G,.str E]=some (.jg [Tv (Tr.ln j4 gr f.s.now i G E).1,I (Tr.ln j4 gr f.s.now i G E).2]):=by
   have O:=h.s.w.bg;refine s94 ah f.s.now (nc h.s.w) i G E af (by have:=O.ck;omega) (λq Q=>?_) λq Q=>?_
   .have h1:=O.b7 q (fk Q).1;have h2:=O.lk q (fk Q).1;exact wS ((O.mono (show 0<=1 by omega)).iP (n:={q with links:=q.links+1}) (by simp only;omega) (by simp only;omega)) af
   .have:=O.lk q (fk Q).1;omega
  have K:=WF.ln jM h.s.w i G E;generalize Tr.ln j4 gr f.s.now i G E=r at *
  obtain⟨t,e⟩:=r;obtain⟨F,a',z,l,v⟩:=Uy (n:=226) ah h hk K h.qs h.ql e (a:=⟨0,i,0,0,0,[],[]⟩) (j7 ..)
  simp only[Tv,Fv,Fc,Sc,Av,Ac,aJ,aK,aM]at P z;simp(disch:=omega)[RQ,c3,ca 92,S,ca 93,y,ca 94,P,ca 95,z]at b;exact⟨F,a',b.symm,l,v⟩
 by_cases Z:e=0
 case neg =>
  simp(disch:=omega)[RQ,c3,ca 93,M,Z,A]at b;exact⟨f,⟨e,0,0,0,0,[],[]⟩,b.symm,h.up,j7 ..⟩
 subst Z
 by_cases W:o.kind=2
 .have H:=af7 (n:=226) ah h.s.w d s U o.n
  have K:=WF.add jM h.s.w d s o.n;generalize Tr.add j4 gr f.s.now d s o.n=r at *
  obtain⟨t,i,e⟩:=r;obtain⟨F,a',z,l,v⟩:=Uy (n:=226) ah h hk K h.qs h.ql e (a:=⟨0,i,o.n,0,0,[],[]⟩) (j7 ..)
  simp only[Tv,Fv,Fc,Sc,Av,Ac,aJ,aK,aM]at H z;simp(disch:=omega)[RQ,ca 93,M,W,ca 96,H,ca 95,z]at b;exact⟨F,a',b.symm,l,v⟩
 by_cases c4:o.kind=4
 .have N:=IB h.s.w d s;have H:=s97 (n:=226) ah f.s.now (nc h.s.w) d s af N.1 N.2
  have K:=WF.un jM h.s.w d s;generalize Tr.un j4 f.s.now d s=r at *
  obtain⟨t,i,e⟩:=r;obtain⟨F,a',z,l,v⟩:=Uy (n:=226) ah h hk K h.qs h.ql e (a:=⟨0,i,0,0,0,[],[]⟩) (j7 ..)
  simp only[Tv,Fv,Fc,Sc,Av,Ac,aJ,aK,aM]at H z;simp(disch:=omega)[RQ,ca 93,M,c4,ca 97,H,ca 95,z]at b;exact⟨F,a',b.symm,l,v⟩
 by_cases x:T=0
 case neg =>
  simp(disch:=omega)[RQ,c3,ca 93,M,W,c4,y,x,A]at b;exact⟨f,⟨T,0,0,0,0,[],[]⟩,b.symm,h.up,j7 ..⟩
 subst x;have P:=Zp (n:=226) ah f.s.now (nc h.s.w) d s af
 have N:=QC h.s.w d s G E;have H:=s99 (n:=226) ah f.s.now (nc h.s.w) d G s E af af (by have:=h.s.w.bg.ck;omega) N.1 N.2
 have K:=WF.mv jM h.s.w d s G E;generalize(Tr.look j4 f.s.now d s)=lk at *
 obtain⟨li,le⟩:=lk;generalize Tr.mv j4 gr f.s.now d s G E=r at *
 obtain⟨t,i,e⟩:=r;obtain⟨F,a',z,l,v⟩:=Uy (n:=226) ah h hk K h.qs h.ql e (a:=⟨0,li,0,0,0,[],[]⟩) (j7 ..)
 simp only[Tv,Fv,Fc,Sc,Av,Ac,aJ,aK,aM]at P H z;simp(disch:=omega)[RQ,c3,ca 93,M,W,c4,y,ca 98,P,ca 99,H,ca 95,z]at b;exact⟨F,a',b.symm,l,v⟩
def ac8(X:AH)(z:oE X)(es:List Tr.Ent)(r:es.length<=64)(F:Bool)(e0:Env)(n:e0 11 = .b9 F (es.map En))(L b:Nat)(E:L=X.length+1)(v:b=X.length):
  ∃y,(∃h:List au,h.length=es.length/\y=(AX.exit 1,[AV.own b 0 0 h.length],X++[AB.row 0 1 (h.map AV.str)]))/\iter (round (en.cz 234) [14,15] [(.exit 1,[14])] Gy e0 L [b]) ([.own b 0 0 0,I 0],X++[.row 0 1 []])=some y:=by
 subst E v;have A:=λh0 Y=>z.tail (L:=X.length+1) (R:=[X.length]) af ai h0 Y
 have o:=jr X
 exact iQ (f:=round (en.cz 234) [14,15] [(.exit 1,[14])] Gy e0 (X.length+1) [X.length]) es.length (λi (h:List au)=>([.own X.length 0 0 h.length,I (i:Int)],X++[AB.row 0 1 (h.map AV.str)]))
  (λy=>∃h:List au,h.length=es.length/\y=(AX.exit 1,[AV.own X.length 0 0 h.length],X++[AB.row 0 1 (h.map AV.str)])) (λi h=>h.length=i)
  (λi h G l=>by
   obtain⟨x,q⟩:∃x,x=es[i]:=⟨_,rfl⟩;exact .inl ⟨h++[x.name],by simp[l],by simp(disch:=omega)[round_eq,Gy,n,<-q,l,A,o]⟩)
  (λh l=>⟨_,⟨h,l,rfl⟩,by simp(disch:=omega)[round_eq,Gy,n,l]⟩) (aR _) [] rfl
def s50{n:Nat}(hn:234<n){f:FS}{k:Nat}(v:mF k f)(hk:k<=200){o:lX}(ho:uy o):∃H a',(en.cz n).p 50 [Fv f,Ov o]=some (.jg [Fv H,Av a'])/\mF (k+1) H/\zM a':=by
 generalize b:(en.cz n).p 50 _=res;rw[pp 50 rfl hn rfl,b8,b6]at b;have hop:=ho.p;have A:=λe=>Uz (n:=234) ah e
 simp only[Av,Ac,aM]at A;have x:=s92 (n:=234) ah f.s.now v.s.w o.path af
 generalize mO f.s.now o.path=X at *
 obtain⟨i,e0⟩:=X;simp only[Tv]at x
 by_cases G:e0=0
 case neg =>
  simp(disch:=omega)[OP,ca 92,x,G,A]at b;exact⟨f,⟨e0,0,0,0,0,[],[]⟩,b.symm,v.up,j7 ..⟩
 subst G;have z:=pT (n:=234) ah f.s.now (nc v.s.w) i
 have hg:lq (find f.s.now.nodes i) = .jg [Nd (iS f.s.now i),.bool (find f.s.now.nodes i).isSome]:=by
  unfold lq iS;cases find f.s.now.nodes i<;>rfl
 rw[hg]at z
 have hqs:(iS f.s.now i).b7.length<=64/\(iS f.s.now i).data.length<=4096:=by
  unfold iS;cases L:find f.s.now.nodes i with
  |none=>simp[jo]
  |some q=>exact jQ v.s.w (fk L).1
 generalize iS f.s.now i=q at *
 generalize(find f.s.now.nodes i).isSome=bq at *
 simp only[Tv,Nd]at z
 by_cases S:o.kind=1
 .simp(disch:=omega)[OP,ca 92,x,ca 100,z,S]at b;exact⟨f,⟨0,i,q.kind,0,0,[],[]⟩,b.symm,v.up,j7 ..⟩
 by_cases c7:o.kind=7
 .obtain⟨r,U⟩:=abY (n:=234) ah q af
  simp only[Nd]at U;simp(disch:=omega)[OP,ca 92,x,ca 100,z,c7,U]at b;exact⟨f,⟨0,i,q.kind,q.links,r,[],[]⟩,b.symm,v.up,j7 ..⟩
 by_cases c6:o.kind=6
 .obtain⟨fl,es,nx,e,Q,N⟩:=ain (n:=234) ah f.s.now v.s.w i o.n o.m
  simp only[Tv]at Q
  by_cases E:e=0
  case neg =>
   simp(disch:=omega)[OP,ca 92,x,ca 100,z,c6,ca 102,Q,E,A]at b;exact⟨f,⟨e,0,0,0,0,[],[]⟩,b.symm,v.up,j7 ..⟩
  subst E;simp(disch:=omega)[OP,ca 92,x,ca 100,z,c6,ca 102,Q]at b;have key:=λe0 h=>ac8 [.var (Fc f),.var nY,.var Dm,.var (Tb f.s.now),.var (Nc q)] (kf (by simp[gd,AV.jW,nY,Dm])) es N fl e0 h 6 5 rfl rfl
  simp only[nY,Dm,Fc,Sc,Nc,Tb,aJ,aK]at key;generalize Z:iter _ _=oo at b;obtain⟨_,⟨Y,hns,rfl⟩,rfl⟩:∃y,_/\oo=some y:=by rw[<-Z];exact key _ aq
  simp(disch:=omega)at b;exact⟨f,⟨0,0,0,nx,0,Y,[]⟩,b.symm,v.up,⟨by simp only;omega,ai⟩⟩
 by_cases c8:o.kind=8
 .have F:=aim (n:=234) ah f.s.now (nc v.s.w) f.holds (by have:=v.hl;omega) false o.client o.handle i
  have T:=yN f.s.now f.holds o.client o.handle i;generalize qm f.s.now f.holds o.client o.handle i=r at *
  obtain⟨l,e⟩:=r;simp only[Tv,dn]at F T
  by_cases E:e=0
  .subst E
   rcases T with⟨_,h⟩ | ⟨_,_,_,_,_,h5,h6,h7⟩
   .exact absurd rfl h
   .cases h7;simp(disch:=omega)[OP,ca 92,x,ca 100,z,c8,ca 103,F]at b;exact⟨⟨f.s,uF f.holds ⟨o.client,o.handle,i⟩,f.jG⟩,⟨0,i,0,0,0,[],[]⟩,b.symm,⟨v.s.mono af,FL v.hs h5,by simp only[FM];omega,v.qs,v.ql⟩,j7 ..⟩
  .simp(disch:=omega)[OP,ca 92,x,ca 100,z,c8,ca 103,F,E,A]at b;exact⟨f,⟨e,0,0,0,0,[],[]⟩,b.symm,v.up,j7 ..⟩
 by_cases c13:o.kind=13
 .have F:=ail (n:=234) ah f.s.now v.s.w f.jG (by have:=v.ql;omega) false i o.n o.m
  obtain⟨h1,h2⟩:=IK (t:=f.s.now) v.qs v.ql i o.n o.m;generalize rI f.s.now f.jG i o.n o.m=r at *
  obtain⟨l,e⟩:=r;simp only at h1 h2 F;obtain⟨H,a',W,M,O⟩:=Uy (n:=234) ah v hk v.s.w h1 h2 e (a:=⟨0,i,0,0,0,[],[]⟩) (j7 ..)
  simp only[Tv,Fv,Fc,Sc,Av,Ac,aJ,aK,aM,dn]at F W;simp(disch:=omega)[OP,ca 92,x,ca 100,z,c13,ca 104,F,ca 95,W]at b;exact⟨H,a',b.symm,M,O⟩
 obtain⟨s',a,e,P,K⟩:=aik (n:=234) ah v.s i
 simp only[Sv,Sc]at P
 by_cases E:e=0
 .subst E;simp(disch:=omega)[OP,ca 92,x,ca 100,z,S,c7,c6,c8,c13,ca 105,P]at b;exact⟨⟨s',f.holds,f.jG⟩,⟨0,0,0,a,0,[],[]⟩,b.symm,⟨K.mono af,v.hs,v.hl,v.qs,v.ql⟩,j7 ..⟩
 .simp(disch:=omega)[OP,ca 92,x,ca 100,z,S,c7,c6,c8,c13,ca 105,P,E,A]at b;exact⟨f,⟨e,0,0,0,0,[],[]⟩,b.symm,v.up,j7 ..⟩
def s51{n:Nat}(hn:240<n){f:FS}{k:Nat}(h:mF k f)(hk:k<=200){o:lX}(ho:uy o):∃K a',(en.cz n).p 51 [Fv f,Ov o]=some (.jg [Fv K,Av a'])/\mF (k+1) K/\zM a':=by
 generalize b:(en.cz n).p 51 _=res;rw[pp 51 rfl hn rfl,b8,b6]at b;have Tg:=ho.d;have hhl:=h.hl;have v:=λe=>Uz (n:=240) ah e
 simp only[Av,Ac,aM]at v
 by_cases c9:o.kind=9
 .have hC:=abX (n:=240) ah f.s.now (nc h.s.w) f.holds af false o.client o.handle
  have H:=WF.close h.s.w f.holds o.client o.handle;have Z:=r8 f.s.now f.holds o.client o.handle;have vo:=nG h.hs f.s.now o.client o.handle;have L:qh (js f.s.now f.holds o.client o.handle).2.1:=by rw[vo];exact h.hs.filter _
  generalize js f.s.now f.holds o.client o.handle=r at *
  obtain⟨t,l,e⟩:=r;simp only[Tv,dn]at hC H Z L
  by_cases O:e=0
  .subst O;obtain⟨s',A,U⟩:=s55 (n:=240) ah h.s af H
   simp only[Tv,Sv,Sc]at A;simp(disch:=omega)[LK,c9,ca 106,hC,ca 55,A]at b;exact⟨⟨s',l,f.jG⟩,⟨0,0,0,0,0,[],[]⟩,b.symm,⟨U,L,by simp only;omega,h.qs,h.ql⟩,j7 ..⟩
  .simp(disch:=omega)[LK,c9,ca 106,hC,O,v]at b;exact⟨f,⟨e,0,0,0,0,[],[]⟩,b.symm,h.up,j7 ..⟩
 have x:=aij (n:=240) ah f.holds af false o.client o.handle
 generalize FO f.holds o.client o.handle=r at *
 obtain⟨i,e⟩:=r;simp only at x
 by_cases O:e=0
 case neg =>
  simp(disch:=omega)[LK,c9,ca 107,x,O,v]at b;exact⟨f,⟨e,0,0,0,0,[],[]⟩,b.symm,h.up,j7 ..⟩
 subst O;have y:=pT (n:=240) ah f.s.now (nc h.s.w) i
 have hg:lq (find f.s.now.nodes i) = .jg [Nd (iS f.s.now i),.bool (find f.s.now.nodes i).isSome]:=by
  unfold lq iS;cases find f.s.now.nodes i<;>rfl
 rw[hg]at y
 have W:(iS f.s.now i).b7.length<=64/\(iS f.s.now i).data.length<=4096:=by
  unfold iS;cases hfi:find f.s.now.nodes i with
  |none=>simp[jo]
  |some q=>exact jQ h.s.w (fk hfi).1
 generalize iS f.s.now i=q at *
 generalize(find f.s.now.nodes i).isSome=bq at *
 simp only[Tv,Nd]at y;have Tl:=W.2
 by_cases z:o.n<0
 .simp(disch:=omega)[LK,c9,ca 107,x,ca 100,y,z,v]at b;exact⟨f,⟨1,0,0,0,0,[],[]⟩,b.symm,h.up,j7 ..⟩
 obtain⟨N,P⟩:∃N:Nat,o.n=(N:Int):=⟨o.n.toNat,af⟩
 by_cases zb:o.kind=10
 .by_cases S:o.m<0
  .simp(disch:=omega)[LK,ca 107,x,ca 100,y,z,zb,S,v]at b;exact⟨f,⟨1,0,0,0,0,[],[]⟩,b.symm,h.up,j7 ..⟩
  by_cases G:4096<o.m
  .simp(disch:=omega)[LK,ca 107,x,ca 100,y,z,zb,S,G,v]at b;exact⟨f,⟨1,0,0,0,0,[],[]⟩,b.symm,h.up,j7 ..⟩
  obtain⟨M,hM⟩:∃M:Nat,o.m=(M:Int):=⟨o.m.toNat,af⟩
  rw[hM]at S G;rw[P]at z;simp(disch:=omega)[LK,ca 107,x,ca 100,y,zb,hM,P,z,S,G]at b;generalize(min (N:Int) (q.data.length:Int)).toNat=j1 at b;generalize(min (min (N:Int) (q.data.length:Int)+(M:Int)) (q.data.length:Int)).toNat=j2 at b;rw[<-List.map_take,<-List.map_drop]at b;exact⟨f,⟨0,i,0,0,0,[],(q.data.take j2).drop j1⟩,b.symm,h.up,⟨ai,by simp only[bS,bE];omega⟩⟩
 by_cases sE:o.kind=11
 .by_cases G:4096<o.n
  .simp(disch:=omega)[LK,ca 107,x,ca 100,y,z,sE,G,v]at b;exact⟨f,⟨1,0,0,0,0,[],[]⟩,b.symm,h.up,j7 ..⟩
  by_cases d4:4096<o.n+o.data.length
  .simp(disch:=omega)[LK,ca 107,x,ca 100,y,z,sE,G,d4,v]at b;exact⟨f,⟨2,0,0,0,0,[],[]⟩,b.symm,h.up,j7 ..⟩
  obtain⟨T,hL,ak4⟩:=aii (n:=240) ah q.data Tl N o.data af
  have A:=abW (n:=240) ah f.s.now (nc h.s.w) i false T af
  have H:=WF.put h.s.w i T;generalize put f.s.now i T=r at *
  obtain⟨t,e⟩:=r;obtain⟨K,a',Q,E,F⟩:=Uy (n:=240) ah h hk H h.qs h.ql e (a:=⟨0,i,0,0,T.length,[],[]⟩) (j7 ..)
  rw[<-P]at hL;simp only[Tv,Fv,Fc,Sc,Av,Ac,aJ,aK,aM]at A Q;simp(disch:=omega)[LK,ca 107,x,ca 100,y,z,sE,G,d4,ca 108,hL,ca 109,A,ca 95,Q]at b;exact⟨K,a',b.symm,E,F⟩
 rw[P]at z;obtain⟨J,hJ,hJl⟩:∃J:Nat,min (N:Int) (q.data.length:Int)=J/\J<=q.data.length:=⟨(min (N:Int) (q.data.length:Int)).toNat,af,af⟩
 have A:=abW (n:=240) ah f.s.now (nc h.s.w) i false (q.data.take J) (by rw[bE];omega)
 have H:=WF.put h.s.w i (q.data.take J);generalize put f.s.now i (q.data.take J)=r at *
 obtain⟨t,e⟩:=r;obtain⟨K,a',Q,E,F⟩:=Uy (n:=240) ah h hk H h.qs h.ql e (a:=⟨0,i,0,0,J,[],[]⟩) (j7 ..)
 have X:(q.data.take J).map B=(q.data.map B).take J:=List.map_take;rw[X]at A;have Y:min J q.data.length=J:=af
 simp only[Tv,Fv,Fc,Sc,Av,Ac,aJ,aK,aM]at A Q;simp(disch:=omega)[-List.map_take,LK,c9,ca 107,x,ca 100,y,P,z,zb,sE,hJ,hJl,Y,ca 109,A,ca 95,Q]at b;exact⟨K,a',b.symm,E,F⟩
def Jm{l:List Tr.Node}(hl:zc 100000 l)(a:Int):∃q b,lq (find l a) = .jg [Nd q,.bool b]/\q.b7.length<=64/\q.data.length<=4096:=by
 unfold lq;cases h:find l a with
 |none=>exact⟨jo,false,rfl,by simp[jo],by simp[jo]⟩
 |some q=>exact⟨q,true,rfl,hl.sm q (fk h).1⟩
abbrev A7:AB:=.var (Ac Az)
abbrev T7(l:List Tr.Node):AB:=.var [.b9 false (l.map Nd),I 0,I 0]
def ac7(l:List Tr.Node)(q:Tr.Node)(r:q.b7.length<=64)(ps:List au)(f:Bool)(i:Nat)(z:i<ps.length)(e0:Env)(h8:e0 8 = .b9 f (ps.map AV.str))(b:e0 10 = .ptr 2 0 0 0)(h:e0 12=I (i:Int)):
  ∃y,(∃v,y=(AX.exit 2,[I v],[A7,T7 l,.var (Nc q)]))/\iter (round (en.cz 245) [13,14] [(.exit 2,[13])] C9 e0 3 []) ([I 0,I 0],[A7,T7 l,.var (Nc q)])=some y :=
 iQ (f:=round (en.cz 245) [13,14] [(.exit 2,[13])] C9 e0 3 []) q.b7.length (λj (v:Int)=>([I v,I (j:Int)],[A7,T7 l,.var (Nc q)])) (λy=>∃v,y=(AX.exit 2,[I v],[A7,T7 l,.var (Nc q)])) (λ_ _=>True)
  (λj v x _=>by
   obtain⟨e,o⟩:∃e,e=q.b7[j]:=⟨_,rfl⟩;obtain⟨p,n⟩:∃p,p=ps[i]:=⟨_,rfl⟩;left
   by_cases c:e.name=p
   .exact⟨e.ino,trivial,by simp(disch:=omega)[round_eq,C9,h8,b,h,<-o,<-n,j9,c]⟩
   .exact⟨v,trivial,by simp(disch:=omega)[round_eq,C9,h8,b,h,<-o,<-n,j9,c]⟩)
  (λv _=>⟨_,⟨v,rfl⟩,by simp(disch:=omega)[round_eq,C9,b]⟩) (aR _) 0 trivial
def ac6{l:List Tr.Node}(hl:zc 100000 l)(ps:List au)(L:ps.length<=1000){f:Bool}{q:Tr.Node}(x:q.b7.length<=64/\q.data.length<=4096)(e0:Env)(h4:e0 4 = .ptr 0 0 0 0)(h8:e0 8 = .b9 f (ps.map AV.str))(F:e0 9 = .ptr 1 0 0 0)(o:e0 10 = .ptr 2 0 0 0):
  ∃y,((∃q:Tr.Node,(q.b7.length<=64/\q.data.length<=4096)/\y=(AX.exit 0,[],[A7,T7 l,.var (Nc q)]))\/∃(e:Int) (H:AH),y=(AX.ret,[],AB.var (Ac ⟨e,0,0,0,0,[],[]⟩)::H))/\
   iter (round (en.cz 245) [12] [(.exit 0,[]),(.ret,[])] Bz e0 3 []) ([I 0],[A7,T7 l,.var (Nc q)])=some y :=
 iQ (f:=round (en.cz 245) [12] [(.exit 0,[]),(.ret,[])] Bz e0 3 []) ps.length (λi (q:Tr.Node)=>([I (i:Int)],[A7,T7 l,.var (Nc q)]))
  (λy=>(∃q:Tr.Node,(q.b7.length<=64/\q.data.length<=4096)/\y=(AX.exit 0,[],[A7,T7 l,.var (Nc q)]))\/∃(e:Int) (H:AH),y=(AX.ret,[],AB.var (Ac ⟨e,0,0,0,0,[],[]⟩)::H)) (λ_ q=>q.b7.length<=64/\q.data.length<=4096)
  (λi q M x=>by
   have r:=λe=>Uz (n:=245) ah e
   simp only[Av,Ac,aM]at r;generalize h:round (en.cz 245) [12] [(.exit 0,[]),(.ret,[])] Bz e0 3 [] _=res
   by_cases E:q.kind=2
   case neg =>
    simp(disch:=omega)[round_eq,Bz,h4,h8,o,E,ca 48,r]at h
    grind
   simp(disch:=omega)[round_eq,Bz,h8,o,E]at h;have key:=λe0 h8 o A=>ac7 l q x.1 ps f i M e0 h8 o A
   simp only[A7,T7,Nc,Ac,aM,E]at key;generalize G:iter _ _=oo at h;obtain⟨_,⟨v,rfl⟩,rfl⟩:∃y,_/\oo=some y:=by rw[<-G];exact key _ (by simp_all) (by simp_all) (by simp_all)
   have z:=IM (n:=245) ah ⟨false,l,0,0⟩ (by have:=hl.len;simp only;omega) v
   obtain⟨N,b,hg,K⟩:=Jm hl v;rw[hg]at z;simp only[Tv,Nd]at z;cases b with
   |false =>
    simp(disch:=omega)[h4,F,ca 100,z,ca 48,r]at h
    grind
   |true =>
    simp(disch:=omega)[F,o,ca 100,z]at h
    grind)
  (λq x=>⟨_,.inl ⟨q,x,rfl⟩,by simp(disch:=omega)[round_eq,Bz,h8]⟩) (aR _) q x
def ac5(l:List Tr.Node)(q:Tr.Node)(r:q.b7.length<=64)(e0:Env)(n:e0 10 = .ptr 2 0 0 0):
  ∃y,(∃b:List au,b.length=q.b7.length/\y=(AX.exit 4,[AV.own 3 0 0 b.length],[A7,T7 l,.var (Nc q),.row 0 1 (b.map AV.str)]))/\iter (round (en.cz 245) [17,18] [(.exit 4,[17])] Gx e0 4 [3]) ([.own 3 0 0 0,I 0],[A7,T7 l,.var (Nc q),.row 0 1 []])=some y :=
 iQ (f:=round (en.cz 245) [17,18] [(.exit 4,[17])] Gx e0 4 [3]) q.b7.length (λi (b:List au)=>([.own 3 0 0 b.length,I (i:Int)],[A7,T7 l,.var (Nc q),.row 0 1 (b.map AV.str)]))
  (λy=>∃b:List au,b.length=q.b7.length/\y=(AX.exit 4,[AV.own 3 0 0 b.length],[A7,T7 l,.var (Nc q),.row 0 1 (b.map AV.str)])) (λi b=>b.length=i)
  (λi b v h=>by
   obtain⟨x,o⟩:∃x,x=q.b7[i]:=⟨_,rfl⟩;exact .inl ⟨b++[x.name],by simp[h],by simp(disch:=omega)[round_eq,Gx,n,<-o,h]⟩)
  (λb h=>⟨_,⟨b,h,rfl⟩,by simp(disch:=omega)[round_eq,Gx,n,h]⟩) (aR _) [] rfl
def s52{n:Nat}(U:245<n){f:FS}{k:Nat}(W:mF k f)(hk:k<=200){o:lX}(S:uy o):∃a',(en.cz n).p 52 [Fv f,Ov o]=some (Av a')/\zM a':=by
 generalize b:(en.cz n).p 52 _=res;rw[pp 52 rfl U rfl,b8,b6]at b;have Q:=S.p;have h:=λe=>Uz (n:=245) ah e
 simp only[Av,Ac,aM]at h;obtain⟨a,l,e,hl,A⟩:=aih (n:=245) ah W.s af o.n
 simp only[Sv,Sc]at A
 by_cases K:e=0
 case neg =>
  simp(disch:=omega)[c52,ca 110,A,K,ca 48,h]at b;exact⟨⟨e,0,0,0,0,[],[]⟩,b.symm,j7 ..⟩
 subst K;have x:=UN (n:=245) ah o.path af
 unfold spR at x;cases G:Nm.split o.path with
 |none =>
  rw[G]at x;simp(disch:=omega)[c52,ca 110,A,ca 111,x,ca 48,h]at b;exact⟨⟨60,0,0,0,0,[],[]⟩,b.symm,j7 ..⟩
 |some ps =>
  rw[G]at x;have P:=vW G;have z:=IM (n:=245) ah ⟨false,l,0,0⟩ (by have:=hl.len;simp only;omega) a
  simp only[Tv]at z;obtain⟨q,Y,hg,O⟩:=Jm hl a;rw[hg]at z;simp only[Nd]at z;simp(disch:=omega)[c52,ca 110,A,ca 111,x,ca 100,z]at b;have key:=λe0 h4 h8 X i=>ac6 hl ps af (f:=decide (o.path=[47])) O e0 h4 h8 X i
  simp only[A7,T7,Nc,Ac,aM]at key;generalize E:iter _ _=oo at b;obtain⟨_,⟨v,F,rfl⟩ | ⟨e,H,rfl⟩,rfl⟩:∃y,_/\oo=some y:=by rw[<-E];exact key _ (by simp_all) (by simp_all) (by simp_all) (by simp_all)
  .have L:=λe0 i=>ac5 l v F.1 e0 i
   simp only[A7,T7,Nc,Ac,aM]at L;obtain⟨r,M⟩:=abY (n:=245) ah v af
   simp only[Nd]at M;simp(disch:=omega)at b;generalize E:iter _ _=oo at b;obtain⟨_,⟨N,T,rfl⟩,rfl⟩:∃y,_/\oo=some y:=by rw[<-E];exact L _ (by simp_all)
   simp(disch:=omega)[M]at b;exact⟨⟨0,v.ino,v.kind,v.links,r,N,v.data⟩,b.symm,⟨by simp only;omega,by simp only;omega⟩⟩
  .simp(disch:=omega)at b;exact⟨⟨e,0,0,0,0,[],[]⟩,b.symm,j7 ..⟩
def N6(c:Int)(ks:ay):∀s:Tr.Tree×List Ho×Bool,s.2.2=false->(ks.foldl (gf c) s).2.2=false:=by
 induction ks with
 |nil=>exact λs h=>h
 |cons a ks b =>
  intro s h;refine b _ ?_;unfold gf;simp[h]
set_option maxHeartbeats 1000000 in
def s22{n:Nat}(Y:248<n){f:FS}{k:Nat}(i:mF k f)(hk:k<=200){o:lX}(x:uy o):∃Q a',(en.cz n).p 22 [Fv f,Ov o]=some (.jg [Fv Q,Av a'])/\mF (k+1) Q/\zM a':=by
 generalize b:(en.cz n).p 22 _=res;rw[pp 22 rfl Y rfl,b8,b6]at b;have l:=λe=>Uz (n:=248) ah e
 simp only[Av,Ac,aM]at l
 by_cases b1:o.client<0
 .simp(disch:=omega)[Ll,b1,l]at b;exact⟨f,⟨1,0,0,0,0,[],[]⟩,b.symm,i.up,j7 ..⟩
 by_cases q:16<=o.client
 .simp(disch:=omega)[Ll,b1,q,l]at b;exact⟨f,⟨1,0,0,0,0,[],[]⟩,b.symm,i.up,j7 ..⟩
 obtain⟨f1,a1,h1,F,L⟩:=s49 (n:=248) ah i hk x
 obtain⟨f2,a2,h2,E,K⟩:=s50 (n:=248) ah i hk x
 obtain⟨f3,a3,h3,A,H⟩:=s51 (n:=248) ah i hk x
 obtain⟨a4,h4,G⟩:=s52 (n:=248) ah i hk x
 simp only[Fv,Fc,Sc,Ov,Oc,Av,Ac,aJ,aK]at h1 h2 h3 h4;have h:(o.kind=2\/o.kind=3\/o.kind=4\/o.kind=5)\/(o.kind=1\/o.kind=6\/o.kind=7\/o.kind=8\/o.kind=13\/o.kind=14)\/(o.kind=9\/o.kind=10\/o.kind=11\/o.kind=12)\/o.kind=15\/o.kind=16\/o.kind=17\/(o.kind<1\/17<o.kind):=af
 rcases h with h | h | h | h | h | h | h
 .rcases h with h | h | h | h <;>
  .simp only[h]at h1;simp(disch:=omega)[Ll,b1,q,h,ca 49,h1]at b;exact⟨f1,a1,b.symm,F,L⟩
 .rcases h with h | h | h | h | h | h <;>
  .simp only[h]at h2;simp(disch:=omega)[Ll,b1,q,h,ca 50,h2]at b;exact⟨f2,a2,b.symm,E,K⟩
 .rcases h with h | h | h | h <;>
  .simp only[h]at h3;simp(disch:=omega)[Ll,b1,q,h,ca 51,h3]at b;exact⟨f3,a3,b.symm,A,H⟩
 .simp only[h]at h4;simp(disch:=omega)[Ll,b1,q,h,h4]at b;exact⟨f,a4,b.symm,i.up,G⟩
 .obtain⟨s',e,M,v⟩:=s53 (n:=248) ah i.s af o.n
  simp only[Sv,Sc]at M
  by_cases O:e=0
  .subst O;simp(disch:=omega)[Ll,b1,q,h,ca 53,M]at b;exact⟨⟨s',f.holds,f.jG⟩,Az,b.symm,⟨v.mono af,i.hs,i.hl,i.qs,i.ql⟩,j7 ..⟩
  .simp(disch:=omega)[Ll,b1,q,h,ca 53,M,O,l]at b;exact⟨f,⟨e,0,0,0,0,[],[]⟩,b.symm,i.up,j7 ..⟩
 .have N:=ahj (n:=248) ah f.s.now (nc i.s.w) f.holds (by have:=i.hl;omega) false o.client
  have hg:=Jl o.client vR (f.s.now,f.holds,false);have hl:=CN o.client vR f.s.now f.holds i.hs;have y:=WF.gone o.client vR f.holds i.s.w;simp only at hg;rw[<-hg]at hl y;generalize X:vR.foldl (gf o.client) (f.s.now,f.holds,false)=r at *
  obtain⟨t,hs,Z⟩:=r;simp only at hl y N;obtain⟨s',P,v⟩:=s55 (n:=248) ah i.s af y
  have z:Z=false:=by
   have:=N6 o.client vR (f.s.now,f.holds,false) rfl;rw[X]at this;exact this
  subst z;simp only[Tv,Sv,Sc]at N P;simp(disch:=omega)[Ll,b1,q,h,ca 54,N,ca 55,P]at b;exact⟨⟨s',hs,f.jG⟩,Az,b.symm,⟨v,hl.1,by have:=hl.2;have:=i.hl;simp only;omega,i.qs,i.ql⟩,j7 ..⟩
 .have n1:¬o.kind=1:=by omega
  have W:¬o.kind=2:=af
  have U:¬o.kind=3:=af
  have T:¬o.kind=4:=af
  have n5:¬o.kind=5:=af
  have n6:¬o.kind=6:=af
  have n7:¬o.kind=7:=af
  have n8:¬o.kind=8:=af
  have S:¬o.kind=9:=af
  have n10:¬o.kind=10:=af
  have n11:¬o.kind=11:=af
  have n12:¬o.kind=12:=af
  have n13:¬o.kind=13:=af
  have n14:¬o.kind=14:=af
  have n15:¬o.kind=15:=af
  have n16:¬o.kind=16:=af
  have n17:¬o.kind=17:=af
  simp(disch:=omega)[Ll,b1,q,n1,W,U,T,n5,n6,n7,n8,S,n10,n11,n12,n13,n14,n15,n16,n17,l]at b;exact⟨f,⟨1,0,0,0,0,[],[]⟩,b.symm,i.up,j7 ..⟩
def s21{n:Nat}(i:180<n):∃f,(en.cz n).p 21 []=some (Fv f)/\mF 0 f:=by
 have b:=s47 (n:=180) ah
 have h:(en.cz 180).p 46 [Tv zk]=some (Sv ⟨zk,0,List.replicate zk.nodes.length 0,[],[],1⟩):=by
  have hl:zk.nodes.length<=1000:=ah
  rw[p46 ah,b8,b6]
  simp(disch:=omega)[c46]
 refine⟨⟨⟨zk,0,List.replicate zk.nodes.length 0,[],[],1⟩,[],[]⟩,?_,?_⟩
 .rw[pp 21 rfl i rfl,b8,b6];simp only[Tv,Sv,Sc,aM]at b h;simp(disch:=omega)[c21,ca 47,b,ca 46,h]
 .exact⟨⟨WF.new,ai,ai,ai,ai,ai,ai⟩,by simp[qh],ai,by simp[mE],ai⟩
def l8{l:List lX}(hl:l.length<=50)(v:∀o∈l,uy o)(z:Bool){g:FS}(hg:mF 0 g)(e0:Env)(h0:e0 0 = .b9 z (l.map Ov))(h3:e0 3 = .ptr 1 0 0 0):
  ∃y,(∃b,mF l.length b/\y=(AX.exit 0,[],[AB.var nY,.var (Fc b)]))/\iter (round (en.cz 249) [4] [(.exit 0,[])] OO e0 2 []) ([I 0],[.var nY,.var (Fc g)])=some y :=
 iQ (f:=round (en.cz 249) [4] [(.exit 0,[])] OO e0 2 []) l.length (λi (g:FS)=>([I (i:Int)],[AB.var nY,.var (Fc g)])) (λy=>∃b,mF l.length b/\y=(AX.exit 0,[],[AB.var nY,.var (Fc b)])) (λi g=>mF i g)
  (λi g x hg=>by
   obtain⟨o,h⟩:∃o,o=l[i]:=⟨_,rfl⟩;obtain⟨b,a,r,q,-⟩:=s22 (n:=249) ah hg af (v o (by rw[h];exact aO x))
   simp only[Fv,Fc,Sc,Ov,Oc,Av,Ac,aJ,aK]at r;exact .inl ⟨b,q,by simp(disch:=omega)[round_eq,OO,h0,h3,<-h,r,nY]⟩)
  (λg hg=>⟨_,⟨g,hg,rfl⟩,by simp(disch:=omega)[round_eq,OO,h0,nY]⟩) (aR _) g hg
def s8{n:Nat}(v:249<n){l:List lX}(hl:l.length<=50)(r:∀o∈l,uy o)(i:Bool):∃g,(en.cz n).p 8 [.b9 i (l.map Ov)]=some (Fv g)/\mF 50 g:=by
 obtain⟨f,h,x⟩:=s21 (n:=249) ah
 have key:=λe0 h0 h3=>l8 hl r i x e0 h0 h3
 generalize b:(en.cz n).p 8 _=res;rw[p8 v,b8,b6]at b;simp only[Fv,Fc,Sc,aJ,aK]at h;simp(disch:=omega)[c8,ca 21,h]at b;simp only[nY,Fc,Sc,aJ,aK]at key;generalize q:iter _ _=oo at b;obtain⟨_,⟨g,hg,rfl⟩,rfl⟩:∃y,_/\oo=some y:=by rw[<-q];exact key _ aq aq
 simp(disch:=omega)at b;exact⟨g,b.symm,hg.mono hl⟩
section
variable{n:Nat}{rs:ax}{jR:List nH}{c r:Nat}{a:nH}{f:FS}{fl:Bool}{o:lX}
end
section
variable{f0:AV}{k j d nh:Nat}{g:FS}{h:List ze}{ds:List lX}{cl:Nat}{st:ax}{os:List lX}{jR:List nH}{rs sq:ax}{sn:List Bool}{c:Nat}
end
def KG:∀g,(en.kd g).mono :=
 M9 (b:=λ_ k=>match k with | .z _=>false | _=>true) (p:=λ_ k=>k.mono) (λ_ k h=>by cases k<;>first | trivial | cases h) (λ_=>trivial) [] aj trivial
def k6:(iW.w8 200 en 300 258).p 6 []=some (.bool true):=aj
def s6{n:Nat}(b:174<n):(en.cz n).p 6 []=some (.bool true):=by
 have h:=(zu (N:=200) en KG 300 258).p _ _ _ k6;rw[p6 b];rw[p6 ah]at h
 exact h
def zP{t:Tr.Tree}(w:lM t)(i:Int):0<=(iS t i).ino:=by
 unfold iS;cases h:find t.nodes i with
 |none=>exact dK _
 |some n =>
  have h1:=(w.wf.pos _ _ h).1;have h2:=jI h;show 0<=n.ino;omega
def ada{n:Nat}(h:68<n){k:Nat}{f:FS}{o:lX}(v:mF k f)(B0 B1 B2 B3:AB):∃r H,(en.cz n).x 66 [.ptr 4 0 0 0] (pJ B0 B1 B2 B3 f o Az [])=some (r,H)/\
  ((r = .inl (.jg [])/\∃(i j l m:Int) (Y:AH),0<=i/\H=pJ B0 B1 B2 B3 f o ⟨0,i,j,l,m,[],[]⟩ Y)\/(Pk r/\∃Y,H=B0::B1::B2::B3::Y)):=by
 let⟨r,Y,_,b,A⟩:=Hg (n:=68) ah v o.path [] (B0:=B0) (B1:=B1) (B2:=B2) (B3:=B3) (o:=o) (a:=Az)
 simp only[pJ,Wc,Fc,Sc,Oc,Ac,aJ,aK,aM]at b
 rcases A with rfl | ⟨e,rfl⟩
 .have y:=abT (n:=68) ah (iS f.s.now (mO f.s.now o.path).1)
  have z:=zP v.s.w (mO f.s.now o.path).1;generalize iS f.s.now (mO f.s.now o.path).1=q at *
  simp only[Nd]at b y;refine⟨_,_,?_,.inl ⟨rfl,q.ino,q.kind,q.links,max (q.data.length:Int) (q.b7.length:Int),Y++[.var (Nc q)],z,rfl⟩⟩;rw[p66 h,jC];simp(disch:=omega)[WD,b,y,uZ,EV]
 .refine⟨_,_,?_,.inr ⟨⟨e,rfl⟩,.var (Wc f o Az)::Y,rfl⟩⟩;rw[p66 h,jC];simp(disch:=omega)[WD,b]
abbrev iH(p:au):lX:=⟨7,3,p,[],0,0,0,[]⟩
def Fx{n:Nat}(y:155<n){k:Nat}{f:FS}(A:mF k f)(p:au):∃a,(en.cz n).p 12 [Fv f,Ov (iH p)]=some (.jg [Fv f,Av a])/\0<=a.ino:=by
 generalize b:(en.cz n).p 12 _=res;rw[p12 y,Ql]at b;have h:=DC (n:=155) ah 1
 have v:ko yE 7 .mj = .fn (.func 66) [] []:=rfl;have q:rW yE 7=true:=rfl;let⟨r,H,x,E⟩:=ada (n:=155) ah (o:=iH p) A (.var (Fc f)) (.var nY) (.var Dm) (.mp .i64 yE)
 simp only[pJ,Wc,Fc,Sc,Oc,Ac,aJ,aK,aM,nY,Dm]at x;simp(disch:=omega)[d12,Ka,Qp,q25,v,q,h,Bj,nY,Dm,x]at b
 rcases E with⟨rfl,i,j,l,m,Y,z,rfl⟩ | ⟨⟨e,rfl⟩,Y,rfl⟩
 .simp(disch:=omega)[nY,Dm,yK]at b;exact⟨⟨0,i,j,l,m,[],[]⟩,b.symm,z⟩
 .simp(disch:=omega)[Bj,nY,Dm]at b;exact⟨⟨e,0,0,0,0,[],[]⟩,b.symm,dK _⟩
def uB{k:Nat}{f:FS}(b:mF k f)(hk:k<=200){p:au}(i:p.length<=1000):(Dv (iH p) (Fv f)).1=Fv f/\0<=(Dv (iH p) (Fv f)).2.ino/\zM (Dv (iH p) (Fv f)).2/\∀ {n:Nat},155<n->(en.cz n).p 12 [Fv f,Ov (iH p)]=some (.jg [Fv f,Av (Dv (iH p) (Fv f)).2]):=by
 let⟨l,h1,h2,h3,h4⟩:=JS b hk (o:=iH p) ⟨i,ai,ai⟩
 let⟨a,h5,h6⟩:=Fx (n:=156) ah b p
 have e:=(h4 (n:=156) ah).symm.trans h5
 simp only[aZ,AV.jg.injEq,dD,and_true]at e;rw[e.1]at h1 h4;refine⟨h1,?_,h3,h4⟩;have h:=e.2;simp only[Av,Ac,AV.agg.injEq,dD,AV.int.injEq,true_and]at h;rw[h.2.1];exact h6
def zj{A:AV}{k j:Nat}{g:FS}{h:List ze}{cl:Nat}{st:ax}{os:List lX}{n:List nH}(R:Rs A k j g h cl st os n)(y:cl<=5)(E:j<=900){o o':lX}{a a':nH}(v:uy o)(z:zM a'):Hok (Li.p9 o o' a a' h)/\(Li.calls Dv (Li.p9 o o' a a' h)).cs.length<=10:=by
 obtain⟨p,r,-⟩:=R.rn;let⟨h1,h2,h3⟩:=r.right
 have q:(Li.calls Dv (Li.p9 o o' a a' h)).cs.length<=10:=by
  have:=R.cl;rw[Li.wq]at this⊢;simp[List.count_append,this];omega
 have l:∀x∈Li.p9 o o' a a' h,x=⟨true,3,o,a⟩\/x∈h\/x=⟨false,3,o',a'⟩:=λx b=>by
  simpa[Li.p9,or_assoc]using b
 refine⟨⟨Li.vU h1 h3 ..,q,by have:=R.hl;simp;omega,λx b=>?_,λx b i=>?_,λx b i=>?_⟩,q⟩
 .rcases l x b with rfl | b | rfl
  .show 3<16;decide
  .have:=h3 x b;omega
  .show 3<16;decide
 .rcases l x b with rfl | b | rfl
  .exact v
  .exact((R.ev x b).2.1 i).2
  .cases i
 .rcases l x b with rfl | b | rfl
  .cases i
  .exact(R.ev x b).2.2 i
  .exact z
def s4{n:Nat}(T:256<n)(l:List lX)(m:List vS)(p:au)(hl:l.length<=9223372036854775807)(hm:m.length<=9223372036854775807)(f1 f2:Bool):(en.cz n).p 4 [.b9 f1 (l.map Ov),.b9 f2 (m.map Uv),.str p]=some (.bool true):=by
 have h6:=s6 (n:=256) ah
 let⟨b,h7,hb⟩:=s7 (n:=256) ah l m hl hm f1 f2
 generalize i:(en.cz n).p 4 _=res;rw[p4 T,b8,b6]at i;cases b with
 |true =>
  simp(disch:=omega)[c4,a6,h6,a7,h7]at i;exact i.symm
 |false =>
  by_cases c1:1000<p.length
  .simp(disch:=omega)[c4,a6,h6,a7,h7,c1]at i;exact i.symm
  let⟨A,W,z,U⟩:=hb rfl;let⟨g,h8,hg⟩:=s8 (n:=256) ah A W f1
  let⟨g',h,cl,st,os,jR,R,Z,F⟩:=s14 (n:=256) ah (X:=[.var (Fc g)]) (by simp[gd,AV.jW]) hg af z U f2
  let⟨d1,d2,d3,d4⟩:=uB hg af (p:=p) af
  let⟨e1,e2,H,e4⟩:=uB R.ok af (p:=p) af
  have G:=d4 (n:=256) ah
  have r:=e4 (n:=256) ah
  have hhl:=R.hl;have K:=λa' (ha:zM a')=>zj R Z af (o:=iH p) (o':=Oz) (a:=Az) (a':=a') ⟨an c1,ai,ai⟩ ha
  obtain⟨q,S,-⟩:=R.rn;have L1:=S.first (iH p) Oz Az d1;have L2:=S.last (iH p) Oz Az;generalize hu:(Dv (iH p) (Fv g)).2=u at *
  generalize hv:(Dv (iH p) (Fv g')).2=v at *
  have L3:¬Li.vT (Li.calls Dv (Li.p9 (iH p) Oz Az {v with ino:=-5} h)).cs (Fv g) λ_=>false:=by
   have E:=K {v with ino:=-5} ⟨H.n,H.d⟩
   refine S.bad (iH p) Oz Az {v with ino:=-5} (P:=λn f=>Pg (50+n) f) (b:=10) ⟨g,rfl,hg⟩ E.2 (λn f x T hx Q hP=>?_) (λn f T hP he=>?_)
   .obtain⟨f,rfl,Y⟩:=hP;have O:uy x.op:=E.1.o x (dO _ hx) Q;obtain⟨f',h1,h2,-⟩:=JS Y af O
    exact⟨f',h1,h2⟩
   .obtain⟨f,rfl,Y⟩:=hP;have:=(uB Y af (p:=p) af).2.1
    rw[he]at this;exact absurd (show (0:Int)<=-5 from this) ah
  let⟨b1,k1,N⟩:=s11 (n:=256) ah (K u d3).1 false hg af
  let⟨b2,k2,M⟩:=s11 (n:=256) ah (K v H).1 false hg af
  let⟨b3,k3,L⟩:=s11 (n:=256) ah (K {v with ino:=-5} ⟨H.n,H.d⟩).1 false hg af
  have N:=N.2 L1;have M:=M.2 L2;have L:b3=false:=by
   cases b3 with
   |false=>rfl
   |true=>exact absurd (L.1 rfl) L3
  subst N M L;have t1:∀x:AV,List.take (1+h.length) (x::h.map Po)=x::h.map Po:=λx=>aN ak
  have t2:∀x y:AV,List.take (1+h.length+1) (x::(h.map Po++[y]))=x::(h.map Po++[y]):=λx y=>aN ak
  have h3:((3:Nat):Int)=3:=rfl;simp only[Fv,Fc,Sc,Ov,Oc,Av,Ac,Po,Ec,aJ,aK,bM,aM,List.map_append,cB,aQ,bu,bU,Nat.reduceAdd,if_true,aX,if_false,h3]at h8 G r F k1 k2 k3;simp(disch:=omega)[c4,a6,h6,a7,h7,c1,a8,h8,F,ca 12,G,r,ca 11,t1,t2,k1,k2,k3]at i;exact i.symm
open Go.Am Go.Am.Nm Go.Tr Go.Lib Go.Deep
def SH{c:Int}(h:IntKind.u8.min<=c/\c<=IntKind.u8.max):∃b:UInt8,c=(b.toNat:Int):=by
 obtain⟨n,l⟩:=h;have e1:IntKind.u8.min=0:=rfl;have i:IntKind.u8.max=255:=rfl;refine⟨UInt8.ofNat c.toNat,?_⟩;rw[UInt8.toNat_ofNat_of_lt' (show c.toNat<2 ^ 8 by omega)]
 omega
def BK:∀ {l:ay},(∀n∈l,IntKind.u8.min<=n/\n<=IntKind.u8.max)->∃r:au,l.map (AV.int .u8)=r.map B
 | [],_=>⟨[],rfl⟩
 |n::l,h=>by
  obtain⟨b,o⟩:=SH (h n cL);obtain⟨r,h1⟩:=BK (l:=l) λm i=>h m (bX _ i)
  exact⟨b::r,by rw[bM,bM,h1,o]⟩
abbrev Fw:List TD:=[.i .i64,.i .i64,.s,.s,.i .i64,.i .i64,.i .i64,.l false [.i .u8]]
def S3{cs:List AV}(h:EA Fw cs):∃o:lX,AV.agg cs=Ov o/\True:=by
 obtain⟨a,r,rfl,h1,h⟩:=h.cons;obtain⟨b,r,rfl,h2,h⟩:=h.cons;obtain⟨c,r,rfl,h3,h⟩:=h.cons;obtain⟨d,r,rfl,h4,h⟩:=h.cons;obtain⟨e,r,rfl,h5,h⟩:=h.cons;obtain⟨g,r,rfl,h6,h⟩:=h.cons;obtain⟨i,r,rfl,x,h⟩:=h.cons;obtain⟨j,r,rfl,h8,h⟩:=h.cons;have:=h.nil;subst this;obtain⟨a,rfl,_⟩:=h1.int;obtain⟨b,rfl,_⟩:=h2.int;obtain⟨c,rfl,_⟩:=h3.str;obtain⟨d,rfl,_⟩:=h4.str;obtain⟨e,rfl,_⟩:=h5.int;obtain⟨g,rfl,_⟩:=h6.int;obtain⟨i,rfl,_⟩:=x.int;obtain⟨l,rfl,_,v⟩:=h8.ints;obtain⟨q,n⟩:=BK v;rw[n]
 exact⟨⟨a,b,c,d,e,g,i,q⟩,rfl,trivial⟩
def P3{cs:List AV}(h:EA (.i .u8::Fw) cs):∃x:vS,AV.agg cs=Uv x/\True:=by
 obtain⟨u,r,rfl,h0,h⟩:=h.cons;obtain⟨o,b,-⟩:=S3 h;obtain⟨u,rfl,l⟩:=h0.int;obtain⟨u,rfl⟩:=SH l;simp only[Ov,AV.agg.injEq]at b;subst b;exact⟨⟨u,o⟩,rfl,trivial⟩
def adb(args:List AV)(h:qv [(false,[.l true Fw]),(false,[.l true (.i .u8::Fw)]),(false,[.s])] args):(en.cz 257).p 4 args=some (.bool true):=by
 obtain⟨a,r,rfl,h1,h⟩:=h.inv;obtain⟨b,r,rfl,h2,h⟩:=h.inv;obtain⟨c,r,rfl,h3,h⟩:=h.inv;have:=h.ajP;subst this;obtain⟨l,rfl,hl,_⟩:=h1.one.af6 Ov (λ_=>True) (λ_=>S3)
 obtain⟨m,rfl,n,_⟩:=h2.one.af6 Uv (λ_=>True) (λ_=>P3)
 obtain⟨p,rfl,_⟩:=h3.one.str;exact s4 ah l m p (by simpa[maxLen]using hl) (by simpa[maxLen]using n) false false
end Go.Proofs.YtghgbehknhmnaaaGreatDoor
