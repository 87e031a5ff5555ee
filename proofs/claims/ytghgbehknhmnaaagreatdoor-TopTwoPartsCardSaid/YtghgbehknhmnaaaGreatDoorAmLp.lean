/- Part of the proof that TopTwoPartsCard holds. -/
import Derived.Test.YtghgbehknhmnaaaGreatDoorAmS
set_option linter.all false
namespace Go.Am
@[simp]def aa0(c a b:AV)(h:AH):Option (AV×AH):=match c with
 | .bool t=>some (if t then a else b,h)
 |_=>none
def PX(v:AV)(h:AH):Option (AV×AH):=match v with
 | .ptr b v i o=>some (.ptr b v i o,h)
 | .iV cs=>some (.iV cs,h)
 | .fn f a c=>match f with | .func g=>some (.fn (.func g) a c,h) | _=>none
 |_=>none
@[simp]theorem aa1(b v i o:Nat)(h:AH):PX (.ptr b v i o) h=some (.ptr b v i o,h):=(rfl)
@[simp]theorem Zb(cs:List AV)(h:AH):PX (.iV cs) h=some (.iV cs,h):=(rfl)
@[simp]theorem agc(g:FuncId)(a c:List AV)(h:AH):PX (.fn (.func g) a c) h=some (.fn (.func g) a c,h):=(rfl)
def aaZ(neg:Bool)(ks:ax)(u v:AV)(h:AH):Option (AV×AH):=match u,v with
 | .agg a,.agg b=>(iU ks a b).bind λr=>if a.length=ks.length/\b.length=ks.length then some (.bool (if neg then !r else r),h)else none
 |_,_=>none
@[simp]theorem aaY(neg:Bool)(ks:ax)(a b:List AV)(h:AH):aaZ neg ks (.agg a) (.agg b) h=@kW _ _ (iU ks a b) ⟨λr=>if a.length=ks.length/\b.length=ks.length then some (.bool (if neg then !r else r),h)else none⟩:=(rfl)
@[simp]def aa8(k:IntKind)(v:AV)(h:AH):Option (AV×AH):=match v with
 | .int _ n=>some (.int k (k.wrap n),h)
 |_=>none
@[simp]def ag6(v:AV)(h:AH):Option (AV×AH):=match v with
 | .str s=>some (.b9 false (s.map λc=>.int .u8 (c.toNat:Int)),h)
 |_=>none
@[simp]def sP(d:Nat):Option AV->Option Nat
 |none=>some d
 |some v=>nat? v
def Cy(d:Nat)(e:Env)(x:Option AO):jY d e x=sP d (x.map λy=>y.get e):=by cases x<;>rfl
def TV(sz bytes:Nat)(zero u v:AV)(h:AH):Option (AV×AH):=match nat? u,nat? v with
 |some n,some m=>if n<=m/\m*bytes<=140737488355328/\m<=140737488355328 then some (.own h.length 0 0 n,h++[.row 0 sz (List.replicate n zero)])else none
 |_,_=>none
@[simp]def aa2(sz bytes:Nat)(zero:AV)(k b:IntKind)(n m:Int)(h:AH):TV sz bytes zero (.int k n) (.int b m) h=if 0<=n/\0<=m/\n.toNat<=m.toNat/\m.toNat*bytes<=140737488355328/\m.toNat<=140737488355328 then some (.own h.length 0 0 n.toNat,h++[.row 0 sz (List.replicate n.toNat zero)])else none:=by
 unfold TV nat?
 by_cases h1:0<=n<;>by_cases h2:0<=m<;>simp[h1,h2]
def TU(x:AV)(i l:Option AV)(h:AH):Option (AV×AH):=match x with
 | .str s=>(sP s.length l).bind λb=>(sP 0 i).bind λa=>if a<=b/\b<=s.length then some (.str ((s.take b).drop a),h)else none
 |_=>none
@[simp]theorem aaV(s:au)(i l:Option AV)(h:AH):TU (.str s) i l h=@kW _ _ (sP s.length l) ⟨λb=>@kW _ _ (sP 0 i) ⟨λa=>if a<=b/\b<=s.length then some (.str ((s.take b).drop a),h)else none⟩⟩:=(rfl)
def J1(sz : Nat)(x : AV)(q i l : Option AV)(h : AH): Option (AV × AH) := match x with
 | .b9 full es=>(sP es.length i).bind λb=>(sP 0 q).bind λa =>
   match l with
   |none=>if jw sz es=true/\a<=b/\b<=es.length then some (.b9 (full&&decide (b=es.length)) ((es.take b).drop a),h)else none
   |some m=>(nat? m).bind λm =>
     if jw sz es=true/\i.isSome=true/\a<=b/\b<=m/\m<=es.length then some (.b9 (decide (b=m)) ((es.take b).drop a),h)else none
 | .own r v o n=>(sP n i).bind λb=>(sP 0 q).bind λa =>
   match l with
   |none=>if jb h r v=some sz/\a<=b/\b<=n then some (.own r v (o+a) (b-a),h)else none
   |some m=>(nat? m).bind λm =>
     if jb h r v=some sz/\i.isSome=true/\a<=b/\b<=m/\m<=n then some (.own r v (o+a) (b-a),h)else none
 |_=>none
@[simp]theorem aaX(sz:Nat)(full:Bool)(es:List AV)(i l:Option AV)(h:AH):J1 sz (.b9 full es) i l none h=@kW _ _ (sP es.length l) ⟨λb=>@kW _ _ (sP 0 i) ⟨λa=>if jw sz es=true/\a<=b/\b<=es.length then some (.b9 (full&&decide (b=es.length)) ((es.take b).drop a),h)else none⟩⟩:=(rfl)
@[simp]theorem aaW(sz r v o n:Nat)(i l:Option AV)(h:AH):J1 sz (.own r v o n) i l none h=@kW _ _ (sP n l) ⟨λb=>@kW _ _ (sP 0 i) ⟨λa=>if jb h r v=some sz/\a<=b/\b<=n then some (.own r v (o+a) (b-a),h)else none⟩⟩:=(rfl)
@[simp]theorem Za(sz:Nat)(full:Bool)(es:List AV)(l i:Option AV)(m:AV)(h:AH):J1 sz (.b9 full es) l i (some m) h=@kW _ _ (sP es.length i) ⟨λb=>@kW _ _ (sP 0 l) ⟨λa=>@kW _ _ (nat? m) ⟨λm=>if jw sz es=true/\i.isSome=true/\a<=b/\b<=m/\m<=es.length then some (.b9 (decide (b=m)) ((es.take b).drop a),h)else none⟩⟩⟩:=(rfl)
@[simp]theorem Y9(sz r v o n:Nat)(l i:Option AV)(m:AV)(h:AH):J1 sz (.own r v o n) l i (some m) h=@kW _ _ (sP n i) ⟨λb=>@kW _ _ (sP 0 l) ⟨λa=>@kW _ _ (nat? m) ⟨λm=>if jb h r v=some sz/\i.isSome=true/\a<=b/\b<=m/\m<=n then some (.own r v (o+a) (b-a),h)else none⟩⟩⟩:=(rfl)
@[simp]def ag8(off:Nat)(v:AV)(h:AH):Option (AV×AH):=match v with
 | .ptr b v i o=>some (.ptr b v i (o+off),h)
 | .iV cs=>if off<=cs.length then some (.iV (cs.drop off),h)else none
 |_=>none
@[simp]def ag7(off sz:Nat)(agg:Bool)(v:AV)(h:AH):Option (AV×AH):=match v with
 | .agg cs=>if off<=cs.length then kG h (shape sz agg (cs.drop off))else none
 |_=>none
def PY(sz:Nat)(x i:AV)(h:AH):Option (AV×AH):=match x with
 | .b9 _ es=>(nat? i).bind λn=>(es[n]?).bind λy=>if y.cells.length=sz then some (.iV y.cells,h)else none
 | .own b v o m=>(nat? i).bind λn=>if n<m/\jb h b v=some sz then some (.ptr b v (o+n) 0,h)else none
 |_=>none
@[simp]theorem aa4(sz:Nat)(f:Bool)(es:List AV)(i:AV)(h:AH):PY sz (.b9 f es) i h=@kW _ _ (nat? i) ⟨λn=>@kW _ _ (es[n]?) ⟨λy=>if y.cells.length=sz then some (.iV y.cells,h)else none⟩⟩:=(rfl)
@[simp]theorem aa3(sz b v o m:Nat)(i:AV)(h:AH):PY sz (.own b v o m) i h=@kW _ _ (nat? i) ⟨λn=>if n<m/\jb h b v=some sz then some (.ptr b v (o+n) 0,h)else none⟩:=(rfl)
def LS(m sz:Nat)(x i:AV)(h:AH):Option (AV×AH):=(nat? i).bind λn=>if n<m then
   match x with
   | .ptr b v j o=>some (.ptr b v j (o+n*sz),h)
   | .iV cs=>if n*sz<=cs.length then some (.iV (cs.drop (n*sz)),h)else none
   |_=>none
   else none
@[simp]theorem Ze(m sz b v j o:Nat)(i:AV)(h:AH):LS m sz (.ptr b v j o) i h=@kW _ _ (nat? i) ⟨λn=>if n<m then some (.ptr b v j (o+n*sz),h)else none⟩:=(rfl)
@[simp]theorem TX(m sz:Nat)(cs:List AV)(i:AV)(h:AH):LS m sz (.iV cs) i h=@kW _ _ (nat? i) ⟨λn=>if n<m then(if n*sz<=cs.length then some (.iV (cs.drop (n*sz)),h)else none)else none⟩:=(rfl)
def SF(x i:AV)(h:AH):Option (AV×AH):=match x with
 | .str s=>(nat? i).bind λn=>(s[n]?).bind λc=>some (.int .u8 c.toNat,h)
 |_=>none
@[simp]theorem Zd(s:au)(i:AV)(h:AH):SF (.str s) i h=@kW _ _ (nat? i) ⟨λn=>@kW _ _ (s[n]?) ⟨λc=>some (.int .u8 c.toNat,h)⟩⟩:=(rfl)
def aa6(x:AV)(i:Nat)(h:AH):Option (AV×AH):=match x with
 | .jg vs=>(vs[i]?).bind λv=>some (v,h)
 |_=>none
@[simp]theorem aa5(vs:List AV)(i:Nat)(h:AH):aa6 (.jg vs) i h=@kW _ _ (vs[i]?) ⟨λv=>some (v,h)⟩:=(rfl)
def LU(Γ:jE)(f:AV)(args:List AV)(h:AH):Option (AV×AH):=match f with
 | .fn g first cap=>match g with
  | .func g=>eT Γ g (first++args++cap) h
  |_=>none
 |_=>none
@[simp]theorem Zf(Γ:jE)(g:FuncId)(first cap args:List AV)(h:AH):LU Γ (.fn (.func g) first cap) args h=eT Γ g (first++args++cap) h:=(rfl)
@[simp]def aha(neg:Bool)(u v:AV)(h:AH):Option (AV×AH):=match u,v with
 | .bool a,.bool b=>some (.bool (if neg then !decide (a=b)else decide (a=b)),h)
 |_,_=>none
@[simp]def TY(l b v o n:Nat)(i:List AV)(h:AH)(X:Option AB):Option (AV×AH):=match X with
 |some (.row v' sz es) =>
  if v=v'/\sz=l/\jw l i=true/\o+n<=es.length then some (.int .i64 (min i.length n),h.set b (.row v' sz (over es o (i.take n))))else none
 |_=>none
@[simp]def aa7(i:Nat)(d:AV)(l:List AV)(h:AH):Option (AV×AH):=match d with
 | .own b v o n=>TY i b v o n l h h[b]?
 | .b9 _ es=>if es=[]then some (.int .i64 0,h)else none
 |_=>none
@[simp]def vMm(isMax:Bool)(vs:List AV)(h:AH):Option (AV×AH):=match vs with
 |x::l=>kG h (uR isMax x l)
 | []=>none
@[simp]def aa9(i:Nat)(zero:AV)(b v o n:Nat)(h:AH)(X:Option AB):Option (AV×AH):=match X with
 |some (.row v' sz es)=>if v=v'/\sz=i/\o+n<=es.length then some (.jg [],h.set b (.row v' sz (over es o (List.replicate n zero))))else none
 |_=>none
@[simp]def ag9(i:Nat)(zero x:AV)(h:AH):Option (AV×AH):=match x with
 | .own b v o n=>aa9 i zero b v o n h h[b]?
 | .b9 _ es=>if es=[]then some (.jg [],h)else none
 |_=>none
section
variable{Γ:jE}{e:Env}{h:AH}
@[simp ↓]def aen(sz:Nat)(zero:AV)(x:AO):exec Γ e h (.XK sz zero x)=ag9 sz zero (x.get e) h:=by
 simp only[exec];cases x.get e<;>rfl
@[simp ↓]theorem agQ(x:AO):exec Γ e h (.mv x)=some (x.get e,h):=(rfl)
@[simp ↓]theorem aao(c a b:AO):exec Γ e h (.pick c a b)=aa0 (c.get e) (a.get e) (b.get e) h:=(rfl)
@[simp]def ai8(q:IntKind)(b:Nat):Option AB->Option (Nat×List (Int×AV))
 |some (.mp k es)=>if k=q then some (b,es)else none
 |_=>none
@[simp]def aad(q:IntKind)(h:AH)(b:Nat):sx q h (.mb b)=ai8 q b h[b]? := by
 simp only[sx];cases h[b]? with
 |none=>rfl
 |some X=>cases X<;>rfl
@[simp]def adp(q:IntKind)(n:Int):B7 q (.int q n)=some n:=by simp[B7]
@[simp ↓]theorem aef(q:IntKind):exec Γ e h (.LF q)=some (.mb h.length,h++[.mp q []]):=(rfl)
@[simp ↓]theorem aar(q:IntKind)(zero:AV)(m k:AO):exec Γ e h (.zl q zero m k)=@kW _ _ (sx q h (m.get e)) ⟨λp=>@kW _ _ (B7 q (k.get e)) ⟨λn=>some (ko p.2 n zero,h)⟩⟩:=(rfl)
@[simp ↓]theorem aap(q:IntKind)(m k x:AO):exec Γ e h (.uE q m k x)=@kW _ _ (sx q h (m.get e)) ⟨λp=>@kW _ _ (B7 q (k.get e)) ⟨λn=>some (.undef,h.set p.1 (.mp q (kQ p.2 n (x.get e))))⟩⟩:=(rfl)
@[simp ↓]theorem W7(q:IntKind)(zero:AV)(m k:AO):exec Γ e h (.sV q zero m k)=@kW _ _ (sx q h (m.get e)) ⟨λp=>@kW _ _ (B7 q (k.get e)) ⟨λn=>some (.jg [ko p.2 n zero,.bool (rW p.2 n)],h)⟩⟩:=(rfl)
@[simp ↓]theorem aes(neg:Bool)(x y:AO):exec Γ e h (.beq neg x y)=aha neg (x.get e) (y.get e) h:=(rfl)
@[simp ↓]theorem aaA(sz bytes:Nat)(zero:AV)(s x:AO):exec Γ e h (.Pb sz bytes zero s x)=@kW _ _ (nat? (x.get e)) ⟨λn=>append h sz bytes (s.get e) (List.replicate n zero)⟩:=(rfl)
@[simp ↓]def aav(b:Nat)(d s:AO):exec Γ e h (.copy b d s)=@kW _ _ (elems h (s.get e)) ⟨λi=>aa7 b (d.get e) i h⟩:=by
 simp only[exec]
 congr 1
@[simp ↓]theorem aaq(q:IntKind)(m:AO):exec Γ e h (.Hz q m)=@kW _ _ (sx q h (m.get e)) ⟨λp=>some (.int .i64 p.2.length,h)⟩:=(rfl)
@[simp ↓]theorem Xn(zero:List AV):exec Γ e h (.alloc zero)=some (.ptr h.length 0 0 0,h++[.var zero]):=(rfl)
@[simp ↓]theorem aeq(x:AO):exec Γ e h (.box x)=if (x.get e).cells.all AV.sw then some (.ptr h.length 0 0 0,h++[.var (x.get e).cells])else none:=(rfl)
@[simp ↓]theorem Xm(zero:List AV)(ps:List (Nat×Nat×AO)):exec Γ e h (.build zero ps)=@kW _ _ (parts e ps zero) ⟨λcs=>some (.agg cs,h)⟩:=(rfl)
@[simp ↓]theorem aep(sz:Nat)(zero:AV)(len:Nat)(ps:List (Nat×AO)):exec Γ e h (.Si sz zero len ps)=@kW _ _ (mh e sz ps (List.replicate len zero)) ⟨λes=>some (.b9 true es,h)⟩:=(rfl)
@[simp ↓]theorem aay(sz:Nat)(zero:AV)(len:Nat)(ps:List (Nat×AO)):exec Γ e h (.GJ sz zero len ps)=@kW _ _ (lW e sz ps (List.replicate len zero) h) ⟨λp=>some (.own p.2.length 0 0 p.1.length,p.2++[.row 0 sz p.1])⟩:=(rfl)
@[simp ↓]theorem aaz(sz:Nat)(zero:AV)(len:Nat)(ps:List (Nat×AO)):exec Γ e h (.Em sz zero len ps)=@kW _ _ (lW e sz ps (List.replicate len zero) h) ⟨λp=>some (.b9 false p.1,p.2)⟩:=(rfl)
@[simp ↓]theorem aas(sz:Nat)(agg:Bool)(a:AO):exec Γ e h (.load sz agg a)=@kW _ _ (jc h (a.get e)) ⟨λcs=>kG h (shape sz agg cs)⟩:=(rfl)
@[simp ↓]theorem Tw(sz:Nat)(a x:AO)(q:Nat):exec Γ e h (.ot sz a x q)=if oS h (a.get e)=true/\Cp (e q) (a.get e)=true then @kW _ _ (storeAt h sz (a.get e) (x.get e)) ⟨λq=>some (.undef,q)⟩else none:=(rfl)
@[simp ↓]theorem Xa(sz:Nat)(agg:Bool)(a:AO)(q:Nat):exec Γ e h (.oc sz agg a q)=if lJ (e q) (a.get e)=true then @kW _ _ (jc h (a.get e)) ⟨λcs=>kG h (shape sz agg cs)⟩else none:=(rfl)
@[simp]theorem Tu(b v i o b' v' l o':Nat):lJ (.ptr b v i o) (.ptr b' v' l o')=decide (b≠b'):=(rfl)
@[simp]theorem Zo(b v i o b' v' l o':Nat):Cp (.ptr b v i o) (.ptr b' v' l o')=decide (b=b'):=(rfl)
@[simp]theorem Rl(b v i o:Nat)(cs:List AV):lJ (.ptr b v i o) (.iV cs)=true:=(rfl)
@[simp]theorem Wr(h:AH)(b v i o:Nat):oS h (.ptr b v i o)=match h[b]? with | some (.var _)=>true | _=>false:=(rfl)
@[simp ↓]theorem W6(sz:Nat)(a x:AO):exec Γ e h (.store sz a x)=@kW _ _ (storeAt h sz (a.get e) (x.get e)) ⟨λq=>some (.undef,q)⟩:=(rfl)
@[simp ↓]theorem aed(x:AO):exec Γ e h (.Nl x)=PX (x.get e) h:=(rfl)
@[simp ↓]theorem aer(op:BinOp)(x y:AO):exec Γ e h (.bin op x y)=kG h (bin op (x.get e) (y.get e)):=(rfl)
@[simp ↓]theorem aec(neg:Bool)(ks:ax)(x y:AO):exec Γ e h (.seq neg ks x y)=aaZ neg ks (x.get e) (y.get e) h:=(rfl)
@[simp ↓]theorem agO(op:UnOp)(x:AO):exec Γ e h (.un op x)=kG h (un op (x.get e)):=(rfl)
@[simp ↓]theorem aaw(k:IntKind)(x:AO):exec Γ e h (.conv k x)=aa8 k (x.get e) h:=(rfl)
@[simp ↓]theorem Xg(f:FuncId)(args:List AO):exec Γ e h (.calls f args)=qk h (eT Γ f (getAll e args) h):=(rfl)
@[simp ↓]theorem Xk(f:FuncId)(args:List AO):exec Γ e h (.wP f args)=@kW _ _ (jT h (getAll e args)) ⟨λq=>Γ.h f q.1 q.2⟩:=(rfl)
@[simp ↓]theorem Xe(f:FuncId)(args:List AO):exec Γ e h (.u6 f args)=@kW _ _ (jT h (getAll e args)) ⟨λq=>@kW _ _ (Γ.p f q.1) ⟨λr=>some (r,q.2)⟩⟩:=(rfl)
@[simp ↓]theorem Xb(sz:Nat)(agg:Bool)(t:Nat):exec Γ e h (.oU sz agg t)=if oS h (e t)=true then @kW _ _ (jc h (e t)) ⟨λcs=>@kW _ _ (shape sz agg cs) ⟨λv=>some (v,h)⟩⟩else none:=(rfl)
@[simp ↓]theorem ad9(x:AO):exec Γ e h (.Zm x)=ag6 (x.get e) h:=(rfl)
@[simp ↓]theorem aeo(x:AO):exec Γ e h (.JJ x)=@kW _ _ (elems h (x.get e)) ⟨λes=>@kW _ _ (oC es) ⟨λs=>some (.str s,h)⟩⟩:=(rfl)
@[simp ↓]theorem aeg(t:TypeId)(x:AO):exec Γ e h (.LG t x)=some (.sI t (x.get e),h):=(rfl)
@[simp ↓]theorem aeh(f:Fn)(a c:List AO):exec Γ e h (.Ns f a c)=some (.fn f (getAll e a) (getAll e c),h):=(rfl)
@[simp ↓]theorem aee(sz bytes:Nat)(zero:AV)(l c:AO):exec Γ e h (.KA sz bytes zero l c)=TV sz bytes zero (l.get e) (c.get e) h:=(rfl)
@[simp ↓]def aea(x:AO)(b i:Option AO):exec Γ e h (.Kg x b i)=TU (x.get e) (b.map λy=>y.get e) (i.map λy=>y.get e) h:=by simp only[exec,TU,Cy];rfl
@[simp ↓]def aeb(sz:Nat)(x:AO)(l i b:Option AO):exec Γ e h (.vf sz x l i b)=J1 sz (x.get e) (l.map λy=>y.get e) (i.map λy=>y.get e) (b.map λy=>y.get e) h:=by
 cases b<;>simp only[exec,J1,Cy,Option.map]<;>cases x.get e<;>cases i<;>rfl
@[simp ↓]theorem ael(off:Nat)(x:AO):exec Γ e h (.LJ off x)=ag8 off (x.get e) h:=(rfl)
@[simp ↓]theorem aek(off sz:Nat)(agg:Bool)(x:AO):exec Γ e h (.QB off sz agg x)=ag7 off sz agg (x.get e) h:=(rfl)
@[simp ↓]theorem aej(sz:Nat)(x i:AO):exec Γ e h (.FQ sz x i)=PY sz (x.get e) (i.get e) h:=(rfl)
@[simp ↓]theorem aau(m sz:Nat)(x i:AO):exec Γ e h (.uG m sz x i)=LS m sz (x.get e) (i.get e) h:=(rfl)
@[simp ↓]theorem aat(x i:AO):exec Γ e h (.idxs x i)=SF (x.get e) (i.get e) h:=(rfl)
@[simp ↓]theorem aem(x:AO)(i:Nat):exec Γ e h (.ext x i)=aa6 (x.get e) i h:=(rfl)
@[simp ↓]theorem aax(f:FuncId)(args:List AO):exec Γ e h (.call f args)=eT Γ f (getAll e args) h:=(rfl)
@[simp ↓]theorem Xj(f:FuncId)(args:List AO):exec Γ e h (.o8 f args)=if (getAll e args).all AV.j8 then kG h (Γ.p f (getAll e args))else none:=(rfl)
@[simp ↓]theorem Xf(f:AO)(args:List AO):exec Γ e h (.lQ f args)=LU Γ (f.get e) (getAll e args) h:=(rfl)
@[simp]def TW(sz:Nat)(agg:Bool)(a:AV)(h:AH):Option (AV×AH):=match a with
 | .iV cs=>kG h (shape sz agg cs)
 |_=>none
noncomputable def LV(Γ:jE)(f:AV)(args:List AV)(h:AH):Option (AV×AH):=match f with
 | .fn g first cap=>match g with
  | .func g=>qk h (eT Γ g (first++args++cap) h)
  |_=>none
 |_=>none
@[simp]theorem Zg(g:FuncId)(first cap args:List AV)(h:AH):LV Γ (.fn (.func g) first cap) args h=qk h (eT Γ g (first++args++cap) h):=(rfl)
@[simp]def Ux(h:AH)(r:AV):qk h (some (r,h))=some (r,h):=by simp[qk]
@[simp ↓]theorem Xi(f:FuncId)(args:List AO):exec Γ e h (.tC f args)=if (getAll e args).all AV.j8 then @kW _ _ (@kW _ _ (Γ.h f (getAll e args) []) ⟨λp=>nr p.2 p.1⟩) ⟨λp=>some (p.1,h)⟩else none:=(rfl)
@[simp ↓]theorem aan(x:AO):exec Γ e h (.Fh x)=if (x.get e).cells.all AV.jW then some (.iV (x.get e).cells,h)else none:=(rfl)
@[simp ↓]theorem Xc(sz:Nat)(agg:Bool)(a:AO):exec Γ e h (.sC sz agg a)=TW sz agg (a.get e) h:=(rfl)
@[simp ↓]theorem Xl(f:FuncId)(args:List AO):exec Γ e h (.qe f args)=q9 h (eT Γ f (getAll e args) h):=(rfl)
open Classical in
@[simp]theorem WY(h h':AH)(r:AV):q9 h (some (r,h'))=if h'.take h.length=h then some (r,h')else none:=(rfl)
noncomputable def Iv(Γ:jE)(f:AV)(args:List AV)(h:AH):Option (AV×AH):=match f with
 | .fn g first cap=>match g with
  | .func g=>q9 h (eT Γ g (first++args++cap) h)
  |_=>none
 |_=>none
@[simp]theorem TZ(g:FuncId)(first cap args:List AV)(h:AH):Iv Γ (.fn (.func g) first cap) args h=q9 h (eT Γ g (first++args++cap) h):=(rfl)
@[simp ↓]theorem Tx(f:AO)(args:List AO):exec Γ e h (.qd f args)=Iv Γ (f.get e) (getAll e args) h:=(rfl)
@[simp ↓]theorem Xh(f:AO)(args:List AO):exec Γ e h (.rz f args)=LV Γ (f.get e) (getAll e args) h:=(rfl)
@[simp ↓]theorem aet(sz bytes:Nat)(s x:AO):exec Γ e h (.app sz bytes s x)=@kW _ _ (elems h (x.get e)) ⟨λnews=>append h sz bytes (s.get e) news⟩:=(rfl)
@[simp ↓]theorem aei(str:Bool)(x:AO):exec Γ e h (.len str x)=@kW _ _ (zX str (x.get e)) ⟨λn=>some (.int .i64 n,h)⟩:=(rfl)
@[simp ↓]theorem agR(isMax:Bool)(xs:List AO):exec Γ e h (.mm isMax xs)=vMm isMax (getAll e xs) h:=(rfl)
@[simp ↓]theorem agP:exec Γ e h .no=none:=(rfl)
@[simp ↓]theorem Xd(k:NK)(neg:Bool)(x:AO):exec Γ e h (.yQ k neg x)=kG h (isNil k neg (x.get e)):=(rfl)
@[simp]theorem Wm(v:AV):kG h (some v)=some (v,h):=(rfl)
end
def Dw(h:AH)(sz b v i o:Nat)(x:AV):Option AB->Option AH
 |some (.var cs)=>if v=0/\i=0/\x.cells.all AV.sw=true/\x.cells.length=sz/\o+sz<=cs.length then some (h.set b (.var (over cs o x.cells)))else none
 |some (.row _ _ _)=>(mH h x).bind λ(l,h') =>
   match h'[b]? with
   |some (.row v' n es)=>(es[i]?).bind λe =>
    if v=v'/\l.cells.all AV.jW=true/\l.cells.length=sz/\o+sz<=e.cells.length then some (h'.set b (.row v' n (es.set i (e.kJ (over e.cells o l.cells)))))else none
   |_=>none
 |_=>none
def Mb(h':AH)(sz b v i o:Nat)(l:AV):Option AB->Option AH
 |some (.row v' n es)=>(es[i]?).bind λe =>
   if v=v'/\l.cells.all AV.jW=true/\l.cells.length=sz/\o+sz<=e.cells.length then some (h'.set b (.row v' n (es.set i (e.kJ (over e.cells o l.cells)))))else none
 |_=>none
@[simp]def SN(h:AH)(sz b v i o:Nat)(x:AV):storeAt h sz (.ptr b v i o) x=Dw h sz b v i o x h[b]? := by
 simp only[storeAt];cases h[b]? with
 |none=>rfl
 |some X=>cases X<;>rfl
@[simp]theorem Ug(h:AH)(sz b v i o:Nat)(x:AV)(cs:List AV):Dw h sz b v i o x (some (.var cs))=if v=0/\i=0/\x.cells.all AV.sw=true/\x.cells.length=sz/\o+sz<=cs.length then some (h.set b (.var (over cs o x.cells)))else none:=(rfl)
@[simp]def Uh(h:AH)(sz b v i o:Nat)(x:AV)(v' l:Nat)(es:List AV):Dw h sz b v i o x (some (.row v' l es))=@kW _ _ (mH h x) ⟨λp=>Mb p.2 sz b v i o p.1 p.2[b]?⟩:=by
 simp only[Dw]
 congr 1
@[simp]theorem Uf(h':AH)(sz b v i o:Nat)(n:AV)(v' l:Nat)(es:List AV):Mb h' sz b v i o n (some (.row v' l es))=@kW _ _ (es[i]?) ⟨λe=>if v=v'/\n.cells.all AV.jW=true/\n.cells.length=sz/\o+sz<=e.cells.length then some (h'.set b (.row v' l (es.set i (e.kJ (over e.cells o n.cells)))))else none⟩:=(rfl)
def Ej(v i o:Nat):Option AB->Option (List AV)
 |some (.var cs)=>if v=0/\i=0/\o<=cs.length then some (cs.drop o)else none
 |some (.row v' _ es)=>if v=v' then(es[i]?).bind λx=>if o<=x.cells.length then some (x.cells.drop o)else none else none
 |some (.me v' _ es)=>if v=v' then(es[i]?).bind λx=>if o<=x.cells.length then some (x.cells.drop o)else none else none
 |_=>none
@[simp]def TH(h:AH)(b v i o:Nat):jc h (.ptr b v i o)=Ej v i o h[b]? := by
 simp only[jc];cases h[b]? with
 |none=>rfl
 |some X=>cases X<;>rfl
@[simp]theorem XV(v i o:Nat)(cs:List AV):Ej v i o (some (.var cs))=if v=0/\i=0/\o<=cs.length then some (cs.drop o)else none:=(rfl)
@[simp]theorem XW(v i o v' sz:Nat)(es:List AV):Ej v i o (some (.row v' sz es))=if v=v' then @kW _ _ (es[i]?) ⟨λx=>if o<=x.cells.length then some (x.cells.drop o)else none⟩else none:=(rfl)
@[simp]theorem XX(v i o v' sz:Nat)(es:List AV):Ej v i o (some (.me v' sz es))=if v=v' then @kW _ _ (es[i]?) ⟨λx=>if o<=x.cells.length then some (x.cells.drop o)else none⟩else none:=(rfl)
@[simp]def Ox(v o n:Nat):Option AB->Option (List AV)
 |some (.row v' _ es)=>if v=v'/\o+n<=es.length then some ((es.drop o).take n)else none
 |some (.me v' _ es)=>if v=v'/\o+n<=es.length then some ((es.drop o).take n)else none
 |_=>none
@[simp]def K0(h:AH)(b v o n:Nat):elems h (.own b v o n)=Ox v o n h[b]? := by
 simp only[elems];cases h[b]? with
 |none=>rfl
 |some X=>cases X<;>rfl
@[simp]def UP(v:Nat):Option AB->Option Nat
 |some (.row v' sz _)=>if v=v' then some sz else none
 |some (.me v' sz _)=>if v=v' then some sz else none
 |_=>none
@[simp]def abZ(h:AH)(b v:Nat):jb h b v=UP v h[b]? := by
 simp only[jb];cases h[b]? with
 |none=>rfl
 |some X=>cases X<;>rfl
@[simp]def Sz(h:AH)(sz bytes b v o n:Nat)(news:List AV):Option AB->Option (AV×AH)
 |some (.row v' i es) =>
   if v=v'/\i=sz/\jw sz news=true/\o+n<=es.length/\(n+news.length)*bytes<=140737488355328/\n+news.length<=140737488355328 then
    some (.own b (v+1) 0 (n+news.length),h.set b (.row (v+1) sz ((es.drop o).take n++news)))
   else none
 |_=>none
@[simp]def YT(h:AH)(sz bytes b v o n:Nat)(news:List AV):append h sz bytes (.own b v o n) news=Sz h sz bytes b v o n news h[b]? := by
 simp only[append];cases h[b]? with
 |none=>rfl
 |some X=>cases X<;>rfl
@[simp]theorem YU(h:AH)(sz bytes:Nat)(es news:List AV):append h sz bytes (.b9 true es) news=if (es=[]\/news≠[])/\jw sz es=true/\jw sz news=true/\(es.length+news.length)*bytes<=140737488355328/\es.length+news.length<=140737488355328 then some (.own h.length 0 0 (es.length+news.length),h++[.row 0 sz (es++news)])else none:=(rfl)
@[simp]def acR(b v o n:Nat):Option AB->AV
 |some (.row v' _ _)=>if v=v' then .own b 0 o n else .dead
 |some (.me v' _ _)=>if v=v' then .own b 0 o n else .dead
 |_=>.dead
@[simp]def acS:Option (List AV)->AV
 |some es=>.b9 false es
 |none=>.dead
def Hx(L:Nat)(R:ax)(h:AH)(b v o n:Nat):kF L R h (.own b v o n) =
  if b<L then(if R.contains b then acR b v o n h[b]? else .own b v o n)else acS (elems h (.own b v o n)):=by
 simp only[kF];split
 .split
  .cases h[b]? with
   |none=>rfl
   |some X=>cases X<;>rfl
  .rfl
 .cases elems h (.own b v o n)<;>rfl
attribute [simp] Hx
@[simp]def aiv(h:AH)(b v o n:Nat):Option AB->Option (AV×AH)
 |some (.row v' sz es)=>if v=v'/\o+n<=es.length then some (.b9 false ((es.drop o).take n),h.set b (.me v' sz es))else none
 |some (.me v' _ es)=>if v=v'/\o+n<=es.length then some (.b9 false ((es.drop o).take n),h)else none
 |_=>none
@[simp]def ab6(h:AH)(b v o n:Nat):nM h (.own b v o n)=aiv h b v o n h[b]? := by
 simp only[nM];cases h[b]? with
 |none=>rfl
 |some X=>cases X<;>rfl
@[simp ↓]theorem ZQ(e:Env)(cs:List AV):parts e [] cs=some cs:=(rfl)
@[simp ↓]def UZ(e:Env)(off size:Nat)(x:AO)(l:List (Nat×Nat×AO))(cs:List AV):parts e ((off,size,x)::l) cs =
  @kW _ _ (if (x.get e).cells.all AV.sw=true/\(x.get e).cells.length=size/\off+size<=cs.length then some (over cs off (x.get e).cells)else none) ⟨λcs=>parts e l cs⟩:=by
 simp only[parts];split<;>rfl
@[simp ↓]theorem TM(e:Env)(sz:Nat)(es:List AV):mh e sz [] es=some es:=(rfl)
@[simp ↓]def Sj(e:Env)(sz i:Nat)(x:AO)(l:List (Nat×AO))(es:List AV):mh e sz ((i,x)::l) es =
  @kW _ _ (if (x.get e).j8/\(x.get e).cells.length=sz/\i<es.length then some (es.set i (x.get e))else none) ⟨λes=>mh e sz l es⟩:=by
 simp only[mh];split<;>rfl
@[simp ↓]theorem YN(e:Env)(sz:Nat)(es:List AV)(h:AH):lW e sz [] es h=some (es,h):=(rfl)
@[simp ↓]theorem TL(e:Env)(sz i:Nat)(x:AO)(l:List (Nat×AO))(es:List AV)(h:AH):lW e sz ((i,x)::l) es h =
  @kW _ _ (mH h (x.get e)) ⟨λp=>if p.1.cells.length=sz/\i<es.length then lW e sz l (es.set i p.1) p.2 else none⟩:=(rfl)
@[simp ↓]theorem ab2(s:St)(i:Nat):xh s (.t i)=some (s.e i):=(rfl)
@[simp ↓]theorem SX(s:St)(i sz:Nat)(agg:Bool):xh s (.cell i sz agg)=@kW _ _ (jc s.h (s.e i)) ⟨λcs=>shape sz agg cs⟩:=(rfl)
@[simp ↓]theorem UQ(s:St):qx s []=some []:=(rfl)
@[simp ↓]theorem SY(s:St)(r:AR)(l:List AR):qx s (r::l)=@kW _ _ (xh s r) ⟨λv=>@kW _ _ (qx s l) ⟨λvs=>some (v::vs)⟩⟩:=(rfl)
def ID:List AV->AV
 | [v]=>v
 |vs=>.jg vs
@[simp]theorem Zj:ID [] = .jg []:=(rfl)
@[simp]theorem Zh(v:AV):ID [v]=v:=(rfl)
@[simp]theorem Ua(a b:AV)(l:List AV):ID (a::b::l) = .jg (a::b::l):=(rfl)
@[simp ↓]def agl(s:St)(l:List AR):pV s l=@kW _ _ (qx s l) ⟨λvs=>some (ID vs)⟩:=by
 unfold pV kW
 congr 1
 funext vs
 match vs with
 | []=>rfl
 | [v]=>rfl
 |_::_::_=>rfl
def oB{n:Int}(h1 : -9223372036854775808<=n)(h2:n<=9223372036854775807):IntKind.i64.wrap n=n:=by
 have e:IntKind.i64.wrap n=if decide (n%18446744073709551616>=9223372036854775808)=true then n%18446744073709551616-18446744073709551616 else n%18446744073709551616:=rfl
 rw[e]
 by_cases h:0<=n
 .rw[Int.emod_eq_of_lt h af]
  rw[if_neg ak]
 .have:n%18446744073709551616=n+18446744073709551616:=by omega
  rw[this,if_pos ak];omega
def mg{α A C:Type}(g:A->α->A⊕C):List α->A->A⊕C
 | [],s=>.inl s
 |a::l,s=>match g s a with
  | .inl s'=>mg g l s'
  | .inr t=>.inr t
section
variable{α A X Y:Type}{f:X->Option (X⊕Y)}
def F6(o:Nat->A->X)(l:List α)(g:A->α->A)(fin:A->Y)(I:Nat->A->Prop)
  (b:∀i (v:i<l.length) s,I i s->I (i+1) (g s l[i])/\f (o i s)=some (.inl (o (i+1) (g s l[i]))))
  (q:∀s,I l.length s->f (o l.length s)=some (.inr (fin s))):∀n i s,l.length-i=n->i<=l.length->I i s->iter f (o i s)=some (fin ((l.drop i).foldl g s))
 |0,i,s,x,v,h=>by
  have:i=l.length:=af
  subst this;rw[iter_eq,q s h,fS];rfl
 |n+1,i,s,x,v,h=>by
  have r:i<l.length:=af
  let⟨h1,h2⟩:=b i r s h;rw[iter_eq,h2,cm r];exact F6 o l g fin I b q n (i+1) _ af r h1
def kN(b:Nat->A->X)(l:List α)(g:A->α->A)(fin:A->Y)(I:Nat->A->Prop)
  (h:∀i (o:i<l.length) s,I i s->I (i+1) (g s l[i])/\f (b i s)=some (.inl (b (i+1) (g s l[i]))))
  (n:∀s,I l.length s->f (b l.length s)=some (.inr (fin s))) (s:A) (h0:I 0 s):iter f (b 0 s)=some (fin (l.foldl g s)) :=
 F6 b l g fin I h n _ 0 s rfl (aT _) h0
def CP(b:Nat->A->X)(l:List α)(g:A->α->A⊕Y)(fin:A->Y)(I:Nat->A->Prop)
  (o:∀i (v:i<l.length) s,I i s->match g s l[i]with
   | .inl s'=>I (i+1) s'/\f (b i s)=some (.inl (b (i+1) s'))
   | .inr y=>f (b i s)=some (.inr y))
  (q:∀s,I l.length s->f (b l.length s)=some (.inr (fin s))):∀n i s,l.length-i=n->i<=l.length->I i s->iter f (b i s)=some (match mg g (l.drop i) s with | .inl s'=>fin s' | .inr y=>y)
 |0,i,s,x,v,h=>by
  have:i=l.length:=af
  subst this;rw[iter_eq,q s h,fS];rfl
 |n+1,i,s,x,v,h=>by
  have r:i<l.length:=af
  have h1:=o i r s h;rw[cm r];simp only[mg];split at h1
  .rename_i s' hs;let⟨h1,h2⟩:=h1;rw[iter_eq,h2];exact CP b l g fin I o q n (i+1) _ af r h1
  .rename_i y hs;rw[iter_eq,h1]
def xE(b:Nat->A->X)(l:List α)(g:A->α->A⊕Y)(fin:A->Y)(I:Nat->A->Prop)
  (h:∀i (o:i<l.length) s,I i s->match g s l[i]with
   | .inl s'=>I (i+1) s'/\f (b i s)=some (.inl (b (i+1) s'))
   | .inr y=>f (b i s)=some (.inr y))
  (n:∀s,I l.length s->f (b l.length s)=some (.inr (fin s))) (s:A) (h0:I 0 s):iter f (b 0 s)=some (match mg g l s with | .inl s'=>fin s' | .inr y=>y) :=
 CP b l g fin I h n _ 0 s rfl (aT _) h0
def F7{β:Type}(o:Nat->X)(a:List α)(b:List β)(hl:a.length=b.length)(p:α->β->Bool)(yes no:Y)
  (l:∀i (h:i<a.length) (h':i<b.length),f (o i)=if p a[i] b[i]=true then some (.inl (o (i+1)))else some (.inr no))
  (q:f (o a.length)=some (.inr yes)):∀n i,a.length-i=n->i<=a.length->iter f (o i)=some (if ((a.drop i).zip (b.drop i)).all (λx=>p x.1 x.2)=true then yes else no)
 |0,i,r,v=>by
  have:i=a.length:=af
  subst this;rw[iter_eq,q,fS];rfl
 |n+1,i,r,v=>by
  have h1:i<a.length:=af
  have h2:i<b.length:=af
  rw[iter_eq,l i h1 h2,cm h1,cm h2,dZ,bV];cases y:p a[i] b[i]with
  |true =>
   simp only[if_true,gF];exact F7 o a b hl p yes no l q n (i+1) af h1
  |false=>simp only[aZ,if_false,dx]
def wI{β:Type}(l:Nat->X)(a:List α)(b:List β)(hl:a.length=b.length)(p:α->β->Bool)(yes no:Y)
  (n:∀i (h:i<a.length) (h':i<b.length),f (l i)=if p a[i] b[i]=true then some (.inl (l (i+1)))else some (.inr no))
  (o:f (l a.length)=some (.inr yes)):iter f (l 0)=some (if (a.zip b).all (λx=>p x.1 x.2)=true then yes else no) :=
 F7 l a b hl p yes no n o _ 0 rfl (aT _)
def F8(l:Nat->X)(a:List α)(p:α->Bool)(yes no:Y)
  (b:∀i (h:i<a.length),f (l i)=if p a[i]=true then some (.inl (l (i+1)))else some (.inr no))
  (o:f (l a.length)=some (.inr yes)):∀n i,a.length-i=n->i<=a.length->iter f (l i)=some (if (a.drop i).all p=true then yes else no)
 |0,i,q,r=>by
  have:i=a.length:=af
  subst this;rw[iter_eq,o,fS];rfl
 |n+1,i,q,r=>by
  have h1:i<a.length:=af
  rw[iter_eq,b i h1,cm h1,bV];cases v:p a[i]with
  |true =>
   simp only[if_true,gF];exact F8 l a p yes no b o n (i+1) af h1
  |false=>simp only[aZ,if_false,dx]
def Jr(b:Nat->X)(a:List α)(p:α->Bool)(yes no:Y)
  (l:∀i (h:i<a.length),f (b i)=if p a[i]=true then some (.inl (b (i+1)))else some (.inr no))
  (n:f (b a.length)=some (.inr yes)):iter f (b 0)=some (if a.all p=true then yes else no) :=
 F8 b a p yes no l n _ 0 rfl (aT _)
end
@[simp]theorem acK(b:Bool):(AV.bool b).sw=true:=(rfl)
@[simp]theorem agu(k:IntKind)(n:Int):(AV.int k n).sw=true:=(rfl)
@[simp]theorem agp(s:au):(AV.str s).sw=true:=(rfl)
@[simp]theorem agt(f:Bool)(es:List AV):(AV.b9 f es).sw=true:=(rfl)
@[simp]theorem agr(b v o n:Nat):(AV.own b v o n).sw=true:=(rfl)
@[simp]theorem ags(b:Nat):(AV.mb b).sw=true:=(rfl)
@[simp]theorem agq(b v i o:Nat):(AV.ptr b v i o).sw=true:=(rfl)
@[simp]theorem ai4(f:Fn)(a c:List AV):(AV.fn f a c).sw=true:=(rfl)
@[simp]theorem acG:AV.mT.sw=true:=(rfl)
@[simp]theorem acH:AV.nu.sw=true:=(rfl)
@[simp]theorem acJ:AV.mj.sw=true:=(rfl)
@[simp]theorem acI:AV.lU.sw=true:=(rfl)
@[simp]def U6{α:Type}(a x:α)(l xs:List α):over (a::l) 0 (x::xs)=x::over l 0 xs:=by simp[over]
@[simp]def U5{α:Type}(a:α)(l xs:List α)(o:Nat):over (a::l) (o+1) xs=a::over l o xs:=by
 have:o+1+xs.length=(o+xs.length)+1:=af
 simp[over,this]
@[simp]def ZS{α:Type}(l:List α):over l 0 []=l:=by simp[over]
@[simp]def agv(m:Bool)(k b:IntKind)(x y:Int):mm2 m (.int k x) (.int b y)=some (.int k (if m then max x y else min x y)):=by
 simp only[mm2,bn,AV.int.injEq,true_and];cases m
 .simp only[aZ,if_false];split<;>omega
 .simp only[if_true];split<;>omega
@[simp]theorem aaa(L:Nat)(R:ax)(h:AH)(i v sz:Nat)(es:List AV):mz L R h i (.row v sz es) = .row (if R.contains i then 0 else v) sz es:=(rfl)
@[simp]theorem aab(L:Nat)(R:ax)(h:AH)(i v sz:Nat)(es:List AV):mz L R h i (.me v sz es) = .me (if R.contains i then 0 else v) sz es:=(rfl)
@[simp]theorem VB(L:Nat)(R:ax)(h:AH)(i:Nat):mz L R h i .gone = .gone:=(rfl)
@[simp]theorem Z9(L:Nat)(R:ax)(h:AH)(i:Nat)(cs:List AV):mz L R h i (.var cs) = .var (cs.map (kF L R h)):=(rfl)
@[simp]def Ta(a b:Nat):(if a<b then(a:Int)else(b:Int))=((min a b:Nat):Int):=by split<;>omega
@[simp]def QN(a b:Nat):(if a<b then(b:Int)else(a:Int))=((max a b:Nat):Int):=by split<;>omega
@[simp]theorem Vv(L:Nat)(R:ax)(h:AH)(b:Bool):kL L R h (.bool b) = .bool b:=(rfl)
@[simp]theorem VA(L:Nat)(R:ax)(h:AH)(b:Bool):kF L R h (.bool b) = .bool b:=(rfl)
@[simp]theorem ZN(h:AH)(b:Bool):mH h (.bool b)=some (.bool b,h):=(rfl)
@[simp]theorem Zv(h:AH)(b:Bool):nM h (.bool b)=some (.bool b,h):=(rfl)
@[simp]theorem ZG(h:AH)(b:Bool):nr h (.bool b)=some (.bool b,h):=(rfl)
@[simp]theorem Z1(L:Nat)(R:ax)(h:AH)(k:IntKind)(n:Int):kL L R h (.int k n) = .int k n:=(rfl)
@[simp]theorem Z7(L:Nat)(R:ax)(h:AH)(k:IntKind)(n:Int):kF L R h (.int k n) = .int k n:=(rfl)
@[simp]theorem acm(h:AH)(k:IntKind)(n:Int):mH h (.int k n)=some (.int k n,h):=(rfl)
@[simp]theorem ab8(h:AH)(k:IntKind)(n:Int):nM h (.int k n)=some (.int k n,h):=(rfl)
@[simp]theorem acf(h:AH)(k:IntKind)(n:Int):nr h (.int k n)=some (.int k n,h):=(rfl)
@[simp]theorem ZW(L:Nat)(R:ax)(h:AH)(x:au):kL L R h (.str x) = .str x:=(rfl)
@[simp]theorem Z3(L:Nat)(R:ax)(h:AH)(x:au):kF L R h (.str x) = .str x:=(rfl)
@[simp]theorem aci(h:AH)(x:au):mH h (.str x)=some (.str x,h):=(rfl)
@[simp]theorem ab5(h:AH)(x:au):nM h (.str x)=some (.str x,h):=(rfl)
@[simp]theorem acd(h:AH)(x:au):nr h (.str x)=some (.str x,h):=(rfl)
@[simp]theorem Z0(L:Nat)(R:ax)(h:AH)(f:Bool)(es:List AV):kL L R h (.b9 f es) = .b9 f es:=(rfl)
@[simp]theorem Z6(L:Nat)(R:ax)(h:AH)(f:Bool)(es:List AV):kF L R h (.b9 f es) = .b9 f es:=(rfl)
@[simp]theorem ack(h:AH)(f:Bool)(es:List AV):mH h (.b9 f es)=some (.b9 f es,h):=(rfl)
@[simp]theorem ab7(h:AH)(f:Bool)(es:List AV):nM h (.b9 f es)=some (.b9 f es,h):=(rfl)
@[simp]theorem ace(h:AH)(f:Bool)(es:List AV):nr h (.b9 f es)=some (.b9 f es,h):=(rfl)
@[simp]theorem Vr(L:Nat)(R:ax)(h:AH):kL L R h (.mT) = .mT:=(rfl)
@[simp]theorem Vs(L:Nat)(R:ax)(h:AH):kL L R h (.nu) = .nu:=(rfl)
@[simp]theorem Vw(L:Nat)(R:ax)(h:AH):kF L R h (.mT) = .mT:=(rfl)
@[simp]theorem Vx(L:Nat)(R:ax)(h:AH):kF L R h (.nu) = .nu:=(rfl)
@[simp]theorem ZJ(h:AH):mH h (.mT)=some (.mT,h):=(rfl)
@[simp]theorem ZK(h:AH):mH h (.nu)=some (.nu,h):=(rfl)
@[simp]theorem Zr(h:AH):nM h (.mT)=some (.mT,h):=(rfl)
@[simp]theorem Zs(h:AH):nM h (.nu)=some (.nu,h):=(rfl)
@[simp]theorem ZA(h:AH):nr h (.mT)=some (.mT,h):=(rfl)
@[simp]theorem ZB(h:AH):nr h (.nu)=some (.nu,h):=(rfl)
@[simp]theorem adu:(AV.mT).jW=true:=(rfl)
@[simp]theorem adv:(AV.nu).jW=true:=(rfl)
@[simp]theorem adF:(AV.mT).j8=true:=(rfl)
@[simp]theorem adG:(AV.nu).j8=true:=(rfl)
@[simp]theorem XQ:(AV.mT).cells=[.mT]:=(rfl)
@[simp]theorem XR:(AV.nu).cells=[.nu]:=(rfl)
@[simp]theorem adz:(AV.mT).sH=true:=(rfl)
@[simp]theorem adA:(AV.nu).sH=true:=(rfl)
@[simp]theorem XA(R:ax):k7 R .mT = .mT:=(rfl)
@[simp]theorem XB(R:ax):k7 R .nu = .nu:=(rfl)
@[simp]theorem Vu(L:Nat)(R:ax)(h:AH):kL L R h (.mj) = .mj:=(rfl)
@[simp]theorem Vz(L:Nat)(R:ax)(h:AH):kF L R h (.mj) = .mj:=(rfl)
@[simp]theorem ZM(h:AH):mH h (.mj)=some (.mj,h):=(rfl)
@[simp]theorem Zu(h:AH):nM h (.mj)=some (.mj,h):=(rfl)
@[simp]theorem ZF(h:AH):nr h (.mj)=some (.mj,h):=(rfl)
@[simp]theorem adx:(AV.mj).jW=true:=(rfl)
@[simp]theorem adI:(AV.mj).j8=true:=(rfl)
@[simp]theorem XT:(AV.mj).cells=[.mj]:=(rfl)
@[simp]theorem adC:(AV.mj).sH=true:=(rfl)
@[simp]theorem XD(R:ax):k7 R .mj = .mj:=(rfl)
@[simp]theorem Vt(L:Nat)(R:ax)(h:AH):kL L R h (.lU) = .lU:=(rfl)
@[simp]theorem Vy(L:Nat)(R:ax)(h:AH):kF L R h (.lU) = .lU:=(rfl)
@[simp]theorem ZL(h:AH):mH h (.lU)=some (.lU,h):=(rfl)
@[simp]theorem Zt(h:AH):nM h (.lU)=some (.lU,h):=(rfl)
@[simp]theorem ZE(h:AH):nr h (.lU)=some (.lU,h):=(rfl)
@[simp]theorem adw:(AV.lU).jW=true:=(rfl)
@[simp]theorem adH:(AV.lU).j8=true:=(rfl)
@[simp]theorem XS:(AV.lU).cells=[.lU]:=(rfl)
@[simp]theorem adB:(AV.lU).sH=true:=(rfl)
@[simp]theorem XC(R:ax):k7 R .lU = .lU:=(rfl)
@[simp]def Z2(L:Nat)(R:ax)(h:AH)(cs:List AV):kL L R h (.agg cs)=if cs.all AV.jW then .agg cs else .agg (cs.map (kF L R h)):=by unfold kL;simp only[DX]
@[simp]theorem ZZ(L:Nat)(R:ax)(h:AH)(b:Nat):kL L R h (.mb b)=if b<L/\¬R.contains b then .mb b else .dead:=(rfl)
@[simp]theorem Z5(L:Nat)(R:ax)(h:AH)(b:Nat):kF L R h (.mb b)=if b<L/\¬R.contains b then .mb b else .dead:=(rfl)
@[simp]theorem acT(L:Nat)(R:ax)(h:AH)(i:Nat)(q:IntKind)(es:List (Int×AV)):mz L R h i (.mp q es) = .mp q (es.map λp=>(p.1,kL L R h p.2)):=(rfl)
@[simp]theorem ZX(L:Nat)(R:ax)(h:AH)(b v i o:Nat):kL L R h (.ptr b v i o)=if b<L/\¬R.contains b then .ptr b v i o else .dead:=(rfl)
@[simp]theorem Z4(L:Nat)(R:ax)(h:AH)(b v i o:Nat):kF L R h (.ptr b v i o)=if b<L/\¬R.contains b then .ptr b v i o else .dead:=(rfl)
@[simp]theorem acQ(L:Nat)(R:ax)(h:AH)(f:Fn)(a c:List AV):kL L R h (.fn f a c)=if (a++c).all (λx=>x.j8||match x with | .ptr b _ _ _=>decide (b<L) && !R.contains b | .mb b=>decide (b<L) && !R.contains b | _=>false)then .fn f a c else .dead:=(rfl)
@[simp]def acn(h:AH)(cs:List AV):mH h (.agg cs)=if cs.all AV.jW then some (.agg cs,h)else @kW _ _ (sN h cs) ⟨λp=>some (.agg p.1,p.2)⟩:=by unfold mH;simp only[DX];rfl
@[simp]theorem acj(h:AH)(b v o n:Nat):mH h (.own b v o n)=nM h (.own b v o n):=(rfl)
@[simp]theorem Zw(h:AH)(b v o n:Nat):nr h (.own b v o n)=nM h (.own b v o n):=(rfl)
@[simp]def acg(h:AH)(cs:List AV):nr h (.agg cs)=mH h (.agg cs):=by
 unfold nr;simp only[QS];split
 .rename_i h1;unfold mH;simp only[DX,h1,if_true]
 .rfl
@[simp]def ab9(h:AH)(vs:List AV):nr h (.jg vs)=if vs.all AV.j8 then some (.jg vs,h)else @kW _ _ (jT h vs) ⟨λp=>some (.jg p.1,p.2)⟩:=by unfold nr;simp only[QO];rfl
@[simp]theorem ach(h:AH):sN h []=some ([],h):=(rfl)
@[simp]theorem ZH(h:AH)(a:AV)(l:List AV):sN h (a::l)=@kW _ _ (nM h a) ⟨λp=>@kW _ _ (sN p.2 l) ⟨λq=>some (p.1::q.1,q.2)⟩⟩:=(rfl)
@[simp]theorem ZI(h:AH):jT h []=some ([],h):=(rfl)
@[simp]theorem UU(h:AH)(a:AV)(l:List AV):jT h (a::l)=@kW _ _ (mH h a) ⟨λp=>@kW _ _ (jT p.2 l) ⟨λq=>some (p.1::q.1,q.2)⟩⟩:=(rfl)
@[simp]theorem XF(R:ax)(cs:List AV):k7 R (.agg cs)=if cs.all (λx=>x.j8||match x with | .ptr b _ _ _=>!R.contains b | .own b _ _ _=>!R.contains b | .mb b=>!R.contains b | _=>false)then .agg cs else .dead:=(rfl)
@[simp]theorem aeH(R:ax)(f:Fn)(a c:List AV):k7 R (.fn f a c)=if (a++c).all (λx=>x.j8||match x with | .ptr b _ _ _=>!R.contains b | .own b _ _ _=>!R.contains b | .mb b=>!R.contains b | _=>false)then .fn f a c else .dead:=(rfl)
@[simp]theorem Xz(R:ax)(cs:List AV):k7 R (.iV cs) = .iV cs:=(rfl)
@[simp]def aaL(R:ax)(b:Nat):k7 R (.mb b)=if !R.contains b then .mb b else .dead:=by unfold k7;simp
@[simp]def aaJ(R:ax)(b v i o:Nat):k7 R (.ptr b v i o)=if !R.contains b then .ptr b v i o else .dead:=by unfold k7;simp
@[simp]def aaK(R:ax)(b v i o:Nat):k7 R (.own b v i o)=if !R.contains b then .own b v i o else .dead:=by unfold k7;simp
@[simp]def ag4(k:IntKind)(x y:Int):bin .add (.int k x) (.int k y)=some (.int k (k.wrap (x+y))):=by simp only[bin,mA,if_true]
@[simp]def agT(k:IntKind)(x y:Int):bin .sub (.int k x) (.int k y)=some (.int k (k.wrap (x-y))):=by simp only[bin,mA,if_true]
@[simp]def agY(k:IntKind)(x y:Int):bin .mul (.int k x) (.int k y)=some (.int k (k.wrap (x*y))):=by simp only[bin,mA,if_true]
@[simp]def agW(k:IntKind)(x y:Int):bin .quo (.int k x) (.int k y)=if y=0 then none else some (.int k (k.wrap (x.tdiv y))):=by simp only[bin,mA,if_true]
@[simp]def agV(k:IntKind)(x y:Int):bin .rem (.int k x) (.int k y)=if y=0 then none else some (.int k (x.tmod y)):=by simp only[bin,mA,if_true]
@[simp]def ag3(k:IntKind)(x y:Int):bin .eql (.int k x) (.int k y)=some (.bool (decide (x=y))):=by simp only[bin,mA,if_true]
@[simp]def agX(k:IntKind)(x y:Int):bin .neq (.int k x) (.int k y)=some (.bool (!decide (x=y))):=by simp only[bin,mA,if_true]
@[simp]def agZ(k:IntKind)(x y:Int):bin .lss (.int k x) (.int k y)=some (.bool (decide (x<y))):=by simp only[bin,mA,if_true]
@[simp]def ag0(k:IntKind)(x y:Int):bin .leq (.int k x) (.int k y)=some (.bool (decide (x<=y))):=by simp only[bin,mA,if_true]
@[simp]def ag1(k:IntKind)(x y:Int):bin .gtr (.int k x) (.int k y)=some (.bool (decide (y<x))):=by simp only[bin,mA,if_true]
@[simp]def ag2(k:IntKind)(x y:Int):bin .geq (.int k x) (.int k y)=some (.bool (decide (y<=x))):=by simp only[bin,mA,if_true]
@[simp]def agU(op:BinOp)(x y:au):bin op (.str x) (.str y)=j9 x y op:=by cases op<;>rfl
@[simp]theorem ahb(b:Bool):un .not (.bool b)=some (.bool (!b)):=(rfl)
@[simp]theorem ahc(k:IntKind)(n:Int):un .neg (.int k n)=some (.int k (k.wrap (0-n))):=(rfl)
@[simp]theorem aac(m:Bool)(x:AV):uR m x []=some x:=(rfl)
@[simp]theorem VD(m:Bool)(x y:AV)(l:List AV):uR m x (y::l)=@kW _ _ (mm2 m x y) ⟨λz=>uR m z l⟩:=(rfl)
@[simp]theorem aky{α:Type}(a:α)(l:List α):(a::l)[0]? = some a:=(rfl)
def j6{α β:Type}{F:α->β}{l:List α}{n:Nat}(h:l.length<=n):(l.map F).take n=l.map F:=aO (an h)
variable{b:Int}
def qB{a:Int}(h:a<=b):min a b=a:=af
def qA{a:Int}(h:b<=a):min a b=b:=af
def qD{a:Int}(h:b<=a):max a b=a:=af
def qC{a:Int}(h:a<=b):max a b=b:=af
@[simp]theorem Py(a cs:List AV):(AV.agg a).kJ cs = .agg cs:=(rfl)
@[simp]theorem Px(k:IntKind)(n:Int)(cs:List AV):(AV.int k n).kJ cs=cs.headD .dead:=(rfl)
@[simp]theorem LQ(b:Bool)(cs:List AV):(AV.bool b).kJ cs=cs.headD .dead:=(rfl)
@[simp]theorem Pu(b:au)(cs:List AV):(AV.str b).kJ cs=cs.headD .dead:=(rfl)
@[simp]theorem Pw(f:Bool)(es cs:List AV):(AV.b9 f es).kJ cs=cs.headD .dead:=(rfl)
@[simp]def akx{α:Type}(h:List α)(x:α)(l:List α):(h++x::l)[h.length]? = some x:=ai
@[simp]def aja{α:Type}(h:List α)(l:List α)(k:Nat):(h++l)[h.length+k]? = l[k]? := by rw[aQ af];congr 1;omega
@[simp]def akw{α:Type}(h:List α)(x y:α)(l:List α):(h++x::l).set h.length y=h++y::l:=ai
@[simp]def ai9{α:Type}(h:List α)(l:List α)(k:Nat)(y:α):(h++l).set (h.length+k) y=h++l.set k y:=by rw[fK _ _ af];congr 2;omega
def lS{α β:Type}{F:α->β}{l:List α}{x:β}{n:Nat}(h:l.length+1<=n):(l.map F++[x]).take n=l.map F++[x]:=aO (an h)
def uT{a:Int}(h:a<b):(a<b)=True:=eq_true h
def uU{a:Int}(h:¬a<b):(a<b)=False:=eq_false h
def uV{a:Int}(h:a<=b):(a<=b)=True:=eq_true h
def uW{a:Int}(h:¬a<=b):(a<=b)=False:=eq_false h
def uX{a:Int}(h:a=b):(a=b)=True:=eq_true h
def uY{a:Int}(h:¬a=b):(a=b)=False:=eq_false h
def uN{a b:Nat}(h:a<b):(a<b)=True:=eq_true h
def uO{a b:Nat}(h:¬a<b):(a<b)=False:=eq_false h
def uP{a b:Nat}(h:a<=b):(a<=b)=True:=eq_true h
def uQ{a b:Nat}(h:¬a<=b):(a<=b)=False:=eq_false h
@[simp]def wZ(a b:Nat):((a:Int)+(b:Int)).toNat=a+b:=af
def AV.KM:AV->Bool
 | .fn _ [] []=>true
 |v=>v.j8
def Wy{v:AV}(h:v.j8=true):v.KM=true:=by
 cases v<;>first | exact h | (simp[AV.j8,AV.jW]at h;done)
def I5{L:Nat}{R:ax}{h0:AH}{v:AV}(h:v.KM=true):kL L R h0 v=v:=by
 unfold AV.KM at h;split at h
 .rfl
 .exact Ng h
def gd:AB->Bool
 | .var cs=>cs.all AV.jW
 | .mp _ es=>es.all λp=>p.2.KM
 |_=>true
def jv(L:Nat)(h0:AH):∀(h:AH)(i:Nat),h.all gd=true->jD L [] h0 i h=h
 | [],_,_=>rfl
 |b::h,i,l=>by
  simp only[bV,aF]at l;simp only[jD,jv L h0 h (i+1) l.2]
  congr 1
  cases b with
  |gone=>rfl
  |row v sz es=>rfl
  |me v sz es=>rfl
  |var cs =>
   simp only[mz,AB.var.injEq];have h1:cs.all AV.jW=true:=l.1;rw[aM]at h1;refine(dU λx n=>?_).trans (fA _)
   have:=h1 x n;cases x<;>first | rfl | (simp[AV.jW]at this;done)
  |mp q es =>
   simp only[mz,AB.mp.injEq,true_and];have h1:(es.all λp=>p.2.KM)=true:=l.1
   rw[aM]at h1;refine(dU λx n=>?_).trans (fA _)
   rw[I5 (h1 x n)];rfl
def oL{α:Type}(F:α->AV)(p:α->Prop):∀es:List AV,(∀x∈es,∃d,x=F d/\p d)->∃l:List α,es=l.map F/\∀d∈l,p d
 | [],_=>⟨[],rfl,ai⟩
 |x::es,h=>by
  let⟨d,q,o⟩:=h x ai
  let⟨l,hl,b⟩:=oL F p es λy n=>h y (by simp[n])
  exact⟨d::l,by rw[q,hl];rfl,λe i=>by
   rcases bw.1 i with rfl | i
   .exact o
   .exact b e i⟩
def M0{α β:Type}(F:α->β)(l xs:List α)(o:Nat):over (l.map F) o (xs.map F)=(over l o xs).map F:=by simp[over]
section
variable{α A X Y:Type}{f:X->Option (X⊕Y)}
def F5(o:Nat->X)(p:α->Bool)(q:Nat->α->Y)(no:Y):∀(l:List α)(k:Nat)
  (_:∀i (h:i<l.length),f (o (k+i))=if p l[i]=true then some (.inr (q (k+i) l[i]))else some (.inl (o (k+i+1))))
  (_:f (o (k+l.length))=some (.inr no)),iter f (o k)=some ((l.find? p).elim no (q (k+l.findIdx p)))
 | [],k,_,b=>by
  rw[iter_eq];simp only[bt,cI]at b;rw[b];rfl
 |x::l,k,n,b=>by
  have h0:=n 0 ai
  simp only[cI,List.getElem_cons_zero]at h0;rw[iter_eq,h0];cases r:p x with
  |true =>
   simp[eP,r]
  |false =>
   simp only[aZ,if_false]
   rw[F5 o p q no l (k+1) (λi v=>by
    have:=n (i+1) (an v)
    simp only[List.getElem_cons_succ]at this;rw[show k+1+i=k+(i+1) by omega]
    exact this) (by rw[show k+1+l.length=k+(x::l).length by simp;omega];exact b)]
   rw[gM (by simp[r])]
   simp only[eP,r,cond_false];rw[show k+1+l.findIdx p=k+(l.findIdx p+1) by omega]
def pE(b:Nat->X)(l:List α)(p:α->Bool)(o:Nat->α->Y)(no:Y)
  (n:∀i (h:i<l.length),f (b i)=if p l[i]=true then some (.inr (o i l[i]))else some (.inl (b (i+1))))
  (q:f (b l.length)=some (.inr no)):iter f (b 0)=some ((l.find? p).elim no (o (l.findIdx p))):=by
 have:=F5 b p o no l 0 (λi r=>by rw[bW];exact n i r) (by rw[bW];exact q)
 simpa using this
def Ob(b:Nat->X)(l:List α)(p:α->Bool)(fin:Nat->Y)
  (n:∀i (h:i<l.length),f (b i)=if p l[i]=true then some (.inr (fin i))else some (.inl (b (i+1))))
  (o:f (b l.length)=some (.inr (fin l.length))):iter f (b 0)=some (fin (l.findIdx p)):=by
 rw[pE b l p (λi _=>fin i) (fin l.length) n o]
 cases h:l.find? p with
 |none =>
  have:l.findIdx p=l.length:=by
   rw[List.findIdx_eq_length];intro x q;rw[cD]at h
   simpa using h x q
  rw[this];rfl
 |some x=>rfl
def wH(b:Nat->Nat->X)(n c:Nat)(z:c<=n)(fin:Nat->Y)
  (l:∀i j,i<j->j<=n->f (b i j)=some (.inl (if (i+j) / 2<c then b ((i+j) / 2+1) j else b i ((i+j) / 2))))
  (o:∀i,i<=n->f (b i i)=some (.inr (fin i))):∀k i j,j-i=k->i<=c->c<=j->j<=n->iter f (b i j)=some (fin c):=by
 intro k
 induction k using Nat.strongRecOn with
 |_ k q =>
  intro i j hk y x r
  by_cases h:i<j
  .rw[iter_eq,l i j h r]
   by_cases v:(i+j) / 2<c
   .rw[if_pos v];exact q (j-((i+j) / 2+1)) af _ _ rfl af x r
   .rw[if_neg v];exact q ((i+j) / 2-i) af _ _ rfl y af af
  .have:i=j:=by omega
   subst this;have:i=c:=af
   subst this;rw[iter_eq,o i z]
end
@[simp]def lu{α:Type}(p:α->Bool):∀l:List α,l[l.findIdx p]? = l.find? p
 | []=>rfl
 |x::l=>by
  cases b:p x with
  |true=>simp[eP,b]
  |false=>simp[eP,b,lu p l]
@[simp]def Uo(a b c d e f g:AV):shape 7 true [a,b,c,d,e,f,g]=some (.agg [a,b,c,d,e,f,g]):=by simp[shape]
@[simp]def Um(a b c d e f g h:AV):shape 8 true [a,b,c,d,e,f,g,h]=some (.agg [a,b,c,d,e,f,g,h]):=by simp[shape]
@[simp]def Ul(a b c d e f g h i:AV):shape 9 true [a,b,c,d,e,f,g,h,i]=some (.agg [a,b,c,d,e,f,g,h,i]):=by simp[shape]
@[simp]def SQ(a b c d e f g h i j:AV):shape 10 true [a,b,c,d,e,f,g,h,i,j]=some (.agg [a,b,c,d,e,f,g,h,i,j]):=by simp[shape]
@[simp]def Uu(a:AV):shape 1 true [a]=some (.agg [a]):=by simp[shape]
def wrap_u64{n:Int}(h1:0<=n)(h2:n<=9223372036854775807):IntKind.u64.wrap n=n:=by
 have:IntKind.u64.wrap n=n%18446744073709551616:=by
  unfold IntKind.wrap;simp[IntKind.bits,IntKind.signed]
 rw[this];omega
section
variable{α A X Y:Type}{f:X->Option (X⊕Y)}
def zF(i:A->X)(Q:Y->Prop)(I:A->Prop)(m:A->Nat)
  (b:∀s,I s->(∃s',I s'/\m s'<m s/\f (i s)=some (.inl (i s')))\/∃y,Q y/\f (i s)=some (.inr y)):∀(s:A),I s->∃y,Q y/\iter f (i s)=some y:=by
 have:∀(k:Nat)(s:A),m s<=k->I s->∃y,Q y/\iter f (i s)=some y:=by
  intro k
  induction k with
  |zero =>
   intro s hk n
   rcases b s n with⟨s',_,h,_⟩ | ⟨y,l,h⟩
   .omega
   .exact⟨y,l,by rw[iter_eq,h]⟩
  |succ k q =>
   intro s hk n
   rcases b s n with⟨s',o,r,h⟩ | ⟨y,l,h⟩
   .let⟨y,l,h'⟩:=q s' af o
    exact⟨y,l,by rw[iter_eq,h];exact h'⟩
   .exact⟨y,l,by rw[iter_eq,h]⟩
 exact λs n=>this _ s (aV _) n
def iQ(n:Nat)(b:Nat->A->X)(Q:Y->Prop)(I:Nat->A->Prop)
  (l:∀i s,i<n->I i s->(∃s',I (i+1) s'/\f (b i s)=some (.inl (b (i+1) s')))\/∃y,Q y/\f (b i s)=some (.inr y))
  (o:∀s,I n s->∃y,Q y/\f (b n s)=some (.inr y)) {i:Nat} (q:i<=n) (s:A) (h0:I i s):∃y,Q y/\iter f (b i s)=some y:=by
 refine zF (λp:Nat×A=>b p.1 p.2) Q (λp=>p.1<=n/\I p.1 p.2) (λp=>n-p.1) ?_ (i,s) ⟨q,h0⟩
 rintro⟨i,s⟩ ⟨q,h⟩
 simp only at q h⊢
 by_cases r:i<n
 .rcases l i s r h with⟨s',h1,h2⟩ | h
  .exact .inl ⟨(i+1,s'),⟨r,h1⟩,by simp only;omega,h2⟩
  .exact .inr h
 .have:i=n:=by omega
  subst this;exact .inr (o s h)
end
section
variable{X Y:AH}{A:AB}{k i:Nat}
def lV(h:k<X.length):(X.set k A++Y)[k]? = some A:=by
 rw[aJ (an h),aR h]
def nP(h:i<X.length)(b:k≠i):(X.set k A++Y)[i]? = X[i]? := by
 rw[aJ (an h),aI b]
def kM(h:X.length<=i):(X.set k A++Y)[i]? = Y[i-X.length]? := by
 rw[aQ (an h),dG]
def zV(h:k<X.length)(B:AB):(X.set k A++Y).set k B=X.set k B++Y:=by
 rw[ep _ _ (an h),List.set_set]
def pR(h:X.length<=i)(B:AB):(X.set k A++Y).set i B=X.set k A++Y.set (i-X.length) B:=by
 rw[fK _ _ (an h),dG]
def jk(h:i<X.length):(X++Y)[i]? = X[i]? := aJ h
def uZ(h:X.length<=i):(X++Y)[i]? = Y[i-X.length]? := aQ h
def EW(h:i<X.length)(B:AB):(X++Y).set i B=X.set i B++Y:=ep _ _ h
def EV(h:X.length<=i)(B:AB):(X++Y).set i B=X++Y.set (i-X.length) B:=fK _ _ h
def jr(X Y:AH)(k:Nat):(X++Y).take (X.length+k)=X++Y.take k:=by
 rw[List.take_append,aO af,Nat.add_sub_cancel_left]
end
end Go.Am
