/- Part of the proof that TopPassedCard holds. -/
import Derived.Test.YtaepagegdgdlhaaGreatDoorAmS
set_option linter.all false
namespace Go.Am
@[simp]def ah2(c a b:AV)(h:AH):Option (AV×AH):=match c with
 | .bool t=>some (if t then a else b,h)
 |_=>none
def YZ(v:AV)(h:AH):Option (AV×AH):=match v with
 | .ptr b v i o=>some (.ptr b v i o,h)
 | .kE cs=>some (.kE cs,h)
 | .fn f a c=>match f with | .func g=>some (.fn (.func g) a c,h) | _=>none
 |_=>none
@[simp]theorem ah3(b v i o:Nat)(h:AH):YZ (.ptr b v i o) h=some (.ptr b v i o,h):=(rfl)
@[simp]theorem agv(cs:List AV)(h:AH):YZ (.kE cs) h=some (.kE cs,h):=(rfl)
@[simp]theorem amJ(g:FuncId)(a c:List AV)(h:AH):YZ (.fn (.func g) a c) h=some (.fn (.func g) a c,h):=(rfl)
def ah1(neg:Bool)(ks:ax)(u v:AV)(h:AH):Option (AV×AH):=match u,v with
 | .agg a,.agg b=>(lK ks a b).bind λr=>if a.length=ks.length/\b.length=ks.length then some (.bool (if neg then !r else r),h)else none
 |_,_=>none
@[simp]theorem ah0(neg:Bool)(ks:ax)(a b:List AV)(h:AH):ah1 neg ks (.agg a) (.agg b) h=@mZ _ _ (lK ks a b) ⟨λr=>if a.length=ks.length/\b.length=ks.length then some (.bool (if neg then !r else r),h)else none⟩:=(rfl)
@[simp]def ah9(k:IntKind)(v:AV)(h:AH):Option (AV×AH):=match v with
 | .int _ n=>some (.int k (k.wrap n),h)
 |_=>none
@[simp]def anz(v:AV)(h:AH):Option (AV×AH):=match v with
 | .str s=>some (.jB false (s.map λc=>.int .u8 (c.toNat:Int)),h)
 |_=>none
@[simp]def wT(d:Nat):Option AV->Option Nat
 |none=>some d
 |some v=>nat? v
def G6(d:Nat)(e:Env)(x:Option AO):lI d e x=wT d (x.map λy=>y.get e):=by cases x<;>rfl
def acv(sz bytes:Nat)(zero u v:AV)(h:AH):Option (AV×AH):=match nat? u,nat? v with
 |some n,some m=>if n<=m/\m*bytes<=140737488355328/\m<=140737488355328 then some (.own h.length 0 0 n,h++[.row 0 sz (List.replicate n zero)])else none
 |_,_=>none
@[simp]def ah4(sz bytes:Nat)(zero:AV)(k k':IntKind)(n m:Int)(h:AH):acv sz bytes zero (.int k n) (.int k' m) h=if 0<=n/\0<=m/\n.toNat<=m.toNat/\m.toNat*bytes<=140737488355328/\m.toNat<=140737488355328 then some (.own h.length 0 0 n.toNat,h++[.row 0 sz (List.replicate n.toNat zero)])else none:=by
 unfold acv nat?
 by_cases h1:0<=n<;>by_cases h2:0<=m<;>simp[h1,h2]
def acu(x:AV)(lo hi:Option AV)(h:AH):Option (AV×AH):=match x with
 | .str s=>(wT s.length hi).bind λb=>(wT 0 lo).bind λa=>if a<=b/\b<=s.length then some (.str ((s.take b).drop a),h)else none
 |_=>none
@[simp]theorem ahX(s:au)(lo hi:Option AV)(h:AH):acu (.str s) lo hi h=@mZ _ _ (wT s.length hi) ⟨λb=>@mZ _ _ (wT 0 lo) ⟨λa=>if a<=b/\b<=s.length then some (.str ((s.take b).drop a),h)else none⟩⟩:=(rfl)
def R7(sz : Nat)(x : AV)(lo hi mx : Option AV)(h : AH): Option (AV × AH) := match x with
 | .jB full es=>(wT es.length hi).bind λb=>(wT 0 lo).bind λa =>
   match mx with
   |none=>if kK sz es=true/\a<=b/\b<=es.length then some (.jB (full&&decide (b=es.length)) ((es.take b).drop a),h)else none
   |some m=>(nat? m).bind λm =>
     if kK sz es=true/\hi.isSome=true/\a<=b/\b<=m/\m<=es.length then some (.jB (decide (b=m)) ((es.take b).drop a),h)else none
 | .own r v o n=>(wT n hi).bind λb=>(wT 0 lo).bind λa =>
   match mx with
   |none=>if kX h r v=some sz/\a<=b/\b<=n then some (.own r v (o+a) (b-a),h)else none
   |some m=>(nat? m).bind λm =>
     if kX h r v=some sz/\hi.isSome=true/\a<=b/\b<=m/\m<=n then some (.own r v (o+a) (b-a),h)else none
 |_=>none
@[simp]theorem ahZ(sz:Nat)(full:Bool)(es:List AV)(lo hi:Option AV)(h:AH):R7 sz (.jB full es) lo hi none h=@mZ _ _ (wT es.length hi) ⟨λb=>@mZ _ _ (wT 0 lo) ⟨λa=>if kK sz es=true/\a<=b/\b<=es.length then some (.jB (full&&decide (b=es.length)) ((es.take b).drop a),h)else none⟩⟩:=(rfl)
@[simp]theorem ahY(sz r v o n:Nat)(lo hi:Option AV)(h:AH):R7 sz (.own r v o n) lo hi none h=@mZ _ _ (wT n hi) ⟨λb=>@mZ _ _ (wT 0 lo) ⟨λa=>if kX h r v=some sz/\a<=b/\b<=n then some (.own r v (o+a) (b-a),h)else none⟩⟩:=(rfl)
@[simp]theorem agu(sz:Nat)(full:Bool)(es:List AV)(lo hi:Option AV)(m:AV)(h:AH):R7 sz (.jB full es) lo hi (some m) h=@mZ _ _ (wT es.length hi) ⟨λb=>@mZ _ _ (wT 0 lo) ⟨λa=>@mZ _ _ (nat? m) ⟨λm=>if kK sz es=true/\hi.isSome=true/\a<=b/\b<=m/\m<=es.length then some (.jB (decide (b=m)) ((es.take b).drop a),h)else none⟩⟩⟩:=(rfl)
@[simp]theorem agt(sz r v o n:Nat)(lo hi:Option AV)(m:AV)(h:AH):R7 sz (.own r v o n) lo hi (some m) h=@mZ _ _ (wT n hi) ⟨λb=>@mZ _ _ (wT 0 lo) ⟨λa=>@mZ _ _ (nat? m) ⟨λm=>if kX h r v=some sz/\hi.isSome=true/\a<=b/\b<=m/\m<=n then some (.own r v (o+a) (b-a),h)else none⟩⟩⟩:=(rfl)
@[simp]def anB(off:Nat)(v:AV)(h:AH):Option (AV×AH):=match v with
 | .ptr b v i o=>some (.ptr b v i (o+off),h)
 | .kE cs=>if off<=cs.length then some (.kE (cs.drop off),h)else none
 |_=>none
@[simp]def anA(off sz:Nat)(agg:Bool)(v:AV)(h:AH):Option (AV×AH):=match v with
 | .agg cs=>if off<=cs.length then mc h (shape sz agg (cs.drop off))else none
 |_=>none
def acz(sz:Nat)(x i:AV)(h:AH):Option (AV×AH):=match x with
 | .jB _ es=>(nat? i).bind λn=>(es[n]?).bind λy=>if y.cells.length=sz then some (.kE y.cells,h)else none
 | .own b v o m=>(nat? i).bind λn=>if n<m/\kX h b v=some sz then some (.ptr b v (o+n) 0,h)else none
 |_=>none
@[simp]theorem ah6(sz:Nat)(f:Bool)(es:List AV)(i:AV)(h:AH):acz sz (.jB f es) i h=@mZ _ _ (nat? i) ⟨λn=>@mZ _ _ (es[n]?) ⟨λy=>if y.cells.length=sz then some (.kE y.cells,h)else none⟩⟩:=(rfl)
@[simp]theorem ah5(sz b v o m:Nat)(i:AV)(h:AH):acz sz (.own b v o m) i h=@mZ _ _ (nat? i) ⟨λn=>if n<m/\kX h b v=some sz then some (.ptr b v (o+n) 0,h)else none⟩:=(rfl)
def Ub(m sz:Nat)(x i:AV)(h:AH):Option (AV×AH):=(nat? i).bind λn=>if n<m then
   match x with
   | .ptr b v j o=>some (.ptr b v j (o+n*sz),h)
   | .kE cs=>if n*sz<=cs.length then some (.kE (cs.drop (n*sz)),h)else none
   |_=>none
   else none
@[simp]theorem agx(m sz b v j o:Nat)(i:AV)(h:AH):Ub m sz (.ptr b v j o) i h=@mZ _ _ (nat? i) ⟨λn=>if n<m then some (.ptr b v j (o+n*sz),h)else none⟩:=(rfl)
@[simp]theorem acy(m sz:Nat)(cs:List AV)(i:AV)(h:AH):Ub m sz (.kE cs) i h=@mZ _ _ (nat? i) ⟨λn=>if n<m then(if n*sz<=cs.length then some (.kE (cs.drop (n*sz)),h)else none)else none⟩:=(rfl)
def abj(x i:AV)(h:AH):Option (AV×AH):=match x with
 | .str s=>(nat? i).bind λn=>(s[n]?).bind λc=>some (.int .u8 c.toNat,h)
 |_=>none
@[simp]theorem agw(s:au)(i:AV)(h:AH):abj (.str s) i h=@mZ _ _ (nat? i) ⟨λn=>@mZ _ _ (s[n]?) ⟨λc=>some (.int .u8 c.toNat,h)⟩⟩:=(rfl)
def ah8(x:AV)(i:Nat)(h:AH):Option (AV×AH):=match x with
 | .kT vs=>(vs[i]?).bind λv=>some (v,h)
 |_=>none
@[simp]theorem ah7(vs:List AV)(i:Nat)(h:AH):ah8 (.kT vs) i h=@mZ _ _ (vs[i]?) ⟨λv=>some (v,h)⟩:=(rfl)
def Uc(Γ:kP)(f:AV)(args:List AV)(h:AH):Option (AV×AH):=match f with
 | .fn g first cap=>match g with
  | .func g=>jM Γ g (first++args++cap) h
  |_=>none
 |_=>none
@[simp]theorem agy(Γ:kP)(g:FuncId)(first cap args:List AV)(h:AH):Uc Γ (.fn (.func g) first cap) args h=jM Γ g (first++args++cap) h:=(rfl)
@[simp]def vMm(isMax:Bool)(vs:List AV)(h:AH):Option (AV×AH):=match vs with
 |x::l=>mc h (yx isMax x l)
 | []=>none
@[simp]def aia(Uo:Nat)(zero:AV)(b v o n:Nat)(h:AH)(X:Option AB):Option (AV×AH):=match X with
 |some (.row v' sz es)=>if v=v'/\sz=Uo/\o+n<=es.length then some (.kT [],h.set b (.row v' sz (over es o (List.replicate n zero))))else none
 |_=>none
@[simp]def anC(Uo:Nat)(zero x:AV)(h:AH):Option (AV×AH):=match x with
 | .own b v o n=>aia Uo zero b v o n h h[b]?
 | .jB _ es=>if es=[]then some (.kT [],h)else none
 |_=>none
section
variable{Γ:kP}{e:Env}{h:AH}
@[simp ↓]def als(sz:Nat)(zero:AV)(x:AO):exec Γ e h (.clr sz zero x)=anC sz zero (x.get e) h:=by
 simp only[exec];cases x.get e<;>rfl
@[simp ↓]theorem ani(x:AO):exec Γ e h (.mv x)=some (x.get e,h):=(rfl)
@[simp ↓]theorem aht(c a b:AO):exec Γ e h (.pick c a b)=ah2 (c.get e) (a.get e) (b.get e) h:=(rfl)
@[simp]def aoR(b:Nat):Option AB->Option (Nat×List (Int×AV))
 |some (.mp es)=>some (b,es)
 |_=>none
@[simp]def ahj(h:AH)(b:Nat):vX h (.nQ b)=aoR b h[b]? := by
 simp only[vX];cases h[b]? with
 |none=>rfl
 |some X=>cases X<;>rfl
@[simp]def ajA(b:Nat):Option AB->Option (Nat×List (au×AV))
 |some (.mps es)=>some (b,es)
 |_=>none
@[simp]def ahi(h:AH)(b:Nat):Ce h (.nQ b)=ajA b h[b]? := by
 simp only[Ce];cases h[b]? with
 |none=>rfl
 |some X=>cases X<;>rfl
@[simp]theorem ajR(s:au):Ot (.str s)=some s:=(rfl)
@[simp]theorem ajS(n:Int):I3 (.int .i64 n)=some n:=(rfl)
@[simp ↓]theorem alj:exec Γ e h .ZO=some (.nQ h.length,h++[.mp []]):=(rfl)
@[simp ↓]theorem ahx(zero:AV)(m k:AO):exec Γ e h (.yP zero m k)=@mZ _ _ (vX h (m.get e)) ⟨λp=>@mZ _ _ (I3 (k.get e)) ⟨λn=>some (mz p.2 n zero,h)⟩⟩:=(rfl)
@[simp ↓]theorem ahu(m k x:AO):exec Γ e h (.uf m k x)=@mZ _ _ (vX h (m.get e)) ⟨λp=>@mZ _ _ (I3 (k.get e)) ⟨λn=>if (x.get e).tF=true then some (.undef,h.set p.1 (.mp (mN p.2 n (x.get e))))else none⟩⟩:=(rfl)
@[simp ↓]theorem aeS(zero:AV)(m k:AO):exec Γ e h (.zK zero m k)=@mZ _ _ (vX h (m.get e)) ⟨λp=>@mZ _ _ (I3 (k.get e)) ⟨λn=>some (.kT [mz p.2 n zero,.bool (vw p.2 n)],h)⟩⟩:=(rfl)
@[simp ↓]theorem ahw:exec Γ e h .VA=some (.nQ h.length,h++[.mps []]):=(rfl)
@[simp ↓]theorem aeR(ck:Bool)(zero:AV)(m k:AO):exec Γ e h (.Cd ck zero m k)=@mZ _ _ (Ce h (m.get e)) ⟨λp=>@mZ _ _ (Ot (k.get e)) ⟨λn=>some (if ck=true then .kT [mz p.2 n zero,.bool (vw p.2 n)]else mz p.2 n zero,h)⟩⟩:=(rfl)
@[simp ↓]theorem aeQ(m k x:AO):exec Γ e h (.Cc m k x)=@mZ _ _ (Ce h (m.get e)) ⟨λp=>@mZ _ _ (Ot (k.get e)) ⟨λn=>if (x.get e).tF=true then some (.undef,h.set p.1 (.mps (mN p.2 n (x.get e))))else none⟩⟩:=(rfl)
@[simp ↓]theorem ahv(m:AO):exec Γ e h (.Ol m)=@mZ _ _ (vX h (m.get e)) ⟨λp=>some (.int .i64 p.2.length,h)⟩:=(rfl)
@[simp ↓]theorem ae6(zero:List AV):exec Γ e h (.alloc zero)=some (.ptr h.length 0 0 0,h++[.var zero]):=(rfl)
@[simp ↓]theorem alw(x:AO):exec Γ e h (.box x)=if (x.get e).cells.all AV.tF then some (.ptr h.length 0 0 0,h++[.var (x.get e).cells])else none:=(rfl)
@[simp ↓]theorem ae5(zero:List AV)(ps:List (Nat×Nat×AO)):exec Γ e h (.build zero ps)=@mZ _ _ (parts e ps zero) ⟨λcs=>some (.agg cs,h)⟩:=(rfl)
@[simp ↓]theorem alv(sz:Nat)(zero:AV)(len:Nat)(ps:List (Nat×AO)):exec Γ e h (.BQ sz zero len ps)=@mZ _ _ (oc e sz ps (List.replicate len zero)) ⟨λes=>some (.jB true es,h)⟩:=(rfl)
@[simp ↓]theorem ahD(sz:Nat)(zero:AV)(len:Nat)(ps:List (Nat×AO)):exec Γ e h (.M0 sz zero len ps)=@mZ _ _ (nZ e sz ps (List.replicate len zero) h) ⟨λp=>some (.own p.2.length 0 0 p.1.length,p.2++[.row 0 sz p.1])⟩:=(rfl)
@[simp ↓]theorem ahE(sz:Nat)(zero:AV)(len:Nat)(ps:List (Nat×AO)):exec Γ e h (.me sz zero len ps)=@mZ _ _ (nZ e sz ps (List.replicate len zero) h) ⟨λp=>some (.jB true p.1,p.2)⟩:=(rfl)
@[simp ↓]theorem ahy(sz:Nat)(agg:Bool)(a:AO):exec Γ e h (.load sz agg a)=@mZ _ _ (j7 h (a.get e)) ⟨λcs=>mc h (shape sz agg cs)⟩:=(rfl)
@[simp ↓]theorem ab0(sz:Nat)(a x:AO):exec Γ e h (.mC sz a x)=if rG h (a.get e)=true then @mZ _ _ (storeAt h sz (a.get e) (x.get e)) ⟨λq=>some (.undef,q)⟩else none:=(rfl)
@[simp ↓]theorem aeT(sz:Nat)(agg:Bool)(a:AO)(q:Nat):exec Γ e h (.mS sz agg a q)=if pK (e q) (a.get e)=true then @mZ _ _ (j7 h (a.get e)) ⟨λcs=>mc h (shape sz agg cs)⟩else none:=(rfl)
@[simp]theorem abZ(b v i o b' v' i' o':Nat):pK (.ptr b v i o) (.ptr b' v' i' o')=decide (b≠b'):=(rfl)
@[simp]theorem aas(b v i o:Nat)(cs:List AV):pK (.ptr b v i o) (.kE cs)=true:=(rfl)
@[simp]theorem ad7(h:AH)(b v i o:Nat):rG h (.ptr b v i o)=match h[b]? with | some (.var _)=>true | _=>false:=(rfl)
@[simp ↓]theorem aeP(sz:Nat)(a x:AO):exec Γ e h (.store sz a x)=@mZ _ _ (storeAt h sz (a.get e) (x.get e)) ⟨λq=>some (.undef,q)⟩:=(rfl)
@[simp ↓]theorem alh(x:AO):exec Γ e h (.ZI x)=YZ (x.get e) h:=(rfl)
@[simp ↓]theorem alx(op:BinOp)(x y:AO):exec Γ e h (.bin op x y)=mc h (bin op (x.get e) (y.get e)):=(rfl)
@[simp ↓]theorem alg(neg:Bool)(ks:ax)(x y:AO):exec Γ e h (.seq neg ks x y)=ah1 neg ks (x.get e) (y.get e) h:=(rfl)
@[simp ↓]theorem ang(op:UnOp)(x:AO):exec Γ e h (.un op x)=mc h (un op (x.get e)):=(rfl)
@[simp ↓]theorem ahB(k:IntKind)(x:AO):exec Γ e h (.conv k x)=ah9 k (x.get e) h:=(rfl)
@[simp ↓]theorem aeZ(f:FuncId)(args:List AO):exec Γ e h (.calls f args)=tH h (jM Γ f (getAll e args) h):=(rfl)
@[simp ↓]theorem ae3(f:FuncId)(args:List AO):exec Γ e h (.Aq f args)=@mZ _ _ (kY h (getAll e args)) ⟨λq=>Γ.h f q.1 q.2⟩:=(rfl)
@[simp ↓]theorem aeX(f:FuncId)(args:List AO):exec Γ e h (.yG f args)=@mZ _ _ (kY h (getAll e args)) ⟨λq=>@mZ _ _ (Γ.p f q.1) ⟨λr=>some (r,q.2)⟩⟩:=(rfl)
@[simp ↓]theorem aeU(sz:Nat)(agg:Bool)(t:Nat):exec Γ e h (.sN sz agg t)=if rG h (e t)=true then @mZ _ _ (j7 h (e t)) ⟨λcs=>@mZ _ _ (shape sz agg cs) ⟨λv=>some (v,h)⟩⟩else none:=(rfl)
@[simp ↓]theorem ald(x:AO):exec Γ e h (.stb x)=anz (x.get e) h:=(rfl)
@[simp ↓]theorem alu(x:AO):exec Γ e h (.XU x)=@mZ _ _ (elems h (x.get e)) ⟨λes=>@mZ _ _ (pG es) ⟨λs=>some (.str s,h)⟩⟩:=(rfl)
@[simp ↓]theorem alk(t:TypeId)(x:AO):exec Γ e h (.mki t x)=some (.Hq t (x.get e),h):=(rfl)
@[simp ↓]theorem alm(f:Fn)(a c:List AO):exec Γ e h (.Ef f a c)=some (.fn f (getAll e a) (getAll e c),h):=(rfl)
@[simp ↓]theorem ali(sz bytes:Nat)(zero:AV)(l c:AO):exec Γ e h (.mks sz bytes zero l c)=acv sz bytes zero (l.get e) (c.get e) h:=(rfl)
@[simp ↓]def ale(x:AO)(lo hi:Option AO):exec Γ e h (.Sj x lo hi)=acu (x.get e) (lo.map λy=>y.get e) (hi.map λy=>y.get e) h:=by simp only[exec,acu,G6];rfl
@[simp ↓]def alf(sz:Nat)(x:AO)(lo hi mx:Option AO):exec Γ e h (.F8 sz x lo hi mx)=R7 sz (x.get e) (lo.map λy=>y.get e) (hi.map λy=>y.get e) (mx.map λy=>y.get e) h:=by
 cases mx<;>simp only[exec,R7,G6,Option.map]<;>cases x.get e<;>cases hi<;>rfl
@[simp ↓]theorem alq(off:Nat)(x:AO):exec Γ e h (.fad off x)=anB off (x.get e) h:=(rfl)
@[simp ↓]theorem alp(off sz:Nat)(agg:Bool)(x:AO):exec Γ e h (.fld off sz agg x)=anA off sz agg (x.get e) h:=(rfl)
@[simp ↓]theorem alo(sz:Nat)(x i:AO):exec Γ e h (.Nz sz x i)=acz sz (x.get e) (i.get e) h:=(rfl)
@[simp ↓]theorem ahA(m sz:Nat)(x i:AO):exec Γ e h (.OC m sz x i)=Ub m sz (x.get e) (i.get e) h:=(rfl)
@[simp ↓]theorem ahz(x i:AO):exec Γ e h (.idxs x i)=abj (x.get e) (i.get e) h:=(rfl)
@[simp ↓]theorem alr(x:AO)(i:Nat):exec Γ e h (.ext x i)=ah8 (x.get e) i h:=(rfl)
@[simp ↓]theorem ahC(f:FuncId)(args:List AO):exec Γ e h (.call f args)=jM Γ f (getAll e args) h:=(rfl)
@[simp ↓]theorem ae2(f:FuncId)(args:List AO):exec Γ e h (.rS f args)=if (getAll e args).all AV.lT then mc h (Γ.p f (getAll e args))else none:=(rfl)
@[simp ↓]theorem aeY(f:AO)(args:List AO):exec Γ e h (.l8 f args)=Uc Γ (f.get e) (getAll e args) h:=(rfl)
@[simp]def acw(sz:Nat)(agg:Bool)(a:AV)(h:AH):Option (AV×AH):=match a with
 | .kE cs=>mc h (shape sz agg cs)
 |_=>none
noncomputable def Ud(Γ:kP)(f:AV)(args:List AV)(h:AH):Option (AV×AH):=match f with
 | .fn g first cap=>match g with
  | .func g=>tH h (jM Γ g (first++args++cap) h)
  |_=>none
 |_=>none
@[simp]theorem agz(g:FuncId)(first cap args:List AV)(h:AH):Ud Γ (.fn (.func g) first cap) args h=tH h (jM Γ g (first++args++cap) h):=(rfl)
@[simp]def acT(h:AH)(r:AV):tH h (some (r,h))=some (r,h):=by simp[tH]
@[simp ↓]theorem ae1(f:FuncId)(args:List AO):exec Γ e h (.v8 f args)=if (getAll e args).all AV.lT then @mZ _ _ (@mZ _ _ (Γ.h f (getAll e args) []) ⟨λp=>sD p.2 p.1⟩) ⟨λp=>some (p.1,h)⟩else none:=(rfl)
@[simp ↓]theorem ahs(x:AO):exec Γ e h (.N9 x)=if (x.get e).cells.all AV.kZ then some (.kE (x.get e).cells,h)else none:=(rfl)
@[simp ↓]theorem aeV(sz:Nat)(agg:Bool)(a:AO):exec Γ e h (.Ch sz agg a)=acw sz agg (a.get e) h:=(rfl)
@[simp ↓]theorem ae4(f:FuncId)(args:List AO):exec Γ e h (.qu f args)=uQ h (jM Γ f (getAll e args) h):=(rfl)
open Classical in
@[simp]theorem aeM(h h':AH)(r:AV):uQ h (some (r,h'))=if h'.take h.length=h then some (r,h')else none:=(rfl)
noncomputable def Pu(Γ:kP)(f:AV)(args:List AV)(h:AH):Option (AV×AH):=match f with
 | .fn g first cap=>match g with
  | .func g=>uQ h (jM Γ g (first++args++cap) h)
  |_=>none
 |_=>none
@[simp]theorem acA(g:FuncId)(first cap args:List AV)(h:AH):Pu Γ (.fn (.func g) first cap) args h=uQ h (jM Γ g (first++args++cap) h):=(rfl)
@[simp ↓]theorem ab1(f:AO)(args:List AO):exec Γ e h (.rJ f args)=Pu Γ (f.get e) (getAll e args) h:=(rfl)
@[simp ↓]theorem ae0(f:AO)(args:List AO):exec Γ e h (.rR f args)=Ud Γ (f.get e) (getAll e args) h:=(rfl)
@[simp ↓]theorem aly(sz bytes:Nat)(s x:AO):exec Γ e h (.app sz bytes s x)=@mZ _ _ (elems h (x.get e)) ⟨λnews=>append h sz bytes (s.get e) news⟩:=(rfl)
@[simp ↓]theorem aln(str:Bool)(x:AO):exec Γ e h (.len str x)=@mZ _ _ (K9 str (x.get e)) ⟨λn=>some (.int .i64 n,h)⟩:=(rfl)
@[simp ↓]theorem anj(isMax:Bool)(xs:List AO):exec Γ e h (.mm isMax xs)=vMm isMax (getAll e xs) h:=(rfl)
@[simp ↓]theorem anh:exec Γ e h .no=none:=(rfl)
@[simp ↓]theorem aeW(k:NK)(neg:Bool)(x:AO):exec Γ e h (.zO k neg x)=mc h (isNil k neg (x.get e)):=(rfl)
@[simp]theorem ad2(v:AV):mc h (some v)=some (v,h):=(rfl)
end
def Is(h:AH)(sz b v i o:Nat)(x:AV):Option AB->Option AH
 |some (.var cs)=>if v=0/\i=0/\x.cells.all AV.tF=true/\x.cells.length=sz/\o+sz<=cs.length then some (h.set b (.var (over cs o x.cells)))else none
 |some (.row _ _ _)=>(oT h x).bind λ(x',h') =>
   match h'[b]? with
   |some (.row v' sz' es)=>(es[i]?).bind λe =>
    if v=v'/\x'.cells.all AV.kZ=true/\x'.cells.length=sz/\o+sz<=e.cells.length then some (h'.set b (.row v' sz' (es.set i (e.mQ (over e.cells o x'.cells)))))else none
   |_=>none
 |_=>none
def Up(h':AH)(sz b v i o:Nat)(x':AV):Option AB->Option AH
 |some (.row v' sz' es)=>(es[i]?).bind λe =>
   if v=v'/\x'.cells.all AV.kZ=true/\x'.cells.length=sz/\o+sz<=e.cells.length then some (h'.set b (.row v' sz' (es.set i (e.mQ (over e.cells o x'.cells)))))else none
 |_=>none
@[simp]def abq(h:AH)(sz b v i o:Nat)(x:AV):storeAt h sz (.ptr b v i o) x=Is h sz b v i o x h[b]? := by
 simp only[storeAt];cases h[b]? with
 |none=>rfl
 |some X=>cases X<;>rfl
@[simp]theorem acF(h:AH)(sz b v i o:Nat)(x:AV)(cs:List AV):Is h sz b v i o x (some (.var cs))=if v=0/\i=0/\x.cells.all AV.tF=true/\x.cells.length=sz/\o+sz<=cs.length then some (h.set b (.var (over cs o x.cells)))else none:=(rfl)
@[simp]def acG(h:AH)(sz b v i o:Nat)(x:AV)(v' sz':Nat)(es:List AV):Is h sz b v i o x (some (.row v' sz' es))=@mZ _ _ (oT h x) ⟨λp=>Up p.2 sz b v i o p.1 p.2[b]?⟩:=by
 simp only[Is]
 congr 1
@[simp]theorem acE(h':AH)(sz b v i o:Nat)(x':AV)(v' sz':Nat)(es:List AV):Up h' sz b v i o x' (some (.row v' sz' es))=@mZ _ _ (es[i]?) ⟨λe=>if v=v'/\x'.cells.all AV.kZ=true/\x'.cells.length=sz/\o+sz<=e.cells.length then some (h'.set b (.row v' sz' (es.set i (e.mQ (over e.cells o x'.cells)))))else none⟩:=(rfl)
def JG(v i o:Nat):Option AB->Option (List AV)
 |some (.var cs)=>if v=0/\i=0/\o<=cs.length then some (cs.drop o)else none
 |some (.row v' _ es)=>if v=v' then(es[i]?).bind λx=>if o<=x.cells.length then some (x.cells.drop o)else none else none
 |some (.qa v' _ es)=>if v=v' then(es[i]?).bind λx=>if o<=x.cells.length then some (x.cells.drop o)else none else none
 |_=>none
@[simp]def ab8(h:AH)(b v i o:Nat):j7 h (.ptr b v i o)=JG v i o h[b]? := by
 simp only[j7];cases h[b]? with
 |none=>rfl
 |some X=>cases X<;>rfl
@[simp]theorem afD(v i o:Nat)(cs:List AV):JG v i o (some (.var cs))=if v=0/\i=0/\o<=cs.length then some (cs.drop o)else none:=(rfl)
@[simp]theorem afE(v i o v' sz:Nat)(es:List AV):JG v i o (some (.row v' sz es))=if v=v' then @mZ _ _ (es[i]?) ⟨λx=>if o<=x.cells.length then some (x.cells.drop o)else none⟩else none:=(rfl)
@[simp]theorem afF(v i o v' sz:Nat)(es:List AV):JG v i o (some (.qa v' sz es))=if v=v' then @mZ _ _ (es[i]?) ⟨λx=>if o<=x.cells.length then some (x.cells.drop o)else none⟩else none:=(rfl)
@[simp]def Xq(v o n:Nat):Option AB->Option (List AV)
 |some (.row v' _ es)=>if v=v'/\o+n<=es.length then some ((es.drop o).take n)else none
 |some (.qa v' _ es)=>if v=v'/\o+n<=es.length then some ((es.drop o).take n)else none
 |_=>none
@[simp]def Tk(h:AH)(b v o n:Nat):elems h (.own b v o n)=Xq v o n h[b]? := by
 simp only[elems];cases h[b]? with
 |none=>rfl
 |some X=>cases X<;>rfl
@[simp]def ac3(v:Nat):Option AB->Option Nat
 |some (.row v' sz _)=>if v=v' then some sz else none
 |some (.qa v' sz _)=>if v=v' then some sz else none
 |_=>none
@[simp]def aiM(h:AH)(b v:Nat):kX h b v=ac3 v h[b]? := by
 simp only[kX];cases h[b]? with
 |none=>rfl
 |some X=>cases X<;>rfl
@[simp]def abc(h:AH)(sz bytes b v o n:Nat)(news:List AV):Option AB->Option (AV×AH)
 |some (.row v' sz' es) =>
   if v=v'/\sz'=sz/\kK sz news=true/\o+n<=es.length/\(n+news.length)*bytes<=140737488355328/\n+news.length<=140737488355328 then
    some (.own b (v+1) 0 (n+news.length),h.set b (.row (v+1) sz ((es.drop o).take n++news)))
   else none
 |_=>none
@[simp]def agh(h:AH)(sz bytes b v o n:Nat)(news:List AV):append h sz bytes (.own b v o n) news=abc h sz bytes b v o n news h[b]? := by
 simp only[append];cases h[b]? with
 |none=>rfl
 |some X=>cases X<;>rfl
@[simp]theorem agi(h:AH)(sz bytes:Nat)(es news:List AV):append h sz bytes (.jB true es) news=if (es=[]\/news≠[])/\kK sz es=true/\kK sz news=true/\(es.length+news.length)*bytes<=140737488355328/\es.length+news.length<=140737488355328 then some (.own h.length 0 0 (es.length+news.length),h++[.row 0 sz (es++news)])else none:=(rfl)
@[simp]def ajv(b v o n:Nat):Option AB->AV
 |some (.row v' _ _)=>if v=v' then .own b 0 o n else .dead
 |some (.qa v' _ _)=>if v=v' then .own b 0 o n else .dead
 |_=>.dead
@[simp]def ajw:Option (List AV)->AV
 |some es=>.jB false es
 |none=>.dead
def Oi(L:Nat)(R:ax)(h:AH)(b v o n:Nat):j9 L R h (.own b v o n) =
  if b<L then(if R.contains b then ajv b v o n h[b]? else .own b v o n)else ajw (elems h (.own b v o n)):=by
 simp only[j9];split
 .split
  .cases h[b]? with
   |none=>rfl
   |some X=>cases X<;>rfl
  .rfl
 .cases elems h (.own b v o n)<;>rfl
attribute [simp] Oi
@[simp]def aos(h:AH)(b v o n:Nat):Option AB->Option (AV×AH)
 |some (.row v' sz es)=>if v=v'/\o+n<=es.length then some (.jB false ((es.drop o).take n),h.set b (.qa v' sz es))else none
 |some (.qa v' _ es)=>if v=v'/\o+n<=es.length then some (.jB false ((es.drop o).take n),h)else none
 |_=>none
@[simp]def aiT(h:AH)(b v o n:Nat):qe h (.own b v o n)=aos h b v o n h[b]? := by
 simp only[qe];cases h[b]? with
 |none=>rfl
 |some X=>cases X<;>rfl
@[simp ↓]theorem agZ(e:Env)(cs:List AV):parts e [] cs=some cs:=(rfl)
@[simp ↓]def ac9(e:Env)(off size:Nat)(x:AO)(l:List (Nat×Nat×AO))(cs:List AV):parts e ((off,size,x)::l) cs =
  @mZ _ _ (if (x.get e).cells.all AV.tF=true/\(x.get e).cells.length=size/\off+size<=cs.length then some (over cs off (x.get e).cells)else none) ⟨λcs=>parts e l cs⟩:=by
 simp only[parts];split<;>rfl
@[simp ↓]theorem ach(e:Env)(sz:Nat)(es:List AV):oc e sz [] es=some es:=(rfl)
@[simp ↓]def aa6(e:Env)(sz i:Nat)(x:AO)(l:List (Nat×AO))(es:List AV):oc e sz ((i,x)::l) es =
  @mZ _ _ (if (x.get e).lT/\(x.get e).cells.length=sz/\i<es.length then some (es.set i (x.get e))else none) ⟨λes=>oc e sz l es⟩:=by
 simp only[oc];split<;>rfl
@[simp ↓]theorem af8(e:Env)(sz:Nat)(es:List AV)(h:AH):nZ e sz [] es h=some (es,h):=(rfl)
@[simp ↓]theorem acg(e:Env)(sz i:Nat)(x:AO)(l:List (Nat×AO))(es:List AV)(h:AH):nZ e sz ((i,x)::l) es h =
  @mZ _ _ (oT h (x.get e)) ⟨λp=>if p.1.cells.length=sz/\i<es.length then nZ e sz l (es.set i p.1) p.2 else none⟩:=(rfl)
@[simp ↓]theorem aiQ(s:St)(i:Nat):AN s (.t i)=some (s.e i):=(rfl)
@[simp ↓]theorem abu(s:St)(i sz:Nat)(agg:Bool):AN s (.cell i sz agg)=@mZ _ _ (j7 s.h (s.e i)) ⟨λcs=>shape sz agg cs⟩:=(rfl)
@[simp ↓]theorem ac4(s:St):ud s []=some []:=(rfl)
@[simp ↓]theorem abw(s:St)(r:AR)(l:List AR):ud s (r::l)=@mZ _ _ (AN s r) ⟨λv=>@mZ _ _ (ud s l) ⟨λvs=>some (v::vs)⟩⟩:=(rfl)
def PA:List AV->AV
 | [v]=>v
 |vs=>.kT vs
@[simp]theorem agB:PA [] = .kT []:=(rfl)
@[simp]theorem agA(v:AV):PA [v]=v:=(rfl)
@[simp]theorem acD(a b:AV)(l:List AV):PA (a::b::l) = .kT (a::b::l):=(rfl)
@[simp ↓]def amO(s:St)(l:List AR):Gn s l=@mZ _ _ (ud s l) ⟨λvs=>some (PA vs)⟩:=by
 unfold Gn mZ
 congr 1
 funext vs
 match vs with
 | []=>rfl
 | [v]=>rfl
 |_::_::_=>rfl
def kS{n:Int}(h1 : -9223372036854775808<=n)(h2:n<=9223372036854775807):IntKind.i64.wrap n=n:=by
 have e:IntKind.i64.wrap n=if decide (n%18446744073709551616>=9223372036854775808)=true then n%18446744073709551616-18446744073709551616 else n%18446744073709551616:=rfl
 rw[e]
 by_cases h:0<=n
 .rw[Int.emod_eq_of_lt h aa]
  rw[if_neg aj]
 .have:n%18446744073709551616=n+18446744073709551616:=by omega
  rw[this,if_pos aj];omega
def rq{α A τ:Type}(g:A->α->A⊕τ):List α->A->A⊕τ
 | [],s=>.inl s
 |a::l,s=>match g s a with
  | .inl s'=>rq g l s'
  | .inr t=>.inr t
section
variable{α A X Y:Type}{f:X->Option (X⊕Y)}
def MD(oW:Nat->A->X)(l:List α)(g:A->α->A)(fin:A->Y)(I:Nat->A->Prop)
  (hstep:∀i (hi:i<l.length) s,I i s->I (i+1) (g s l[i])/\f (oW i s)=some (.inl (oW (i+1) (g s l[i]))))
  (hend:∀s,I l.length s->f (oW l.length s)=some (.inr (fin s))):∀n i s,l.length-i=n->i<=l.length->I i s->iter f (oW i s)=some (fin ((l.drop i).foldl g s))
 |0,i,s,hn,hi,h=>by
  have:i=l.length:=aa
  subst this;rw[iter_eq,hend s h,gX];rfl
 |n+1,i,s,hn,hi,h=>by
  have hlt:i<l.length:=aa
  let⟨h1,h2⟩:=hstep i hlt s h;rw[iter_eq,h2,cU hlt];exact MD oW l g fin I hstep hend n (i+1) _ aa hlt h1
def jU(oW:Nat->A->X)(l:List α)(g:A->α->A)(fin:A->Y)(I:Nat->A->Prop)
  (hstep:∀i (hi:i<l.length) s,I i s->I (i+1) (g s l[i])/\f (oW i s)=some (.inl (oW (i+1) (g s l[i]))))
  (hend:∀s,I l.length s->f (oW l.length s)=some (.inr (fin s))) (s:A) (h0:I 0 s):iter f (oW 0 s)=some (fin (l.foldl g s)) :=
 MD oW l g fin I hstep hend _ 0 s rfl (cH _) h0
def HD(oW:Nat->A->X)(l:List α)(g:A->α->A⊕Y)(fin:A->Y)(I:Nat->A->Prop)
  (hstep:∀i (hi:i<l.length) s,I i s->match g s l[i]with
   | .inl s'=>I (i+1) s'/\f (oW i s)=some (.inl (oW (i+1) s'))
   | .inr y=>f (oW i s)=some (.inr y))
  (hend:∀s,I l.length s->f (oW l.length s)=some (.inr (fin s))):∀n i s,l.length-i=n->i<=l.length->I i s->iter f (oW i s)=some (match rq g (l.drop i) s with | .inl s'=>fin s' | .inr y=>y)
 |0,i,s,hn,hi,h=>by
  have:i=l.length:=aa
  subst this;rw[iter_eq,hend s h,gX];rfl
 |n+1,i,s,hn,hi,h=>by
  have hlt:i<l.length:=aa
  have h1:=hstep i hlt s h;rw[cU hlt];simp only[rq];split at h1
  .rename_i s' hs;let⟨h1,h2⟩:=h1;rw[iter_eq,h2];exact HD oW l g fin I hstep hend n (i+1) _ aa hlt h1
  .rename_i y hs;rw[iter_eq,h1]
def HC(oW:Nat->A->X)(l:List α)(g:A->α->A⊕Y)(fin:A->Y)(I:Nat->A->Prop)
  (hstep:∀i (hi:i<l.length) s,I i s->match g s l[i]with
   | .inl s'=>I (i+1) s'/\f (oW i s)=some (.inl (oW (i+1) s'))
   | .inr y=>f (oW i s)=some (.inr y))
  (hend:∀s,I l.length s->f (oW l.length s)=some (.inr (fin s))) (s:A) (h0:I 0 s):iter f (oW 0 s)=some (match rq g l s with | .inl s'=>fin s' | .inr y=>y) :=
 HD oW l g fin I hstep hend _ 0 s rfl (cH _) h0
def ME{β:Type}(oW:Nat->X)(a:List α)(b:List β)(hl:a.length=b.length)(p:α->β->Bool)(yes no:Y)
  (hstep:∀i (h:i<a.length) (h':i<b.length),f (oW i)=if p a[i] b[i]=true then some (.inl (oW (i+1)))else some (.inr no))
  (hend:f (oW a.length)=some (.inr yes)):∀n i,a.length-i=n->i<=a.length->iter f (oW i)=some (if ((a.drop i).zip (b.drop i)).all (λx=>p x.1 x.2)=true then yes else no)
 |0,i,hn,hi=>by
  have:i=a.length:=aa
  subst this;rw[iter_eq,hend,gX];rfl
 |n+1,i,hn,hi=>by
  have h1:i<a.length:=aa
  have h2:i<b.length:=aa
  rw[iter_eq,hstep i h1 h2,cU h1,cU h2,iC,bH];cases hp:p a[i] b[i]with
  |true =>
   simp only[if_true,eP];exact ME oW a b hl p yes no hstep hend n (i+1) aa h1
  |false=>simp only[aU,if_false,eR]
def QE{β:Type}(oW:Nat->X)(a:List α)(b:List β)(hl:a.length=b.length)(p:α->β->Bool)(yes no:Y)
  (hstep:∀i (h:i<a.length) (h':i<b.length),f (oW i)=if p a[i] b[i]=true then some (.inl (oW (i+1)))else some (.inr no))
  (hend:f (oW a.length)=some (.inr yes)):iter f (oW 0)=some (if (a.zip b).all (λx=>p x.1 x.2)=true then yes else no) :=
 ME oW a b hl p yes no hstep hend _ 0 rfl (cH _)
def MF(oW:Nat->X)(a:List α)(p:α->Bool)(yes no:Y)
  (hstep:∀i (h:i<a.length),f (oW i)=if p a[i]=true then some (.inl (oW (i+1)))else some (.inr no))
  (hend:f (oW a.length)=some (.inr yes)):∀n i,a.length-i=n->i<=a.length->iter f (oW i)=some (if (a.drop i).all p=true then yes else no)
 |0,i,hn,hi=>by
  have:i=a.length:=aa
  subst this;rw[iter_eq,hend,gX];rfl
 |n+1,i,hn,hi=>by
  have h1:i<a.length:=aa
  rw[iter_eq,hstep i h1,cU h1,bH];cases hp:p a[i]with
  |true =>
   simp only[if_true,eP];exact MF oW a p yes no hstep hend n (i+1) aa h1
  |false=>simp only[aU,if_false,eR]
def qm(oW:Nat->X)(a:List α)(p:α->Bool)(yes no:Y)
  (hstep:∀i (h:i<a.length),f (oW i)=if p a[i]=true then some (.inl (oW (i+1)))else some (.inr no))
  (hend:f (oW a.length)=some (.inr yes)):iter f (oW 0)=some (if a.all p=true then yes else no) :=
 MF oW a p yes no hstep hend _ 0 rfl (cH _)
end
@[simp]theorem ajn(b:Bool):(AV.bool b).tF=true:=(rfl)
@[simp]theorem amV(k:IntKind)(n:Int):(AV.int k n).tF=true:=(rfl)
@[simp]theorem amQ(s:au):(AV.str s).tF=true:=(rfl)
@[simp]theorem amU(f:Bool)(es:List AV):(AV.jB f es).tF=true:=(rfl)
@[simp]theorem amS(b v o n:Nat):(AV.own b v o n).tF=true:=(rfl)
@[simp]theorem amT(b:Nat):(AV.nQ b).tF=true:=(rfl)
@[simp]theorem amR(b v i o:Nat):(AV.ptr b v i o).tF=true:=(rfl)
@[simp]theorem aoP(f:Fn)(a c:List AV):(AV.fn f a c).tF=true:=(rfl)
@[simp]theorem ajj:AV.oI.tF=true:=(rfl)
@[simp]theorem ajk:AV.pg.tF=true:=(rfl)
@[simp]theorem ajm:AV.nh.tF=true:=(rfl)
@[simp]theorem ajl:AV.pn.tF=true:=(rfl)
@[simp]def ade{α:Type}(a x:α)(l xs:List α):over (a::l) 0 (x::xs)=x::over l 0 xs:=by simp[over]
@[simp]def adb{α:Type}(a:α)(l xs:List α)(o:Nat):over (a::l) (o+1) xs=a::over l o xs:=by
 have:o+1+xs.length=(o+xs.length)+1:=aa
 simp[over,this]
@[simp]def ag0{α:Type}(l:List α):over l 0 []=l:=by simp[over]
@[simp]def amW(m:Bool)(k k':IntKind)(x y:Int):mm2 m (.int k x) (.int k' y)=some (.int k (if m then max x y else min x y)):=by
 simp only[mm2,bp,AV.int.injEq,true_and];cases m
 .simp only[aU,if_false];split<;>omega
 .simp only[if_true];split<;>omega
@[simp]theorem ahe(L:Nat)(R:ax)(h:AH)(i v sz:Nat)(es:List AV):kL L R h i (.row v sz es) = .row (if R.contains i then 0 else v) sz es:=(rfl)
@[simp]theorem ahg(L:Nat)(R:ax)(h:AH)(i v sz:Nat)(es:List AV):kL L R h i (.qa v sz es) = .qa (if R.contains i then 0 else v) sz es:=(rfl)
@[simp]theorem adH(L:Nat)(R:ax)(h:AH)(i:Nat):kL L R h i .gone = .gone:=(rfl)
@[simp]theorem ahd(L:Nat)(R:ax)(h:AH)(i:Nat)(cs:List AV):kL L R h i (.var cs) = .var (cs.map (j9 L R h)):=(rfl)
@[simp]def abJ(a b:Nat):(if a<b then(a:Int)else(b:Int))=((min a b:Nat):Int):=by split<;>omega
@[simp]def ZU(a b:Nat):(if a<b then(b:Int)else(a:Int))=((max a b:Nat):Int):=by split<;>omega
@[simp]theorem adB(L:Nat)(R:ax)(h:AH)(b:Bool):nP L R h (.bool b) = .bool b:=(rfl)
@[simp]theorem adG(L:Nat)(R:ax)(h:AH)(b:Bool):j9 L R h (.bool b) = .bool b:=(rfl)
@[simp]theorem agY(h:AH)(b:Bool):oT h (.bool b)=some (.bool b,h):=(rfl)
@[simp]theorem agK(h:AH)(b:Bool):qe h (.bool b)=some (.bool b,h):=(rfl)
@[simp]theorem agR(h:AH)(b:Bool):sD h (.bool b)=some (.bool b,h):=(rfl)
@[simp]theorem ag6(L:Nat)(R:ax)(h:AH)(k:IntKind)(n:Int):nP L R h (.int k n) = .int k n:=(rfl)
@[simp]theorem ahc(L:Nat)(R:ax)(h:AH)(k:IntKind)(n:Int):j9 L R h (.int k n) = .int k n:=(rfl)
@[simp]theorem ai5(h:AH)(k:IntKind)(n:Int):oT h (.int k n)=some (.int k n,h):=(rfl)
@[simp]theorem aiV(h:AH)(k:IntKind)(n:Int):qe h (.int k n)=some (.int k n,h):=(rfl)
@[simp]theorem aiZ(h:AH)(k:IntKind)(n:Int):sD h (.int k n)=some (.int k n,h):=(rfl)
@[simp]theorem ag1(L:Nat)(R:ax)(h:AH)(x:au):nP L R h (.str x) = .str x:=(rfl)
@[simp]theorem ag8(L:Nat)(R:ax)(h:AH)(x:au):j9 L R h (.str x) = .str x:=(rfl)
@[simp]theorem ai2(h:AH)(x:au):oT h (.str x)=some (.str x,h):=(rfl)
@[simp]theorem aiS(h:AH)(x:au):qe h (.str x)=some (.str x,h):=(rfl)
@[simp]theorem aiX(h:AH)(x:au):sD h (.str x)=some (.str x,h):=(rfl)
@[simp]theorem ag5(L:Nat)(R:ax)(h:AH)(f:Bool)(es:List AV):nP L R h (.jB f es) = .jB f es:=(rfl)
@[simp]theorem ahb(L:Nat)(R:ax)(h:AH)(f:Bool)(es:List AV):j9 L R h (.jB f es) = .jB f es:=(rfl)
@[simp]theorem ai4(h:AH)(f:Bool)(es:List AV):oT h (.jB f es)=some (.jB f es,h):=(rfl)
@[simp]theorem aiU(h:AH)(f:Bool)(es:List AV):qe h (.jB f es)=some (.jB f es,h):=(rfl)
@[simp]theorem aiY(h:AH)(f:Bool)(es:List AV):sD h (.jB f es)=some (.jB f es,h):=(rfl)
@[simp]theorem adx(L:Nat)(R:ax)(h:AH):nP L R h (.oI) = .oI:=(rfl)
@[simp]theorem ady(L:Nat)(R:ax)(h:AH):nP L R h (.pg) = .pg:=(rfl)
@[simp]theorem adC(L:Nat)(R:ax)(h:AH):j9 L R h (.oI) = .oI:=(rfl)
@[simp]theorem adD(L:Nat)(R:ax)(h:AH):j9 L R h (.pg) = .pg:=(rfl)
@[simp]theorem agU(h:AH):oT h (.oI)=some (.oI,h):=(rfl)
@[simp]theorem agV(h:AH):oT h (.pg)=some (.pg,h):=(rfl)
@[simp]theorem agG(h:AH):qe h (.oI)=some (.oI,h):=(rfl)
@[simp]theorem agH(h:AH):qe h (.pg)=some (.pg,h):=(rfl)
@[simp]theorem agN(h:AH):sD h (.oI)=some (.oI,h):=(rfl)
@[simp]theorem agO(h:AH):sD h (.pg)=some (.pg,h):=(rfl)
@[simp]theorem ajX:(AV.oI).kZ=true:=(rfl)
@[simp]theorem ajY:(AV.pg).kZ=true:=(rfl)
@[simp]theorem aj8:(AV.oI).lT=true:=(rfl)
@[simp]theorem aj9:(AV.pg).lT=true:=(rfl)
@[simp]theorem afy:(AV.oI).cells=[.oI]:=(rfl)
@[simp]theorem afz:(AV.pg).cells=[.pg]:=(rfl)
@[simp]theorem aj2:(AV.oI).jO=true:=(rfl)
@[simp]theorem aj3:(AV.pg).jO=true:=(rfl)
@[simp]theorem afg(R:ax):nM R .oI = .oI:=(rfl)
@[simp]theorem afh(R:ax):nM R .pg = .pg:=(rfl)
@[simp]theorem adA(L:Nat)(R:ax)(h:AH):nP L R h (.nh) = .nh:=(rfl)
@[simp]theorem adF(L:Nat)(R:ax)(h:AH):j9 L R h (.nh) = .nh:=(rfl)
@[simp]theorem agX(h:AH):oT h (.nh)=some (.nh,h):=(rfl)
@[simp]theorem agJ(h:AH):qe h (.nh)=some (.nh,h):=(rfl)
@[simp]theorem agQ(h:AH):sD h (.nh)=some (.nh,h):=(rfl)
@[simp]theorem aj0:(AV.nh).kZ=true:=(rfl)
@[simp]theorem akb:(AV.nh).lT=true:=(rfl)
@[simp]theorem afB:(AV.nh).cells=[.nh]:=(rfl)
@[simp]theorem aj5:(AV.nh).jO=true:=(rfl)
@[simp]theorem afj(R:ax):nM R .nh = .nh:=(rfl)
@[simp]theorem adz(L:Nat)(R:ax)(h:AH):nP L R h (.pn) = .pn:=(rfl)
@[simp]theorem adE(L:Nat)(R:ax)(h:AH):j9 L R h (.pn) = .pn:=(rfl)
@[simp]theorem agW(h:AH):oT h (.pn)=some (.pn,h):=(rfl)
@[simp]theorem agI(h:AH):qe h (.pn)=some (.pn,h):=(rfl)
@[simp]theorem agP(h:AH):sD h (.pn)=some (.pn,h):=(rfl)
@[simp]theorem ajZ:(AV.pn).kZ=true:=(rfl)
@[simp]theorem aka:(AV.pn).lT=true:=(rfl)
@[simp]theorem afA:(AV.pn).cells=[.pn]:=(rfl)
@[simp]theorem aj4:(AV.pn).jO=true:=(rfl)
@[simp]theorem afi(R:ax):nM R .pn = .pn:=(rfl)
@[simp]def ag7(L:Nat)(R:ax)(h:AH)(cs:List AV):nP L R h (.agg cs)=if cs.all AV.kZ then .agg cs else .agg (cs.map (j9 L R h)):=by unfold nP;simp only[I4]
@[simp]theorem ag4(L:Nat)(R:ax)(h:AH)(b:Nat):nP L R h (.nQ b)=if b<L/\¬R.contains b then .nQ b else .dead:=(rfl)
@[simp]theorem aha(L:Nat)(R:ax)(h:AH)(b:Nat):j9 L R h (.nQ b)=if b<L/\¬R.contains b then .nQ b else .dead:=(rfl)
@[simp]theorem ahf(L:Nat)(R:ax)(h:AH)(i:Nat)(es:List (au×AV)):kL L R h i (.mps es) = .mps (es.map λp=>(p.1,j9 L R h p.2)):=(rfl)
@[simp]theorem ajx(L:Nat)(R:ax)(h:AH)(i:Nat)(es:List (Int×AV)):kL L R h i (.mp es) = .mp (es.map λp=>(p.1,j9 L R h p.2)):=(rfl)
@[simp]theorem ag2(L:Nat)(R:ax)(h:AH)(b v i o:Nat):nP L R h (.ptr b v i o)=if b<L/\¬R.contains b then .ptr b v i o else .dead:=(rfl)
@[simp]theorem ag9(L:Nat)(R:ax)(h:AH)(b v i o:Nat):j9 L R h (.ptr b v i o)=if b<L/\¬R.contains b then .ptr b v i o else .dead:=(rfl)
@[simp]theorem aju(L:Nat)(R:ax)(h:AH)(f:Fn)(a c:List AV):nP L R h (.fn f a c)=if (a++c).all (λx=>x.lT||match x with | .ptr b _ _ _=>decide (b<L) && !R.contains b | .nQ b=>decide (b<L) && !R.contains b | _=>false)then .fn f a c else .dead:=(rfl)
@[simp]def ai6(h:AH)(cs:List AV):oT h (.agg cs)=if cs.all AV.kZ then some (.agg cs,h)else @mZ _ _ (wR h cs) ⟨λp=>some (.agg p.1,p.2)⟩:=by unfold oT;simp only[I4];rfl
@[simp]theorem ai3(h:AH)(b v o n:Nat):oT h (.own b v o n)=qe h (.own b v o n):=(rfl)
@[simp]theorem agM(h:AH)(b v o n:Nat):sD h (.own b v o n)=qe h (.own b v o n):=(rfl)
@[simp]def ai0(h:AH)(cs:List AV):sD h (.agg cs)=oT h (.agg cs):=by
 unfold sD;simp only[ZW];split
 .rename_i h1;unfold oT;simp only[I4,h1,if_true]
 .rfl
@[simp]def aiW(h:AH)(vs:List AV):sD h (.kT vs)=if vs.all AV.lT then some (.kT vs,h)else @mZ _ _ (kY h vs) ⟨λp=>some (.kT p.1,p.2)⟩:=by unfold sD;simp only[ZV];rfl
@[simp]theorem ai1(h:AH):wR h []=some ([],h):=(rfl)
@[simp]theorem agS(h:AH)(a:AV)(l:List AV):wR h (a::l)=@mZ _ _ (qe h a) ⟨λp=>@mZ _ _ (wR p.2 l) ⟨λq=>some (p.1::q.1,q.2)⟩⟩:=(rfl)
@[simp]theorem agT(h:AH):kY h []=some ([],h):=(rfl)
@[simp]theorem ac7(h:AH)(a:AV)(l:List AV):kY h (a::l)=@mZ _ _ (oT h a) ⟨λp=>@mZ _ _ (kY p.2 l) ⟨λq=>some (p.1::q.1,q.2)⟩⟩:=(rfl)
@[simp]theorem afl(R:ax)(cs:List AV):nM R (.agg cs)=if cs.all (λx=>x.lT||match x with | .ptr b _ _ _=>!R.contains b | .own b _ _ _=>!R.contains b | .nQ b=>!R.contains b | _=>false)then .agg cs else .dead:=(rfl)
@[simp]theorem alO(R:ax)(f:Fn)(a c:List AV):nM R (.fn f a c)=if (a++c).all (λx=>x.lT||match x with | .ptr b _ _ _=>!R.contains b | .own b _ _ _=>!R.contains b | .nQ b=>!R.contains b | _=>false)then .fn f a c else .dead:=(rfl)
@[simp]theorem aff(R:ax)(cs:List AV):nM R (.kE cs) = .kE cs:=(rfl)
@[simp]def ahN(R:ax)(b:Nat):nM R (.nQ b)=if !R.contains b then .nQ b else .dead:=by unfold nM;simp
@[simp]def ahL(R:ax)(b v i o:Nat):nM R (.ptr b v i o)=if !R.contains b then .ptr b v i o else .dead:=by unfold nM;simp
@[simp]def ahM(R:ax)(b v i o:Nat):nM R (.own b v i o)=if !R.contains b then .own b v i o else .dead:=by unfold nM;simp
@[simp]def anw(k:IntKind)(x y:Int):bin .add (.int k x) (.int k y)=some (.int k (k.wrap (x+y))):=by simp only[bin,qi,if_true]
@[simp]def anl(k:IntKind)(x y:Int):bin .sub (.int k x) (.int k y)=some (.int k (k.wrap (x-y))):=by simp only[bin,qi,if_true]
@[simp]def anq(k:IntKind)(x y:Int):bin .mul (.int k x) (.int k y)=some (.int k (k.wrap (x*y))):=by simp only[bin,qi,if_true]
@[simp]def ano(k:IntKind)(x y:Int):bin .quo (.int k x) (.int k y)=if y=0 then none else some (.int k (k.wrap (x.tdiv y))):=by simp only[bin,qi,if_true]
@[simp]def ann(k:IntKind)(x y:Int):bin .rem (.int k x) (.int k y)=if y=0 then none else some (.int k (x.tmod y)):=by simp only[bin,qi,if_true]
@[simp]def anv(k:IntKind)(x y:Int):bin .eql (.int k x) (.int k y)=some (.bool (decide (x=y))):=by simp only[bin,qi,if_true]
@[simp]def anp(k:IntKind)(x y:Int):bin .neq (.int k x) (.int k y)=some (.bool (!decide (x=y))):=by simp only[bin,qi,if_true]
@[simp]def anr(k:IntKind)(x y:Int):bin .lss (.int k x) (.int k y)=some (.bool (decide (x<y))):=by simp only[bin,qi,if_true]
@[simp]def ans(k:IntKind)(x y:Int):bin .leq (.int k x) (.int k y)=some (.bool (decide (x<=y))):=by simp only[bin,qi,if_true]
@[simp]def ant(k:IntKind)(x y:Int):bin .gtr (.int k x) (.int k y)=some (.bool (decide (y<x))):=by simp only[bin,qi,if_true]
@[simp]def anu(k:IntKind)(x y:Int):bin .geq (.int k x) (.int k y)=some (.bool (decide (y<=x))):=by simp only[bin,qi,if_true]
@[simp]def anm(op:BinOp)(x y:au):bin op (.str x) (.str y)=lB x y op:=by cases op<;>rfl
@[simp]theorem anE(b:Bool):un .not (.bool b)=some (.bool (!b)):=(rfl)
@[simp]theorem anF(k:IntKind)(n:Int):un .neg (.int k n)=some (.int k (k.wrap (0-n))):=(rfl)
@[simp]theorem ahh(m:Bool)(x:AV):yx m x []=some x:=(rfl)
@[simp]theorem adJ(m:Bool)(x y:AV)(l:List AV):yx m x (y::l)=@mZ _ _ (mm2 m x y) ⟨λz=>yx m z l⟩:=(rfl)
@[simp]theorem arX{α:Type}(a:α)(l:List α):(a::l)[0]? = some a:=(rfl)
def jT{α β:Type}{F:α->β}{l:List α}{n:Nat}(h:l.length<=n):(l.map F).take n=l.map F:=br (an h)
variable{b:Int}
def lX{a:Int}(h:a<=b):min a b=a:=aa
def lW{a:Int}(h:b<=a):min a b=b:=aa
def lZ{a:Int}(h:b<=a):max a b=a:=aa
def lY{a:Int}(h:a<=b):max a b=b:=aa
@[simp]theorem Yv(a cs:List AV):(AV.agg a).mQ cs = .agg cs:=(rfl)
@[simp]theorem Yu(k:IntKind)(n:Int)(cs:List AV):(AV.int k n).mQ cs=cs.headD .dead:=(rfl)
@[simp]theorem T8(b:Bool)(cs:List AV):(AV.bool b).mQ cs=cs.headD .dead:=(rfl)
@[simp]theorem Ys(b:au)(cs:List AV):(AV.str b).mQ cs=cs.headD .dead:=(rfl)
@[simp]theorem Yt(f:Bool)(es cs:List AV):(AV.jB f es).mQ cs=cs.headD .dead:=(rfl)
@[simp]def arW{α:Type}(h:List α)(x:α)(l:List α):(h++x::l)[h.length]? = some x:=ah
@[simp]def aoU{α:Type}(h:List α)(l:List α)(k:Nat):(h++l)[h.length+k]? = l[k]? := by rw[aV aa];congr 1;omega
@[simp]def arV{α:Type}(h:List α)(x y:α)(l:List α):(h++x::l).set h.length y=h++y::l:=ah
@[simp]def aoT{α:Type}(h:List α)(l:List α)(k:Nat)(y:α):(h++l).set (h.length+k) y=h++l.set k y:=by rw[eD _ _ aa];congr 2;omega
def kg{α β:Type}{F:α->β}{l:List α}{x:β}{n:Nat}(h:l.length+1<=n):(l.map F++[x]).take n=l.map F++[x]:=br (an h)
def nG{a:Int}(h:a<b):(a<b)=True:=eq_true h
def nH{a:Int}(h:¬a<b):(a<b)=False:=eq_false h
def nI{a:Int}(h:a<=b):(a<=b)=True:=eq_true h
def nJ{a:Int}(h:¬a<=b):(a<=b)=False:=eq_false h
def nK{a:Int}(h:a=b):(a=b)=True:=eq_true h
def nL{a:Int}(h:¬a=b):(a=b)=False:=eq_false h
def nC{a b:Nat}(h:a<b):(a<b)=True:=eq_true h
def nD{a b:Nat}(h:¬a<b):(a<b)=False:=eq_false h
def nE{a b:Nat}(h:a<=b):(a<=b)=True:=eq_true h
def nF{a b:Nat}(h:¬a<=b):(a<=b)=False:=eq_false h
@[simp]def Uh(a b:Nat):((a:Int)+(b:Int)).toNat=a+b:=aa
def lE:AB->Bool
 | .var cs=>cs.all AV.kZ
 | .mp es=>es.all λp=>p.2.kZ
 | .mps es=>es.all λp=>p.2.kZ
 |_=>true
def kH(L:Nat)(h0:AH):∀(h:AH)(i:Nat),h.all lE=true->j5 L [] h0 i h=h
 | [],_,_=>rfl
 |b::h,i,hp=>by
  simp only[bH,aH]at hp;simp only[j5,kH L h0 h (i+1) hp.2]
  congr 1
  cases b with
  |gone=>rfl
  |row v sz es=>rfl
  |qa v sz es=>rfl
  |var cs =>
   simp only[kL,AB.var.injEq];have h1:cs.all AV.kZ=true:=hp.1;rw[aO]at h1;refine(cS λx hx=>?_).trans (fF _)
   have:=h1 x hx;cases x<;>first | rfl | (simp[AV.kZ]at this;done)
  |mp es =>
   simp only[kL,AB.mp.injEq];have h1:(es.all λp=>p.2.kZ)=true:=hp.1
   rw[aO]at h1;refine(cS λx hx=>?_).trans (fF _)
   have:=h1 x hx;let⟨k,y⟩:=x;cases y<;>first | rfl | (simp[AV.kZ]at this;done)
  |mps es =>
   simp only[kL,AB.mps.injEq];have h1:(es.all λp=>p.2.kZ)=true:=hp.1
   rw[aO]at h1;refine(cS λx hx=>?_).trans (fF _)
   have:=h1 x hx;let⟨k,y⟩:=x;cases y<;>first | rfl | (simp[AV.kZ]at this;done)
def xb{α:Type}(F:α->AV)(p:α->Prop):∀es:List AV,(∀x∈es,∃d,x=F d/\p d)->∃l:List α,es=l.map F/\∀d∈l,p d
 | [],_=>⟨[],rfl,ah⟩
 |x::es,h=>by
  let⟨d,hd,hp⟩:=h x ah
  let⟨l,hl,wz⟩:=xb F p es λy hy=>h y (by simp[hy])
  exact⟨d::l,by rw[hd,hl];rfl,λe he=>by
   rcases aP.1 he with rfl | he
   .exact hp
   .exact wz e he⟩
section
variable{α A X Y:Type}{f:X->Option (X⊕Y)}
def MC(oW:Nat->X)(p:α->Bool)(hit:Nat->α->Y)(no:Y):∀(l:List α)(k:Nat)
  (_:∀i (h:i<l.length),f (oW (k+i))=if p l[i]=true then some (.inr (hit (k+i) l[i]))else some (.inl (oW (k+i+1))))
  (_:f (oW (k+l.length))=some (.inr no)),iter f (oW k)=some ((l.find? p).elim no (hit (k+l.findIdx p)))
 | [],k,_,hend=>by
  rw[iter_eq];simp only[bq,ct]at hend;rw[hend];rfl
 |x::l,k,hstep,hend=>by
  have h0:=hstep 0 ah
  simp only[ct,List.getElem_cons_zero]at h0;rw[iter_eq,h0];cases hp:p x with
  |true =>
   simp[e9,hp]
  |false =>
   simp only[aU,if_false]
   rw[MC oW p hit no l (k+1) (λi hi=>by
    have:=hstep (i+1) (an hi)
    simp only[iT]at this;rw[show k+1+i=k+(i+1) by omega]
    exact this) (by rw[show k+1+l.length=k+(x::l).length by simp;omega];exact hend)]
   rw[iU (by simp[hp])]
   simp only[e9,hp,cond_false];rw[show k+1+l.findIdx p=k+(l.findIdx p+1) by omega]
def qS(oW:Nat->X)(l:List α)(p:α->Bool)(hit:Nat->α->Y)(no:Y)
  (hstep:∀i (h:i<l.length),f (oW i)=if p l[i]=true then some (.inr (hit i l[i]))else some (.inl (oW (i+1))))
  (hend:f (oW l.length)=some (.inr no)):iter f (oW 0)=some ((l.find? p).elim no (hit (l.findIdx p))):=by
 have:=MC oW p hit no l 0 (λi hi=>by rw[bE];exact hstep i hi) (by rw[bE];exact hend)
 simpa using this
def EM(oW:Nat->Nat->X)(n c:Nat)(hc:c<=n)(fin:Nat->Y)
  (hstep:∀i j,i<j->j<=n->f (oW i j)=some (.inl (if (i+j) / 2<c then oW ((i+j) / 2+1) j else oW i ((i+j) / 2))))
  (hend:∀i,i<=n->f (oW i i)=some (.inr (fin i))):∀k i j,j-i=k->i<=c->c<=j->j<=n->iter f (oW i j)=some (fin c):=by
 intro k
 induction k using Nat.strongRecOn with
 |_ k ih =>
  intro i j hk hi hj hn
  by_cases h:i<j
  .rw[iter_eq,hstep i j h hn]
   by_cases hm:(i+j) / 2<c
   .rw[if_pos hm];exact ih (j-((i+j) / 2+1)) aa _ _ rfl aa hj hn
   .rw[if_neg hm];exact ih ((i+j) / 2-i) aa _ _ rfl hi aa aa
  .have:i=j:=by omega
   subst this;have:i=c:=aa
   subst this;rw[iter_eq,hend i hc]
def xm(l:List α)(g:A->α->A)(I:Nat->A->Prop):∀(k:Nat)(s:A),(∀i (hi:i<l.length) s,I (k+i) s->I (k+i+1) (g s l[i]))->I k s->I (k+l.length) (l.foldl g s):=by
 induction l with
 |nil=>intro k s _ h;exact h
 |cons x l ih =>
  intro k s hs h;rw[aT,aQ,show k+(l.length+1)=k+1+l.length by omega]
  refine ih (k+1) _ (λi hi s h=>?_) (hs 0 ah s h)
  have:=hs (i+1) (an hi) s (by rw[show k+(i+1)=k+1+i by omega];exact h)
  rw[show k+1+i+1=k+(i+1)+1 by omega]
  simpa using this
end
@[simp]def lQ{α:Type}(p:α->Bool):∀l:List α,l[l.findIdx p]? = l.find? p
 | []=>rfl
 |x::l=>by
  cases hp:p x with
  |true=>simp[e9,hp]
  |false=>simp[e9,hp,lQ p l]
@[simp]def acK(a b c d e f g:AV):shape 7 true [a,b,c,d,e,f,g]=some (.agg [a,b,c,d,e,f,g]):=by simp[shape]
@[simp]def acJ(a b c d e f g h:AV):shape 8 true [a,b,c,d,e,f,g,h]=some (.agg [a,b,c,d,e,f,g,h]):=by simp[shape]
@[simp]def acI(a b c d e f g h i:AV):shape 9 true [a,b,c,d,e,f,g,h,i]=some (.agg [a,b,c,d,e,f,g,h,i]):=by simp[shape]
@[simp]def abr(a b c d e f g h i j:AV):shape 10 true [a,b,c,d,e,f,g,h,i,j]=some (.agg [a,b,c,d,e,f,g,h,i,j]):=by simp[shape]
@[simp]def acQ(a:AV):shape 1 true [a]=some (.agg [a]):=by simp[shape]
theorem uy(sz:Nat)(cs:List AV):shape sz true cs=if cs.length<sz then none else some (.agg (cs.take sz)):=rfl
def wrap_u64{n:Int}(h1:0<=n)(h2:n<=9223372036854775807):IntKind.u64.wrap n=n:=by
 have:IntKind.u64.wrap n=n%18446744073709551616:=by
  unfold IntKind.wrap;simp[IntKind.bits,IntKind.signed]
 rw[this];omega
end Go.Am
namespace Go.Am.Kp
open Go.Am
def sx{a b:UInt8}{x y:au}:jP (a::x) (b::y)=true↔a.toNat<b.toNat\/a.toNat=b.toNat/\jP x y=true:=by
 simp only[jP,bS,decide_eq_true_eq,aH,beq_iff_eq,eX,<-gF]
def kU:∀x:au,jP x x=false
 | []=>rfl
 |a::x=>by
  cases h:jP (a::x) (a::x)with
  |false=>rfl
  |true =>
   rcases sx.1 h with h | ⟨_,h⟩
   .omega
   .rw[kU x]at h;cases h
def wK:∀ {x y z:au},jP x y=true->jP y z=true->jP x z=true
 |_,_,[],_,h=>by simp[jP]at h
 |_,[],_::_,h,_=>by simp[jP]at h
 | [],_::_,_::_,_,_=>rfl
 |a::x,b::y,c::z,h1,h2=>by
  rw[sx]at h1 h2⊢
  rcases h1 with h1 | ⟨h1,h1'⟩<;>rcases h2 with h2 | ⟨h2,WO⟩
  .left;omega
  .left;omega
  .left;omega
  .right;exact⟨aa,wK h1' WO⟩
def GW:∀ {x y:au},jP x y=false->jP y x=false->x=y
 | [],[],_,_=>rfl
 | [],_::_,h,_=>by simp[jP]at h
 |_::_,[],_,h=>by simp[jP]at h
 |a::x,b::y,h1,h2=>by
  have g1:=mt (sx (a:=a) (b:=b) (x:=x) (y:=y)).2 (by simp[h1])
  have g2:=mt (sx (a:=b) (b:=a) (x:=y) (y:=x)).2 (by simp[h2])
  have e:a.toNat=b.toNat:=aa
  have e':a=b:=gF.1 e;subst e';simp only[iM,true_and,false_or,Bool.not_eq_true]at g1 g2;rw[GW g1 g2]
structure K where
 ino:Int
 name:au
 ajb:Int
 is:Int
 fl:Bool
 dat:ay
 til:Int
def lt(a b:K):Bool:=if a.ino=b.ino then(if a.name=b.name then decide (a.ajb<b.ajb)else jP a.name b.name)else decide (a.ino<b.ino)
def lt_irrefl(a:K):lt a a=false:=by simp[lt]
def qQ(l:List K):Prop:=l.Pairwise λa b=>lt a b=true
def cnt:List K->K->Nat
 | [],_=>0
 |x::l,k=>if lt x k=true then cnt l k+1 else 0
def qA(l:List K)(k:K):Bool:=match l[cnt l k]? with
 |some x=>!lt k x
 |none=>false
def xE:∀(l:List K)(k:K),cnt l k<=l.length
 | [],_=>aN _
 |x::l,k=>by simp only[cnt];split<;>simp[xE l k]
end Go.Am.Kp
namespace Go.Am
section
variable{X Y:AH}{A:AB}{k i:Nat}
def EF(h:k<X.length):(X.set k A++Y)[k]? = some A:=by
 rw[aK (an h),aZ h]
def Bz(h:i<X.length)(hne:k≠i):(X.set k A++Y)[i]? = X[i]? := by
 rw[aK (an h),aJ hne]
def vB(h:X.length<=i):(X.set k A++Y)[i]? = Y[i-X.length]? := by
 rw[aV (an h),bL]
def AA(h:X.length<=i)(B:AB):(X.set k A++Y).set i B=X.set k A++Y.set (i-X.length) B:=by
 rw[eD _ _ (an h),bL]
def pz(h:i<X.length):(X++Y)[i]? = X[i]? := aK h
def MA(h:X.length<=i):(X++Y)[i]? = Y[i-X.length]? := aV h
def Ec(L:Nat)(R:ax)(h0:AH):∀(h:AH)(i:Nat),h.all lE=true->(∀r∈R,i+h.length<=r)->j5 L R h0 i h=h
 | [],_,_,_=>rfl
 |b::h,i,hp,hR=>by
  simp only[bH,aH]at hp;simp only[j5,Ec L R h0 h (i+1) hp.2 (λr hr=>by have:=hR r hr;simp at this;omega)]
  have hi:R.contains i=false:=by
   cases hc:R.contains i with
   |false=>rfl
   |true =>
    have:=hR i (an hc)
    simp at this;omega
  congr 1
  cases b with
  |gone=>rfl
  |var cs =>
   simp only[kL,AB.var.injEq];have hp1:cs.all AV.kZ=true:=hp.1;rw[aO]at hp1
   conv=>rhs;rw[<-fF cs]
   refine cS λx hx=>?_
   have:=hp1 x hx;cases x<;>simp_all[j9,AV.kZ]
  |row v sz es=>simp only[kL,hi];rfl
  |qa v sz es=>simp only[kL,hi];rfl
  |mp es =>
   simp only[kL,AB.mp.injEq];have hp1:(es.all λp=>p.2.kZ)=true:=hp.1
   rw[aO]at hp1
   conv=>rhs;rw[<-fF es]
   refine cS λx hx=>?_
   have:=hp1 x hx;let⟨x1,x2⟩:=x;cases x2<;>simp_all[j9,AV.kZ]
  |mps es =>
   simp only[kL,AB.mps.injEq];have hp1:(es.all λp=>p.2.kZ)=true:=hp.1
   rw[aO]at hp1
   conv=>rhs;rw[<-fF es]
   refine cS λx hx=>?_
   have:=hp1 x hx;let⟨x1,x2⟩:=x;cases x2<;>simp_all[j9,AV.kZ]
def lN(X Y:AH)(k:Nat):(X++Y).take (X.length+k)=X++Y.take k:=by
 rw[List.take_append,br aa,eN]
end
end Go.Am
