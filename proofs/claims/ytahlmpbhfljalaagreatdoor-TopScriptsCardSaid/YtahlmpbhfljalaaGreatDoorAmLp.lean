/- Part of the proof that TopScriptsCard holds. -/
import Derived.Test.YtahlmpbhfljalaaGreatDoorAmS
set_option linter.all false
namespace Go.Am
@[simp]def aaV(c a b:AV)(h:AH):Option (AV×AH):=match c with
 | .bool t=>some (if t then a else b,h)
 |_=>none
def Pr(v:AV)(h:AH):Option (AV×AH):=match v with
 | .ptr b v i o=>some (.ptr b v i o,h)
 | .iw cs=>some (.iw cs,h)
 | .fn f a c=>match f with | .func g=>some (.fn (.func g) a c,h) | _=>none
 |_=>none
@[simp]theorem aaW(b v i o:Nat)(h:AH):Pr (.ptr b v i o) h=some (.ptr b v i o,h):=(rfl)
@[simp]theorem YZ(cs:List AV)(h:AH):Pr (.iw cs) h=some (.iw cs,h):=(rfl)
@[simp]theorem afO(g:FuncId)(a c:List AV)(h:AH):Pr (.fn (.func g) a c) h=some (.fn (.func g) a c,h):=(rfl)
def aaU(neg:Bool)(i:au)(u v:AV)(h:AH):Option (AV×AH):=match u,v with
 | .agg a,.agg b=>(iO i a b).bind λr=>if a.length=i.length/\b.length=i.length then some (.bool (if neg then !r else r),h)else none
 |_,_=>none
@[simp]theorem aaT(neg:Bool)(i:au)(a b:List AV)(h:AH):aaU neg i (.agg a) (.agg b) h=@j3 _ _ (iO i a b) ⟨λr=>if a.length=i.length/\b.length=i.length then some (.bool (if neg then !r else r),h)else none⟩:=(rfl)
@[simp]def aa3(k:IntKind)(v:AV)(h:AH):Option (AV×AH):=match v with
 | .int _ n=>some (.int k (k.wrap n),h)
 |_=>none
@[simp]def agN(v:AV)(h:AH):Option (AV×AH):=match v with
 | .str s=>some (.en false (s.map λc=>.int .u8 (c.toNat:Int)),h)
 |_=>none
@[simp]def rX(d:Nat):Option AV->Option Nat
 |none=>some d
 |some v=>nat? v
def Bz(d:Nat)(e:Env)(x:Option AO):jB d e x=rX d (x.map λy=>y.get e):=by cases x<;>rfl
def TO(sz bytes:Nat)(zero u v:AV)(h:AH):Option (AV×AH):=match nat? u,nat? v with
 |some n,some m=>if n<=m/\m*bytes<=140737488355328/\m<=140737488355328 then some (.own h.length 0 0 n,h++[.row 0 sz (List.replicate n zero)])else none
 |_,_=>none
@[simp]def aaX(sz bytes:Nat)(zero:AV)(k b:IntKind)(n m:Int)(h:AH):TO sz bytes zero (.int k n) (.int b m) h=if 0<=n/\0<=m/\n.toNat<=m.toNat/\m.toNat*bytes<=140737488355328/\m.toNat<=140737488355328 then some (.own h.length 0 0 n.toNat,h++[.row 0 sz (List.replicate n.toNat zero)])else none:=by
 unfold TO nat?
 by_cases h1:0<=n<;>by_cases h2:0<=m<;>simp[h1,h2]
def TN(x:AV)(i l:Option AV)(h:AH):Option (AV×AH):=match x with
 | .str s=>(rX s.length l).bind λb=>(rX 0 i).bind λa=>if a<=b/\b<=s.length then some (.str ((s.take b).drop a),h)else none
 |_=>none
@[simp]theorem aaQ(s:aq)(i l:Option AV)(h:AH):TN (.str s) i l h=@j3 _ _ (rX s.length l) ⟨λb=>@j3 _ _ (rX 0 i) ⟨λa=>if a<=b/\b<=s.length then some (.str ((s.take b).drop a),h)else none⟩⟩:=(rfl)
def JG(sz : Nat)(x : AV)(q i l : Option AV)(h : AH): Option (AV × AH) := match x with
 | .en full es=>(rX es.length i).bind λb=>(rX 0 q).bind λa =>
   match l with
   |none=>if iU sz es=true/\a<=b/\b<=es.length then some (.en (full&&decide (b=es.length)) ((es.take b).drop a),h)else none
   |some m=>(nat? m).bind λm =>
     if iU sz es=true/\i.isSome=true/\a<=b/\b<=m/\m<=es.length then some (.en (decide (b=m)) ((es.take b).drop a),h)else none
 | .own r v o n=>(rX n i).bind λb=>(rX 0 q).bind λa =>
   match l with
   |none=>if iZ h r v=some sz/\a<=b/\b<=n then some (.own r v (o+a) (b-a),h)else none
   |some m=>(nat? m).bind λm =>
     if iZ h r v=some sz/\i.isSome=true/\a<=b/\b<=m/\m<=n then some (.own r v (o+a) (b-a),h)else none
 |_=>none
@[simp]theorem aaS(sz:Nat)(full:Bool)(es:List AV)(i l:Option AV)(h:AH):JG sz (.en full es) i l none h=@j3 _ _ (rX es.length l) ⟨λb=>@j3 _ _ (rX 0 i) ⟨λa=>if iU sz es=true/\a<=b/\b<=es.length then some (.en (full&&decide (b=es.length)) ((es.take b).drop a),h)else none⟩⟩:=(rfl)
@[simp]theorem aaR(sz r v o n:Nat)(i l:Option AV)(h:AH):JG sz (.own r v o n) i l none h=@j3 _ _ (rX n l) ⟨λb=>@j3 _ _ (rX 0 i) ⟨λa=>if iZ h r v=some sz/\a<=b/\b<=n then some (.own r v (o+a) (b-a),h)else none⟩⟩:=(rfl)
@[simp]theorem YY(sz:Nat)(full:Bool)(es:List AV)(l i:Option AV)(m:AV)(h:AH):JG sz (.en full es) l i (some m) h=@j3 _ _ (rX es.length i) ⟨λb=>@j3 _ _ (rX 0 l) ⟨λa=>@j3 _ _ (nat? m) ⟨λm=>if iU sz es=true/\i.isSome=true/\a<=b/\b<=m/\m<=es.length then some (.en (decide (b=m)) ((es.take b).drop a),h)else none⟩⟩⟩:=(rfl)
@[simp]theorem YX(sz r v o n:Nat)(l i:Option AV)(m:AV)(h:AH):JG sz (.own r v o n) l i (some m) h=@j3 _ _ (rX n i) ⟨λb=>@j3 _ _ (rX 0 l) ⟨λa=>@j3 _ _ (nat? m) ⟨λm=>if iZ h r v=some sz/\i.isSome=true/\a<=b/\b<=m/\m<=n then some (.own r v (o+a) (b-a),h)else none⟩⟩⟩:=(rfl)
@[simp]def agP(off:Nat)(v:AV)(h:AH):Option (AV×AH):=match v with
 | .ptr b v i o=>some (.ptr b v i (o+off),h)
 | .iw cs=>if off<=cs.length then some (.iw (cs.drop off),h)else none
 |_=>none
@[simp]def agO(off sz:Nat)(agg:Bool)(v:AV)(h:AH):Option (AV×AH):=match v with
 | .agg cs=>if off<=cs.length then jv h (shape sz agg (cs.drop off))else none
 |_=>none
def Pt(sz:Nat)(x i:AV)(h:AH):Option (AV×AH):=match x with
 | .en _ es=>(nat? i).bind λn=>(es[n]?).bind λy=>if y.cells.length=sz then some (.iw y.cells,h)else none
 | .own b v o m=>(nat? i).bind λn=>if n<m/\iZ h b v=some sz then some (.ptr b v (o+n) 0,h)else none
 |_=>none
@[simp]theorem aaZ(sz:Nat)(f:Bool)(es:List AV)(i:AV)(h:AH):Pt sz (.en f es) i h=@j3 _ _ (nat? i) ⟨λn=>@j3 _ _ (es[n]?) ⟨λy=>if y.cells.length=sz then some (.iw y.cells,h)else none⟩⟩:=(rfl)
@[simp]theorem aaY(sz b v o m:Nat)(i:AV)(h:AH):Pt sz (.own b v o m) i h=@j3 _ _ (nat? i) ⟨λn=>if n<m/\iZ h b v=some sz then some (.ptr b v (o+n) 0,h)else none⟩:=(rfl)
def Lv(m sz:Nat)(x i:AV)(h:AH):Option (AV×AH):=(nat? i).bind λn=>if n<m then
   match x with
   | .ptr b v j o=>some (.ptr b v j (o+n*sz),h)
   | .iw cs=>if n*sz<=cs.length then some (.iw (cs.drop (n*sz)),h)else none
   |_=>none
   else none
@[simp]theorem Y5(m sz b v j o:Nat)(i:AV)(h:AH):Lv m sz (.ptr b v j o) i h=@j3 _ _ (nat? i) ⟨λn=>if n<m then some (.ptr b v j (o+n*sz),h)else none⟩:=(rfl)
@[simp]theorem TQ(m sz:Nat)(cs:List AV)(i:AV)(h:AH):Lv m sz (.iw cs) i h=@j3 _ _ (nat? i) ⟨λn=>if n<m then(if n*sz<=cs.length then some (.iw (cs.drop (n*sz)),h)else none)else none⟩:=(rfl)
def Sg(x i:AV)(h:AH):Option (AV×AH):=match x with
 | .str s=>(nat? i).bind λn=>(s[n]?).bind λc=>some (.int .u8 c.toNat,h)
 |_=>none
@[simp]theorem Y4(s:aq)(i:AV)(h:AH):Sg (.str s) i h=@j3 _ _ (nat? i) ⟨λn=>@j3 _ _ (s[n]?) ⟨λc=>some (.int .u8 c.toNat,h)⟩⟩:=(rfl)
def aa1(x:AV)(i:Nat)(h:AH):Option (AV×AH):=match x with
 | .iV vs=>(vs[i]?).bind λv=>some (v,h)
 |_=>none
@[simp]theorem aa0(vs:List AV)(i:Nat)(h:AH):aa1 (.iV vs) i h=@j3 _ _ (vs[i]?) ⟨λv=>some (v,h)⟩:=(rfl)
def Lw(Γ:ja)(f:AV)(args:List AV)(h:AH):Option (AV×AH):=match f with
 | .fn g first cap=>match g with
  | .func g=>rF Γ g (first++args++cap) h
  |_=>none
 |_=>none
@[simp]theorem Y6(Γ:ja)(g:FuncId)(first cap args:List AV)(h:AH):Lw Γ (.fn (.func g) first cap) args h=rF Γ g (first++args++cap) h:=(rfl)
@[simp]def agR(neg:Bool)(u v:AV)(h:AH):Option (AV×AH):=match u,v with
 | .bool a,.bool b=>some (.bool (if neg then !decide (a=b)else decide (a=b)),h)
 |_,_=>none
@[simp]def TR(l b v o n:Nat)(i:List AV)(h:AH)(X:Option AB):Option (AV×AH):=match X with
 |some (.row v' sz es) =>
  if v=v'/\sz=l/\iU l i=true/\o+n<=es.length then some (.int .i64 (min i.length n),h.set b (.row v' sz (over es o (i.take n))))else none
 |_=>none
@[simp]def aa2(i:Nat)(d:AV)(l:List AV)(h:AH):Option (AV×AH):=match d with
 | .own b v o n=>TR i b v o n l h h[b]?
 | .en _ es=>if es=[]then some (.int .i64 0,h)else none
 |_=>none
@[simp]def vMm(isMax:Bool)(vs:List AV)(h:AH):Option (AV×AH):=match vs with
 |x::l=>jv h (uv isMax x l)
 | []=>none
@[simp]def aa4(i:Nat)(zero:AV)(b v o n:Nat)(h:AH)(X:Option AB):Option (AV×AH):=match X with
 |some (.row v' sz es)=>if v=v'/\sz=i/\o+n<=es.length then some (.iV [],h.set b (.row v' sz (over es o (List.replicate n zero))))else none
 |_=>none
@[simp]def agQ(i:Nat)(zero x:AV)(h:AH):Option (AV×AH):=match x with
 | .own b v o n=>aa4 i zero b v o n h h[b]?
 | .en _ es=>if es=[]then some (.iV [],h)else none
 |_=>none
section
variable{Γ:ja}{e:Env}{h:AH}
@[simp ↓]def aen(sz:Nat)(zero:AV)(x:AO):exec Γ e h (.XH sz zero x)=agQ sz zero (x.get e) h:=by
 simp only[exec];cases x.get e<;>rfl
@[simp ↓]theorem ags(x:AO):exec Γ e h (.mv x)=some (x.get e,h):=(rfl)
@[simp ↓]theorem aag(c a b:AO):exec Γ e h (.pick c a b)=aaV (c.get e) (a.get e) (b.get e) h:=(rfl)
@[simp]def aiK(q:IntKind)(b:Nat):Option AB->Option (Nat×List (Int×AV))
 |some (.mp k es)=>if k=q then some (b,es)else none
 |_=>none
@[simp]def Z4(q:IntKind)(h:AH)(b:Nat):oL q h (.kZ b)=aiK q b h[b]? := by
 simp only[oL];cases h[b]? with
 |none=>rfl
 |some X=>cases X<;>rfl
@[simp]def adk(q:IntKind)(n:Int):AL q (.int q n)=some n:=by simp[AL]
@[simp ↓]theorem aef(q:IntKind):exec Γ e h (.J9 q)=some (.kZ h.length,h++[.mp q []]):=(rfl)
@[simp ↓]theorem aaj(q:IntKind)(zero:AV)(m k:AO):exec Γ e h (.uJ q zero m k)=@j3 _ _ (oL q h (m.get e)) ⟨λp=>@j3 _ _ (AL q (k.get e)) ⟨λn=>some (jO p.2 n zero,h)⟩⟩:=(rfl)
@[simp ↓]theorem aah(q:IntKind)(m k x:AO):exec Γ e h (.sx q m k x)=@j3 _ _ (oL q h (m.get e)) ⟨λp=>@j3 _ _ (AL q (k.get e)) ⟨λn=>some (.undef,h.set p.1 (.mp q (lF p.2 n (x.get e))))⟩⟩:=(rfl)
@[simp ↓]theorem WR(q:IntKind)(zero:AV)(m k:AO):exec Γ e h (.rG q zero m k)=@j3 _ _ (oL q h (m.get e)) ⟨λp=>@j3 _ _ (AL q (k.get e)) ⟨λn=>some (.iV [jO p.2 n zero,.bool (qZ p.2 n)],h)⟩⟩:=(rfl)
@[simp ↓]theorem aes(neg:Bool)(x y:AO):exec Γ e h (.beq neg x y)=agR neg (x.get e) (y.get e) h:=(rfl)
@[simp ↓]theorem aau(sz bytes:Nat)(zero:AV)(s x:AO):exec Γ e h (.OP sz bytes zero s x)=@j3 _ _ (nat? (x.get e)) ⟨λn=>append h sz bytes (s.get e) (List.replicate n zero)⟩:=(rfl)
@[simp ↓]def aao(b:Nat)(d s:AO):exec Γ e h (.copy b d s)=@j3 _ _ (elems h (s.get e)) ⟨λi=>aa2 b (d.get e) i h⟩:=by
 simp only[exec]
 congr 1
@[simp ↓]theorem aai(q:IntKind)(m:AO):exec Γ e h (.Hh q m)=@j3 _ _ (oL q h (m.get e)) ⟨λp=>some (.int .i64 p.2.length,h)⟩:=(rfl)
@[simp ↓]theorem Xa(zero:List AV):exec Γ e h (.alloc zero)=some (.ptr h.length 0 0 0,h++[.var zero]):=(rfl)
noncomputable def Io(Γ:ja)(f:AV)(args:List AV)(h:AH):Option (AV×AH):=match f with
 | .fn g first cap=>match g with
  | .func g=>if (first++args++cap).all AV.jE then jv h (Γ.p g (first++args++cap))else none
  |_=>none
 |_=>none
@[simp ↓]theorem Td(f:AO)(args:List AO):exec Γ e h (.ni f args)=Io Γ (f.get e) (getAll e args) h:=(rfl)
@[simp]theorem TS(Γ:ja)(g:FuncId)(first cap args:List AV)(h:AH):Io Γ (.fn (.func g) first cap) args h=if (first++args++cap).all AV.jE then jv h (Γ.p g (first++args++cap))else none:=(rfl)
def Sf(n sz:Nat)(agg:Bool)(x i:AV)(h:AH):Option (AV×AH):=match x with
 | .agg cs=>(nat? i).bind λk=>if k<n then jv h (shape sz agg (cs.drop (k*sz)))else none
 |_=>none
@[simp ↓]theorem aal(n sz:Nat)(agg:Bool)(x i:AO):exec Γ e h (.Nq n sz agg x i)=Sf n sz agg (x.get e) (i.get e) h:=(rfl)
@[simp]theorem Y0(n sz:Nat)(agg:Bool)(cs:List AV)(i:AV)(h:AH):Sf n sz agg (.agg cs) i h=@j3 _ _ (nat? i) ⟨λk=>if k<n then jv h (shape sz agg (cs.drop (k*sz)))else none⟩:=(rfl)
@[simp ↓]theorem Tf(t:TypeId)(zero:List AV):exec Γ e h (.xg t zero)=some (.ptr h.length 0 0 0,h++[.var (rL h.length t zero)]):=(rfl)
@[simp ↓]theorem aat(t:TypeId)(x:AO):exec Γ e h (.OD t x)=if (x.get e).cells.all AV.qF then some (.ptr h.length 0 0 0,h++[.var (rL h.length t (x.get e).cells)])else none:=(rfl)
@[simp ↓]theorem aeq(x:AO):exec Γ e h (.box x)=if (x.get e).cells.all AV.qF then some (.ptr h.length 0 0 0,h++[.var (x.get e).cells])else none:=(rfl)
@[simp ↓]theorem W9(zero:List AV)(ps:List (Nat×Nat×AO)):exec Γ e h (.build zero ps)=@j3 _ _ (parts e ps zero) ⟨λcs=>some (.agg cs,h)⟩:=(rfl)
@[simp ↓]theorem aep(sz:Nat)(zero:AV)(len:Nat)(ps:List (Nat×AO)):exec Γ e h (.Pg sz zero len ps)=@j3 _ _ (lC e sz ps (List.replicate len zero)) ⟨λes=>some (.en true es,h)⟩:=(rfl)
@[simp ↓]theorem aar(sz:Nat)(zero:AV)(len:Nat)(ps:List (Nat×AO)):exec Γ e h (.K6 sz zero len ps)=@j3 _ _ (lz e sz ps (List.replicate len zero) h) ⟨λp=>some (.own p.2.length 0 0 p.1.length,p.2++[.row 0 sz p.1])⟩:=(rfl)
@[simp ↓]theorem aas(sz:Nat)(zero:AV)(len:Nat)(ps:List (Nat×AO)):exec Γ e h (.DD sz zero len ps)=@j3 _ _ (lz e sz ps (List.replicate len zero) h) ⟨λp=>some (.en false p.1,p.2)⟩:=(rfl)
@[simp ↓]theorem aak(sz:Nat)(agg:Bool)(a:AO):exec Γ e h (.load sz agg a)=@j3 _ _ (iC h (a.get e)) ⟨λcs=>jv h (shape sz agg cs)⟩:=(rfl)
@[simp ↓]theorem Ta(sz:Nat)(a x:AO)(q:Nat):exec Γ e h (.nE sz a x q)=if ob h (a.get e)=true/\Bl (e q) (a.get e)=true then @j3 _ _ (storeAt h sz (a.get e) (x.get e)) ⟨λq=>some (.undef,q)⟩else none:=(rfl)
@[simp ↓]theorem WS(sz:Nat)(agg:Bool)(a:AO)(q:Nat):exec Γ e h (.nw sz agg a q)=if kQ (e q) (a.get e)=true then @j3 _ _ (iC h (a.get e)) ⟨λcs=>jv h (shape sz agg cs)⟩else none:=(rfl)
@[simp]theorem S9(b v i o l v' n o':Nat):kQ (.ptr b v i o) (.ptr l v' n o')=decide (b≠l):=(rfl)
@[simp]theorem Ze(b v i o l v' n o':Nat):Bl (.ptr b v i o) (.ptr l v' n o')=decide (b=l):=(rfl)
@[simp]theorem QZ(b v i o:Nat)(cs:List AV):kQ (.ptr b v i o) (.iw cs)=true:=(rfl)
@[simp]theorem V6(h:AH)(b v i o:Nat):ob h (.ptr b v i o)=match h[b]? with | some (.var _)=>true | _=>false:=(rfl)
@[simp ↓]theorem WQ(sz:Nat)(a x:AO):exec Γ e h (.store sz a x)=@j3 _ _ (storeAt h sz (a.get e) (x.get e)) ⟨λq=>some (.undef,q)⟩:=(rfl)
@[simp ↓]theorem aed(x:AO):exec Γ e h (.J8 x)=Pr (x.get e) h:=(rfl)
@[simp ↓]theorem aer(op:BinOp)(x y:AO):exec Γ e h (.bin op x y)=jv h (bin op (x.get e) (y.get e)):=(rfl)
@[simp ↓]theorem aec(neg:Bool)(b:au)(x y:AO):exec Γ e h (.seq neg b x y)=aaU neg b (x.get e) (y.get e) h:=(rfl)
@[simp ↓]theorem agq(op:UnOp)(x:AO):exec Γ e h (.un op x)=jv h (un op (x.get e)):=(rfl)
@[simp ↓]theorem aap(k:IntKind)(x:AO):exec Γ e h (.conv k x)=aa3 k (x.get e) h:=(rfl)
@[simp ↓]theorem WY(f:FuncId)(args:List AO):exec Γ e h (.calls f args)=pF h (rF Γ f (getAll e args) h):=(rfl)
@[simp ↓]theorem W6(f:FuncId)(args:List AO):exec Γ e h (.vN f args)=@j3 _ _ (jk h (getAll e args)) ⟨λq=>Γ.h f q.1 q.2⟩:=(rfl)
@[simp ↓]theorem WW(f:FuncId)(args:List AO):exec Γ e h (.vM f args)=@j3 _ _ (jk h (getAll e args)) ⟨λq=>@j3 _ _ (Γ.p f q.1) ⟨λr=>some (r,q.2)⟩⟩:=(rfl)
@[simp ↓]theorem WT(sz:Nat)(agg:Bool)(t:Nat):exec Γ e h (.qn sz agg t)=if ob h (e t)=true then @j3 _ _ (iC h (e t)) ⟨λcs=>@j3 _ _ (shape sz agg cs) ⟨λv=>some (v,h)⟩⟩else none:=(rfl)
@[simp ↓]theorem ad9(x:AO):exec Γ e h (.Sr x)=agN (x.get e) h:=(rfl)
@[simp ↓]theorem aeo(x:AO):exec Γ e h (.Co x)=@j3 _ _ (elems h (x.get e)) ⟨λes=>@j3 _ _ (nO es) ⟨λs=>some (.str s,h)⟩⟩:=(rfl)
@[simp ↓]theorem aeg(t:TypeId)(x:AO):exec Γ e h (.SK t x)=some (.uc t (x.get e),h):=(rfl)
@[simp ↓]theorem aeh(f:Fn)(a c:List AO):exec Γ e h (.Hi f a c)=some (.fn f (getAll e a) (getAll e c),h):=(rfl)
@[simp ↓]theorem aee(sz bytes:Nat)(zero:AV)(l c:AO):exec Γ e h (.Z2 sz bytes zero l c)=TO sz bytes zero (l.get e) (c.get e) h:=(rfl)
@[simp ↓]def aea(x:AO)(b i:Option AO):exec Γ e h (.GR x b i)=TN (x.get e) (b.map λy=>y.get e) (i.map λy=>y.get e) h:=by simp only[exec,TN,Bz];rfl
@[simp ↓]def aeb(sz:Nat)(x:AO)(l i b:Option AO):exec Γ e h (.yQ sz x l i b)=JG sz (x.get e) (l.map λy=>y.get e) (i.map λy=>y.get e) (b.map λy=>y.get e) h:=by
 cases b<;>simp only[exec,JG,Bz,Option.map]<;>cases x.get e<;>cases i<;>rfl
@[simp ↓]theorem ael(off:Nat)(x:AO):exec Γ e h (.B4 off x)=agP off (x.get e) h:=(rfl)
@[simp ↓]theorem aek(off sz:Nat)(agg:Bool)(x:AO):exec Γ e h (.WO off sz agg x)=agO off sz agg (x.get e) h:=(rfl)
@[simp ↓]theorem aej(sz:Nat)(x i:AO):exec Γ e h (.DS sz x i)=Pt sz (x.get e) (i.get e) h:=(rfl)
@[simp ↓]theorem aan(m sz:Nat)(x i:AO):exec Γ e h (.uK m sz x i)=Lv m sz (x.get e) (i.get e) h:=(rfl)
@[simp ↓]theorem aam(x i:AO):exec Γ e h (.idxs x i)=Sg (x.get e) (i.get e) h:=(rfl)
@[simp ↓]theorem aem(x:AO)(i:Nat):exec Γ e h (.ext x i)=aa1 (x.get e) i h:=(rfl)
@[simp ↓]theorem aaq(f:FuncId)(args:List AO):exec Γ e h (.call f args)=rF Γ f (getAll e args) h:=(rfl)
@[simp ↓]theorem W5(f:FuncId)(args:List AO):exec Γ e h (.kY f args)=if (getAll e args).all AV.jE then jv h (Γ.p f (getAll e args))else none:=(rfl)
@[simp ↓]theorem WX(f:AO)(args:List AO):exec Γ e h (.jS f args)=Lw Γ (f.get e) (getAll e args) h:=(rfl)
@[simp]def TP(sz:Nat)(agg:Bool)(a:AV)(h:AH):Option (AV×AH):=match a with
 | .iw cs=>jv h (shape sz agg cs)
 |_=>none
noncomputable def Lx(Γ:ja)(f:AV)(args:List AV)(h:AH):Option (AV×AH):=match f with
 | .fn g first cap=>match g with
  | .func g=>pF h (rF Γ g (first++args++cap) h)
  |_=>none
 |_=>none
@[simp]theorem Y7(g:FuncId)(first cap args:List AV)(h:AH):Lx Γ (.fn (.func g) first cap) args h=pF h (rF Γ g (first++args++cap) h):=(rfl)
@[simp]def Uu(h:AH)(r:AV):pF h (some (r,h))=some (r,h):=by simp[pF]
@[simp ↓]theorem W0(f:FuncId)(args:List AO):exec Γ e h (.s5 f args)=if (getAll e args).all AV.jE then @j3 _ _ (@j3 _ _ (Γ.h f (getAll e args) []) ⟨λp=>lP p.2 p.1⟩) ⟨λp=>some (p.1,h)⟩else none:=(rfl)
@[simp ↓]theorem aaf(x:AO):exec Γ e h (.Ez x)=if (x.get e).cells.all AV.jD then some (.iw (x.get e).cells,h)else none:=(rfl)
@[simp ↓]theorem WU(sz:Nat)(agg:Bool)(a:AO):exec Γ e h (.oN sz agg a)=TP sz agg (a.get e) h:=(rfl)
@[simp ↓]theorem W7(f:FuncId)(args:List AO):exec Γ e h (.o8 f args)=qu h (rF Γ f (getAll e args) h):=(rfl)
open Classical in
@[simp]theorem WI(h h':AH)(r:AV):qu h (some (r,h'))=if h'.take h.length=h then some (r,h')else none:=(rfl)
noncomputable def Ip(Γ:ja)(f:AV)(args:List AV)(h:AH):Option (AV×AH):=match f with
 | .fn g first cap=>match g with
  | .func g=>qu h (rF Γ g (first++args++cap) h)
  |_=>none
 |_=>none
@[simp]theorem TT(g:FuncId)(first cap args:List AV)(h:AH):Ip Γ (.fn (.func g) first cap) args h=qu h (rF Γ g (first++args++cap) h):=(rfl)
@[simp ↓]theorem Te(f:AO)(args:List AO):exec Γ e h (.oZ f args)=Ip Γ (f.get e) (getAll e args) h:=(rfl)
@[simp ↓]theorem WZ(f:AO)(args:List AO):exec Γ e h (.qB f args)=Lx Γ (f.get e) (getAll e args) h:=(rfl)
def B6{h:AH}{a:AV}{es:List AV}(b:elems h a=some es):wI h a=some es:=by
 cases a<;>first | exact b | (cases b;done)
@[simp]theorem Xp(h:AH)(s:aq):wI h (.str s)=some (s.map λc=>.int .u8 (c.toNat:Int)):=(rfl)
@[simp]theorem Xr(h:AH)(f:Bool)(es:List AV):wI h (.en f es)=some es:=(rfl)
@[simp]theorem Xq(h:AH)(b v o n:Nat):wI h (.own b v o n)=elems h (.own b v o n):=(rfl)
@[simp ↓]theorem aet(sz bytes:Nat)(s x:AO):exec Γ e h (.app sz bytes s x)=@j3 _ _ (wI h (x.get e)) ⟨λnews=>append h sz bytes (s.get e) news⟩:=(rfl)
@[simp ↓]theorem aei(str:Bool)(x:AO):exec Γ e h (.len str x)=@j3 _ _ (yR str (x.get e)) ⟨λn=>some (.int .i64 n,h)⟩:=(rfl)
@[simp ↓]theorem agt(isMax:Bool)(xs:List AO):exec Γ e h (.mm isMax xs)=vMm isMax (getAll e xs) h:=(rfl)
@[simp ↓]theorem agr:exec Γ e h .no=none:=(rfl)
@[simp ↓]theorem WV(k:NK)(neg:Bool)(x:AO):exec Γ e h (.xB k neg x)=jv h (isNil k neg (x.get e)):=(rfl)
@[simp]theorem VU(v:AV):jv h (some v)=some (v,h):=(rfl)
end
def CF(h:AH)(sz b v i o:Nat)(x:AV):Option AB->Option AH
 |some (.var cs)=>if v=0/\i=0/\x.cells.all AV.qF=true/\x.cells.length=sz/\o+sz<=cs.length then some (h.set b (.var (over cs o x.cells)))else none
 |some (.row _ _ _)=>(lG h x).bind λ(l,h') =>
   match h'[b]? with
   |some (.row v' n es)=>(es[i]?).bind λe =>
    if v=v'/\l.cells.all AV.jD=true/\l.cells.length=sz/\o+sz<=e.cells.length then some (h'.set b (.row v' n (es.set i (e.jT (over e.cells o l.cells)))))else none
   |_=>none
 |_=>none
def LU(h':AH)(sz b v i o:Nat)(l:AV):Option AB->Option AH
 |some (.row v' n es)=>(es[i]?).bind λe =>
   if v=v'/\l.cells.all AV.jD=true/\l.cells.length=sz/\o+sz<=e.cells.length then some (h'.set b (.row v' n (es.set i (e.jT (over e.cells o l.cells)))))else none
 |_=>none
@[simp]def Sn(h:AH)(sz b v i o:Nat)(x:AV):storeAt h sz (.ptr b v i o) x=CF h sz b v i o x h[b]? := by
 simp only[storeAt];cases h[b]? with
 |none=>rfl
 |some X=>cases X<;>rfl
@[simp]theorem Uc(h:AH)(sz b v i o:Nat)(x:AV)(cs:List AV):CF h sz b v i o x (some (.var cs))=if v=0/\i=0/\x.cells.all AV.qF=true/\x.cells.length=sz/\o+sz<=cs.length then some (h.set b (.var (over cs o x.cells)))else none:=(rfl)
@[simp]def Ud(h:AH)(sz b v i o:Nat)(x:AV)(v' l:Nat)(es:List AV):CF h sz b v i o x (some (.row v' l es))=@j3 _ _ (lG h x) ⟨λp=>LU p.2 sz b v i o p.1 p.2[b]?⟩:=by
 simp only[CF]
 congr 1
@[simp]theorem Ub(h':AH)(sz b v i o:Nat)(n:AV)(v' l:Nat)(es:List AV):LU h' sz b v i o n (some (.row v' l es))=@j3 _ _ (es[i]?) ⟨λe=>if v=v'/\n.cells.all AV.jD=true/\n.cells.length=sz/\o+sz<=e.cells.length then some (h'.set b (.row v' l (es.set i (e.jT (over e.cells o n.cells)))))else none⟩:=(rfl)
def Dz(v i o:Nat):Option AB->Option (List AV)
 |some (.var cs)=>if v=0/\i=0/\o<=cs.length then some (cs.drop o)else none
 |some (.row v' _ es)=>if v=v' then(es[i]?).bind λx=>if o<=x.cells.length then some (x.cells.drop o)else none else none
 |some (.lu v' _ es)=>if v=v' then(es[i]?).bind λx=>if o<=x.cells.length then some (x.cells.drop o)else none else none
 |_=>none
@[simp]def Ts(h:AH)(b v i o:Nat):iC h (.ptr b v i o)=Dz v i o h[b]? := by
 simp only[iC];cases h[b]? with
 |none=>rfl
 |some X=>cases X<;>rfl
@[simp]theorem XS(v i o:Nat)(cs:List AV):Dz v i o (some (.var cs))=if v=0/\i=0/\o<=cs.length then some (cs.drop o)else none:=(rfl)
@[simp]theorem XT(v i o v' sz:Nat)(es:List AV):Dz v i o (some (.row v' sz es))=if v=v' then @j3 _ _ (es[i]?) ⟨λx=>if o<=x.cells.length then some (x.cells.drop o)else none⟩else none:=(rfl)
@[simp]theorem XU(v i o v' sz:Nat)(es:List AV):Dz v i o (some (.lu v' sz es))=if v=v' then @j3 _ _ (es[i]?) ⟨λx=>if o<=x.cells.length then some (x.cells.drop o)else none⟩else none:=(rfl)
@[simp]def N8(v o n:Nat):Option AB->Option (List AV)
 |some (.row v' _ es)=>if v=v'/\o+n<=es.length then some ((es.drop o).take n)else none
 |some (.lu v' _ es)=>if v=v'/\o+n<=es.length then some ((es.drop o).take n)else none
 |_=>none
@[simp]def KH(h:AH)(b v o n:Nat):elems h (.own b v o n)=N8 v o n h[b]? := by
 simp only[elems];cases h[b]? with
 |none=>rfl
 |some X=>cases X<;>rfl
@[simp]def UJ(v:Nat):Option AB->Option Nat
 |some (.row v' sz _)=>if v=v' then some sz else none
 |some (.lu v' sz _)=>if v=v' then some sz else none
 |_=>none
@[simp]def abK(h:AH)(b v:Nat):iZ h b v=UJ v h[b]? := by
 simp only[iZ];cases h[b]? with
 |none=>rfl
 |some X=>cases X<;>rfl
@[simp]def RS(h:AH)(sz bytes b v o n:Nat)(news:List AV):Option AB->Option (AV×AH)
 |some (.row v' i es) =>
   if v=v'/\i=sz/\iU sz news=true/\o+n<=es.length/\(n+news.length)*bytes<=140737488355328/\n+news.length<=140737488355328 then
    some (.own b (v+1) 0 (n+news.length),h.set b (.row (v+1) sz ((es.drop o).take n++news)))
   else none
 |_=>none
@[simp]def YJ(h:AH)(sz bytes b v o n:Nat)(news:List AV):append h sz bytes (.own b v o n) news=RS h sz bytes b v o n news h[b]? := by
 simp only[append];cases h[b]? with
 |none=>rfl
 |some X=>cases X<;>rfl
@[simp]theorem YK(h:AH)(sz bytes:Nat)(es news:List AV):append h sz bytes (.en true es) news=if (es=[]\/news≠[])/\iU sz es=true/\iU sz news=true/\(es.length+news.length)*bytes<=140737488355328/\es.length+news.length<=140737488355328 then some (.own h.length 0 0 (es.length+news.length),h++[.row 0 sz (es++news)])else none:=(rfl)
@[simp]def acN(b v o n:Nat):Option AB->AV
 |some (.row v' _ _)=>if v=v' then .own b 0 o n else .dead
 |some (.lu v' _ _)=>if v=v' then .own b 0 o n else .dead
 |_=>.dead
@[simp]def acO:Option (List AV)->AV
 |some es=>.en false es
 |none=>.dead
def Hf(L:Nat)(R:au)(h:AH)(b v o n:Nat):jV L R h (.own b v o n) =
  if b<L then(if R.contains b then acN b v o n h[b]? else .own b v o n)else acO (elems h (.own b v o n)):=by
 simp only[jV];split
 .split
  .cases h[b]? with
   |none=>rfl
   |some X=>cases X<;>rfl
  .rfl
 .cases elems h (.own b v o n)<;>rfl
attribute [simp] Hf
@[simp]def ah2(h:AH)(b v o n:Nat):Option AB->Option (AV×AH)
 |some (.row v' sz es)=>if v=v'/\o+n<=es.length then some (.en false ((es.drop o).take n),h.set b (.lu v' sz es))else none
 |some (.lu v' _ es)=>if v=v'/\o+n<=es.length then some (.en false ((es.drop o).take n),h)else none
 |_=>none
@[simp]def abZ(h:AH)(b v o n:Nat):mQ h (.own b v o n)=ah2 h b v o n h[b]? := by
 simp only[mQ];cases h[b]? with
 |none=>rfl
 |some X=>cases X<;>rfl
@[simp ↓]theorem ZG(e:Env)(cs:List AV):parts e [] cs=some cs:=(rfl)
@[simp ↓]def UX(e:Env)(off size:Nat)(x:AO)(l:List (Nat×Nat×AO))(cs:List AV):parts e ((off,size,x)::l) cs =
  @j3 _ _ (if (x.get e).cells.all AV.qF=true/\(x.get e).cells.length=size/\off+size<=cs.length then some (over cs off (x.get e).cells)else none) ⟨λcs=>parts e l cs⟩:=by
 simp only[parts];split<;>rfl
@[simp ↓]theorem TA(e:Env)(sz:Nat)(es:List AV):lC e sz [] es=some es:=(rfl)
@[simp ↓]def RJ(e:Env)(sz i:Nat)(x:AO)(l:List (Nat×AO))(es:List AV):lC e sz ((i,x)::l) es =
  @j3 _ _ (if (x.get e).jE/\(x.get e).cells.length=sz/\i<es.length then some (es.set i (x.get e))else none) ⟨λes=>lC e sz l es⟩:=by
 simp only[lC];split<;>rfl
@[simp ↓]theorem YC(e:Env)(sz:Nat)(es:List AV)(h:AH):lz e sz [] es h=some (es,h):=(rfl)
@[simp ↓]theorem Tz(e:Env)(sz i:Nat)(x:AO)(l:List (Nat×AO))(es:List AV)(h:AH):lz e sz ((i,x)::l) es h =
  @j3 _ _ (lG h (x.get e)) ⟨λp=>if p.1.cells.length=sz/\i<es.length then lz e sz l (es.set i p.1) p.2 else none⟩:=(rfl)
@[simp ↓]theorem abU(s:St)(i:Nat):wh s (.t i)=some (s.e i):=(rfl)
@[simp ↓]theorem SA(s:St)(i sz:Nat)(agg:Bool):wh s (.cell i sz agg)=@j3 _ _ (iC s.h (s.e i)) ⟨λcs=>shape sz agg cs⟩:=(rfl)
@[simp ↓]theorem UN(s:St):pQ s []=some []:=(rfl)
@[simp ↓]theorem SB(s:St)(r:AR)(l:List AR):pQ s (r::l)=@j3 _ _ (wh s r) ⟨λv=>@j3 _ _ (pQ s l) ⟨λvs=>some (v::vs)⟩⟩:=(rfl)
def Iu:List AV->AV
 | [v]=>v
 |vs=>.iV vs
@[simp]theorem Y9:Iu [] = .iV []:=(rfl)
@[simp]theorem Y8(v:AV):Iu [v]=v:=(rfl)
@[simp]theorem TW(a b:AV)(l:List AV):Iu (a::b::l) = .iV (a::b::l):=(rfl)
@[simp ↓]def afV(s:St)(l:List AR):oa s l=@j3 _ _ (pQ s l) ⟨λvs=>some (Iu vs)⟩:=by
 unfold oa j3
 congr 1
 funext vs
 match vs with
 | []=>rfl
 | [v]=>rfl
 |_::_::_=>rfl
def mN{n:Int}(h1 : -9223372036854775808<=n)(h2:n<=9223372036854775807):IntKind.i64.wrap n=n:=by
 have e:IntKind.i64.wrap n=if decide (n%18446744073709551616>=9223372036854775808)=true then n%18446744073709551616-18446744073709551616 else n%18446744073709551616:=rfl
 rw[e]
 by_cases h:0<=n
 .rw[Int.emod_eq_of_lt h aa]
  rw[if_neg aj]
 .have:n%18446744073709551616=n+18446744073709551616:=by omega
  rw[this,if_pos aj];omega
def qw{α A C:Type}(g:A->α->A⊕C):List α->A->A⊕C
 | [],s=>.inl s
 |a::l,s=>match g s a with
  | .inl s'=>qw g l s'
  | .inr t=>.inr t
section
variable{α A X Y:Type}{f:X->Option (X⊕Y)}
def FB(o:Nat->A->X)(l:List α)(g:A->α->A)(fin:A->Y)(I:Nat->A->Prop)
  (b:∀i (v:i<l.length) s,I i s->I (i+1) (g s l[i])/\f (o i s)=some (.inl (o (i+1) (g s l[i]))))
  (q:∀s,I l.length s->f (o l.length s)=some (.inr (fin s))):∀n i s,l.length-i=n->i<=l.length->I i s->iter f (o i s)=some (fin ((l.drop i).foldl g s))
 |0,i,s,x,v,h=>by
  have:i=l.length:=aa
  subst this;rw[iter_eq,q s h,eZ];rfl
 |n+1,i,s,x,v,h=>by
  have r:i<l.length:=aa
  let⟨h1,h2⟩:=b i r s h;rw[iter_eq,h2,bz r];exact FB o l g fin I b q n (i+1) _ aa r h1
def sR(b:Nat->A->X)(l:List α)(g:A->α->A)(fin:A->Y)(I:Nat->A->Prop)
  (h:∀i (o:i<l.length) s,I i s->I (i+1) (g s l[i])/\f (b i s)=some (.inl (b (i+1) (g s l[i]))))
  (n:∀s,I l.length s->f (b l.length s)=some (.inr (fin s))) (s:A) (h0:I 0 s):iter f (b 0 s)=some (fin (l.foldl g s)) :=
 FB b l g fin I h n _ 0 s rfl (bp _) h0
def BT(b:Nat->A->X)(l:List α)(g:A->α->A⊕Y)(fin:A->Y)(I:Nat->A->Prop)
  (o:∀i (v:i<l.length) s,I i s->match g s l[i]with
   | .inl s'=>I (i+1) s'/\f (b i s)=some (.inl (b (i+1) s'))
   | .inr y=>f (b i s)=some (.inr y))
  (q:∀s,I l.length s->f (b l.length s)=some (.inr (fin s))):∀n i s,l.length-i=n->i<=l.length->I i s->iter f (b i s)=some (match qw g (l.drop i) s with | .inl s'=>fin s' | .inr y=>y)
 |0,i,s,x,v,h=>by
  have:i=l.length:=aa
  subst this;rw[iter_eq,q s h,eZ];rfl
 |n+1,i,s,x,v,h=>by
  have r:i<l.length:=aa
  have h1:=o i r s h;rw[bz r];simp only[qw];split at h1
  .rename_i s' hs;let⟨h1,h2⟩:=h1;rw[iter_eq,h2];exact BT b l g fin I o q n (i+1) _ aa r h1
  .rename_i y hs;rw[iter_eq,h1]
def KB(b:Nat->A->X)(l:List α)(g:A->α->A⊕Y)(fin:A->Y)(I:Nat->A->Prop)
  (h:∀i (o:i<l.length) s,I i s->match g s l[i]with
   | .inl s'=>I (i+1) s'/\f (b i s)=some (.inl (b (i+1) s'))
   | .inr y=>f (b i s)=some (.inr y))
  (n:∀s,I l.length s->f (b l.length s)=some (.inr (fin s))) (s:A) (h0:I 0 s):iter f (b 0 s)=some (match qw g l s with | .inl s'=>fin s' | .inr y=>y) :=
 BT b l g fin I h n _ 0 s rfl (bp _) h0
def FC{β:Type}(o:Nat->X)(a:List α)(b:List β)(hl:a.length=b.length)(p:α->β->Bool)(yes no:Y)
  (l:∀i (h:i<a.length) (h':i<b.length),f (o i)=if p a[i] b[i]=true then some (.inl (o (i+1)))else some (.inr no))
  (q:f (o a.length)=some (.inr yes)):∀n i,a.length-i=n->i<=a.length->iter f (o i)=some (if ((a.drop i).zip (b.drop i)).all (λx=>p x.1 x.2)=true then yes else no)
 |0,i,r,v=>by
  have:i=a.length:=aa
  subst this;rw[iter_eq,q,eZ];rfl
 |n+1,i,r,v=>by
  have h1:i<a.length:=aa
  have h2:i<b.length:=aa
  rw[iter_eq,l i h1 h2,bz h1,bz h2,eR,cm];cases y:p a[i] b[i]with
  |true =>
   simp only[if_true,gM];exact FC o a b hl p yes no l q n (i+1) aa h1
  |false=>simp only[bq,if_false,dQ]
def Dm{β:Type}(l:Nat->X)(a:List α)(b:List β)(hl:a.length=b.length)(p:α->β->Bool)(yes no:Y)
  (n:∀i (h:i<a.length) (h':i<b.length),f (l i)=if p a[i] b[i]=true then some (.inl (l (i+1)))else some (.inr no))
  (o:f (l a.length)=some (.inr yes)):iter f (l 0)=some (if (a.zip b).all (λx=>p x.1 x.2)=true then yes else no) :=
 FC l a b hl p yes no n o _ 0 rfl (bp _)
end
@[simp]theorem acF(b:Bool):(AV.bool b).qF=true:=(rfl)
@[simp]theorem af4(k:IntKind)(n:Int):(AV.int k n).qF=true:=(rfl)
@[simp]theorem afZ(s:aq):(AV.str s).qF=true:=(rfl)
@[simp]theorem af3(f:Bool)(es:List AV):(AV.en f es).qF=true:=(rfl)
@[simp]theorem af1(b v o n:Nat):(AV.own b v o n).qF=true:=(rfl)
@[simp]theorem af2(b:Nat):(AV.kZ b).qF=true:=(rfl)
@[simp]theorem af0(b v i o:Nat):(AV.ptr b v i o).qF=true:=(rfl)
@[simp]theorem aiE(f:Fn)(a c:List AV):(AV.fn f a c).qF=true:=(rfl)
@[simp]theorem acB:AV.kG.qF=true:=(rfl)
@[simp]theorem acC:AV.me.qF=true:=(rfl)
@[simp]theorem acE:AV.kU.qF=true:=(rfl)
@[simp]theorem acD:AV.kg.qF=true:=(rfl)
@[simp]def U6{α:Type}(a x:α)(l xs:List α):over (a::l) 0 (x::xs)=x::over l 0 xs:=by simp[over]
@[simp]def U5{α:Type}(a:α)(l xs:List α)(o:Nat):over (a::l) (o+1) xs=a::over l o xs:=by
 have:o+1+xs.length=(o+xs.length)+1:=aa
 simp[over,this]
@[simp]def ZH{α:Type}(l:List α):over l 0 []=l:=by simp[over]
@[simp]def af5(m:Bool)(k b:IntKind)(x y:Int):Z1 m (.int k x) (.int b y)=some (.int k (if m then max x y else min x y)):=by
 simp only[Z1,aP,AV.int.injEq,true_and];cases m
 .simp only[bq,if_false];split<;>omega
 .simp only[if_true];split<;>omega
@[simp]theorem ZY(L:Nat)(R:au)(h:AH)(i v sz:Nat)(es:List AV):mc L R h i (.row v sz es) = .row (if R.contains i then 0 else v) sz es:=(rfl)
@[simp]theorem ZZ(L:Nat)(R:au)(h:AH)(i v sz:Nat)(es:List AV):mc L R h i (.lu v sz es) = .lu (if R.contains i then 0 else v) sz es:=(rfl)
@[simp]theorem VE(L:Nat)(R:au)(h:AH)(i:Nat):mc L R h i .gone = .gone:=(rfl)
@[simp]theorem ZX(L:Nat)(R:au)(h:AH)(i:Nat)(cs:List AV):mc L R h i (.var cs) = .var (cs.map (jV L R h)):=(rfl)
@[simp]def SO(a b:Nat):(if a<b then(a:Int)else(b:Int))=((min a b:Nat):Int):=by split<;>omega
@[simp]def Qs(a b:Nat):(if a<b then(b:Int)else(a:Int))=((max a b:Nat):Int):=by split<;>omega
@[simp]theorem Vy(L:Nat)(R:au)(h:AH)(b:Bool):jX L R h (.bool b) = .bool b:=(rfl)
@[simp]theorem VD(L:Nat)(R:au)(h:AH)(b:Bool):jV L R h (.bool b) = .bool b:=(rfl)
@[simp]theorem ZB(h:AH)(b:Bool):lG h (.bool b)=some (.bool b,h):=(rfl)
@[simp]theorem Zl(h:AH)(b:Bool):mQ h (.bool b)=some (.bool b,h):=(rfl)
@[simp]theorem Zr(h:AH)(b:Bool):lP h (.bool b)=some (.bool b,h):=(rfl)
@[simp]theorem ZQ(L:Nat)(R:au)(h:AH)(k:IntKind)(n:Int):jX L R h (.int k n) = .int k n:=(rfl)
@[simp]theorem ZW(L:Nat)(R:au)(h:AH)(k:IntKind)(n:Int):jV L R h (.int k n) = .int k n:=(rfl)
@[simp]theorem ace(h:AH)(k:IntKind)(n:Int):lG h (.int k n)=some (.int k n,h):=(rfl)
@[simp]theorem ab1(h:AH)(k:IntKind)(n:Int):mQ h (.int k n)=some (.int k n,h):=(rfl)
@[simp]theorem ab5(h:AH)(k:IntKind)(n:Int):lP h (.int k n)=some (.int k n,h):=(rfl)
@[simp]theorem ZL(L:Nat)(R:au)(h:AH)(x:aq):jX L R h (.str x) = .str x:=(rfl)
@[simp]theorem ZS(L:Nat)(R:au)(h:AH)(x:aq):jV L R h (.str x) = .str x:=(rfl)
@[simp]theorem ab8(h:AH)(x:aq):lG h (.str x)=some (.str x,h):=(rfl)
@[simp]theorem abY(h:AH)(x:aq):mQ h (.str x)=some (.str x,h):=(rfl)
@[simp]theorem ab3(h:AH)(x:aq):lP h (.str x)=some (.str x,h):=(rfl)
@[simp]theorem ZP(L:Nat)(R:au)(h:AH)(f:Bool)(es:List AV):jX L R h (.en f es) = .en f es:=(rfl)
@[simp]theorem ZV(L:Nat)(R:au)(h:AH)(f:Bool)(es:List AV):jV L R h (.en f es) = .en f es:=(rfl)
@[simp]theorem acd(h:AH)(f:Bool)(es:List AV):lG h (.en f es)=some (.en f es,h):=(rfl)
@[simp]theorem ab0(h:AH)(f:Bool)(es:List AV):mQ h (.en f es)=some (.en f es,h):=(rfl)
@[simp]theorem ab4(h:AH)(f:Bool)(es:List AV):lP h (.en f es)=some (.en f es,h):=(rfl)
@[simp]theorem Vu(L:Nat)(R:au)(h:AH):jX L R h (.kG) = .kG:=(rfl)
@[simp]theorem Vv(L:Nat)(R:au)(h:AH):jX L R h (.me) = .me:=(rfl)
@[simp]theorem Vz(L:Nat)(R:au)(h:AH):jV L R h (.kG) = .kG:=(rfl)
@[simp]theorem VA(L:Nat)(R:au)(h:AH):jV L R h (.me) = .me:=(rfl)
@[simp]theorem Zu(h:AH):lG h (.kG)=some (.kG,h):=(rfl)
@[simp]theorem Zv(h:AH):lG h (.me)=some (.me,h):=(rfl)
@[simp]theorem Zg(h:AH):mQ h (.kG)=some (.kG,h):=(rfl)
@[simp]theorem Zh(h:AH):mQ h (.me)=some (.me,h):=(rfl)
@[simp]theorem Zn(h:AH):lP h (.kG)=some (.kG,h):=(rfl)
@[simp]theorem Zo(h:AH):lP h (.me)=some (.me,h):=(rfl)
@[simp]theorem adq:(AV.kG).jD=true:=(rfl)
@[simp]theorem adr:(AV.me).jD=true:=(rfl)
@[simp]theorem adB:(AV.kG).jE=true:=(rfl)
@[simp]theorem adC:(AV.me).jE=true:=(rfl)
@[simp]theorem XM:(AV.kG).cells=[.kG]:=(rfl)
@[simp]theorem XN:(AV.me).cells=[.me]:=(rfl)
@[simp]theorem adv:(AV.kG).rI=true:=(rfl)
@[simp]theorem adw:(AV.me).rI=true:=(rfl)
@[simp]theorem Xw(R:au):j8 R .kG = .kG:=(rfl)
@[simp]theorem Xx(R:au):j8 R .me = .me:=(rfl)
@[simp]theorem Vx(L:Nat)(R:au)(h:AH):jX L R h (.kU) = .kU:=(rfl)
@[simp]theorem VC(L:Nat)(R:au)(h:AH):jV L R h (.kU) = .kU:=(rfl)
@[simp]theorem ZA(h:AH):lG h (.kU)=some (.kU,h):=(rfl)
@[simp]theorem Zk(h:AH):mQ h (.kU)=some (.kU,h):=(rfl)
@[simp]theorem Zq(h:AH):lP h (.kU)=some (.kU,h):=(rfl)
@[simp]theorem adt:(AV.kU).jD=true:=(rfl)
@[simp]theorem adE:(AV.kU).jE=true:=(rfl)
@[simp]theorem XQ:(AV.kU).cells=[.kU]:=(rfl)
@[simp]theorem ady:(AV.kU).rI=true:=(rfl)
@[simp]theorem Xz(R:au):j8 R .kU = .kU:=(rfl)
@[simp]theorem Vw(L:Nat)(R:au)(h:AH):jX L R h (.kg) = .kg:=(rfl)
@[simp]theorem VB(L:Nat)(R:au)(h:AH):jV L R h (.kg) = .kg:=(rfl)
@[simp]theorem Zw(h:AH):lG h (.kg)=some (.kg,h):=(rfl)
@[simp]theorem Zj(h:AH):mQ h (.kg)=some (.kg,h):=(rfl)
@[simp]theorem Zp(h:AH):lP h (.kg)=some (.kg,h):=(rfl)
@[simp]theorem ads:(AV.kg).jD=true:=(rfl)
@[simp]theorem adD:(AV.kg).jE=true:=(rfl)
@[simp]theorem XP:(AV.kg).cells=[.kg]:=(rfl)
@[simp]theorem adx:(AV.kg).rI=true:=(rfl)
@[simp]theorem Xy(R:au):j8 R .kg = .kg:=(rfl)
@[simp]def ZR(L:Nat)(R:au)(h:AH)(cs:List AV):jX L R h (.agg cs)=if cs.all AV.jD then .agg cs else .agg (cs.map (jV L R h)):=by unfold jX;simp only[Dd]
@[simp]theorem ZO(L:Nat)(R:au)(h:AH)(b:Nat):jX L R h (.kZ b)=if b<L/\¬R.contains b then .kZ b else .dead:=(rfl)
@[simp]theorem ZU(L:Nat)(R:au)(h:AH)(b:Nat):jV L R h (.kZ b)=if b<L/\¬R.contains b then .kZ b else .dead:=(rfl)
@[simp]theorem acP(L:Nat)(R:au)(h:AH)(i:Nat)(q:IntKind)(es:List (Int×AV)):mc L R h i (.mp q es) = .mp q (es.map λp=>(p.1,jX L R h p.2)):=(rfl)
@[simp]theorem ZM(L:Nat)(R:au)(h:AH)(b v i o:Nat):jX L R h (.ptr b v i o)=if b<L/\¬R.contains b then .ptr b v i o else .dead:=(rfl)
@[simp]theorem ZT(L:Nat)(R:au)(h:AH)(b v i o:Nat):jV L R h (.ptr b v i o)=if b<L/\¬R.contains b then .ptr b v i o else .dead:=(rfl)
@[simp]theorem acM(L:Nat)(R:au)(h:AH)(f:Fn)(a c:List AV):jX L R h (.fn f a c)=if (a++c).all (λx=>x.jE||match x with | .ptr b _ _ _=>decide (b<L) && !R.contains b | .kZ b=>decide (b<L) && !R.contains b | _=>false)then .fn f a c else .dead:=(rfl)
@[simp]def acf(h:AH)(cs:List AV):lG h (.agg cs)=if cs.all AV.jD then some (.agg cs,h)else @j3 _ _ (rU h cs) ⟨λp=>some (.agg p.1,p.2)⟩:=by unfold lG;simp only[Dd];rfl
@[simp]theorem ab9(h:AH)(b v o n:Nat):lG h (.own b v o n)=mQ h (.own b v o n):=(rfl)
@[simp]theorem Zm(h:AH)(b v o n:Nat):lP h (.own b v o n)=mQ h (.own b v o n):=(rfl)
@[simp]def ab6(h:AH)(cs:List AV):lP h (.agg cs)=lG h (.agg cs):=by
 unfold lP;simp only[Qw];split
 .rename_i h1;unfold lG;simp only[Dd,h1,if_true]
 .rfl
@[simp]def ab2(h:AH)(vs:List AV):lP h (.iV vs)=if vs.all AV.jE then some (.iV vs,h)else @j3 _ _ (jk h vs) ⟨λp=>some (.iV p.1,p.2)⟩:=by unfold lP;simp only[Qt];rfl
@[simp]theorem ab7(h:AH):rU h []=some ([],h):=(rfl)
@[simp]theorem Zs(h:AH)(a:AV)(l:List AV):rU h (a::l)=@j3 _ _ (mQ h a) ⟨λp=>@j3 _ _ (rU p.2 l) ⟨λq=>some (p.1::q.1,q.2)⟩⟩:=(rfl)
@[simp]theorem Zt(h:AH):jk h []=some ([],h):=(rfl)
@[simp]theorem UP(h:AH)(a:AV)(l:List AV):jk h (a::l)=@j3 _ _ (lG h a) ⟨λp=>@j3 _ _ (jk p.2 l) ⟨λq=>some (p.1::q.1,q.2)⟩⟩:=(rfl)
@[simp]theorem XB(R:au)(cs:List AV):j8 R (.agg cs)=if cs.all (λx=>x.jE||match x with | .ptr b _ _ _=>!R.contains b | .own b _ _ _=>!R.contains b | .kZ b=>!R.contains b | _=>false)then .agg cs else .dead:=(rfl)
@[simp]theorem aeN(R:au)(f:Fn)(a c:List AV):j8 R (.fn f a c)=if (a++c).all (λx=>x.jE||match x with | .ptr b _ _ _=>!R.contains b | .own b _ _ _=>!R.contains b | .kZ b=>!R.contains b | _=>false)then .fn f a c else .dead:=(rfl)
@[simp]theorem Xu(R:au)(cs:List AV):j8 R (.iw cs) = .iw cs:=(rfl)
@[simp]def aaF(R:au)(b:Nat):j8 R (.kZ b)=if !R.contains b then .kZ b else .dead:=by unfold j8;simp
@[simp]def aaD(R:au)(b v i o:Nat):j8 R (.ptr b v i o)=if !R.contains b then .ptr b v i o else .dead:=by unfold j8;simp
@[simp]def aaE(R:au)(b v i o:Nat):j8 R (.own b v i o)=if !R.contains b then .own b v i o else .dead:=by unfold j8;simp
@[simp]def agG(k:IntKind)(x y:Int):bin .add (.int k x) (.int k y)=some (.int k (k.wrap (x+y))):=by simp only[bin,mY,if_true]
@[simp]def agv(k:IntKind)(x y:Int):bin .sub (.int k x) (.int k y)=some (.int k (k.wrap (x-y))):=by simp only[bin,mY,if_true]
@[simp]def agA(k:IntKind)(x y:Int):bin .mul (.int k x) (.int k y)=some (.int k (k.wrap (x*y))):=by simp only[bin,mY,if_true]
@[simp]def agy(k:IntKind)(x y:Int):bin .quo (.int k x) (.int k y)=if y=0 then none else some (.int k (k.wrap (x.tdiv y))):=by simp only[bin,mY,if_true]
@[simp]def agx(k:IntKind)(x y:Int):bin .rem (.int k x) (.int k y)=if y=0 then none else some (.int k (x.tmod y)):=by simp only[bin,mY,if_true]
@[simp]def agF(k:IntKind)(x y:Int):bin .eql (.int k x) (.int k y)=some (.bool (decide (x=y))):=by simp only[bin,mY,if_true]
@[simp]def agz(k:IntKind)(x y:Int):bin .neq (.int k x) (.int k y)=some (.bool (!decide (x=y))):=by simp only[bin,mY,if_true]
@[simp]def agB(k:IntKind)(x y:Int):bin .lss (.int k x) (.int k y)=some (.bool (decide (x<y))):=by simp only[bin,mY,if_true]
@[simp]def agC(k:IntKind)(x y:Int):bin .leq (.int k x) (.int k y)=some (.bool (decide (x<=y))):=by simp only[bin,mY,if_true]
@[simp]def agD(k:IntKind)(x y:Int):bin .gtr (.int k x) (.int k y)=some (.bool (decide (y<x))):=by simp only[bin,mY,if_true]
@[simp]def agE(k:IntKind)(x y:Int):bin .geq (.int k x) (.int k y)=some (.bool (decide (y<=x))):=by simp only[bin,mY,if_true]
@[simp]def agw(op:BinOp)(x y:aq):bin op (.str x) (.str y)=mw x y op:=by cases op<;>rfl
@[simp]theorem agS(b:Bool):un .not (.bool b)=some (.bool (!b)):=(rfl)
@[simp]theorem agT(k:IntKind)(n:Int):un .neg (.int k n)=some (.int k (k.wrap (0-n))):=(rfl)
@[simp]theorem Z0(m:Bool)(x:AV):uv m x []=some x:=(rfl)
@[simp]theorem VF(m:Bool)(x y:AV)(l:List AV):uv m x (y::l)=@j3 _ _ (Z1 m x y) ⟨λz=>uv m z l⟩:=(rfl)
@[simp]theorem akc{α:Type}(a:α)(l:List α):(a::l)[0]? = some a:=(rfl)
def jx{α β:Type}{F:α->β}{l:List α}{n:Nat}(h:l.length<=n):(l.map F).take n=l.map F:=bf (ak h)
variable{b:Int}
def oR{a:Int}(h:a<=b):min a b=a:=aa
def oQ{a:Int}(h:b<=a):min a b=b:=aa
def oT{a:Int}(h:b<=a):max a b=a:=aa
def oS{a:Int}(h:a<=b):max a b=b:=aa
@[simp]theorem O4(a cs:List AV):(AV.agg a).jT cs = .agg cs:=(rfl)
@[simp]theorem O3(k:IntKind)(n:Int)(cs:List AV):(AV.int k n).jT cs=cs.headD .dead:=(rfl)
@[simp]theorem Lt(b:Bool)(cs:List AV):(AV.bool b).jT cs=cs.headD .dead:=(rfl)
@[simp]theorem O1(b:aq)(cs:List AV):(AV.str b).jT cs=cs.headD .dead:=(rfl)
@[simp]theorem O2(f:Bool)(es cs:List AV):(AV.en f es).jT cs=cs.headD .dead:=(rfl)
@[simp]def akb{α:Type}(h:List α)(x:α)(l:List α):(h++x::l)[h.length]? = some x:=ah
@[simp]def aiQ{α:Type}(h:List α)(l:List α)(k:Nat):(h++l)[h.length+k]? = l[k]? := by rw[aQ aa];congr 1;omega
@[simp]def aka{α:Type}(h:List α)(x y:α)(l:List α):(h++x::l).set h.length y=h++y::l:=ah
@[simp]def aiO{α:Type}(h:List α)(l:List α)(k:Nat)(y:α):(h++l).set (h.length+k) y=h++l.set k y:=by rw[eY _ _ aa];congr 2;omega
def ko{α β:Type}{F:α->β}{l:List α}{x:β}{n:Nat}(h:l.length+1<=n):(l.map F++[x]).take n=l.map F++[x]:=bf (ak h)
def sI{a:Int}(h:a<b):(a<b)=True:=eq_true h
def sJ{a:Int}(h:¬a<b):(a<b)=False:=eq_false h
def sK{a:Int}(h:a<=b):(a<=b)=True:=eq_true h
def sL{a:Int}(h:¬a<=b):(a<=b)=False:=eq_false h
def sM{a:Int}(h:a=b):(a=b)=True:=eq_true h
def sN{a:Int}(h:¬a=b):(a=b)=False:=eq_false h
def sg{a b:Nat}(h:a<b):(a<b)=True:=eq_true h
def si{a b:Nat}(h:¬a<b):(a<b)=False:=eq_false h
def sj{a b:Nat}(h:a<=b):(a<=b)=True:=eq_true h
def su{a b:Nat}(h:¬a<=b):(a<=b)=False:=eq_false h
@[simp]def LH(a b:Nat):((a:Int)+(b:Int)).toNat=a+b:=aa
def AV.Ko:AV->Bool
 | .fn _ [] []=>true
 |v=>v.jE
def Wd{v:AV}(h:v.jE=true):v.Ko=true:=by
 cases v<;>first | exact h | (simp[AV.jE,AV.jD]at h;done)
def IZ{L:Nat}{R:au}{h0:AH}{v:AV}(h:v.Ko=true):jX L R h0 v=v:=by
 unfold AV.Ko at h;split at h
 .rfl
 .exact MU h
def gX:AB->Bool
 | .var cs=>cs.all AV.jD
 | .mp _ es=>es.all λp=>p.2.Ko
 |_=>true
def iY(L:Nat)(h0:AH):∀(h:AH)(i:Nat),h.all gX=true->iQ L [] h0 i h=h
 | [],_,_=>rfl
 |b::h,i,l=>by
  simp only[cm,aC]at l;simp only[iQ,iY L h0 h (i+1) l.2]
  congr 1
  cases b with
  |gone=>rfl
  |row v sz es=>rfl
  |lu v sz es=>rfl
  |var cs =>
   simp only[mc,AB.var.injEq];have h1:cs.all AV.jD=true:=l.1;rw[aJ]at h1;refine(dZ λx hx=>?_).trans (fu _)
   have:=h1 x hx;cases x<;>first | rfl | (simp[AV.jD]at this;done)
  |mp q es =>
   simp only[mc,AB.mp.injEq,true_and];have h1:(es.all λp=>p.2.Ko)=true:=l.1
   rw[aJ]at h1;refine(dZ λx hx=>?_).trans (fu _)
   rw[IZ (h1 x hx)];rfl
def nV{α:Type}(F:α->AV)(p:α->Prop):∀es:List AV,(∀x∈es,∃d,x=F d/\p d)->∃l:List α,es=l.map F/\∀d∈l,p d
 | [],_=>⟨[],rfl,ah⟩
 |x::es,h=>by
  let⟨d,q,o⟩:=h x ah
  let⟨l,hl,b⟩:=nV F p es λy n=>h y (by simp[n])
  exact⟨d::l,by rw[q,hl];rfl,λe i=>by
   rcases aY.1 i with rfl | i
   .exact o
   .exact b e i⟩
def MI{α β:Type}(F:α->β)(l xs:List α)(o:Nat):over (l.map F) o (xs.map F)=(over l o xs).map F:=by simp[over]
section
variable{α A X Y:Type}{f:X->Option (X⊕Y)}
def FA(o:Nat->X)(p:α->Bool)(hit:Nat->α->Y)(no:Y):∀(l:List α)(k:Nat)
  (_:∀i (h:i<l.length),f (o (k+i))=if p l[i]=true then some (.inr (hit (k+i) l[i]))else some (.inl (o (k+i+1))))
  (_:f (o (k+l.length))=some (.inr no)),iter f (o k)=some ((l.find? p).elim no (hit (k+l.findIdx p)))
 | [],k,_,b=>by
  rw[iter_eq];simp only[aR,cK]at b;rw[b];rfl
 |x::l,k,n,b=>by
  have h0:=n 0 ah
  simp only[cK,List.getElem_cons_zero]at h0;rw[iter_eq,h0];cases q:p x with
  |true =>
   simp[eC,q]
  |false =>
   simp only[bq,if_false]
   rw[FA o p hit no l (k+1) (λi r=>by
    have:=n (i+1) (ak r)
    simp only[List.getElem_cons_succ]at this;rw[show k+1+i=k+(i+1) by omega]
    exact this) (by rw[show k+1+l.length=k+(x::l).length by simp;omega];exact b)]
   rw[dD (by simp[q])]
   simp only[eC,q,cond_false];rw[show k+1+l.findIdx p=k+(l.findIdx p+1) by omega]
def Dl(b:Nat->X)(l:List α)(p:α->Bool)(hit:Nat->α->Y)(no:Y)
  (n:∀i (h:i<l.length),f (b i)=if p l[i]=true then some (.inr (hit i l[i]))else some (.inl (b (i+1))))
  (o:f (b l.length)=some (.inr no)):iter f (b 0)=some ((l.find? p).elim no (hit (l.findIdx p))):=by
 have:=FA b p hit no l 0 (λi q=>by rw[b8];exact n i q) (by rw[b8];exact o)
 simpa using this
def vF(b:Nat->Nat->X)(n c:Nat)(z:c<=n)(fin:Nat->Y)
  (l:∀i j,i<j->j<=n->f (b i j)=some (.inl (if (i+j) / 2<c then b ((i+j) / 2+1) j else b i ((i+j) / 2))))
  (o:∀i,i<=n->f (b i i)=some (.inr (fin i))):∀k i j,j-i=k->i<=c->c<=j->j<=n->iter f (b i j)=some (fin c):=by
 intro k
 induction k using Nat.strongRecOn with
 |_ k q =>
  intro i j hk y x r
  by_cases h:i<j
  .rw[iter_eq,l i j h r]
   by_cases v:(i+j) / 2<c
   .rw[if_pos v];exact q (j-((i+j) / 2+1)) aa _ _ rfl aa x r
   .rw[if_neg v];exact q ((i+j) / 2-i) aa _ _ rfl y aa aa
  .have:i=j:=by omega
   subst this;have:i=c:=aa
   subst this;rw[iter_eq,o i z]
end
@[simp]def nL{α:Type}(p:α->Bool):∀l:List α,l[l.findIdx p]? = l.find? p
 | []=>rfl
 |x::l=>by
  cases b:p x with
  |true=>simp[eC,b]
  |false=>simp[eC,b,nL p l]
@[simp]def Um(a b c d e f g:AV):shape 7 true [a,b,c,d,e,f,g]=some (.agg [a,b,c,d,e,f,g]):=by simp[shape]
@[simp]def Ul(a b c d e f g h:AV):shape 8 true [a,b,c,d,e,f,g,h]=some (.agg [a,b,c,d,e,f,g,h]):=by simp[shape]
@[simp]def Uk(a b c d e f g h i:AV):shape 9 true [a,b,c,d,e,f,g,h,i]=some (.agg [a,b,c,d,e,f,g,h,i]):=by simp[shape]
@[simp]def Sw(a b c d e f g h i j:AV):shape 10 true [a,b,c,d,e,f,g,h,i,j]=some (.agg [a,b,c,d,e,f,g,h,i,j]):=by simp[shape]
@[simp]def Us(a:AV):shape 1 true [a]=some (.agg [a]):=by simp[shape]
def wrap_u64{n:Int}(h1:0<=n)(h2:n<=9223372036854775807):IntKind.u64.wrap n=n:=by
 have:IntKind.u64.wrap n=n%18446744073709551616:=by
  unfold IntKind.wrap;simp[IntKind.bits,IntKind.signed]
 rw[this];omega
section
variable{α A X Y:Type}{f:X->Option (X⊕Y)}
def Qr(i:A->X)(Q:Y->Prop)(I:A->Prop)(m:A->Nat)
  (b:∀s,I s->(∃s',I s'/\m s'<m s/\f (i s)=some (.inl (i s')))\/∃y,Q y/\f (i s)=some (.inr y)):∀(s:A),I s->∃y,Q y/\iter f (i s)=some y:=by
 have:∀(k:Nat)(s:A),m s<=k->I s->∃y,Q y/\iter f (i s)=some y:=by
  intro k
  induction k with
  |zero =>
   intro s hk n
   rcases b s n with⟨s',_,h,_⟩ | ⟨y,l,h⟩
   .omega
   .exact⟨y,l,by rw[iter_eq,h]⟩
  |succ k q =>
   intro s hk n
   rcases b s n with⟨s',o,r,h⟩ | ⟨y,l,h⟩
   .let⟨y,l,h'⟩:=q s' aa o
    exact⟨y,l,by rw[iter_eq,h];exact h'⟩
   .exact⟨y,l,by rw[iter_eq,h]⟩
 exact λs n=>this _ s (aT _) n
def ji(n:Nat)(b:Nat->A->X)(Q:Y->Prop)(I:Nat->A->Prop)
  (l:∀i s,i<n->I i s->(∃s',I (i+1) s'/\f (b i s)=some (.inl (b (i+1) s')))\/∃y,Q y/\f (b i s)=some (.inr y))
  (o:∀s,I n s->∃y,Q y/\f (b n s)=some (.inr y)) {i:Nat} (q:i<=n) (s:A) (h0:I i s):∃y,Q y/\iter f (b i s)=some y:=by
 refine Qr (λp:Nat×A=>b p.1 p.2) Q (λp=>p.1<=n/\I p.1 p.2) (λp=>n-p.1) ?_ (i,s) ⟨q,h0⟩
 rintro⟨i,s⟩ ⟨q,h⟩
 simp only at q h⊢
 by_cases r:i<n
 .rcases l i s r h with⟨s',h1,h2⟩ | h
  .exact .inl ⟨(i+1,s'),⟨r,h1⟩,by simp only;omega,h2⟩
  .exact .inr h
 .have:i=n:=by omega
  subst this;exact .inr (o s h)
end
section
variable{X Y:AH}{A:AB}{k i:Nat}
def lq(h:k<X.length):(X.set k A++Y)[k]? = some A:=by
 rw[aI (ak h),bh h]
def wD(h:i<X.length)(b:k≠i):(X.set k A++Y)[i]? = X[i]? := by
 rw[aI (ak h),aL b]
def mB(h:X.length<=i):(X.set k A++Y)[i]? = Y[i-X.length]? := by
 rw[aQ (ak h),dM]
def yL(h:k<X.length)(B:AB):(X.set k A++Y).set k B=X.set k B++Y:=by
 rw[eH _ _ (ak h),List.set_set]
def oF(h:X.length<=i)(B:AB):(X.set k A++Y).set i B=X.set k A++Y.set (i-X.length) B:=by
 rw[eY _ _ (ak h),dM]
def agp(h:i<X.length):(X++Y)[i]? = X[i]? := aI h
def ny(h:X.length<=i):(X++Y)[i]? = Y[i-X.length]? := aQ h
def Ei(h:i<X.length)(B:AB):(X++Y).set i B=X.set i B++Y:=eH _ _ h
def Eh(h:X.length<=i)(B:AB):(X++Y).set i B=X++Y.set (i-X.length) B:=eY _ _ h
def jq(X Y:AH)(k:Nat):(X++Y).take (X.length+k)=X++Y.take k:=by
 rw[fW,bf aa,Nat.add_sub_cancel_left]
end
end Go.Am
