/- Part of the proof that TopScriptsCard holds. -/
import Derived.Test.YtahlmpbhfljalaaGreatDoorAmCm
import Derived.Shelf.RegionOpenPlain
import Derived.WalkKit
import Derived.Lib.Walk
import Derived.Lib.SliceRun
import Derived.Lib.Overlaps
import Derived.Lib.AppendZerosOnto
import Derived.Laws.Externs
import Derived.Laws.IdiomCopy
import Derived.Laws.NewBlocks
set_option linter.all false
namespace Go.Am
open Go.Shelf Go.RowKit Go.Lib
variable{P:Program}
section
open S
abbrev x0:= "slices.go:136"
abbrev x1:= "slices.go:137"
abbrev x2:= "slices.go:139"
abbrev x3:= "slices.go:140"
abbrev x4:= "slices.go:141"
abbrev x5:= "slices.go:143"
abbrev x6:= "slices.go:144"
abbrev x7:= "slices.go:145"
abbrev x8:= "slices.go:147"
abbrev x9:= "slices.go:152"
abbrev YV:= "slices.go:153"
abbrev O0:= "slices.go:154"
abbrev x12:= "slices.go:155"
abbrev TH:= "slices.go:157"
abbrev Pj:= "slices.go:173"
abbrev OZ:= "slices.go:178"
abbrev YU:= "slices.go:186"
abbrev x17:= "slices.go:193"
abbrev YT:= "slices.go:200"
abbrev YS:= "slices.go:207"
abbrev x20:= "slices.go:214"
def Nk(nm:String)(b:Array TypeId)(tS tI tB tE t0:TypeId)(fO fR:FuncId):Func :=
 V ({name:=nm,origin:= "slices.Insert",targs:=b,params:=#[tS,tI,tS],resultTypes:=#[tS],nfree:=0,ntmps:=95,results:=#[ResultVar.tmp 6],body:=some ((R 0 #[j 6 (.assign (.const (.slice none 0 0))) tS x0 #[]]).seq ((R 1 #[m 10 0 tS x1 #[],m 11 1 tI x1 #[],j 12 (.slice tS (t 10) (some (t 11)) none none) tS x1 #[d 0,d 1]]).seq ((R 2 #[m 13 2 tS x2 #[],j 14 (k (.builtin .len) #[t 13] #[tS]) tI x2 #[d 0],a 7 14 tI x2 #[d 1,p 0,p 1]]).seq (((R 3 #[m 15 7 tI x3 #[],j 16 (.binOp .eql tI (t 15) (.const (.int .i64 0)) tI) tB x3 #[d 0]]).seq (I (t 16) ((R 4 #[m 17 0 tS x4 #[],a 6 17 tS x4 #[d 0,p 0]]).seq .ret) .skip)).seq ((R 5 #[m 18 0 tS x5 #[],j 19 (k (.builtin .len) #[t 18] #[tS]) tI x5 #[d 0],a 8 19 tI x5 #[d 1,p 0,p 1]]).seq (((R 6 #[m 20 1 tI x6 #[],m 21 8 tI x6 #[],j 22 (.binOp .eql tI (t 20) (t 21) tI) tB x6 #[d 0,d 1]]).seq (I (t 22) ((R 7 #[m 23 0 tS x7 #[],m 24 2 tS x7 #[],j 25 (k (.builtin .append) #[t 23,t 24] #[tS,tS]) tS x7 #[d 0,d 1],a 6 25 tS x7 #[d 2,c 2,p 0,p 1,p 2]]).seq .ret) .skip)).seq (((R 8 #[m 26 8 tI x8 #[],m 27 7 tI x8 #[],j 28 (.binOp .add tI (t 26) (t 27) tI) tI x8 #[d 0,d 1],m 29 0 tS x8 #[],j 30 (k (.builtin .cap) #[t 29] #[tS]) tI x8 #[d 3],j 31 (.binOp .gtr tI (t 28) (t 30) tI) tB x8 #[d 2,d 4]]).seq (I (t 31) ((R 9 #[m 32 0 tS x9 #[],m 33 1 tI x9 #[],j 34 (.slice tS (t 32) none (some (t 33)) none) tS x9 #[d 0,d 1],m 35 8 tI x9 #[],m 36 7 tI x9 #[],j 37 (.binOp .add tI (t 35) (t 36) tI) tI x9 #[d 3,d 4],m 38 1 tI x9 #[],j 39 (.binOp .sub tI (t 37) (t 38) tI) tI x9 #[d 5,d 6],j 40 (k (.builtin .append) #[t 34,t 39] #[tS,tI]) tS x9 #[d 2,d 7],a 9 40 tS x9 #[d 8,c 8,p 0,p 1,p 2,p 3,p 4,p 5,p 6,p 7,p 8]]).seq ((R 10 #[m 41 9 tS YV #[],m 42 1 tI YV #[],j 43 (.slice tS (t 41) (some (t 42)) none none) tS YV #[d 0,d 1],m 44 2 tS YV #[],j 45 (k (.builtin .copy) #[t 43,t 44] #[tS,tS]) tI YV #[d 2,d 3]]).seq ((Code.region 11 #[m 46 9 tS O0 #[],m 47 1 tI O0 #[],m 48 7 tI O0 #[],j 49 (.binOp .add tI (t 47) (t 48) tI) tI O0 #[d 1,d 2],j 50 (.slice tS (t 46) (some (t 49)) none none) tS O0 #[d 0,d 3],m 51 0 tS O0 #[],m 52 1 tI O0 #[],j 53 (.slice tS (t 51) (some (t 52)) none none) tS O0 #[d 5,d 6],j 54 (k (.builtin .copy) #[t 50,t 53] #[tS,tS]) tI O0 #[d 4,d 7]] true).seq ((R 12 #[m 55 9 tS x12 #[],a 6 55 tS x12 #[d 0,p 0]]).seq .ret)))) .skip)).seq ((R 13 #[m 56 0 tS TH #[],m 57 8 tI TH #[],m 58 7 tI TH #[],j 59 (.binOp .add tI (t 57) (t 58) tI) tI TH #[d 1,d 2],j 60 (.slice tS (t 56) none (some (t 59)) none) tS TH #[d 0,d 3],a 0 60 tS TH #[d 4,p 0,p 1,p 2,p 3,p 4]]).seq (((R 14 #[m 61 2 tS Pj #[],m 62 0 tS Pj #[],m 63 1 tI Pj #[],m 64 7 tI Pj #[],j 65 (.binOp .add tI (t 63) (t 64) tI) tI Pj #[d 2,d 3],j 66 (.slice tS (t 62) (some (t 65)) none none) tS Pj #[d 1,d 4],j 67 (k (.value (.func fO)) #[t 61,t 66] #[tS,tS]) tB Pj #[d 0,d 5],j 68 (.unOp .not tB (t 67)) tB Pj #[d 6]]).seq (I (t 68) ((Code.region 15 #[m 69 0 tS OZ #[],m 70 1 tI OZ #[],m 71 7 tI OZ #[],j 72 (.binOp .add tI (t 70) (t 71) tI) tI OZ #[d 1,d 2],j 73 (.slice tS (t 69) (some (t 72)) none none) tS OZ #[d 0,d 3],m 74 0 tS OZ #[],m 75 1 tI OZ #[],j 76 (.slice tS (t 74) (some (t 75)) none none) tS OZ #[d 5,d 6],j 77 (k (.builtin .copy) #[t 73,t 76] #[tS,tS]) tI OZ #[d 4,d 7]] true).seq ((R 16 #[m 78 0 tS YU #[],m 79 1 tI YU #[],j 80 (.slice tS (t 78) (some (t 79)) none none) tS YU #[d 0,d 1],m 81 2 tS YU #[],j 82 (k (.builtin .copy) #[t 80,t 81] #[tS,tS]) tI YU #[d 2,d 3]]).seq ((R 17 #[m 83 0 tS x17 #[],a 6 83 tS x17 #[d 0,p 0]]).seq .ret))) .skip)).seq ((R 18 #[m 84 0 tS YT #[],m 85 8 tI YT #[],j 86 (.slice tS (t 84) (some (t 85)) none none) tS YT #[d 0,d 1],m 87 2 tS YT #[],j 88 (k (.builtin .copy) #[t 86,t 87] #[tS,tS]) tI YT #[d 2,d 3]]).seq ((R 19 #[m 89 0 tS YS #[],m 90 1 tI YS #[],j 91 (.slice tS (t 89) (some (t 90)) none none) tS YS #[d 0,d 1],m 92 7 tI YS #[],j 93 (k (.value (.func fR)) #[t 91,t 92] #[tS,tI]) t0 YS #[d 2,d 3]]).seq ((R 20 #[m 94 0 tS x20 #[],a 6 94 tS x20 #[d 0,p 0]]).seq .ret)))))))))))),norace:=false,file:= "slices/slices.go",endLine:=215,met:=[Departure.appendOfMake],tmpNames:=(["s","i","v","s","i","v","","m","n","s2","","","","","","","","","","","","","","","","","","","","","","","","","","","","","","","","","","","","",""].append ["","","","","","","","","","","","","","","","","","","","","","","","","","","","","","","","","","","","","","","","","","","","","","","",""]).toArray}:Func) (by conv=>lhs;simp only[d,c,g,p,t,k,J,j,m,a,R,I,x0,x1,x2,x3,x4,x5,x6,x7,x8,x9,YV,O0,x12,TH,Pj,OZ,YU,x17,YT,YS,x20])
end
theorem pL(nm:String)(b:Array TypeId)(tS tI tB tE t0:TypeId)(fO fR:FuncId):(Nk nm b tS tI tB tE t0 fO fR).ntmps=95:=rfl
structure R8(P:Program)(f:FuncId)(tS tI tB tE t0:TypeId)(fO fR:FuncId)(i0:TypeInfo)(z:Value):Prop where
 mixed:P.follows .mixedOrders=true
 f:∃nm ta,P.funcs[f]? = some (Nk nm ta tS tI tB tE t0 fO fR)/\(nm == "runtime.NumGoroutine")=false
 o:∃fn,P.funcs[fO]? = some fn/\fn.body=none/\(fn.name == "runtime.NumGoroutine")=false/\Extern.findNext fn=none/\Extern.find fn=some (Extern.SlicesOverlaps.overlaps #[tS,tS] #[tB])
 tS:P.underlying tS=some (.slice tE)
 tI:P.underlying tI=some (.int .i64)
 tB:P.underlying tB=some .bool
 t0:P.underlying t0=some (.tuple #[])
 i:P.info? tE=some i0
 iz:i0.zero=some z
 zs:z.cells.size=i0.size
 pos:0<i0.size
def mo(w:World)(A E ty elem:TypeId)(b o l x:Nat)(a:Addr)(h n:Nat)(cs:List Value)(i:TypeInfo)(q:Nat)
  (F:P.underlying A=some (.slice elem)) (hs:P.info? elem=some i) (G:Nat.min h l=q) (H:cs.length=q*i.size)
  (r:∀j v,cs[j]? = some v->w.cell? (a.add j)=some v) (L:∀j,j<cs.length->(w.cell? ⟨b,o+j,none⟩).isSome=true) (K:∀j,j<cs.length->w.frozen? ⟨b,o+j,none⟩=false) (h1:∀v∈cs,v.oneCell'=true) :
  (Builtin.copy_ #[A,E] ty #[.slice (some ⟨b,o,none⟩) l x,.slice (some a) h n]).run P w = .ok (goInt q) (w.setCells b o cs):=by
 have hl:=run_loadCells_list (P:=P) w a cs r;have y:=run_storeCells_cells (P:=P) b o cs 0 w (ak L) (ak K) h1
 subst G;simp[Builtin.copy_,run_underlying F,Builtin.lenOf,Builtin.firstCells,sizeOf,typeInfo,hs,<-H,hl,y]
def Cw(w:World){o:Oper}{a:Act}{K:Act->World->Prop}{Q:Exit->Act->World->Prop}(d s:Operand)(t b:TypeId)
  (l:o.op = .call {callee:=.builtin .copy,args := #[d,s],argTypes := #[t,b]}) (v u:Value) (n:a.eval d=v) (hs:a.eval s=u) {v':Value} {w':World}
  (i:(Builtin.copy_ #[t,b] o.type #[v,u]).run P w = .ok v' w') (h:K (a.put o.dst v') w'):o.wp P a w K Q:=by
 unfold Oper.wp execOp;simp only[l,resolve,invoke,builtin,Sem.run_bind,Sem.run_pure,Result.andThen_ok,List.map_toArray,bF,aX,n,hs,i];exact h
def nD(w:World){ops:Array Oper}{rest:List Oper}{o:Oper}{a:Act}{Q:Exit->Act->World->Prop}(i:o.guard=none)(d s:Operand)(t b:TypeId)
  (n:o.op = .call {callee:=.builtin .copy,args := #[d,s],argTypes := #[t,b]}) (v u:Value) (q:a.eval d=v) (hs:a.eval s=u) {v':Value} {w':World}
  (l:(Builtin.copy_ #[t,b] o.type #[v,u]).run P w = .ok v' w') (h:wpList P ops Q rest (a.put o.dst v') w'):wpList P ops Q (o::rest) a w :=
 wpList_plain i λ_ r=>Cw w d s t b n v u q hs l (r _ _ h)
def rP{ops:Array Oper}{o:Oper}{a:Act}{w:World}{K:Act->World->Prop}{Q:Exit->Act->World->Prop}{E:Prop}
  (hg:o.guard=none) (d x:Operand) (i h:TypeId) (b:o.op=Op.call {callee:=Callee.builtin Builtin.copy,args := #[d,x],argTypes := #[i,h]})
  (v u:Value) (q:a.eval d=v) (hx:a.eval x=u) {v':Value} {w':World} (n:(Builtin.copy_ #[i,h] o.type #[v,u]).run P w = .ok v' w') (r:K (a.put o.dst v') w') :
  if Region.wanted o (yielded ops a.tmps)=true then Oper.wp P o a w K Q else E:=by
 have l:Region.wanted o (yielded ops a.tmps)=true:=by simp[Region.wanted,hg]
 rw[if_pos l];unfold Oper.wp;simp[execOp,b,resolve,invoke,builtin,q,hx,n,Result.andThen];exact r
def isSome_setCells(b:Nat)(vs:List Value)(o:Nat)(w:World)(h:∀j,j<vs.length->(w.cell? ⟨b,o+j,none⟩).isSome=true)(k:Nat)(hk:(w.cell? ⟨b,k,none⟩).isSome=true):((w.setCells b o vs).cell? ⟨b,k,none⟩).isSome=true:=by
 by_cases i:o<=k/\k<o+vs.length
 .have:=World.cell?_setCells_in b vs o w h (k-o) aa
  rw[show o+(k-o)=k by omega]at this
  rw[this];rfl
 .rw[World.cell?_setCells_out b vs o w ⟨b,k,none⟩ (λ_ _=>by show k<o\/o+vs.length<=k;omega)]
  exact hk
def sV(b:Nat):∀(vs:List Value)(o:Nat)(w:World),(w.setCells b o vs).drew=w.drew.setCells b o vs
 | [],_,_=>rfl
 |v::r,o,w=>by rw[World.setCells,World.setCells,sV b r];rfl
def rR{t:TypeId}{i:TypeInfo}(h:P.info? t=some i)(w:World):(sizeOf t).run P w = .ok i.size w:=by simp[sizeOf,typeInfo,h]
variable{f tS tI tB tE t0 fO fR:Nat}{i0:TypeInfo}{z:Value}
set_option maxHeartbeats 4000000 in
set_option maxRecDepth 100000 in
def Kr(L:R8 P f tS tI tB tE t0 fO fR i0 z)(b off n c i K l Y:Nat)(cs vs:List Value)(w:World)(hi:i<n)(hroom:n+1<=c)(hn63:n+1<=9223372036854775807)(Z:K≠b)
  (T:cs.length=(n-i)*i0.size) (N:vs.length=i0.size)
  (Q:∀j v,cs[j]? = some v->w.cell? ⟨b,off+i*i0.size+j,none⟩=some v) (r:∀j,j<(n+1)*i0.size->(w.cell? ⟨b,off+j,none⟩).isSome=true) (G:∀j,j<(n+1)*i0.size->w.frozen? ⟨b,off+j,none⟩=false)
  (M:∀j v,vs[j]? = some v->w.cell? ⟨K,l+j,none⟩=some v) (h1c:∀v∈cs,v.oneCell'=true) (h1v:∀v∈vs,v.oneCell'=true)
  (hov:∀lb cb,(callFunc fO #[.slice (some ⟨K,l,none⟩) 1 Y,.slice (some ⟨b,off+(i+1)*i0.size,none⟩) lb cb]).run P w = .ok (.value (.bool false)) w) :
  Calls P f #[.slice (some ⟨b,off,none⟩) n c,.int .i64 i,.slice (some ⟨K,l,none⟩) 1 Y] w λe w' =>
   e = .returned (.slice (some ⟨b,off,none⟩) (n+1) c)/\∃q,w'=({w with drawn:=q}.setCells b (off+(i+1)*i0.size) cs).setCells b (off+i*i0.size) vs:=by
 have mixed:=L.mixed;have tS':=L.tS;have tI':=L.tI;have tB':=L.tB;have t0':=L.t0;have uS:=run_underlying (w:=w) L.tS;have zE:=rR L.i;let⟨nm,ta,hf,_⟩:=L.f;have Hw:¬((i:Int)=(n:Int)):=aa
 obtain⟨sz,hsz⟩:∃sz,sz=i0.size:=⟨_,rfl⟩;have hw1:IntKind.i64.wrap ((i:Int)+1)=(i:Int)+1:=by rw[IntKind.wrap_i64];omega
 have hw2:IntKind.i64.wrap ((n:Int)+1)=(n:Int)+1:=by rw[IntKind.wrap_i64];omega
 have hb1:(0:Int)<=(i:Int)+1:=aa
 have hin:i<=n:=aa
 have htn:((i:Int)+1).toNat=i+1:=aa
 have WC:¬(c=i+1):=aa
 have hb3:(i:Int)<=(n:Int)+1:=aa
 have hb4:¬(c=i):=aa
 have o:∀x,x+1<=n+1->x*i0.size+i0.size<=(n+1)*i0.size:=λx hx=>by
  have:=bl i0.size hx;rwa [bL,dh]at this
 have O:i*i0.size+(n-i)*i0.size=n*i0.size:=by rw[<-bL];congr 1;omega
 have Wm:(n+1)*i0.size=n*i0.size+i0.size:=by rw[bL,dh]
 have hi1:(i+1)*i0.size=i*i0.size+i0.size:=by rw[bL,dh]
 have F:∀ty H sc,(Builtin.copy_ #[tS,tS] ty #[.slice (some ⟨b,off+(i+1)*i0.size,none⟩) (n-i) H,.slice (some ⟨b,off+i*i0.size,none⟩) (n+1-i) sc]).run P w.drew = .ok (goInt ((n-i:Nat):Int)) (w.drew.setCells b (off+(i+1)*i0.size) cs):=λty H sc =>
  mo w.drew tS tS ty tE b (off+(i+1)*i0.size) (n-i) H ⟨b,off+i*i0.size,none⟩ (n+1-i) sc cs i0 (n-i) L.tS L.i (by simp only[gB];split<;>omega) T
   (λj v E=>by rw[Addr.add_lit];exact Q j v E)
   (λj E=>by rw[cz];exact r _ aa) (λj E=>by rw[cz];exact G _ aa) h1c
 obtain⟨X,y⟩:∃X,X=w.drew.setCells b (off+(i+1)*i0.size) cs:=⟨_,rfl⟩
 have A:∀k,k<(n+1)*i0.size->(X.cell? ⟨b,off+k,none⟩).isSome=true:=λk hk=>by
  rw[y];exact isSome_setCells b _ _ _ (λj E=>by rw[cz];exact r _ aa) _ (r k hk)
 have S:∀(W:World),(∀x,W.cell? x=X.cell? x)->(∀x,W.frozen? x=X.frozen? x)->∀ty H,(Builtin.copy_ #[tS,tS] ty #[.slice (some ⟨b,off+i*i0.size,none⟩) (n+1-i) H,.slice (some ⟨K,l,none⟩) 1 Y]).run P W = .ok (goInt 1) (W.setCells b (off+i*i0.size) vs):=λW U hWf ty H =>
  mo W tS tS ty tE b (off+i*i0.size) (n+1-i) H ⟨K,l,none⟩ 1 Y vs i0 1 L.tS L.i (by simp only[gB];split<;>omega) (by rw[N,dh])
   (λj v E=>by
    rw[Addr.add_lit,U,y,World.cell?_setCells_out b _ _ _ _ (λh _=>absurd h Z)]
    exact M j v E)
   (λj E=>by rw[U,cz];exact A _ (by have:=o i aa;omega)) (λj E=>by rw[hWf,y,World.frozen?_setCells,cz];exact G _ (by have:=o i aa;omega)) h1v
 rw[<-y]at F;clear r G Q M o O Wm hi1 T N A
 go_enter hf,pL _ _ _ _ _ _ _ _ _
 go_wp2_with (simp only[hov])
 go_region_law_o (refine rP rfl _ _ tS tS rfl _ _ (by simp[Act.eval,Act.put]) (by simp[Act.eval,Act.put]) (F _ _ _) ?_)
 go_wp2_with (at_builtin;refine nD _ rfl _ _ tS tS rfl _ _ rfl rfl (S _ (λ_=>rfl) (λ_=>rfl) _ _) ?_)
 go_ret
 exact⟨rfl,w.drawn+1,rfl⟩
set_option maxHeartbeats 4000000 in
set_option maxRecDepth 100000 in
def Nh(L:R8 P f tS tI tB tE t0 fO fR i0 z)(b off n i O o vc:Nat)(N c2 vs:List Value)(w:World)(hi:i<n)(ad2:(n+1)*i0.bytes<=140737488355328)(akz:n+1<=140737488355328)
  (M:N.length=i*i0.size) (Z:c2.length=(n-i)*i0.size) (hvl:vs.length=i0.size)
  (hs1:∀j v,N[j]? = some v->w.cell? ⟨b,off+j,none⟩=some v) (X:∀j v,c2[j]? = some v->w.cell? ⟨b,off+i*i0.size+j,none⟩=some v)
  (U:∀j v,vs[j]? = some v->w.cell? ⟨O,o+j,none⟩=some v) (h1c:∀v∈c2,v.oneCell'=true) (h1v:∀v∈vs,v.oneCell'=true) :
  Calls P f #[.slice (some ⟨b,off,none⟩) n n,.int .i64 i,.slice (some ⟨O,o,none⟩) 1 vc] w λe w' =>
   ∃(G q:Nat) (l:Array Value),n+1<=G/\l.size=G*i0.size/\(∀j,j<i*i0.size->l[j]? = N[j]?)/\e = .returned (.slice (some ⟨w.heap.size,0,none⟩) (n+1) G)/\
   w'=(({w with drawn:=q}.alloc (.cells l tE)).setCells w.heap.size (i*i0.size) vs).setCells w.heap.size ((i+1)*i0.size) c2:=by
 have mixed:=L.mixed;have tS':=L.tS;have tI':=L.tI;have tB':=L.tB;have t0':=L.t0;have uS:=run_underlying (w:=w) L.tS;have zE:=rR L.i;let⟨nm,ta,hf,_⟩:=L.f;have Hw:¬((i:Int)=(n:Int)):=aa
 have hz3:(n:Int)<(n:Int)+1:=aa
 have Q:=L.pos
 have E:∀x,x+1<=n+1->x*i0.size+i0.size<=(n+1)*i0.size:=λx hx=>by
  have:=bl i0.size hx;rwa [bL,dh]at this
 have hm0:=E 0 aa
 have hmi:=E i aa
 have hbw:b<w.heap.size:=by
  have h0:0<c2.length:=by rw[Z];exact Nat.mul_pos aa Q
  exact block_lt_of_cell (X 0 _ (aF h0))
 have hvw:O<w.heap.size:=block_lt_of_cell (U 0 _ (aF aa))
 have hkk:(n:Int)+1-(i:Int)=((n+1-i:Nat):Int):=aa
 have Y:i+(n+1-i)=n+1:=aa
 have S:(Builtin.firstCells i0.size i (.slice (some ⟨b,off,none⟩) i n)).run P w.drew = .ok N.toArray w.drew :=
  run_firstCells_some w.drew i0.size i ⟨b,off,none⟩ i n N M (λj v A=>by
   rw[Addr.add_lit];exact hs1 j v A)
 have hb0:(n+1-i)*i0.bytes<=(n+1)*i0.bytes:=bl _ aa
 have K:∀ty,(Builtin.append_ #[tS,tI] ty #[.slice (some ⟨b,off,none⟩) i n,.int .i64 ((n:Int)+1-(i:Int))]).run P w =
   .ok (.slice (some ⟨w.heap.size,0,none⟩) (n+1) (grownCap w (n+1) n tE)) (w.drew.alloc (.cells (N.toArray++Builtin.zeroCells z.cells (n+1-i)++Builtin.zeroCells z.cells (grownCap w (n+1) n tE-(n+1))) tE)):=λty=>by
  have h:=Lib.run_append_grow_zeros w tS tI ty tE i0 _ .i64 .i64 L.tS L.tI L.i L.iz (some ⟨b,off,none⟩) i n N S (n+1-i) aa Q aa aa aa (by rw[Y];exact growslice_fits aa ad2)
  rw[Y]at h;rw[hkk];exact h
 obtain⟨G,hG⟩:∃G,G=grownCap w (n+1) n tE:=⟨_,rfl⟩;obtain⟨l,r⟩:∃l:Array Value,l=N.toArray++Builtin.zeroCells z.cells (n+1-i)++Builtin.zeroCells z.cells (G-(n+1)):=⟨_,rfl⟩;rw[<-hG]at K;rw[<-r]at K;have hGn:n+1<=G:=by rw[hG];exact grownCap_ge w _ _ _
 have hRs:l.size=G*i0.size:=by
  rw[r];simp only[fQ,dU,size_zeroCells,L.zs,M,<-bL]
  congr 1;omega
 have hRl:(n+1)*i0.size<=l.size:=by rw[hRs];exact bl _ hGn
 have hR1:∀j,j<i*i0.size->l[j]? = N[j]? := λj A=>by
  rw[r,Array.append_assoc,cT (by simpa[M]using A)]
  simp
 obtain⟨H,y⟩:∃H,H=w.drew.alloc (.cells l tE):=⟨_,rfl⟩;rw[<-y]at K
 have hN:∀j,j<(n+1)*i0.size->(H.cell? ⟨w.heap.size,j,none⟩).isSome=true:=λj A=>by
  rw[y,World.cell?_alloc_at (w:=w.drew) l _ w.heap.size j rfl,bT aa];rfl
 have hNf:∀j,H.frozen? ⟨w.heap.size,j,none⟩=false:=λj=>by rw[y];exact World.frozen?_alloc_at (w:=w.drew) l _ w.heap.size j rfl
 have hOb:∀j v,w.cell? ⟨b,j,none⟩=some v->H.cell? ⟨b,j,none⟩=some v:=λj v h=>by rw[y,World.cell?_alloc_past (w:=w.drew) _ b j hbw];exact h
 have hOv:∀j v,w.cell? ⟨O,j,none⟩=some v->H.cell? ⟨O,j,none⟩=some v:=λj v h=>by rw[y,World.cell?_alloc_past (w:=w.drew) _ O j hvw];exact h
 have hsum:(i+1)*i0.size+(n-i)*i0.size=(n+1)*i0.size:=by rw[<-bL];congr 1;omega
 have ajE:∀(W:World),(∀x,W.cell? x=H.cell? x)->(∀x,W.frozen? x=H.frozen? x)->∀ty dc,(Builtin.copy_ #[tS,tS] ty #[.slice (some ⟨w.heap.size,i*i0.size,none⟩) (n+1-i) dc,.slice (some ⟨O,o,none⟩) 1 vc]).run P W = .ok (goInt 1) (W.setCells w.heap.size (i*i0.size) vs):=λW F hWf ty dc =>
  mo W tS tS ty tE w.heap.size (i*i0.size) (n+1-i) dc ⟨O,o,none⟩ 1 vc vs i0 1 L.tS L.i (by simp only[gB];split<;>omega) (by rw[hvl,dh])
   (λj v A=>by rw[Addr.add_lit,F];exact hOv _ v (U j v A))
   (λj A=>by rw[F];exact hN _ aa) (λj A=>by rw[hWf];exact hNf _) h1v
 have akH:G<=9223372036854775807:=by
  have:=grownCap_le_maxLen w (n+1) n tE (by unfold maxLen;omega)
  rw[<-hG]at this;unfold maxLen at this;omega
 have hGi:¬(G=i):=aa
 have akG:¬(G=i+1):=aa
 have hci:¬(n=i):=aa
 have hbN:b≠w.heap.size:=aa
 have T:∀(W:World),(∀x,W.cell? x=(H.setCells w.heap.size (i*i0.size) vs).cell? x)->(∀x,W.frozen? x=(H.setCells w.heap.size (i*i0.size) vs).frozen? x)->∀ty dc sc,(Builtin.copy_ #[tS,tS] ty #[.slice (some ⟨w.heap.size,(i+1)*i0.size,none⟩) (n-i) dc,.slice (some ⟨b,off+i*i0.size,none⟩) (n-i) sc]).run P W = .ok (goInt ((n-i:Nat):Int)) (W.setCells w.heap.size ((i+1)*i0.size) c2):=λW F hWf ty dc sc =>
  mo W tS tS ty tE w.heap.size ((i+1)*i0.size) (n-i) dc ⟨b,off+i*i0.size,none⟩ (n-i) sc c2 i0 (n-i) L.tS L.i (by simp only[gB];split<;>omega) Z
   (λj v A=>by
    rw[Addr.add_lit,F,World.cell?_setCells_out _ _ _ _ _ (λh _=>absurd h hbN)]
    exact hOb _ v (X j v A))
   (λj A=>by rw[F];exact isSome_setCells _ _ _ _ (λt ht=>hN _ aa) _ (hN _ aa))
   (λj A=>by rw[hWf,World.frozen?_setCells];exact hNf _) h1c
 subst y;have hE1:∀x,((w.alloc (.cells l tE)).drew).cell? x=(w.drew.alloc (.cells l tE)).cell? x:=λx=>rfl
 have hE2:∀x,((w.alloc (.cells l tE)).drew).frozen? x=(w.drew.alloc (.cells l tE)).frozen? x:=λx=>rfl
 have hF1:∀x,(((w.alloc (.cells l tE)).drew.setCells w.heap.size (i*i0.size) vs).drew).cell? x=((w.drew.alloc (.cells l tE)).setCells w.heap.size (i*i0.size) vs).cell? x:=λx=>rfl
 have hF2:∀x,(((w.alloc (.cells l tE)).drew.setCells w.heap.size (i*i0.size) vs).drew).frozen? x=((w.drew.alloc (.cells l tE)).setCells w.heap.size (i*i0.size) vs).frozen? x:=λx=>rfl
 have hw1:IntKind.i64.wrap ((i:Int)+1)=(i:Int)+1:=by rw[IntKind.wrap_i64];omega
 have hw2:IntKind.i64.wrap ((n:Int)+1)=(n:Int)+1:=by rw[IntKind.wrap_i64];omega
 have hw3:IntKind.i64.wrap ((n:Int)+1-i)=(n:Int)+1-i:=by rw[IntKind.wrap_i64];omega
 have hb1:(0:Int)<=(i:Int)+1:=aa
 have hin:i<=n:=aa
 have htn:((i:Int)+1).toNat=i+1:=aa
 have hb3:(i:Int)<=(n:Int):=aa
 refine Calls.mono (R:=λe w'=>e = .returned (.slice (some ⟨w.heap.size,0,none⟩) (n+1) G)/\∃q,w'=(({w with drawn:=q}.alloc (.cells l tE)).setCells w.heap.size (i*i0.size) vs).setCells w.heap.size ((i+1)*i0.size) c2) ?_ ?_
 .clear hkk Y S r hG hRl hs1 X U E hm0 hmi M Z hvl hsum hb0 hN hNf hOb hOv hR1 hRs
  go_enter hf,pL _ _ _ _ _ _ _ _ _
  go_wp2_with (first
   |(at_builtin;refine Lib.wpList_append_run _ rfl _ _ _ _ rfl _ _ rfl rfl _ _ (K _) ?_)
   |(at_builtin;refine nD _ rfl _ _ tS tS rfl _ _ rfl rfl (ajE _ hE1 hE2 _ _) ?_)
   |(at_builtin;refine nD _ rfl _ _ tS tS rfl _ _ rfl rfl (T _ (λ_=>rfl) (λ_=>rfl) _ _ _) ?_))
  go_region_law_o (refine rP rfl _ _ tS tS rfl (.slice (some ⟨w.heap.size,(i+1)*i0.size,none⟩) (n-i) (G-(i+1))) (.slice (some ⟨b,off+i*i0.size,none⟩) (n-i) (n-i)) (by simp[Act.eval,Act.put]) (by simp[Act.eval,Act.put]) (T _ hF1 hF2 tI (G-(i+1)) (n-i)) ?_)
  go_wp2
  go_ret
  exact⟨rfl,w.drawn+1+1,by rw[sV];rfl⟩
 .rintro e w' ⟨he,q,hw⟩
  exact⟨G,q,l,hGn,hRs,hR1,he,hw⟩
set_option maxHeartbeats 4000000 in
set_option maxRecDepth 100000 in
def QD(L:R8 P f tS tI tB tE t0 fO fR i0 z)(a:Option Addr)(n c:Nat)(o:Option Addr)(l:Nat)(w:World)(E:n<=c){r:Value}{h:World}
  (b:∀ty,(Builtin.append_ #[tS,tS] ty #[.slice a n c,.slice o 1 l]).run P w = .ok r h) :
  Calls P f #[.slice a n c,.int .i64 n,.slice o 1 l] w λe w'=>e = .returned r/\w'=h:=by
 have mixed:=L.mixed;have v:=L.tS;have x:=L.tI;have y:=L.tB;have A:=L.t0;have G:=run_underlying (w:=w) L.tS;have F:=rR L.i;let⟨nm,H,q,_⟩:=L.f;cases a with
 |none =>
  go_enter q,pL _ _ _ _ _ _ _ _ _
  go_wp2_with (at_builtin;refine Lib.wpList_append_run _ rfl _ _ _ _ rfl _ _ rfl rfl _ _ (b _) ?_)
  go_ret
  exact⟨rfl,rfl⟩
 |some a =>
  go_enter q,pL _ _ _ _ _ _ _ _ _
  go_wp2_with (at_builtin;refine Lib.wpList_append_run _ rfl _ _ _ _ rfl _ _ rfl rfl _ _ (b _) ?_)
  all_goals (go_ret;exact⟨rfl,rfl⟩)
end Go.Am
