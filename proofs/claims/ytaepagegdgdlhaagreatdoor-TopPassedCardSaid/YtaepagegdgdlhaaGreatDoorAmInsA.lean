/- Part of the proof that TopPassedCard holds. -/
import Derived.Test.YtaepagegdgdlhaaGreatDoorAmCm
import Derived.Shelf.RegionOpenPlain
import Derived.WalkKit
import Derived.Lib.Walk
import Derived.Lib.SliceRun
import Derived.Lib.Overlaps
import Derived.Lib.AppendZerosOnto
import Derived.Laws.Externs
import Derived.Laws.IdiomCopy
import Derived.Laws.NewBlocks
set_option linter.all false
namespace Go.Am
open Go.Shelf Go.RowKit Go.Lib
variable{P:Program}
section
open S
abbrev x0:= "slices.go:136"
abbrev x1:= "slices.go:137"
abbrev x2:= "slices.go:139"
abbrev x3:= "slices.go:140"
abbrev x4:= "slices.go:141"
abbrev x5:= "slices.go:143"
abbrev x6:= "slices.go:144"
abbrev x7:= "slices.go:145"
abbrev x8:= "slices.go:147"
abbrev x9:= "slices.go:152"
abbrev x10:= "slices.go:153"
abbrev Yr:= "slices.go:154"
abbrev x12:= "slices.go:155"
abbrev x13:= "slices.go:157"
abbrev YV:= "slices.go:173"
abbrev Yq:= "slices.go:178"
abbrev x16:= "slices.go:186"
abbrev x17:= "slices.go:193"
abbrev x18:= "slices.go:200"
abbrev x19:= "slices.go:207"
abbrev x20:= "slices.go:214"
def VY(nm:String)(ta:Array TypeId)(tS tI tB tE t0:TypeId)(fO fR:FuncId):Func :=
 V ({name:=nm,origin:= "slices.Insert",targs:=ta,params:=#[tS,tI,tS],resultTypes:=#[tS],nfree:=0,ntmps:=95,results:=#[ResultVar.tmp 6],body:=some ((R 0 #[j 6 (.assign (.const (.slice none 0 0))) tS x0 #[]]).seq ((R 1 #[m 10 0 tS x1 #[],m 11 1 tI x1 #[],j 12 (.slice tS (t 10) (some (t 11)) none none) tS x1 #[d 0,d 1]]).seq ((R 2 #[m 13 2 tS x2 #[],j 14 (k (.builtin .len) #[t 13] #[tS]) tI x2 #[d 0],a 7 14 tI x2 #[d 1,p 0,p 1]]).seq (((R 3 #[m 15 7 tI x3 #[],j 16 (.binOp .eql tI (t 15) (.const (.int .i64 0)) tI) tB x3 #[d 0]]).seq (I (t 16) ((R 4 #[m 17 0 tS x4 #[],a 6 17 tS x4 #[d 0,p 0]]).seq .ret) .skip)).seq ((R 5 #[m 18 0 tS x5 #[],j 19 (k (.builtin .len) #[t 18] #[tS]) tI x5 #[d 0],a 8 19 tI x5 #[d 1,p 0,p 1]]).seq (((R 6 #[m 20 1 tI x6 #[],m 21 8 tI x6 #[],j 22 (.binOp .eql tI (t 20) (t 21) tI) tB x6 #[d 0,d 1]]).seq (I (t 22) ((R 7 #[m 23 0 tS x7 #[],m 24 2 tS x7 #[],j 25 (k (.builtin .append) #[t 23,t 24] #[tS,tS]) tS x7 #[d 0,d 1],a 6 25 tS x7 #[d 2,c 2,p 0,p 1,p 2]]).seq .ret) .skip)).seq (((R 8 #[m 26 8 tI x8 #[],m 27 7 tI x8 #[],j 28 (.binOp .add tI (t 26) (t 27) tI) tI x8 #[d 0,d 1],m 29 0 tS x8 #[],j 30 (k (.builtin .cap) #[t 29] #[tS]) tI x8 #[d 3],j 31 (.binOp .gtr tI (t 28) (t 30) tI) tB x8 #[d 2,d 4]]).seq (I (t 31) ((R 9 #[m 32 0 tS x9 #[],m 33 1 tI x9 #[],j 34 (.slice tS (t 32) none (some (t 33)) none) tS x9 #[d 0,d 1],m 35 8 tI x9 #[],m 36 7 tI x9 #[],j 37 (.binOp .add tI (t 35) (t 36) tI) tI x9 #[d 3,d 4],m 38 1 tI x9 #[],j 39 (.binOp .sub tI (t 37) (t 38) tI) tI x9 #[d 5,d 6],j 40 (k (.builtin .append) #[t 34,t 39] #[tS,tI]) tS x9 #[d 2,d 7],a 9 40 tS x9 #[d 8,c 8,p 0,p 1,p 2,p 3,p 4,p 5,p 6,p 7,p 8]]).seq ((R 10 #[m 41 9 tS x10 #[],m 42 1 tI x10 #[],j 43 (.slice tS (t 41) (some (t 42)) none none) tS x10 #[d 0,d 1],m 44 2 tS x10 #[],j 45 (k (.builtin .copy) #[t 43,t 44] #[tS,tS]) tI x10 #[d 2,d 3]]).seq ((Code.region 11 #[m 46 9 tS Yr #[],m 47 1 tI Yr #[],m 48 7 tI Yr #[],j 49 (.binOp .add tI (t 47) (t 48) tI) tI Yr #[d 1,d 2],j 50 (.slice tS (t 46) (some (t 49)) none none) tS Yr #[d 0,d 3],m 51 0 tS Yr #[],m 52 1 tI Yr #[],j 53 (.slice tS (t 51) (some (t 52)) none none) tS Yr #[d 5,d 6],j 54 (k (.builtin .copy) #[t 50,t 53] #[tS,tS]) tI Yr #[d 4,d 7]] true).seq ((R 12 #[m 55 9 tS x12 #[],a 6 55 tS x12 #[d 0,p 0]]).seq .ret)))) .skip)).seq ((R 13 #[m 56 0 tS x13 #[],m 57 8 tI x13 #[],m 58 7 tI x13 #[],j 59 (.binOp .add tI (t 57) (t 58) tI) tI x13 #[d 1,d 2],j 60 (.slice tS (t 56) none (some (t 59)) none) tS x13 #[d 0,d 3],a 0 60 tS x13 #[d 4,p 0,p 1,p 2,p 3,p 4]]).seq (((R 14 #[m 61 2 tS YV #[],m 62 0 tS YV #[],m 63 1 tI YV #[],m 64 7 tI YV #[],j 65 (.binOp .add tI (t 63) (t 64) tI) tI YV #[d 2,d 3],j 66 (.slice tS (t 62) (some (t 65)) none none) tS YV #[d 1,d 4],j 67 (k (.value (.func fO)) #[t 61,t 66] #[tS,tS]) tB YV #[d 0,d 5],j 68 (.unOp .not tB (t 67)) tB YV #[d 6]]).seq (I (t 68) ((Code.region 15 #[m 69 0 tS Yq #[],m 70 1 tI Yq #[],m 71 7 tI Yq #[],j 72 (.binOp .add tI (t 70) (t 71) tI) tI Yq #[d 1,d 2],j 73 (.slice tS (t 69) (some (t 72)) none none) tS Yq #[d 0,d 3],m 74 0 tS Yq #[],m 75 1 tI Yq #[],j 76 (.slice tS (t 74) (some (t 75)) none none) tS Yq #[d 5,d 6],j 77 (k (.builtin .copy) #[t 73,t 76] #[tS,tS]) tI Yq #[d 4,d 7]] true).seq ((R 16 #[m 78 0 tS x16 #[],m 79 1 tI x16 #[],j 80 (.slice tS (t 78) (some (t 79)) none none) tS x16 #[d 0,d 1],m 81 2 tS x16 #[],j 82 (k (.builtin .copy) #[t 80,t 81] #[tS,tS]) tI x16 #[d 2,d 3]]).seq ((R 17 #[m 83 0 tS x17 #[],a 6 83 tS x17 #[d 0,p 0]]).seq .ret))) .skip)).seq ((R 18 #[m 84 0 tS x18 #[],m 85 8 tI x18 #[],j 86 (.slice tS (t 84) (some (t 85)) none none) tS x18 #[d 0,d 1],m 87 2 tS x18 #[],j 88 (k (.builtin .copy) #[t 86,t 87] #[tS,tS]) tI x18 #[d 2,d 3]]).seq ((R 19 #[m 89 0 tS x19 #[],m 90 1 tI x19 #[],j 91 (.slice tS (t 89) (some (t 90)) none none) tS x19 #[d 0,d 1],m 92 7 tI x19 #[],j 93 (k (.value (.func fR)) #[t 91,t 92] #[tS,tI]) t0 x19 #[d 2,d 3]]).seq ((R 20 #[m 94 0 tS x20 #[],a 6 94 tS x20 #[d 0,p 0]]).seq .ret)))))))))))),norace:=false,file:= "slices/slices.go",endLine:=215,met:=[Departure.appendOfMake],tmpNames:=(["s","i","v","s","i","v","","m","n","s2","","","","","","","","","","","","","","","","","","","","","","","","","","","","","","","","","","","","",""].append ["","","","","","","","","","","","","","","","","","","","","","","","","","","","","","","","","","","","","","","","","","","","","","","",""]).toArray}:Func) (by conv=>lhs;simp only[d,c,g,p,t,k,J,j,m,a,R,I,x0,x1,x2,x3,x4,x5,x6,x7,x8,x9,x10,Yr,x12,x13,YV,Yq,x16,x17,x18,x19,x20])
end
theorem tP(nm:String)(ta:Array TypeId)(tS tI tB tE t0:TypeId)(fO fR:FuncId):(VY nm ta tS tI tB tE t0 fO fR).ntmps=95:=rfl
structure abf(P:Program)(f:FuncId)(tS tI tB tE t0:TypeId)(fO fR:FuncId)(i0:TypeInfo)(z:Value):Prop where
 mixed:P.follows .mixedOrders=true
 f:∃nm ta,P.funcs[f]? = some (VY nm ta tS tI tB tE t0 fO fR)/\(nm == "runtime.NumGoroutine")=false
 o:∃fn,P.funcs[fO]? = some fn/\fn.body=none/\(fn.name == "runtime.NumGoroutine")=false/\Extern.findNext fn=none/\Extern.find fn=some (Extern.SlicesOverlaps.overlaps #[tS,tS] #[tB])
 tS:P.underlying tS=some (.slice tE)
 tI:P.underlying tI=some (.int .i64)
 tB:P.underlying tB=some .bool
 t0:P.underlying t0=some (.tuple #[])
 i:P.info? tE=some i0
 iz:i0.zero=some z
 zs:z.cells.size=i0.size
 pos:0<i0.size
def pJ(w:World)(dT sT ty elem:TypeId)(b o dLen dCap:Nat)(a:Addr)(sLen sCap:Nat)(cs:List Value)(i:TypeInfo)(q:Nat)
  (hu:P.underlying dT=some (.slice elem)) (hs:P.info? elem=some i) (hq:Nat.min sLen dLen=q) (hn:cs.length=q*i.size)
  (hsrc:∀j v,cs[j]? = some v->w.cell? (a.add j)=some v) (hc:∀j,j<cs.length->(w.cell? ⟨b,o+j,none⟩).isSome=true) (hf:∀j,j<cs.length->w.frozen? ⟨b,o+j,none⟩=false) (h1:∀v∈cs,v.oneCell'=true) :
  (Builtin.copy_ #[dT,sT] ty #[.slice (some ⟨b,o,none⟩) dLen dCap,.slice (some a) sLen sCap]).run P w = .ok (goInt q) (w.setCells b o cs):=by
 have hl:=run_loadCells_list (P:=P) w a cs hsrc;have hst:=run_storeCells_cells (P:=P) b o cs 0 w (an hc) (an hf) h1
 subst hq;simp[Builtin.copy_,run_underlying hu,Builtin.lenOf,Builtin.firstCells,sizeOf,typeInfo,hs,<-hn,hl,hst]
def Ii(w:World){o:Oper}{a:Act}{K:Act->World->Prop}{Q:Exit->Act->World->Prop}(d s:Operand)(t t':TypeId)
  (ho:o.op = .call {callee:=.builtin .copy,args := #[d,s],argTypes := #[t,t']}) (v u:Value) (hd:a.eval d=v) (hs:a.eval s=u) {v':Value} {w':World}
  (hr:(Builtin.copy_ #[t,t'] o.type #[v,u]).run P w = .ok v' w') (h:K (a.put o.dst v') w'):o.wp P a w K Q:=by
 unfold Oper.wp execOp;simp only[ho,resolve,invoke,builtin,Sem.run_bind,Sem.run_pure,Result.andThen_ok,List.map_toArray,bF,bQ,hd,hs,hr];exact h
def qD(w:World){ops:Array Oper}{rest:List Oper}{o:Oper}{a:Act}{Q:Exit->Act->World->Prop}(hgd:o.guard=none)(d s:Operand)(t t':TypeId)
  (ho:o.op = .call {callee:=.builtin .copy,args := #[d,s],argTypes := #[t,t']}) (v u:Value) (hd:a.eval d=v) (hs:a.eval s=u) {v':Value} {w':World}
  (hr:(Builtin.copy_ #[t,t'] o.type #[v,u]).run P w = .ok v' w') (h:wpList P ops Q rest (a.put o.dst v') w'):wpList P ops Q (o::rest) a w :=
 wpList_plain hgd λ_ hK=>Ii w d s t t' ho v u hd hs hr (hK _ _ h)
def wI{ops:Array Oper}{o:Oper}{a:Act}{w:World}{K:Act->World->Prop}{Q:Exit->Act->World->Prop}{E:Prop}
  (hg:o.guard=none) (d x:Operand) (dT sT:TypeId) (hop:o.op=Op.call {callee:=Callee.builtin Builtin.copy,args := #[d,x],argTypes := #[dT,sT]})
  (v u:Value) (hd:a.eval d=v) (hx:a.eval x=u) {v':Value} {w':World} (hr:(Builtin.copy_ #[dT,sT] o.type #[v,u]).run P w = .ok v' w') (hK:K (a.put o.dst v') w') :
  if Region.wanted o (yielded ops a.tmps)=true then Oper.wp P o a w K Q else E:=by
 have hw:Region.wanted o (yielded ops a.tmps)=true:=by simp[Region.wanted,hg]
 rw[if_pos hw];unfold Oper.wp;simp[execOp,hop,resolve,invoke,builtin,hd,hx,hr,Result.andThen];exact hK
def isSome_setCells(b:Nat)(vs:List Value)(o:Nat)(w:World)(h:∀j,j<vs.length->(w.cell? ⟨b,o+j,none⟩).isSome=true)(k:Nat)(hk:(w.cell? ⟨b,k,none⟩).isSome=true):((w.setCells b o vs).cell? ⟨b,k,none⟩).isSome=true:=by
 by_cases hin:o<=k/\k<o+vs.length
 .have:=World.cell?_setCells_in b vs o w h (k-o) aa
  rw[show o+(k-o)=k by omega]at this
  rw[this];rfl
 .rw[World.cell?_setCells_out b vs o w ⟨b,k,none⟩ (λ_ _=>by show k<o\/o+vs.length<=k;omega)]
  exact hk
def xw(b:Nat):∀(vs:List Value)(o:Nat)(w:World),(w.setCells b o vs).drew=w.drew.setCells b o vs
 | [],_,_=>rfl
 |v::r,o,w=>by rw[World.setCells,World.setCells,xw b r];rfl
def wO{t:TypeId}{i:TypeInfo}(h:P.info? t=some i)(w:World):(sizeOf t).run P w = .ok i.size w:=by simp[sizeOf,typeInfo,h]
variable{f tS tI tB tE t0 fO fR:Nat}{i0:TypeInfo}{z:Value}
set_option maxHeartbeats 4000000 in
set_option maxRecDepth 100000 in
def SR(L:abf P f tS tI tB tE t0 fO fR i0 z)(b off n c i vb Gg vc:Nat)(cs vs:List Value)(w:World)(hi:i<n)(hroom:n+1<=c)(asO:n+1<=9223372036854775807)(hvb:vb≠b)
  (oZ:cs.length=(n-i)*i0.size) (hvl:vs.length=i0.size)
  (hcs:∀j v,cs[j]? = some v->w.cell? ⟨b,off+i*i0.size+j,none⟩=some v) (hsp:∀j,j<(n+1)*i0.size->(w.cell? ⟨b,off+j,none⟩).isSome=true) (hfz:∀j,j<(n+1)*i0.size->w.frozen? ⟨b,off+j,none⟩=false)
  (hvs:∀j v,vs[j]? = some v->w.cell? ⟨vb,Gg+j,none⟩=some v) (h1c:∀v∈cs,v.oneCell'=true) (h1v:∀v∈vs,v.oneCell'=true)
  (hov:∀lb cb,(callFunc fO #[.slice (some ⟨vb,Gg,none⟩) 1 vc,.slice (some ⟨b,off+(i+1)*i0.size,none⟩) lb cb]).run P w = .ok (.value (.bool false)) w) :
  Calls P f #[.slice (some ⟨b,off,none⟩) n c,.int .i64 i,.slice (some ⟨vb,Gg,none⟩) 1 vc] w λe w' =>
   e = .returned (.slice (some ⟨b,off,none⟩) (n+1) c)/\∃q,w'=({w with drawn:=q}.setCells b (off+(i+1)*i0.size) cs).setCells b (off+i*i0.size) vs:=by
 have mixed:=L.mixed;have tS':=L.tS;have tI':=L.tI;have tB':=L.tB;have t0':=L.t0;have uS:=run_underlying (w:=w) L.tS;have zE:=wO L.i;let⟨nm,ta,hf,_⟩:=L.f;have Qm:¬((i:Int)=(n:Int)):=aa
 obtain⟨sz,hsz⟩:∃sz,sz=i0.size:=⟨_,rfl⟩;have hw1:IntKind.i64.wrap ((i:Int)+1)=(i:Int)+1:=by rw[IntKind.wrap_i64];omega
 have OE:IntKind.i64.wrap ((n:Int)+1)=(n:Int)+1:=by rw[IntKind.wrap_i64];omega
 have zW:(0:Int)<=(i:Int)+1:=aa
 have hin:i<=n:=aa
 have htn:((i:Int)+1).toNat=i+1:=aa
 have xl:¬(c=i+1):=aa
 have Gz:(i:Int)<=(n:Int)+1:=aa
 have hb4:¬(c=i):=aa
 have hmul:∀x,x+1<=n+1->x*i0.size+i0.size<=(n+1)*i0.size:=λx hx=>by
  have:=bD i0.size hx;rwa [bR,dL]at this
 have hsum:i*i0.size+(n-i)*i0.size=n*i0.size:=by rw[<-bR];congr 1;omega
 have hn1:(n+1)*i0.size=n*i0.size+i0.size:=by rw[bR,dL]
 have hi1:(i+1)*i0.size=i*i0.size+i0.size:=by rw[bR,dL]
 have akT:∀ty dc sc,(Builtin.copy_ #[tS,tS] ty #[.slice (some ⟨b,off+(i+1)*i0.size,none⟩) (n-i) dc,.slice (some ⟨b,off+i*i0.size,none⟩) (n+1-i) sc]).run P w.drew = .ok (goInt ((n-i:Nat):Int)) (w.drew.setCells b (off+(i+1)*i0.size) cs):=λty dc sc =>
  pJ w.drew tS tS ty tE b (off+(i+1)*i0.size) (n-i) dc ⟨b,off+i*i0.size,none⟩ (n+1-i) sc cs i0 (n-i) L.tS L.i (by simp only[ji];split<;>omega) oZ
   (λj v hj=>by rw[Addr.add_lit];exact hcs j v hj)
   (λj hj=>by rw[cz];exact hsp _ aa) (λj hj=>by rw[cz];exact hfz _ aa) h1c
 obtain⟨W1,Ga⟩:∃W1,W1=w.drew.setCells b (off+(i+1)*i0.size) cs:=⟨_,rfl⟩
 have akq:∀k,k<(n+1)*i0.size->(W1.cell? ⟨b,off+k,none⟩).isSome=true:=λk hk=>by
  rw[Ga];exact isSome_setCells b _ _ _ (λj hj=>by rw[cz];exact hsp _ aa) _ (hsp k hk)
 have ap7:∀(W:World),(∀x,W.cell? x=W1.cell? x)->(∀x,W.frozen? x=W1.frozen? x)->∀ty dc,(Builtin.copy_ #[tS,tS] ty #[.slice (some ⟨b,off+i*i0.size,none⟩) (n+1-i) dc,.slice (some ⟨vb,Gg,none⟩) 1 vc]).run P W = .ok (goInt 1) (W.setCells b (off+i*i0.size) vs):=λW hWc hWf ty dc =>
  pJ W tS tS ty tE b (off+i*i0.size) (n+1-i) dc ⟨vb,Gg,none⟩ 1 vc vs i0 1 L.tS L.i (by simp only[ji];split<;>omega) (by rw[hvl,dL])
   (λj v hj=>by
    rw[Addr.add_lit,hWc,Ga,World.cell?_setCells_out b _ _ _ _ (λh _=>absurd h hvb)]
    exact hvs j v hj)
   (λj hj=>by rw[hWc,cz];exact akq _ (by have:=hmul i aa;omega)) (λj hj=>by rw[hWf,Ga,World.frozen?_setCells,cz];exact hfz _ (by have:=hmul i aa;omega)) h1v
 rw[<-Ga]at akT;clear hsp hfz hcs hvs hmul hsum hn1 hi1 oZ hvl akq
 go_enter hf,tP _ _ _ _ _ _ _ _ _
 go_wp2_with (simp only[hov])
 go_region_law_o (refine wI rfl _ _ tS tS rfl _ _ (by simp[Act.eval,Act.put]) (by simp[Act.eval,Act.put]) (akT _ _ _) ?_)
 go_wp2_with (at_builtin;refine qD _ rfl _ _ tS tS rfl _ _ rfl rfl (ap7 _ (λ_=>rfl) (λ_=>rfl) _ _) ?_)
 go_ret
 exact⟨rfl,w.drawn+1,rfl⟩
set_option maxHeartbeats 4000000 in
set_option maxRecDepth 100000 in
def VV(L:abf P f tS tI tB tE t0 fO fR i0 z)(b off n i vb Gg vc:Nat)(c1 c2 vs:List Value)(w:World)(hi:i<n)(aai:(n+1)*i0.bytes<=140737488355328)(asP:n+1<=140737488355328)
  (hc1:c1.length=i*i0.size) (yC:c2.length=(n-i)*i0.size) (hvl:vs.length=i0.size)
  (hs1:∀j v,c1[j]? = some v->w.cell? ⟨b,off+j,none⟩=some v) (hs2:∀j v,c2[j]? = some v->w.cell? ⟨b,off+i*i0.size+j,none⟩=some v)
  (hvs:∀j v,vs[j]? = some v->w.cell? ⟨vb,Gg+j,none⟩=some v) (h1c:∀v∈c2,v.oneCell'=true) (h1v:∀v∈vs,v.oneCell'=true) :
  Calls P f #[.slice (some ⟨b,off,none⟩) n n,.int .i64 i,.slice (some ⟨vb,Gg,none⟩) 1 vc] w λe w' =>
   ∃(G q:Nat) (yo:Array Value),n+1<=G/\yo.size=G*i0.size/\(∀j,j<i*i0.size->yo[j]? = c1[j]?)/\e = .returned (.slice (some ⟨w.heap.size,0,none⟩) (n+1) G)/\
   w'=(({w with drawn:=q}.alloc (.cells yo tE)).setCells w.heap.size (i*i0.size) vs).setCells w.heap.size ((i+1)*i0.size) c2:=by
 have mixed:=L.mixed;have tS':=L.tS;have tI':=L.tI;have tB':=L.tB;have t0':=L.t0;have uS:=run_underlying (w:=w) L.tS;have zE:=wO L.i;let⟨nm,ta,hf,_⟩:=L.f;have Qm:¬((i:Int)=(n:Int)):=aa
 have hz3:(n:Int)<(n:Int)+1:=aa
 have hpos:=L.pos
 have hmul:∀x,x+1<=n+1->x*i0.size+i0.size<=(n+1)*i0.size:=λx hx=>by
  have:=bD i0.size hx;rwa [bR,dL]at this
 have hm0:=hmul 0 aa
 have Qo:=hmul i aa
 have hbw:b<w.heap.size:=by
  have h0:0<c2.length:=by rw[yC];exact Nat.mul_pos aa hpos
  exact block_lt_of_cell (hs2 0 _ (aG h0))
 have YC:vb<w.heap.size:=block_lt_of_cell (hvs 0 _ (aG aa))
 have hkk:(n:Int)+1-(i:Int)=((n+1-i:Nat):Int):=aa
 have hik:i+(n+1-i)=n+1:=aa
 have hold:(Builtin.firstCells i0.size i (.slice (some ⟨b,off,none⟩) i n)).run P w.drew = .ok c1.toArray w.drew :=
  run_firstCells_some w.drew i0.size i ⟨b,off,none⟩ i n c1 hc1 (λj v hj=>by
   rw[Addr.add_lit];exact hs1 j v hj)
 have hb0:(n+1-i)*i0.bytes<=(n+1)*i0.bytes:=bD _ aa
 have hrz:∀ty,(Builtin.append_ #[tS,tI] ty #[.slice (some ⟨b,off,none⟩) i n,.int .i64 ((n:Int)+1-(i:Int))]).run P w =
   .ok (.slice (some ⟨w.heap.size,0,none⟩) (n+1) (grownCap w (n+1) n tE)) (w.drew.alloc (.cells (c1.toArray++Builtin.zeroCells z.cells (n+1-i)++Builtin.zeroCells z.cells (grownCap w (n+1) n tE-(n+1))) tE)):=λty=>by
  have h:=Lib.run_append_grow_zeros w tS tI ty tE i0 _ .i64 .i64 L.tS L.tI L.i L.iz (some ⟨b,off,none⟩) i n c1 hold (n+1-i) aa hpos aa aa aa (by rw[hik];exact growslice_fits aa aai)
  rw[hik]at h;rw[hkk];exact h
 obtain⟨G,hG⟩:∃G,G=grownCap w (n+1) n tE:=⟨_,rfl⟩;obtain⟨yo,aaj⟩:∃yo:Array Value,yo=c1.toArray++Builtin.zeroCells z.cells (n+1-i)++Builtin.zeroCells z.cells (G-(n+1)):=⟨_,rfl⟩;rw[<-hG]at hrz;rw[<-aaj]at hrz;have hGn:n+1<=G:=by rw[hG];exact grownCap_ge w _ _ _
 have hRs:yo.size=G*i0.size:=by
  rw[aaj];simp only[iJ,eZ,size_zeroCells,L.zs,hc1,<-bR]
  congr 1;omega
 have hRl:(n+1)*i0.size<=yo.size:=by rw[hRs];exact bD _ hGn
 have hR1:∀j,j<i*i0.size->yo[j]? = c1[j]? := λj hj=>by
  rw[aaj,Array.append_assoc,cR (by simpa[hc1]using hj)]
  simp
 obtain⟨W1,Ga⟩:∃W1,W1=w.drew.alloc (.cells yo tE):=⟨_,rfl⟩;rw[<-Ga]at hrz
 have hN:∀j,j<(n+1)*i0.size->(W1.cell? ⟨w.heap.size,j,none⟩).isSome=true:=λj hj=>by
  rw[Ga,World.cell?_alloc_at (w:=w.drew) yo _ w.heap.size j rfl,cE aa];rfl
 have hNf:∀j,W1.frozen? ⟨w.heap.size,j,none⟩=false:=λj=>by rw[Ga];exact World.frozen?_alloc_at (w:=w.drew) yo _ w.heap.size j rfl
 have hOb:∀j v,w.cell? ⟨b,j,none⟩=some v->W1.cell? ⟨b,j,none⟩=some v:=λj v h=>by rw[Ga,World.cell?_alloc_past (w:=w.drew) _ b j hbw];exact h
 have hOv:∀j v,w.cell? ⟨vb,j,none⟩=some v->W1.cell? ⟨vb,j,none⟩=some v:=λj v h=>by rw[Ga,World.cell?_alloc_past (w:=w.drew) _ vb j YC];exact h
 have hsum:(i+1)*i0.size+(n-i)*i0.size=(n+1)*i0.size:=by rw[<-bR];congr 1;omega
 have ap6:∀(W:World),(∀x,W.cell? x=W1.cell? x)->(∀x,W.frozen? x=W1.frozen? x)->∀ty dc,(Builtin.copy_ #[tS,tS] ty #[.slice (some ⟨w.heap.size,i*i0.size,none⟩) (n+1-i) dc,.slice (some ⟨vb,Gg,none⟩) 1 vc]).run P W = .ok (goInt 1) (W.setCells w.heap.size (i*i0.size) vs):=λW hWc hWf ty dc =>
  pJ W tS tS ty tE w.heap.size (i*i0.size) (n+1-i) dc ⟨vb,Gg,none⟩ 1 vc vs i0 1 L.tS L.i (by simp only[ji];split<;>omega) (by rw[hvl,dL])
   (λj v hj=>by rw[Addr.add_lit,hWc];exact hOv _ v (hvs j v hj))
   (λj hj=>by rw[hWc];exact hN _ aa) (λj hj=>by rw[hWf];exact hNf _) h1v
 have as0:G<=9223372036854775807:=by
  have:=grownCap_le_maxLen w (n+1) n tE (by unfold maxLen;omega)
  rw[<-hG]at this;unfold maxLen at this;omega
 have hGi:¬(G=i):=aa
 have asZ:¬(G=i+1):=aa
 have S7:¬(n=i):=aa
 have hbN:b≠w.heap.size:=aa
 have akS:∀(W:World),(∀x,W.cell? x=(W1.setCells w.heap.size (i*i0.size) vs).cell? x)->(∀x,W.frozen? x=(W1.setCells w.heap.size (i*i0.size) vs).frozen? x)->∀ty dc sc,(Builtin.copy_ #[tS,tS] ty #[.slice (some ⟨w.heap.size,(i+1)*i0.size,none⟩) (n-i) dc,.slice (some ⟨b,off+i*i0.size,none⟩) (n-i) sc]).run P W = .ok (goInt ((n-i:Nat):Int)) (W.setCells w.heap.size ((i+1)*i0.size) c2):=λW hWc hWf ty dc sc =>
  pJ W tS tS ty tE w.heap.size ((i+1)*i0.size) (n-i) dc ⟨b,off+i*i0.size,none⟩ (n-i) sc c2 i0 (n-i) L.tS L.i (by simp only[ji];split<;>omega) yC
   (λj v hj=>by
    rw[Addr.add_lit,hWc,World.cell?_setCells_out _ _ _ _ _ (λh _=>absurd h hbN)]
    exact hOb _ v (hs2 j v hj))
   (λj hj=>by rw[hWc];exact isSome_setCells _ _ _ _ (λt ht=>hN _ aa) _ (hN _ aa))
   (λj hj=>by rw[hWf,World.frozen?_setCells];exact hNf _) h1c
 subst Ga;have hE1:∀x,((w.alloc (.cells yo tE)).drew).cell? x=(w.drew.alloc (.cells yo tE)).cell? x:=λx=>rfl
 have hE2:∀x,((w.alloc (.cells yo tE)).drew).frozen? x=(w.drew.alloc (.cells yo tE)).frozen? x:=λx=>rfl
 have hF1:∀x,(((w.alloc (.cells yo tE)).drew.setCells w.heap.size (i*i0.size) vs).drew).cell? x=((w.drew.alloc (.cells yo tE)).setCells w.heap.size (i*i0.size) vs).cell? x:=λx=>rfl
 have hF2:∀x,(((w.alloc (.cells yo tE)).drew.setCells w.heap.size (i*i0.size) vs).drew).frozen? x=((w.drew.alloc (.cells yo tE)).setCells w.heap.size (i*i0.size) vs).frozen? x:=λx=>rfl
 have hw1:IntKind.i64.wrap ((i:Int)+1)=(i:Int)+1:=by rw[IntKind.wrap_i64];omega
 have OE:IntKind.i64.wrap ((n:Int)+1)=(n:Int)+1:=by rw[IntKind.wrap_i64];omega
 have hw3:IntKind.i64.wrap ((n:Int)+1-i)=(n:Int)+1-i:=by rw[IntKind.wrap_i64];omega
 have zW:(0:Int)<=(i:Int)+1:=aa
 have hin:i<=n:=aa
 have htn:((i:Int)+1).toNat=i+1:=aa
 have Gz:(i:Int)<=(n:Int):=aa
 refine Calls.mono (R:=λe w'=>e = .returned (.slice (some ⟨w.heap.size,0,none⟩) (n+1) G)/\∃q,w'=(({w with drawn:=q}.alloc (.cells yo tE)).setCells w.heap.size (i*i0.size) vs).setCells w.heap.size ((i+1)*i0.size) c2) ?_ ?_
 .clear hkk hik hold aaj hG hRl hs1 hs2 hvs hmul hm0 Qo hc1 yC hvl hsum hb0 hN hNf hOb hOv hR1 hRs
  go_enter hf,tP _ _ _ _ _ _ _ _ _
  go_wp2_with (first
   |(at_builtin;refine Lib.wpList_append_run _ rfl _ _ _ _ rfl _ _ rfl rfl _ _ (hrz _) ?_)
   |(at_builtin;refine qD _ rfl _ _ tS tS rfl _ _ rfl rfl (ap6 _ hE1 hE2 _ _) ?_)
   |(at_builtin;refine qD _ rfl _ _ tS tS rfl _ _ rfl rfl (akS _ (λ_=>rfl) (λ_=>rfl) _ _ _) ?_))
  go_region_law_o (refine wI rfl _ _ tS tS rfl (.slice (some ⟨w.heap.size,(i+1)*i0.size,none⟩) (n-i) (G-(i+1))) (.slice (some ⟨b,off+i*i0.size,none⟩) (n-i) (n-i)) (by simp[Act.eval,Act.put]) (by simp[Act.eval,Act.put]) (akS _ hF1 hF2 tI (G-(i+1)) (n-i)) ?_)
  go_wp2
  go_ret
  exact⟨rfl,w.drawn+1+1,by rw[xw];rfl⟩
 .rintro e w' ⟨he,q,hw⟩
  exact⟨G,q,yo,hGn,hRs,hR1,he,hw⟩
set_option maxHeartbeats 4000000 in
set_option maxRecDepth 100000 in
def ZY(L:abf P f tS tI tB tE t0 fO fR i0 z)(a:Option Addr)(n c:Nat)(va:Option Addr)(vc:Nat)(w:World)(hnc:n<=c){r:Value}{w1:World}
  (hap:∀ty,(Builtin.append_ #[tS,tS] ty #[.slice a n c,.slice va 1 vc]).run P w = .ok r w1) :
  Calls P f #[.slice a n c,.int .i64 n,.slice va 1 vc] w λe w'=>e = .returned r/\w'=w1:=by
 have mixed:=L.mixed;have tS':=L.tS;have tI':=L.tI;have tB':=L.tB;have t0':=L.t0;have uS:=run_underlying (w:=w) L.tS;have zE:=wO L.i;let⟨nm,ta,hf,_⟩:=L.f;cases a with
 |none =>
  go_enter hf,tP _ _ _ _ _ _ _ _ _
  go_wp2_with (at_builtin;refine Lib.wpList_append_run _ rfl _ _ _ _ rfl _ _ rfl rfl _ _ (hap _) ?_)
  go_ret
  exact⟨rfl,rfl⟩
 |some a =>
  go_enter hf,tP _ _ _ _ _ _ _ _ _
  go_wp2_with (at_builtin;refine Lib.wpList_append_run _ rfl _ _ _ _ rfl _ _ rfl rfl _ _ (hap _) ?_)
  all_goals (go_ret;exact⟨rfl,rfl⟩)
end Go.Am
