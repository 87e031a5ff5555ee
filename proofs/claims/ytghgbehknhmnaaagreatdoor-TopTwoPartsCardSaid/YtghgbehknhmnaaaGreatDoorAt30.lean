/- Part of the proof that TopTwoPartsCard holds. -/
import Derived.Test.YtghgbehknhmnaaaGreatDoorProg
import Derived.Test.YtghgbehknhmnaaaGreatDoorAmKe
import Derived.WalkKit
import Derived.LaidEql
import Derived.Stop.Asserts
import Derived.RowKitTokens
set_option linter.all false
namespace Go.Proofs.YtghgbehknhmnaaaGreatDoor
open Go.Am Go.Proofs Go.RowKit Go.Extern.Stop Go.Stop Go.Extern
def YR(t:Value)(w:World):Calls Tryz.prog 24 #[.nilIface,t] w λe w'=>e = .returned (.bool false)/\w'=w:=by
 go_enter Tryz.func24,Tryz.ntmps24
 go_wp2
 go_ret
 exact⟨rfl,rfl⟩
abbrev rH(t:TypeId):Value:=.agg #[.pointer (some ⟨2,t,none⟩)]
abbrev rV(t:TypeId)(a:Addr)(f:Int):Value:=.agg #[.pointer (some ⟨2,t,none⟩),.pointer (some a),.int .u64 f]
abbrev Je:=ReflectliteType.abiMethod λt=>(λa:Nat=>Value.int IntKind.u8 (a:Int)) <$> Rtype.kind t
def I6(h:Value)(w:World):(Go.method 518 198 (.agg #[h]) "Kind").run Tryz.prog w = .ok (350,h) w:=aj
def I8(h:Value)(w:World):(Go.method 518 198 (.agg #[h]) "Elem").run Tryz.prog w = .ok (361,.agg #[h]) w:=aj
def I7(h:Value)(w:World):(Go.method 518 198 (.agg #[h]) "Implements").run Tryz.prog w = .ok (362,.agg #[h]) w:=aj
def I9(h:Value)(w:World):(Go.method 518 198 (.agg #[h]) "AssignableTo").run Tryz.prog w = .ok (359,.agg #[h]) w:=aj
theorem rlm(z:Sem Value)(f:TypeId->Addr->Nat->Nat->Sem Value)(v:Value):
  ReflectliteValue.method z f #[v]=(do match<-ReflectliteValue.parts v with | none=>z | some (t,a,b)=>f t a b (b%32)):=rfl
theorem rls(v x:Value):ReflectliteValue.set #[v,x]=(do
  let (some (dst,a,i),some (h,b,_)):=(<-ReflectliteValue.parts v,<-ReflectliteValue.parts x)
   |unsupported (.noEntry "extern/(internal/reflectlite.Value).Set.zeroValue")
  if i / ReflectliteValue.flagAddr%2==0 then unsupported (.noEntry "extern/(internal/reflectlite.Value).Set.unaddressable")
  let val<-loadVar h b
  if<-Rtype.directlyAssignable dst h then storeVar dst a val
  else if<-Rtype.implements dst h then
   if (<-Rtype.kind h)==20 then
    match val with
    | .nilIface=>unsupported (.noEntry "extern/reflectlite: a nil value of one interface type handed on as a value of another")
    |_=>storeVar dst a val
   else storeVar dst a (.iface h val)
  else panicString ("reflectlite.Set: value of type " ++ (<-Rtype.spelt h) ++ " is not assignable to type " ++ (<-Rtype.spelt dst))
  pure (.tuple #[])):=rfl
def JW(t:Addr)(w:World):(ReflectliteValue.unpack (.iface 99 (.pointer (some t)))).run Tryz.prog w = .ok (rV 99 ⟨w.heap.size,0,none⟩ 150) (w.alloc (.cells #[.pointer (some t)] 99)):=aj
def type99(a:Addr)(w:World):(ReflectliteValue.methodAny (ReflectliteValue.valueError "reflectlite.Value.Type" 0) (λt _ _ _=>ReflectliteType.toType t) #[rV 99 a 150]).run Tryz.prog w = .ok (.iface 198 (rH 99)) w:=aj
def Wi(w:World):(Je #[.pointer (some ⟨2,99,none⟩)]).run Tryz.prog w = .ok (.int .u8 22) w:=aj
def Wj(w:World):(Je #[.pointer (some ⟨2,97,none⟩)]).run Tryz.prog w = .ok (.int .u8 25) w:=aj
def IY(a:Addr)(w:World):(ReflectliteValue.parts (rV 99 a 150)).run Tryz.prog w = .ok (some (99,a,150)) w:=aj
def QT(a p:Addr)(W:World)(b:W.cell? a=some (.pointer (some p))):
  (ReflectliteValue.method (ReflectliteValue.valueError "reflectlite.Value.IsNil" 0) ReflectliteValue.isNil #[rV 99 a 150]).run Tryz.prog W = .ok (.bool false) W:=by
 rw[rlm];simp only[Sem.run_bind,IY,Result.andThen];simp[ReflectliteValue.isNil,loadVar,isAgg,underlying,Tryz.underlying99,b,Result.andThen]
def Xw(w:World):(ReflectliteType.method ReflectliteType.elem #[rH 99]).run Tryz.prog w = .ok (.iface 198 (rH 97)) w:=aj
def DY(w:World):(ReflectliteType.relation "Implements" ReflectliteType.implements_ #[rH 97,.iface 198 (rH 74)]).run Tryz.prog w = .ok (.bool true) w:=aj
def LX(v:Value)(w:World):(ReflectliteType.typeOf #[.iface 97 v]).run Tryz.prog w = .ok (.iface 198 (rH 97)) w:=aj
def Eu(w:World):(ReflectliteType.relation "AssignableTo" ReflectliteType.assignableTo #[rH 97,.iface 198 (rH 97)]).run Tryz.prog w = .ok (.bool true) w:=aj
def JX(n:Int)(w:World):(ReflectliteValue.unpack (.iface 97 (.agg #[.int .i64 n]))).run Tryz.prog w = .ok (rV 97 ⟨w.heap.size,0,none⟩ 153) (w.alloc (.cells #[.int .i64 n] 97)):=aj
def Oy(w:World):(Rtype.elem? 99).run Tryz.prog w = .ok (some 97) w:=aj
def ai6(p:Addr)(w:World):(ReflectliteValue.mk 97 p ReflectliteValue.flagAddr).run Tryz.prog w = .ok (rV 97 p 409) w:=aj
def Rx(a p:Addr)(W:World)(b:W.cell? a=some (.pointer (some p))):
  (ReflectliteValue.method (ReflectliteValue.valueError "reflectlite.Value.Elem" 0) ReflectliteValue.elem #[rV 99 a 150]).run Tryz.prog W = .ok (rV 97 p 409) W:=by
 rw[rlm];simp only[Sem.run_bind,IY,Result.andThen];simp[ReflectliteValue.elem,loadVar,isAgg,underlying,Tryz.underlying99,b,Result.andThen,Oy,ai6]
def MY(a:Addr)(w:World):(ReflectliteValue.parts (rV 97 a 409)).run Tryz.prog w = .ok (some (97,a,409)) w:=aj
def Qs(a:Addr)(w:World):(ReflectliteValue.parts (rV 97 a 153)).run Tryz.prog w = .ok (some (97,a,153)) w:=aj
def OD(w:World):(Rtype.directlyAssignable 97 97).run Tryz.prog w = .ok true w:=aj
def abg(h b:Addr)(n:Int)(old:Value)(W:World)(y:W.cell? b=some (.int .i64 n))(r:W.cell? h=some old)(x:W.frozen? h=false):
  (ReflectliteValue.set #[rV 97 h 409,rV 97 b 153]).run Tryz.prog W = .ok (.tuple #[]) (W.setCell h (.int .i64 n)):=by
 rw[rls];simp only[Sem.run_bind,MY,Qs,Result.andThen]
 have q:(loadVar 97 b).run Tryz.prog W = .ok (.agg #[.int .i64 n]) W:=by
  have l:=run_loadCells_list (P:=Tryz.prog) (w:=W) b [.int .i64 n] λj v i=>by
   match j,i with
   |0,i=>cases i;exact y
  simp only[dF]at l;simp[loadVar,Sem.run_bind,Tryz.isAgg97,Tryz.sizeOf97,l,Result.andThen]
 have o:(storeVar 97 h (.agg #[.int .i64 n])).run Tryz.prog W = .ok () (W.setCell h (.int .i64 n)):=by
  simp only[storeVar,Sem.run_bind,Tryz.sizeOf97,Result.andThen,Value.cells];simp[storeCells,Addr.add,Result.andThen];rw[run_store Tryz.prog W h _ _ (by rfl)]
  simp[r,x]
 simp[ReflectliteValue.flagAddr,Result.andThen,q,o,OD]
def af2(w:World)(t:Addr)(n:Int):World:=((((w.alloc (.cells #[.pointer (some t)] 99)).alloc (.cells #[.pointer (some ⟨2,99,none⟩),.pointer (some ⟨w.heap.size,0,none⟩),.int .u64 150] 140)).alloc (.cells #[.pointer (some ⟨2,99,none⟩),.pointer (some ⟨w.heap.size,0,none⟩),.int .u64 150] 140)).alloc (.cells #[.int .i64 n] 97)).setCell t (.int .i64 n)
set_option maxHeartbeats 4000000 in
def O8(n:Int)(t:Addr)(old:Value)(w:World)(hg:w.cell? ⟨0,0,none⟩=some (.iface 198 (rH 74)))(h:w.cell? t=some old)(l:w.frozen? t=false):
  Calls Tryz.prog 24 #[.iface 97 (.agg #[.int .i64 n]),.iface 99 (.pointer (some t))] w λev w'=>ev = .returned (.bool true)/\w'=af2 w t n:=by
 have h6:=@run_callFunc_extern Tryz.prog 56 _ (λargs=>ReflectliteValue.unpack (args.getD 0 (.tuple #[]))) Tryz.func56 aj aj aj aj
 have P:=@run_callFunc_extern Tryz.prog 57 _ (ReflectliteValue.methodAny (ReflectliteValue.valueError "reflectlite.Value.Type" 0) (λt _ _ _=>ReflectliteType.toType t)) Tryz.func57 aj aj aj aj
 have h8:=@run_callFunc_extern Tryz.prog 58 _ (ReflectliteValue.method (ReflectliteValue.valueError "reflectlite.Value.IsNil" 0) ReflectliteValue.isNil) Tryz.func58 aj aj aj aj
 have A:=@run_callFunc_extern Tryz.prog 350 _ (ReflectliteType.abiMethod λt=>do pure (.int .u8 (<-Rtype.kind t))) Tryz.func350 aj aj aj aj
 have y:=@run_callFunc_extern Tryz.prog 361 _ (ReflectliteType.method ReflectliteType.elem) Tryz.func361 aj aj aj aj
 have x:=@run_callFunc_extern Tryz.prog 362 _ (ReflectliteType.relation "Implements" ReflectliteType.implements_) Tryz.func362 aj aj aj aj
 have G:=@run_callFunc_extern Tryz.prog 113 _ ReflectliteType.typeOf Tryz.func113 aj aj aj aj
 have z:=@run_callFunc_extern Tryz.prog 359 _ (ReflectliteType.relation "AssignableTo" ReflectliteType.assignableTo) Tryz.func359 aj aj aj aj
 have F:=@run_callFunc_extern Tryz.prog 114 _ (ReflectliteValue.method (ReflectliteValue.valueError "reflectlite.Value.Elem" 0) ReflectliteValue.elem) Tryz.func114 aj aj aj aj
 have E:=@run_callFunc_extern Tryz.prog 115 _ ReflectliteValue.set Tryz.func115 aj aj aj aj
 have K:=LX;have O:=I9;have a25:=Eu;have v25:=JX;have f6:=JW;have f7:=type99;have L:=I6;have N:=I8;have M:=I7;have o:=Wi;have q:=Wj;have H:=Xw;have r:=DY;have n8:=QT ⟨w.heap.size,0,none⟩ t ((w.alloc (.cells #[.pointer (some t)] 99)).alloc (.cells #[.pointer (some ⟨2,99,none⟩),.pointer (some ⟨w.heap.size,0,none⟩),.int .u64 150] 140)) ai
 have i:=qu hg
 have v:((w.alloc (.cells #[.pointer (some t)] 99)).alloc (.cells #[.pointer (some ⟨2,99,none⟩),.pointer (some ⟨w.heap.size,0,none⟩),.int .u64 150] 140)).cell? ⟨0,0,none⟩=some (.iface 198 (rH 74)):=by
  rw[World.cell?_alloc_lt _ _ ⟨0,0,none⟩ ai,World.cell?_alloc_lt _ _ ⟨0,0,none⟩ i];exact hg
 have b:=qu h;have el:=Rx ⟨w.heap.size,0,none⟩ t (((w.alloc (.cells #[.pointer (some t)] 99)).alloc (.cells #[.pointer (some ⟨2,99,none⟩),.pointer (some ⟨w.heap.size,0,none⟩),.int .u64 150] 140)).alloc (.cells #[.pointer (some ⟨2,99,none⟩),.pointer (some ⟨w.heap.size,0,none⟩),.int .u64 150] 140)) (by rw[World.cell?_alloc_lt _ _ ⟨w.heap.size,0,none⟩ ak];simp)
 have st:=abg t ⟨w.heap.size+1+1+1,0,none⟩ n old ((((w.alloc (.cells #[.pointer (some t)] 99)).alloc (.cells #[.pointer (some ⟨2,99,none⟩),.pointer (some ⟨w.heap.size,0,none⟩),.int .u64 150] 140)).alloc (.cells #[.pointer (some ⟨2,99,none⟩),.pointer (some ⟨w.heap.size,0,none⟩),.int .u64 150] 140)).alloc (.cells #[.int .i64 n] 97))
  (by rw[World.cell?_alloc_at _ _ _ _ ai];rfl)
  (by rw[World.cell?_alloc_lt _ _ t ak,World.cell?_alloc_lt _ _ t ak,World.cell?_alloc_lt _ _ t ak,World.cell?_alloc_lt _ _ t b];exact h)
  (by rw[World.frozen?_alloc_old _ _ t ak,World.frozen?_alloc_old _ _ t ak,World.frozen?_alloc_old _ _ t ak,World.frozen?_alloc_old _ _ t (gK b)];exact l)
 go_enter Tryz.func24,Tryz.ntmps24
 go_wp2
 refine wp_loop_rounds 1 ?_;rw[rounds_succ]
 go_wp2
 go_ret
 exact⟨rfl,rfl⟩
def JY(t:Addr)(w:World):(ReflectliteValue.unpack (.iface 77 (.pointer (some t)))).run Tryz.prog w = .ok (rV 77 ⟨w.heap.size,0,none⟩ 150) (w.alloc (.cells #[.pointer (some t)] 77)):=aj
def type77(a:Addr)(w:World):(ReflectliteValue.methodAny (ReflectliteValue.valueError "reflectlite.Value.Type" 0) (λt _ _ _=>ReflectliteType.toType t) #[rV 77 a 150]).run Tryz.prog w = .ok (.iface 198 (rH 77)) w:=aj
def Wk(w:World):(Je #[.pointer (some ⟨2,77,none⟩)]).run Tryz.prog w = .ok (.int .u8 22) w:=aj
def Wl(w:World):(Je #[.pointer (some ⟨2,45,none⟩)]).run Tryz.prog w = .ok (.int .u8 2) w:=aj
def IZ(a:Addr)(w:World):(ReflectliteValue.parts (rV 77 a 150)).run Tryz.prog w = .ok (some (77,a,150)) w:=aj
def QU(a p:Addr)(W:World)(b:W.cell? a=some (.pointer (some p))):
  (ReflectliteValue.method (ReflectliteValue.valueError "reflectlite.Value.IsNil" 0) ReflectliteValue.isNil #[rV 77 a 150]).run Tryz.prog W = .ok (.bool false) W:=by
 rw[rlm];simp only[Sem.run_bind,IZ,Result.andThen];simp[ReflectliteValue.isNil,loadVar,isAgg,underlying,Tryz.underlying77,b,Result.andThen]
def Xx(w:World):(ReflectliteType.method ReflectliteType.elem #[rH 77]).run Tryz.prog w = .ok (.iface 198 (rH 45)) w:=aj
def DZ(w:World):(ReflectliteType.relation "Implements" ReflectliteType.implements_ #[rH 45,.iface 198 (rH 74)]).run Tryz.prog w = .ok (.bool true) w:=aj
def LY(v:Value)(w:World):(ReflectliteType.typeOf #[.iface 45 v]).run Tryz.prog w = .ok (.iface 198 (rH 45)) w:=aj
def Ew(w:World):(ReflectliteType.relation "AssignableTo" ReflectliteType.assignableTo #[rH 45,.iface 198 (rH 45)]).run Tryz.prog w = .ok (.bool true) w:=aj
def JZ(n:Int)(w:World):(ReflectliteValue.unpack (.iface 45 (.int .i64 n))).run Tryz.prog w = .ok (rV 45 ⟨w.heap.size,0,none⟩ 130) (w.alloc (.cells #[.int .i64 n] 45)):=aj
def OA(w:World):(Rtype.elem? 77).run Tryz.prog w = .ok (some 45) w:=aj
def ai7(p:Addr)(w:World):(ReflectliteValue.mk 45 p ReflectliteValue.flagAddr).run Tryz.prog w = .ok (rV 45 p 386) w:=aj
def Ry(a p:Addr)(W:World)(b:W.cell? a=some (.pointer (some p))):
  (ReflectliteValue.method (ReflectliteValue.valueError "reflectlite.Value.Elem" 0) ReflectliteValue.elem #[rV 77 a 150]).run Tryz.prog W = .ok (rV 45 p 386) W:=by
 rw[rlm];simp only[Sem.run_bind,IZ,Result.andThen];simp[ReflectliteValue.elem,loadVar,isAgg,underlying,Tryz.underlying77,b,Result.andThen,OA,ai7]
def MZ(a:Addr)(w:World):(ReflectliteValue.parts (rV 45 a 386)).run Tryz.prog w = .ok (some (45,a,386)) w:=aj
def Qt(a:Addr)(w:World):(ReflectliteValue.parts (rV 45 a 130)).run Tryz.prog w = .ok (some (45,a,130)) w:=aj
def OE(w:World):(Rtype.directlyAssignable 45 45).run Tryz.prog w = .ok true w:=aj
def abh(h b:Addr)(n:Int)(old:Value)(W:World)(r:W.cell? b=some (.int .i64 n))(o:W.cell? h=some old)(q:W.frozen? h=false):
  (ReflectliteValue.set #[rV 45 h 386,rV 45 b 130]).run Tryz.prog W = .ok (.tuple #[]) (W.setCell h (.int .i64 n)):=by
 rw[rls];simp only[Sem.run_bind,MZ,Qt,Result.andThen]
 have l:(loadVar 45 b).run Tryz.prog W = .ok (.int .i64 n) W:=by
  simp[loadVar,isAgg,underlying,Tryz.underlying45,r,Result.andThen]
 have i:(storeVar 45 h (.int .i64 n)).run Tryz.prog W = .ok () (W.setCell h (.int .i64 n)):=by
  simp only[storeVar,Sem.run_bind,Tryz.sizeOf45,Result.andThen,Value.cells];simp[storeCells,Addr.add,Result.andThen];rw[run_store Tryz.prog W h _ _ (by rfl)]
  simp[o,q]
 simp[ReflectliteValue.flagAddr,Result.andThen,l,i,OE]
def af3(w:World)(t:Addr)(n:Int):World:=((((w.alloc (.cells #[.pointer (some t)] 77)).alloc (.cells #[.pointer (some ⟨2,77,none⟩),.pointer (some ⟨w.heap.size,0,none⟩),.int .u64 150] 140)).alloc (.cells #[.pointer (some ⟨2,77,none⟩),.pointer (some ⟨w.heap.size,0,none⟩),.int .u64 150] 140)).alloc (.cells #[.int .i64 n] 45)).setCell t (.int .i64 n)
set_option maxHeartbeats 4000000 in
def O9(n:Int)(t:Addr)(old:Value)(w:World)(hg:w.cell? ⟨0,0,none⟩=some (.iface 198 (rH 74)))(h:w.cell? t=some old)(l:w.frozen? t=false):
  Calls Tryz.prog 24 #[.iface 45 (.int .i64 n),.iface 77 (.pointer (some t))] w λev w'=>ev = .returned (.bool true)/\w'=af3 w t n:=by
 have h6:=@run_callFunc_extern Tryz.prog 56 _ (λargs=>ReflectliteValue.unpack (args.getD 0 (.tuple #[]))) Tryz.func56 aj aj aj aj
 have P:=@run_callFunc_extern Tryz.prog 57 _ (ReflectliteValue.methodAny (ReflectliteValue.valueError "reflectlite.Value.Type" 0) (λt _ _ _=>ReflectliteType.toType t)) Tryz.func57 aj aj aj aj
 have h8:=@run_callFunc_extern Tryz.prog 58 _ (ReflectliteValue.method (ReflectliteValue.valueError "reflectlite.Value.IsNil" 0) ReflectliteValue.isNil) Tryz.func58 aj aj aj aj
 have A:=@run_callFunc_extern Tryz.prog 350 _ (ReflectliteType.abiMethod λt=>do pure (.int .u8 (<-Rtype.kind t))) Tryz.func350 aj aj aj aj
 have y:=@run_callFunc_extern Tryz.prog 361 _ (ReflectliteType.method ReflectliteType.elem) Tryz.func361 aj aj aj aj
 have x:=@run_callFunc_extern Tryz.prog 362 _ (ReflectliteType.relation "Implements" ReflectliteType.implements_) Tryz.func362 aj aj aj aj
 have G:=@run_callFunc_extern Tryz.prog 113 _ ReflectliteType.typeOf Tryz.func113 aj aj aj aj
 have z:=@run_callFunc_extern Tryz.prog 359 _ (ReflectliteType.relation "AssignableTo" ReflectliteType.assignableTo) Tryz.func359 aj aj aj aj
 have F:=@run_callFunc_extern Tryz.prog 114 _ (ReflectliteValue.method (ReflectliteValue.valueError "reflectlite.Value.Elem" 0) ReflectliteValue.elem) Tryz.func114 aj aj aj aj
 have E:=@run_callFunc_extern Tryz.prog 115 _ ReflectliteValue.set Tryz.func115 aj aj aj aj
 have K:=LY;have O:=I9;have a25:=Ew;have v25:=JZ;have f6:=JY;have f7:=type77;have L:=I6;have N:=I8;have M:=I7;have o:=Wk;have q:=Wl;have H:=Xx;have r:=DZ;have n8:=QU ⟨w.heap.size,0,none⟩ t ((w.alloc (.cells #[.pointer (some t)] 77)).alloc (.cells #[.pointer (some ⟨2,77,none⟩),.pointer (some ⟨w.heap.size,0,none⟩),.int .u64 150] 140)) ai
 have i:=qu hg
 have v:((w.alloc (.cells #[.pointer (some t)] 77)).alloc (.cells #[.pointer (some ⟨2,77,none⟩),.pointer (some ⟨w.heap.size,0,none⟩),.int .u64 150] 140)).cell? ⟨0,0,none⟩=some (.iface 198 (rH 74)):=by
  rw[World.cell?_alloc_lt _ _ ⟨0,0,none⟩ ai,World.cell?_alloc_lt _ _ ⟨0,0,none⟩ i];exact hg
 have b:=qu h;have el:=Ry ⟨w.heap.size,0,none⟩ t (((w.alloc (.cells #[.pointer (some t)] 77)).alloc (.cells #[.pointer (some ⟨2,77,none⟩),.pointer (some ⟨w.heap.size,0,none⟩),.int .u64 150] 140)).alloc (.cells #[.pointer (some ⟨2,77,none⟩),.pointer (some ⟨w.heap.size,0,none⟩),.int .u64 150] 140)) (by rw[World.cell?_alloc_lt _ _ ⟨w.heap.size,0,none⟩ ak];simp)
 have st:=abh t ⟨w.heap.size+1+1+1,0,none⟩ n old ((((w.alloc (.cells #[.pointer (some t)] 77)).alloc (.cells #[.pointer (some ⟨2,77,none⟩),.pointer (some ⟨w.heap.size,0,none⟩),.int .u64 150] 140)).alloc (.cells #[.pointer (some ⟨2,77,none⟩),.pointer (some ⟨w.heap.size,0,none⟩),.int .u64 150] 140)).alloc (.cells #[.int .i64 n] 45))
  (by rw[World.cell?_alloc_at _ _ _ _ ai];rfl)
  (by rw[World.cell?_alloc_lt _ _ t ak,World.cell?_alloc_lt _ _ t ak,World.cell?_alloc_lt _ _ t ak,World.cell?_alloc_lt _ _ t b];exact h)
  (by rw[World.frozen?_alloc_old _ _ t ak,World.frozen?_alloc_old _ _ t ak,World.frozen?_alloc_old _ _ t ak,World.frozen?_alloc_old _ _ t (gK b)];exact l)
 go_enter Tryz.func24,Tryz.ntmps24
 go_wp2
 refine wp_loop_rounds 1 ?_;rw[rounds_succ]
 go_wp2
 go_ret
 exact⟨rfl,rfl⟩
open Go.Am Go.Proofs Go.RowKit Go.Lib
def LL:List AV->AH->Option (AV×AH)
 | [.lU,_],h=>some (.bool false,h)
 | [.sI 97 (.agg [.int .i64 n]),.sI 99 (.ptr b 0 0 0)],h=>match h[b]? with
  |some (.var [_])=>some (.bool true,h.set b (.var [.int .i64 n]))
  |_=>none
 | [.sI 45 (.int .i64 n),.sI 77 (.ptr b 0 0 0)],h=>match h[b]? with
  |some (.var [_])=>some (.bool true,h.set b (.var [.int .i64 n]))
  |_=>none
 |_,_=>none
def zH{β:jO}{O:az}{w:World}{t:TypeId}{a:AV}{v:Value}(h:VR β O w (.sI t a) v):∃u,v = .iface t u/\VR β O w a u:=by
 cases h with
 |pure _ _ h=>cases h
 |sI _ _ u h=>exact⟨u,rfl,h⟩
def Nj{β:jO}{O:az}{w:World}{v:Value}(h:VR β O w .lU v):v = .nilIface:=by
 cases h with | pure _ _ h=>cases h;rfl
def O7{Z:az}{β:jO}{h:AH}{w:World}(R:Rel Z β h w){b:Nat}{x:AV}(A:h[b]? = some (.var [x]))(n:Int)(os:List Obj){c:Nat}(z:β b 0=some ⟨some c,0,1,1⟩):
  Rel Z β (h.set b (.var [.int .i64 n])) ((os.foldl World.alloc w).setCell ⟨c,0,none⟩ (.int .i64 n))/\Fr Z β h w β (h.set b (.var [.int .i64 n])) ((os.foldl World.alloc w).setCell ⟨c,0,none⟩ (.int .i64 n)):=by
 induction os generalizing w with
 |nil =>
  let⟨N,cur,elem,e1,E,i,H,M⟩:=R.Cf A 0 [.int .i64 n] [.int .i64 n] rfl ai (by simp[Value.oneCell']) (λj y u q v=>by
   match j with
   |0=>cases q;cases v;exact VR.of_int _ _
   |j+1=>simp at q)
  rw[z]at e1;cases e1;simp only[iu];rw[setCell_eq_setRow w c 0 cur elem (0,0) _ E];let⟨l⟩:=cur;have i:l.length=1:=i
  match l,i with
  | [y],_=>exact⟨H,M⟩
 |cons o os r =>
  let⟨G,L⟩:=R.sZ o;let⟨F,K⟩:=r G;exact⟨F,L.trans K⟩
theorem TP(args:List AV)(h:AH)(r:AV)(h':AH)(l:LL args h=some (r,h')):ux Tryz.prog 24 args h r h':=by
 refine⟨⟨Tryz.f24,Tryz.func24,aj,aj⟩,λZ β w vs R hl q=>?_⟩
 have hg:=(R.gl ⟨0,.iface 198 (rH 74)⟩ (by simp[G0])).2
 unfold LL at l;split at l
 .cases l;obtain⟨u1,i,rfl⟩:∃u1 i,vs=[u1,i]:=by
   match vs,hl with
   | [u1,i],_=>exact⟨u1,i,rfl⟩
  obtain rfl:=Nj (q 0 _ _ rfl rfl);refine(YR i w).mono ?_
  rintro e w' ⟨rfl,rfl⟩
  exact⟨_,β,rfl,R,Fr.refl _ _ _ _,VR.of_bool _⟩
 .rename_i n b;obtain⟨u1,i,rfl⟩:∃u1 i,vs=[u1,i]:=by
   match vs,hl with
   | [u1,i],_=>exact⟨u1,i,rfl⟩
  obtain⟨v1,rfl,F⟩:=zH (q 0 _ _ rfl rfl);obtain⟨K,rfl,E⟩:=zH (q 1 _ _ rfl rfl);obtain⟨xs,rfl,x1,-,x2⟩:=F.nW;obtain⟨x,rfl⟩:∃x,xs=[x]:=by
   match xs,x1 with
   | [x],_=>exact⟨x,rfl⟩
  obtain rfl:=(x2 0 _ _ rfl rfl).kE;obtain⟨bd,c,e1,A,rfl⟩:=E.kY;split at l
  .rename_i x v;cases l;obtain⟨L,cur,elem,q1,o,y,-⟩:=R.blk b _ v;rw[e1]at q1;cases q1;cases A;simp only[gu,cI];let⟨G,H⟩:=O7 R v n [.cells #[.pointer (some ⟨c,0,none⟩)] 99,.cells #[.pointer (some ⟨2,99,none⟩),.pointer (some ⟨w.heap.size,0,none⟩),.int .u64 150] 140,.cells #[.pointer (some ⟨2,99,none⟩),.pointer (some ⟨w.heap.size,0,none⟩),.int .u64 150] 140,.cells #[.int .i64 n] 97] e1;have z:0<cur.size:=by rw[y];simp
   refine(O8 n ⟨c,0,none⟩ cur[0] w hg (by simp[World.cell?,o,z]) (by simp[World.frozen?,o])).mono ?_
   rintro e w' ⟨rfl,rfl⟩
   exact⟨_,β,rfl,G,H,VR.of_bool _⟩
  .cases l
 .rename_i n b;obtain⟨u1,i,rfl⟩:∃u1 i,vs=[u1,i]:=by
   match vs,hl with
   | [u1,i],_=>exact⟨u1,i,rfl⟩
  obtain⟨v1,rfl,F⟩:=zH (q 0 _ _ rfl rfl);obtain⟨K,rfl,E⟩:=zH (q 1 _ _ rfl rfl);obtain rfl:=F.kE;obtain⟨bd,c,e1,A,rfl⟩:=E.kY;split at l
  .rename_i x v;cases l;obtain⟨L,cur,elem,q1,o,y,-⟩:=R.blk b _ v;rw[e1]at q1;cases q1;cases A;simp only[gu,cI];let⟨G,H⟩:=O7 R v n [.cells #[.pointer (some ⟨c,0,none⟩)] 77,.cells #[.pointer (some ⟨2,77,none⟩),.pointer (some ⟨w.heap.size,0,none⟩),.int .u64 150] 140,.cells #[.pointer (some ⟨2,77,none⟩),.pointer (some ⟨w.heap.size,0,none⟩),.int .u64 150] 140,.cells #[.int .i64 n] 45] e1;have z:0<cur.size:=by rw[y];simp
   refine(O9 n ⟨c,0,none⟩ cur[0] w hg (by simp[World.cell?,o,z]) (by simp[World.frozen?,o])).mono ?_
   rintro e w' ⟨rfl,rfl⟩
   exact⟨_,β,rfl,G,H,VR.of_bool _⟩
  .cases l
 .cases l
end Go.Proofs.YtghgbehknhmnaaaGreatDoor
