/- Part of the proof that TopScriptsCard holds. -/
import Derived.Test.YtahlmpbhfljalaaGreatDoorProg
import Derived.Test.YtahlmpbhfljalaaGreatDoorAmKe
import Derived.WalkKit
import Derived.LaidEql
import Derived.Stop.Asserts
import Derived.RowKitTokens
set_option linter.all false
namespace Go.Proofs.YtahlmpbhfljalaaGreatDoor
open Go.Am Go.Proofs Go.RowKit Go.Extern.Stop Go.Stop Go.Extern
def YH(t:Value)(w:World):Calls Tryz.prog 32 #[.nilIface,t] w λe w'=>e = .returned (.bool false)/\w'=w:=by
 go_enter Tryz.func32,Tryz.ntmps32
 go_wp2
 go_ret
 exact⟨rfl,rfl⟩
abbrev rH(t:TypeId):Value:=.agg #[.pointer (some ⟨10,t,none⟩)]
abbrev rV(t:TypeId)(a:Addr)(f:Int):Value:=.agg #[.pointer (some ⟨10,t,none⟩),.pointer (some a),.int .u64 f]
abbrev SN:=ReflectliteType.abiMethod λt=>(λa:Nat=>Value.int IntKind.u8 (a:Int)) <$> Rtype.kind t
def Qh(h:Value)(w:World):(Go.method 563 185 (.agg #[h]) "Kind").run Tryz.prog w = .ok (401,h) w:=ai
def Qj(h:Value)(w:World):(Go.method 563 185 (.agg #[h]) "Elem").run Tryz.prog w = .ok (415,.agg #[h]) w:=ai
def Qi(h:Value)(w:World):(Go.method 563 185 (.agg #[h]) "Implements").run Tryz.prog w = .ok (416,.agg #[h]) w:=ai
def Qk(h:Value)(w:World):(Go.method 563 185 (.agg #[h]) "AssignableTo").run Tryz.prog w = .ok (413,.agg #[h]) w:=ai
theorem rlm(z:Sem Value)(f:TypeId->Addr->Nat->Nat->Sem Value)(v:Value):
  ReflectliteValue.method z f #[v]=(do match<-ReflectliteValue.parts v with | none=>z | some (t,a,fl)=>f t a fl (fl%32)):=rfl
theorem rls(v x:Value):ReflectliteValue.set #[v,x]=(do
  let (some (dst,a,fl),some (h,b,_)):=(<-ReflectliteValue.parts v,<-ReflectliteValue.parts x)
   |unsupported (.noEntry "extern/(internal/reflectlite.Value).Set.zeroValue")
  if fl / ReflectliteValue.flagAddr%2==0 then unsupported (.noEntry "extern/(internal/reflectlite.Value).Set.unaddressable")
  let val<-loadVar h b
  if<-Rtype.directlyAssignable dst h then storeVar dst a val
  else if<-Rtype.implements dst h then
   if (<-Rtype.kind h)==20 then
    match val with
    | .nilIface=>unsupported (.noEntry "extern/reflectlite: a nil value of one interface type handed on as a value of another")
    |_=>storeVar dst a val
   else storeVar dst a (.iface h val)
  else panicString ("reflectlite.Set: value of type " ++ (<-Rtype.spelt h) ++ " is not assignable to type " ++ (<-Rtype.spelt dst))
  pure (.tuple #[])):=rfl
def JE(t:Addr)(w:World):(ReflectliteValue.unpack (.iface 84 (.pointer (some t)))).run Tryz.prog w = .ok (rV 84 ⟨w.heap.size,0,none⟩ 150) (w.alloc (.cells #[.pointer (some t)] 84)):=ai
def type84(a:Addr)(w:World):(ReflectliteValue.methodAny (ReflectliteValue.valueError "reflectlite.Value.Type" 0) (λt _ _ _=>ReflectliteType.toType t) #[rV 84 a 150]).run Tryz.prog w = .ok (.iface 185 (rH 84)) w:=ai
def VS(w:World):(SN #[.pointer (some ⟨10,84,none⟩)]).run Tryz.prog w = .ok (.int .u8 22) w:=ai
def VT(w:World):(SN #[.pointer (some ⟨10,41,none⟩)]).run Tryz.prog w = .ok (.int .u8 2) w:=ai
def IM(a:Addr)(w:World):(ReflectliteValue.parts (rV 84 a 150)).run Tryz.prog w = .ok (some (84,a,150)) w:=ai
def Qy(a p:Addr)(W:World)(b:W.cell? a=some (.pointer (some p))):
  (ReflectliteValue.method (ReflectliteValue.valueError "reflectlite.Value.IsNil" 0) ReflectliteValue.isNil #[rV 84 a 150]).run Tryz.prog W = .ok (.bool false) W:=by
 rw[rlm];simp only[Sem.run_bind,IM,Result.andThen];simp[ReflectliteValue.isNil,loadVar,isAgg,underlying,Tryz.underlying84,b,Result.andThen]
def Xs(w:World):(ReflectliteType.method ReflectliteType.elem #[rH 84]).run Tryz.prog w = .ok (.iface 185 (rH 41)) w:=ai
def De(w:World):(ReflectliteType.relation "Implements" ReflectliteType.implements_ #[rH 41,.iface 185 (rH 73)]).run Tryz.prog w = .ok (.bool true) w:=ai
def LA(v:Value)(w:World):(ReflectliteType.typeOf #[.iface 41 v]).run Tryz.prog w = .ok (.iface 185 (rH 41)) w:=ai
def DK(w:World):(ReflectliteType.relation "AssignableTo" ReflectliteType.assignableTo #[rH 41,.iface 185 (rH 41)]).run Tryz.prog w = .ok (.bool true) w:=ai
def JF(n:Int)(w:World):(ReflectliteValue.unpack (.iface 41 (.int .i64 n))).run Tryz.prog w = .ok (rV 41 ⟨w.heap.size,0,none⟩ 130) (w.alloc (.cells #[.int .i64 n] 41)):=ai
def N9(w:World):(Rtype.elem? 84).run Tryz.prog w = .ok (some 41) w:=ai
def aiJ(p:Addr)(w:World):(ReflectliteValue.mk 41 p ReflectliteValue.flagAddr).run Tryz.prog w = .ok (rV 41 p 386) w:=ai
def Ra(a p:Addr)(W:World)(b:W.cell? a=some (.pointer (some p))):
  (ReflectliteValue.method (ReflectliteValue.valueError "reflectlite.Value.Elem" 0) ReflectliteValue.elem #[rV 84 a 150]).run Tryz.prog W = .ok (rV 41 p 386) W:=by
 rw[rlm];simp only[Sem.run_bind,IM,Result.andThen];simp[ReflectliteValue.elem,loadVar,isAgg,underlying,Tryz.underlying84,b,Result.andThen,N9,aiJ]
def MH(a:Addr)(w:World):(ReflectliteValue.parts (rV 41 a 386)).run Tryz.prog w = .ok (some (41,a,386)) w:=ai
def P6(a:Addr)(w:World):(ReflectliteValue.parts (rV 41 a 130)).run Tryz.prog w = .ok (some (41,a,130)) w:=ai
def Ob(w:World):(Rtype.directlyAssignable 41 41).run Tryz.prog w = .ok true w:=ai
def aba(h b:Addr)(n:Int)(old:Value)(W:World)(q:W.cell? b=some (.int .i64 n))(l:W.cell? h=some old)(o:W.frozen? h=false):
  (ReflectliteValue.set #[rV 41 h 386,rV 41 b 130]).run Tryz.prog W = .ok (.tuple #[]) (W.setCell h (.int .i64 n)):=by
 rw[rls];simp only[Sem.run_bind,MH,P6,Result.andThen]
 have i:(loadVar 41 b).run Tryz.prog W = .ok (.int .i64 n) W:=by
  simp[loadVar,isAgg,underlying,Tryz.underlying41,q,Result.andThen]
 have sv:(storeVar 41 h (.int .i64 n)).run Tryz.prog W = .ok () (W.setCell h (.int .i64 n)):=by
  simp only[storeVar,Sem.run_bind,Tryz.sizeOf41,Result.andThen,Value.cells];simp[storeCells,Addr.add,Result.andThen];rw[run_store Tryz.prog W h _ _ (by rfl)]
  simp[l,o]
 simp[ReflectliteValue.flagAddr,Result.andThen,i,sv,Ob]
def afF(w:World)(t:Addr)(n:Int):World:=((((w.alloc (.cells #[.pointer (some t)] 84)).alloc (.cells #[.pointer (some ⟨10,84,none⟩),.pointer (some ⟨w.heap.size,0,none⟩),.int .u64 150] 135)).alloc (.cells #[.pointer (some ⟨10,84,none⟩),.pointer (some ⟨w.heap.size,0,none⟩),.int .u64 150] 135)).alloc (.cells #[.int .i64 n] 41)).setCell t (.int .i64 n)
set_option maxHeartbeats 4000000 in
def ON(n:Int)(t:Addr)(old:Value)(w:World)(hg:w.cell? ⟨1,0,none⟩=some (.iface 185 (rH 73)))(h:w.cell? t=some old)(l:w.frozen? t=false):
  Calls Tryz.prog 32 #[.iface 41 (.int .i64 n),.iface 84 (.pointer (some t))] w λH w'=>H = .returned (.bool true)/\w'=afF w t n:=by
 have T:=@run_callFunc_extern Tryz.prog 58 _ (λargs=>ReflectliteValue.unpack (args.getD 0 (.tuple #[]))) Tryz.func58 ai ai ai ai
 have S:=@run_callFunc_extern Tryz.prog 59 _ (ReflectliteValue.methodAny (ReflectliteValue.valueError "reflectlite.Value.Type" 0) (λt _ _ _=>ReflectliteType.toType t)) Tryz.func59 ai ai ai ai
 have Q:=@run_callFunc_extern Tryz.prog 60 _ (ReflectliteValue.method (ReflectliteValue.valueError "reflectlite.Value.IsNil" 0) ReflectliteValue.isNil) Tryz.func60 ai ai ai ai
 have A:=@run_callFunc_extern Tryz.prog 401 _ (ReflectliteType.abiMethod λt=>do pure (.int .u8 (<-Rtype.kind t))) Tryz.func401 ai ai ai ai
 have y:=@run_callFunc_extern Tryz.prog 415 _ (ReflectliteType.method ReflectliteType.elem) Tryz.func415 ai ai ai ai
 have x:=@run_callFunc_extern Tryz.prog 416 _ (ReflectliteType.relation "Implements" ReflectliteType.implements_) Tryz.func416 ai ai ai ai
 have G:=@run_callFunc_extern Tryz.prog 111 _ ReflectliteType.typeOf Tryz.func111 ai ai ai ai
 have z:=@run_callFunc_extern Tryz.prog 413 _ (ReflectliteType.relation "AssignableTo" ReflectliteType.assignableTo) Tryz.func413 ai ai ai ai
 have F:=@run_callFunc_extern Tryz.prog 112 _ (ReflectliteValue.method (ReflectliteValue.valueError "reflectlite.Value.Elem" 0) ReflectliteValue.elem) Tryz.func112 ai ai ai ai
 have E:=@run_callFunc_extern Tryz.prog 113 _ ReflectliteValue.set Tryz.func113 ai ai ai ai
 have L:=LA;have P:=Qk;have a25:=DK;have v25:=JF;have f6:=JE;have f7:=type84;have M:=Qh;have O:=Qj;have N:=Qi;have o:=VS;have q:=VT;have K:=Xs;have r:=De;have n8:=Qy ⟨w.heap.size,0,none⟩ t ((w.alloc (.cells #[.pointer (some t)] 84)).alloc (.cells #[.pointer (some ⟨10,84,none⟩),.pointer (some ⟨w.heap.size,0,none⟩),.int .u64 150] 135)) ah
 have i:=DB hg
 have v:((w.alloc (.cells #[.pointer (some t)] 84)).alloc (.cells #[.pointer (some ⟨10,84,none⟩),.pointer (some ⟨w.heap.size,0,none⟩),.int .u64 150] 135)).cell? ⟨1,0,none⟩=some (.iface 185 (rH 73)):=by
  rw[World.cell?_alloc_lt _ _ ⟨1,0,none⟩ (by have:1<w.heap.size:=i;simp;omega),World.cell?_alloc_lt _ _ ⟨1,0,none⟩ i];exact hg
 have b:=DB h;have el:=Ra ⟨w.heap.size,0,none⟩ t (((w.alloc (.cells #[.pointer (some t)] 84)).alloc (.cells #[.pointer (some ⟨10,84,none⟩),.pointer (some ⟨w.heap.size,0,none⟩),.int .u64 150] 135)).alloc (.cells #[.pointer (some ⟨10,84,none⟩),.pointer (some ⟨w.heap.size,0,none⟩),.int .u64 150] 135)) (by rw[World.cell?_alloc_lt _ _ ⟨w.heap.size,0,none⟩ aj];simp)
 have st:=aba t ⟨w.heap.size+1+1+1,0,none⟩ n old ((((w.alloc (.cells #[.pointer (some t)] 84)).alloc (.cells #[.pointer (some ⟨10,84,none⟩),.pointer (some ⟨w.heap.size,0,none⟩),.int .u64 150] 135)).alloc (.cells #[.pointer (some ⟨10,84,none⟩),.pointer (some ⟨w.heap.size,0,none⟩),.int .u64 150] 135)).alloc (.cells #[.int .i64 n] 41))
  (by rw[World.cell?_alloc_at _ _ _ _ ah];rfl)
  (by rw[World.cell?_alloc_lt _ _ t aj,World.cell?_alloc_lt _ _ t aj,World.cell?_alloc_lt _ _ t aj,World.cell?_alloc_lt _ _ t b];exact h)
  (by rw[World.frozen?_alloc_old _ _ t aj,World.frozen?_alloc_old _ _ t aj,World.frozen?_alloc_old _ _ t aj,World.frozen?_alloc_old _ _ t (gP b)];exact l)
 go_enter Tryz.func32,Tryz.ntmps32
 go_wp2
 refine wp_loop_rounds 1 ?_;rw[rounds_succ]
 go_wp2
 go_ret
 exact⟨rfl,rfl⟩
open Go.Am Go.Proofs Go.RowKit Go.Lib
def asH:List AV->AH->Option (AV×AH)
 | [.kg,_],h=>some (.bool false,h)
 | [.uc 41 (.int .i64 n),.uc 84 (.ptr b 0 0 0)],h=>match h[b]? with
  |some (.var [_])=>some (.bool true,h.set b (.var [.int .i64 n]))
  |_=>none
 |_,_=>none
def Jb{β:iW}{O:ay}{w:World}{t:TypeId}{a:AV}{v:Value}(h:VR β O w (.uc t a) v):∃u,v = .iface t u/\VR β O w a u:=by
 cases h with
 |pure _ _ h=>cases h
 |uc _ _ u h=>exact⟨u,rfl,h⟩
def MX{β:iW}{O:ay}{w:World}{v:Value}(h:VR β O w .kg v):v = .nilIface:=by
 cases h with | pure _ _ h=>cases h;rfl
def YG{Z:ay}{β:iW}{h:AH}{w:World}(R:Rel Z β h w){b:Nat}{x:AV}(A:h[b]? = some (.var [x]))(n:Int)(os:List Obj){c:Nat}{T:TypeId}(z:β b 0=some ⟨some c,0,1,1,T⟩):
  Rel Z β (h.set b (.var [.int .i64 n])) ((os.foldl World.alloc w).setCell ⟨c,0,none⟩ (.int .i64 n))/\Fr Z β h w β (h.set b (.var [.int .i64 n])) ((os.foldl World.alloc w).setCell ⟨c,0,none⟩ (.int .i64 n)):=by
 induction os generalizing w with
 |nil =>
  let⟨N,cur,elem,e1,E,i,H,M⟩:=R.tj A 0 [.int .i64 n] [.int .i64 n] rfl ah (by simp[Value.oneCell']) (λj y u q v=>by
   match j with
   |0=>cases q;cases v;exact VR.of_int _ _
   |j+1=>simp at q)
  rw[z]at e1;cases e1;simp only[List.foldl_nil];rw[setCell_eq_setRow w c 0 cur _ (0,0) _ E];let⟨l⟩:=cur;have i:l.length=1:=i
  match l,i with
  | [y],_=>exact⟨H,M⟩
 |cons o os r =>
  let⟨G,L⟩:=R.pN o;let⟨F,K⟩:=r G;exact⟨F,L.trans K⟩
theorem TE(args:List AV)(h:AH)(r:AV)(h':AH)(l:asH args h=some (r,h')):nC Tryz.prog 32 args h r h':=by
 refine⟨⟨Tryz.f32,Tryz.func32,ai,ai⟩,λZ β w vs R hl o=>?_⟩
 let⟨_,cur,t,fr,q,v⟩:=R.gl _ (aZ.2 (.inl gm1):_∈G0);have hg:w.cell? ⟨1,0,none⟩=some (.iface 185 (rH 73)):=(cell_of_row w 1 0 cur t fr q).trans v;unfold asH at l;split at l
 .cases l;obtain⟨u1,i,rfl⟩:∃u1 i,vs=[u1,i]:=by
   match vs,hl with
   | [u1,i],_=>exact⟨u1,i,rfl⟩
  obtain rfl:=MX (o 0 _ _ rfl rfl);refine(YH i w).mono ?_
  rintro e w' ⟨rfl,rfl⟩
  exact⟨_,β,rfl,R,Fr.refl _ _ _ _,VR.of_bool _⟩
 .rename_i n b;obtain⟨u1,i,rfl⟩:∃u1 i,vs=[u1,i]:=by
   match vs,hl with
   | [u1,i],_=>exact⟨u1,i,rfl⟩
  obtain⟨v1,rfl,G⟩:=Jb (o 0 _ _ rfl rfl);obtain⟨v2,rfl,F⟩:=Jb (o 1 _ _ rfl rfl);obtain rfl:=G.jF;obtain⟨bd,c,e1,E,rfl⟩:=F.jl;split at l
  .rename_i x z;cases l;obtain⟨L,cur,elem,q1,y,A,-⟩:=R.blk b _ z;rw[e1]at q1;cases q1;cases E;simp only[gR,cK];let⟨H,K⟩:=YG R z n [.cells #[.pointer (some ⟨c,0,none⟩)] 84,.cells #[.pointer (some ⟨10,84,none⟩),.pointer (some ⟨w.heap.size,0,none⟩),.int .u64 150] 135,.cells #[.pointer (some ⟨10,84,none⟩),.pointer (some ⟨w.heap.size,0,none⟩),.int .u64 150] 135,.cells #[.int .i64 n] 41] e1;have hx:0<cur.size:=by rw[A];simp
   refine(ON n ⟨c,0,none⟩ cur[0] w hg (by simp[World.cell?,y,hx]) (by simp[World.frozen?,y])).mono ?_
   rintro e w' ⟨rfl,rfl⟩
   exact⟨_,β,rfl,H,K,VR.of_bool _⟩
  .cases l
 .cases l
end Go.Proofs.YtahlmpbhfljalaaGreatDoor
