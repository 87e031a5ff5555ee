/- Part of the proof that TopPassedCard holds. -/
import Derived.Test.YtaepagegdgdlhaaGreatDoorAmKe
import Derived.Recover
set_option linter.all false
namespace Go.Am
noncomputable def Dp(Γ:kP):List AV->AH->Option (AV×AH)
 | [.fn (.func c) first cap],h=>(jM Γ c (first++cap) (h++[.var [.int .i64 0]])).bind λq=>match q.2[h.length]? with
  |some (.var [_])=>some (.int .i64 0,q.2.set h.length (.var [.int .i64 0]))
  |_=>none
 |_,_=>none
structure acq(P:Program)(f g:FuncId)(tE tI tX:TypeId)(l1:IT):Prop where
 fn:∃(fn:Func) (i1:Nat) (o1 o2:Oper) (r0 r2 r3:Code),P.funcs[f]? = some fn/\fn.ntmps=6/\fn.results = #[.cell 2 tE]/\(fn.name == "runtime.NumGoroutine")=false/\
  fn.body=some (.seq r0 (.seq (.region i1 #[o1,o2] false) (.seq r2 (.seq r3 .ret))))/\
  ku P 6 r0 (.ops (.op (some 2) (.alloc [.int .i64 0]) .nil))=true/\ku P 6 r2 (.ops (.op (some 4) (.mv (.t 0)) (.op (some 5) (.l8 (.t 4) []) .nil)))=true/\
  ku P 6 r3 (.ops (.op none (.store 1 (.t 2) (.c (.int .i64 0))) .nil))=true/\
  o1.dst=some 3/\o1.guard=none/\o1.op = .makeFunc (.func g) #[] #[.tmp 2]/\o2.dst=none/\o2.guard=none/\o2.op = .defer {callee:=.value (.tmp 3),args := #[],argTypes := #[]}
 gn:∃(gn:Func) (i0:Nat) (p0 p1 p2 p3 p4 p5 p6:Oper) (r1 X:Code),P.funcs[g]? = some gn/\gn.ntmps=16/\gn.results = #[]/\(gn.name == "runtime.NumGoroutine")=false/\
  gn.body=some (.seq (.region i0 #[p0,p1,p2,p3,p4,p5,p6] false) (.seq r1 (.cond (.tmp 14) X .skip)))/\ku P 16 r1 (.ops l1)=true/\
  p0.guard=none/\p1.guard=none/\p2.guard=none/\p3.guard=none/\p4.guard=none/\p5.guard=none/\p6.guard=none/\
  p0.dst=some 4/\p1.dst=some 5/\p2.dst=some 3/\p3.dst=some 6/\p4.dst=some 7/\p5.dst=some 1/\p6.dst=some 2/\
  p0.op = .call {callee:=.builtin .recover,args := #[],argTypes := #[]}/\p1.op = .typeAssert (.tmp 4) tI tX true/\p2.op = .move (.tmp 5)/\p3.op = .extract (.tmp 3) 0/\p4.op = .extract (.tmp 3) 1/\p5.op = .assign (.tmp 6)/\p6.op = .assign (.tmp 7)
 tyX:∃want,P.underlying tX=some (.interface want)
 zX:∀w,(zeroValue tX).run P w = .ok .nilIface w
 szE:lC P tE 1=true
 agE:we P tE false=true
 uZ:∀Γ e h,e 2 = .bool false->∃e',uZ Γ l1 ⟨e,h⟩=some ⟨e',h⟩/\e' 14 = .bool false
section
variable{P:Program}{Γ:kP}
def xT(hm:P.follows .mixedOrders=true)(hΓ:mH P Γ){n:Nat}{l:IT}{c:Code}(ok:ku P n c (.ops l)=true){s s':St}(hi:uZ Γ l s=some s'){Z:az}{β:kW}{a:Act}{w:World}(R:Rel Z β s.h w)(E:kF Z β s.h w s.e a n){Q:Exit->Act->World->Prop}
  (k:∀a' w' β',Rel Z β' s'.h w'->Fr Z β s.h w β' s'.h w'->kF Z β' s'.h w' s'.e a' n->a'.defers=a.defers->Q .normal a' w'):c.wp P Q a w:=by
 cases c<;>first | (cases ok;done) | skip
 exact(rW hΓ ok hi (W:=λ_=>true) (λ_ _=>rfl) R E λa' w' β' R' F' E' K=>k a' w' β' R' F' E' K.defers).wp hm
def Ug(hm:P.follows .mixedOrders=true){f g:FuncId}{tE tI tX:TypeId}{l1:IT}(L:acq P f g tE tI tX l1)(hΓ:mH P Γ){args:List AV}{h:AH}{r:AV}{h':AH}(hr:Dp Γ args h=some (r,h')):zl P f args h r h':=by
 let⟨fn,i1,o1,o2,r0,r2,r3,hf,hnt,hres,hname,hb,ok0,Of,KO,d1,g1,q1,d2,g2,q2⟩:=L.fn;unfold Dp at hr;split at hr
 case h_2=>cases hr
 rename_i c first cap;simp only[aI]at hr;let⟨⟨rv,h1⟩,sV,hr⟩:=hr;split at hr
 case h_2=>cases hr
 rename_i cell hcell;cases hr;refine⟨⟨fn,hf,by rw[hb];rfl,hname⟩,λZ β w vs R hl hv=>calls_of_wp_defers hf hb ?_⟩
 have E:kF Z β h w (kR [.fn (.func c) first cap]) {tmps:=vs.toArray++Array.replicate (fn.ntmps-vs.toArray.size) undef,defers:=[]} 6:=by
  have hl1:vs.length=1:=by simpa using hl.symm
  refine⟨by simp[hnt,hl1],λt=>?_⟩
  unfold kR
  by_cases ht:t<1
  .have h2:vs[t]? = some (vs[t]'aa):=aG aa
   have h3:[AV.fn (.func c) first cap][t]? = some (.fn (.func c) first cap):=by
    obtain rfl:t=0:=aa
    rfl
   have:=hv t _ _ h3 h2;rw[bV,h3,bP,cR aj]
   simp only[bN,h2,bO];exact this
  .rw[bV,b9 aj]
   exact .dead _
 generalize hact:({tmps:=vs.toArray++Array.replicate (fn.ntmps-vs.toArray.size) undef,defers:=[]}:Act)=act at E⊢;have aev:act.defers=[]:=by rw[<-hact]
 refine wp_seq (xT hm hΓ ok0 (s:=⟨kR [.fn (.func c) first cap],h⟩) (s':=⟨(kR [.fn (.func c) first cap]).put 2 (.ptr h.length 0 0 0),h++[.var [.int .i64 0]]⟩) rfl R E λa1 w1 β1 R1 F1 E1 K1=>?_)
 show Code.wp P _ _ a1 w1
 -- the deferred call
 have t2:=E1.2 2;let⟨bd,cb,zW,xl,ht2⟩:=(show VR β1 (Own Z β1 (h++[.var [.int .i64 0]])) w1 (.ptr h.length 0 0 0) (a1.tmps.getD 2 Go.undef)from by simpa[Env.put]using t2).oE
 generalize Z2:a1.tmps.getD 2 Go.undef=v2 at ht2;refine wp_seq (wp_region_list ?_);have w1':Region.wanted o1 (yielded #[o1,o2] a1.tmps)=true:=by simp[Region.wanted,g1]
 have w2':∀a:Act,Region.wanted o2 (yielded #[o1,o2] a.tmps)=true:=λa=>by simp[Region.wanted,g2]
 simp only[wpList,w1',w2',if_true];refine .inl ?_;unfold Oper.wp;let⟨aq8,op1,ty1,pos1,af1,gu1⟩:=o1;let⟨aq7,op2,ty2,pos2,af2,gu2⟩:=o2;dsimp only at d1 g1 q1 d2 g2 q2;subst d1 g1 q1 d2 g2 q2
 have hx1:(execOp a1.eval {dst:=some 3,op:=Op.makeFunc (Fn.func g) #[] #[Operand.tmp 2],type:=ty1,pos:=pos1,after:=af1,guard:=none}).run P w1 = .ok (.value (.func (.func g) #[] #[v2])) w1:=by
  simp[execOp,Instr.makeFunc,Act.eval,Z2]
 rw[hx1,Oper.upon_value];generalize ha2:a1.put (some 3) (.func (.func g) #[] #[v2])=a2
 have GA:a2.eval (.tmp 3) = .func (.func g) #[] #[v2]:=by
  rw[<-ha2];simp[Act.eval,Act.put,E1.1]
 have hx2:(execOp a2.eval {dst:=none,op:=Op.defer {callee:=Callee.value (Operand.tmp 3),args := #[],argTypes := #[]},type:=ty2,pos:=pos2,after:=af2,guard:=none}).run P w1 = .ok (.defer {target:=.fn (.func g) #[v2],args := #[]}) w1:=by
  simp[execOp,resolve,Deferred.ofValue,GA]
 refine .inl ?_;rw[hx2,Oper.upon_defer];have akm:=E1.1
 have E2:kF Z β1 (h++[.var [.int .i64 0]]) w1 (((kR [.fn (.func c) first cap]).put 2 (.ptr h.length 0 0 0)).put 3 .dead) {a2 with defers:={target:=.fn (.func g) #[v2],args := #[]}::a2.defers} 6:=by
  have:=E1.put (d:=3) af (av:=.dead) (v:=.func (.func g) #[] #[v2]) (.dead _)
  rw[ha2]at this;exact⟨this.1,this.2⟩
 have hd2:a2.defers=[]:=by rw[<-ha2];simp[Act.put,K1,aev]
 generalize ha3:({a2 with defers:={target:=.fn (.func g) #[v2],args := #[]}::a2.defers}:Act)=a3 at E2
 have hd3:a3.defers=[{target:=.fn (.func g) #[v2],args := #[]}]:=by rw[<-ha3,hd2]
 show Code.wp P _ _ a3 w1
 -- the call
 have hi2:uZ Γ (.op (some 4) (.mv (.t 0)) (.op (some 5) (.l8 (.t 4) []) .nil)) ⟨((kR [.fn (.func c) first cap]).put 2 (.ptr h.length 0 0 0)).put 3 .dead,h++[.var [.int .i64 0]]⟩ =
   some ⟨((((kR [.fn (.func c) first cap]).put 2 (.ptr h.length 0 0 0)).put 3 .dead).put 4 (.fn (.func c) first cap)).put 5 rv,h1⟩:=by
  have e0:(((kR [.fn (.func c) first cap]).put 2 (.ptr h.length 0 0 0)).put 3 .dead) 0 = .fn (.func c) first cap:=rfl;have e4:((((kR [.fn (.func c) first cap]).put 2 (.ptr h.length 0 0 0)).put 3 .dead).put 4 (.fn (.func c) first cap)) 4 = .fn (.func c) first cap:=rfl;simp only[uZ,exec,AO.get,e0,bX,St.put,e4,getAll,dz,sV]
 refine wp_seq (xT hm hΓ Of hi2 R1 E2 λa4 w4 β4 R4 F4 E4 K4=>?_)
 show Code.wp P _ _ a4 w4
 have hi3:uZ Γ (.op none (.store 1 (.t 2) (.c (.int .i64 0))) .nil) ⟨((((kR [.fn (.func c) first cap]).put 2 (.ptr h.length 0 0 0)).put 3 .dead).put 4 (.fn (.func c) first cap)).put 5 rv,h1⟩ =
   some ⟨((((kR [.fn (.func c) first cap]).put 2 (.ptr h.length 0 0 0)).put 3 .dead).put 4 (.fn (.func c) first cap)).put 5 rv,h1.set h.length (.var [.int .i64 0])⟩:=by
  have e2:(((((kR [.fn (.func c) first cap]).put 2 (.ptr h.length 0 0 0)).put 3 .dead).put 4 (.fn (.func c) first cap)).put 5 rv) 2 = .ptr h.length 0 0 0:=rfl;dsimp only at hcell;simp only[uZ,exec,AO.get,e2,storeAt,hcell];simp[AV.cells,AV.tF,over,St.put]
 refine wp_seq (xT hm hΓ KO hi3 R4 E4 λa5 w5 β5 R5 F5 E5 K5=>?_)
 show Code.wp P .ret _ a5 w5;refine wp_ret ?_;have hd5:a5.defers=[{target:=.fn (.func g) #[v2],args := #[]}]:=by rw[K5,K4,hd3]
 show Leaves P fn a5.tmps _ a5.defers .returning w5;rw[hd5];let⟨gn,i0,p0,p1,p2,p3,p4,p5,p6,r1,X,hgf,Je,KR,aes,hgb,okg,gg⟩:=L.gn
 have hcf:(invoke (.fn (.func g) #[v2]) #[]).run P w5 = .ok (.enter g #[v2]) w5:=by
  have hb':gn.body.isNone=false:=by rw[hgb];rfl
  have:invoke (.fn (.func g) #[v2]) #[]=callFunc g #[v2]:=by simp[invoke]
  rw[this];simp only[callFunc,Sem.run_bind,run_program,Result.andThen_ok,hgf,aes,hb',aU,if_false,Sem.run_pure]
 refine leaves_cons ah hcf ?_
 -- the result
 have fin:∀β6 w6,Rel Z β6 (h1.set h.length (.var [.int .i64 0])) w6->Fr Z β5 (h1.set h.length (.var [.int .i64 0])) w5 β6 (h1.set h.length (.var [.int .i64 0])) w6->
   ∃v,(results fn a5.tmps).run P w6 = .ok v w6/\∃v' β',Ending.returned v = .returned v'/\Rel Z β' (h1.set h.length (.var [.int .i64 0])) w6/\Fr Z β h w β' (h1.set h.length (.var [.int .i64 0])) w6/\VR β' (Own Z β' (h1.set h.length (.var [.int .i64 0]))) w6 (.int .i64 0) v':=by
  intro β6 w6 R6 F6
  let⟨u,hu1,hu2⟩:=wQ (P:=P) (fn:=fn) (l:=[.cell 2 1 false]) (v:=.int .i64 0) R6 (E5.fr F6) (by rw[hres];simp[ri,L.szE,L.agE]) (by
   have e2:(((((kR [.fn (.func c) first cap]).put 2 (.ptr h.length 0 0 0)).put 3 .dead).put 4 (.fn (.func c) first cap)).put 5 rv) 2 = .ptr h.length 0 0 0:=rfl;have hlt:h.length<h1.length:=(aF.1 hcell).1;simp[j7,shape,hlt])
  exact⟨u,hu1,u,β6,rfl,R6,(((F1.trans F4).trans F5).trans F6),hu2⟩
 have post:∀β6 w6,Rel Z β6 (h1.set h.length (.var [.int .i64 0])) w6->Fr Z β5 (h1.set h.length (.var [.int .i64 0])) w5 β6 (h1.set h.length (.var [.int .i64 0])) w6->Leaves P fn a5.tmps (λe w'=>∃v β',e = .returned v/\Rel Z β' (h1.set h.length (.var [.int .i64 0])) w'/\Fr Z β h w β' (h1.set h.length (.var [.int .i64 0])) w'/\VR β' (Own Z β' (h1.set h.length (.var [.int .i64 0]))) w' (.int .i64 0) v) [] .returning w6:=by
  intro β6 w6 R6 F6;let⟨res,aks,v',β',e,q⟩:=fin β6 w6 R6 F6;exact⟨res,aks,v',β',e,q⟩
 refine CallsD.mono (R:=λe u' w'=>(∃v,e = .returned v)/\u' = .returning/\∃β6,Rel Z β6 (h1.set h.length (.var [.int .i64 0])) w'/\Fr Z β5 (h1.set h.length (.var [.int .i64 0])) w5 β6 (h1.set h.length (.var [.int .i64 0])) w') ?_ λe u' w' hq=>by
  obtain⟨⟨v,rfl⟩,rfl,β6,R6,F6⟩:=hq;exact post β6 w' R6 F6
 -- the deferred function
 let⟨x0,x1,x2,x3,x4,x5,x6,y0,y1,y2,y3,y4,y5,y6,z0,z1,z2,z3,z4,z5,z6⟩:=gg;let⟨want,aki⟩:=L.tyX;refine callsD_of_wpS hgf hgb λc0 cs hc0=>?_
 have Gw:recoverD (c0::cs)=none:=by simp[recoverD,hc0]
 rw[Je];refine wpS_seq (wpS_region ?_);let⟨atb,op0,ty0,aox,af0,gu0⟩:=p0;let⟨aq8,op1,anH,ai9,arR,as2⟩:=p1;let⟨aq7,op2,anG,ai8,arQ,as1⟩:=p2;let⟨ata,op3,ty3,aow,af3,gu3⟩:=p3;let⟨as9,op4,ty4,aov,af4,gu4⟩:=p4;let⟨as8,op5,ty5,aou,af5,gu5⟩:=p5;let⟨as7,op6,ty6,aot,af6,gu6⟩:=p6;dsimp only at x0 x1 x2 x3 x4 x5 x6 y0 y1 y2 y3 y4 y5 y6 z0 z1 z2 z3 z4 z5 z6;subst x0 x1 x2 x3 x4 x5 x6 y0 y1 y2 y3 y4 y5 y6 z0 z1 z2 z3 z4 z5 z6
 generalize abU:({tmps := #[v2]++Array.replicate (16-(#[v2]:Array Value).size) undef,defers:=[]}:Act)=b0;have hs0:b0.tmps.size=16:=by rw[<-abU];simp
 have ap4:b0.defers=[]:=by rw[<-abU]
 have hrg:List.range (#[(⟨some 4,.call {callee:=.builtin .recover,args := #[],argTypes := #[]},ty0,aox,af0,none⟩:Oper),⟨some 5,.typeAssert (.tmp 4) tI tX true,anH,ai9,arR,none⟩,⟨some 3,.move (.tmp 5),anG,ai8,arQ,none⟩,⟨some 6,.extract (.tmp 3) 0,ty3,aow,af3,none⟩,⟨some 7,.extract (.tmp 3) 1,ty4,aov,af4,none⟩,⟨some 1,.assign (.tmp 6),ty5,aou,af5,none⟩,⟨some 2,.assign (.tmp 7),ty6,aot,af6,none⟩]:Array Oper).size=[0,1,2,3,4,5,6]:=rfl;rw[hrg]
 have Cm:∀w,(builtin .recover #[] ty0 #[] #[]).run P w = .ok .recover w:=λw=>by simp[builtin]
 simp[wpOpsS,Region.wanted,execOp,resolve,invoke,Gw,Cm,Act.put,Act.eval,hs0,Instr.typeAssert,run_underlying aki,L.zX,Oper.upon,Instr.extract,Exit.thenS];generalize zW:({tmps:=((((((b0.tmps.setIfInBounds 4 Value.nilIface).setIfInBounds 5 (Value.tuple #[Value.nilIface,Value.bool false])).setIfInBounds 3 (Value.tuple #[Value.nilIface,Value.bool false])).setIfInBounds 6 Value.nilIface).setIfInBounds 7 (Value.bool false)).setIfInBounds 1 Value.nilIface).setIfInBounds 2 (Value.bool false),defers:=b0.defers}:Act)=b1
 have hs1:b1.tmps.size=16:=by rw[<-zW];simp[hs0]
 have ap3:b1.defers=[]:=by rw[<-zW];exact ap4
 have apB:b1.tmps.getD 2 Go.undef = .bool false:=by rw[<-zW];simp[hs0]
 have Eb:kF Z β5 (h1.set h.length (.var [.int .i64 0])) w5 (λt=>if t=2 then .bool false else .dead) b1 16:=by
  refine⟨hs1,λt=>?_⟩
  dsimp only;split
  .rename_i ht;subst ht;rw[apB];exact .pure _ _ (.bool false)
  .exact .dead _
 let⟨e',hi1,he'⟩:=L.uZ Γ (λt=>if t=2 then .bool false else .dead) (h1.set h.length (.var [.int .i64 0])) rfl
 refine wpS_seq (wpS_of_wp (xT hm hΓ okg hi1 R5 Eb λb2 w6 β6 R6 F6 E6 K6=>?_))
 have WS:b2.eval (.tmp 14) = .bool false:=by
  have:=E6.2 14;dsimp only at this;rw[he']at this;exact this.pF
 refine wpS_cond WS (wpS_of_wp (wp_skip ?_));refine⟨by rw[K6,ap3],.returning,by rw[<-hc0],.tuple #[],?_,⟨_,rfl⟩,rfl,β6,R6,F6⟩
 simp[results,KR]
end
end Go.Am
