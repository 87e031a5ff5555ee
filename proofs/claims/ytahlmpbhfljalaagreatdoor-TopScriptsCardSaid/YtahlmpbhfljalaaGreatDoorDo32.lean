/- Part of the proof that TopScriptsCard holds. -/
import Derived.Test.YtahlmpbhfljalaaGreatDoorAt32
import Derived.Recover
set_option linter.all false
namespace Go.Proofs.YtahlmpbhfljalaaGreatDoor
open Go.Am Go.Proofs Go.RowKit Go.Lib
def l12:IT:=(.op (some 2) (.box (.t 0)) (.op (some 3) (.Ez (.t 1)) (.op (some 4) (.alloc [.en false [],.int .i64 0,.int .i64 0,.int .i64 0,.en false [],.en false [],.en false [],.int .i64 0,.en false [],.en false []]) (.op (some 5) (.alloc [.int .i64 0,.int .i64 0,.int .i64 0,.int .i64 0,.int .i64 0,.en false [],.en false []]) (.nil)))))
def P3:AC:=(.seq (.ops (.op (some 11) (.vN 33 []) (.op (some 12) (.B4 0 (.t 3)) (.op (some 13) (.oN 1 false (.t 12)) (.op (some 14) (.rG .i64 (.kU) (.t 11) (.t 13)) (.op (some 10) (.mv (.t 14)) (.op (some 15) (.ext (.t 10) 0) (.op (some 16) (.ext (.t 10) 1) (.op (some 6) (.mv (.t 15)) (.op (some 7) (.mv (.t 16)) (.nil)))))))))))
 (.seq (.qk [(.op (some 17) (.mv (.t 7)) (.op (some 18) (.mv (.t 17)) (.sc 22 true 18 19 21 (.op (some 19) (.B4 1 (.t 3)) (.op (some 20) (.oN 1 false (.t 19)) (.op (some 21) (.bin .geq (.t 20) (.c (.int .i64 0))) (.nil)))) (.t 21) (.op (some 23) (.mv (.t 22)) (.sc 27 true 23 24 26 (.op (some 24) (.B4 1 (.t 3)) (.op (some 25) (.oN 1 false (.t 24)) (.op (some 26) (.bin .lss (.t 25) (.c (.int .i64 16))) (.nil)))) (.t 26) (.nil))))),.call (some 28) 34 [(.t 27),(.c (.int .i64 1))])] (.nil))
 (.seq (.ops (.op (some 29) (.load 10 true (.t 2)) (.op (some 30) (.oN 8 true (.t 3)) (.op (some 31) (.build [.en false [],.int .i64 0,.int .i64 0,.int .i64 0,.en false [],.en false [],.en false [],.int .i64 0,.en false [],.en false [],.int .i64 0,.int .i64 0,.str [],.str [],.int .i64 0,.int .i64 0,.int .i64 0,.en false [],.int .i64 0,.int .i64 0,.int .i64 0,.int .i64 0,.int .i64 0,.en false [],.en false []] [(0,10,(.t 29)),(10,8,(.t 30))]) (.op (some 32) (.box (.t 31)) (.op (some 8) (.mv (.t 32)) (.nil)))))))
 (.seq (.qk [(.op (some 33) (.mv (.t 6)) (.op (some 34) (.mv (.t 8)) (.nil)),.jS (some 35) (.t 33) [(.t 34)])] (.nil))
 (.seq (.ops (.op (some 36) (.mv (.t 8)) (.op (some 37) (.J8 (.t 36)) (.op (some 38) (.B4 0 (.t 37)) (.op (some 39) (.load 10 true (.t 38)) (.op (some 40) (.mv (.t 8)) (.op (some 41) (.J8 (.t 40)) (.op (some 42) (.B4 18 (.t 41)) (.op (some 43) (.nw 7 true (.t 42) 4) (.op none (.nE 10 (.t 4) (.t 39) 4) (.op none (.store 7 (.t 5) (.t 43)) (.nil))))))))))))
 (.ret))))))
def r23:AC:=(.seq (.ops (.op (some 11) (.mv (.t 4)) (.nil)))
 (.cond (.t 11) (.seq (.ops (.op (some 5) (.alloc [.int .i64 0]) (.nil)))
 (.seq (.seq (.ops (.op (some 12) (.mv (.t 3)) (.op (some 13) (.SK 84 (.t 5)) (.op (some 14) (.call 32 [(.t 12),(.t 13)]) (.op (some 15) (.un .not (.t 14)) (.nil))))))
 (.cond (.t 15) (.qk [(.op (some 16) (.mv (.t 3)) (.nil),.mD (.t 16))] (.nil)) (.skip)))
 (.ops (.op (some 17) (.load 10 true (.t 0)) (.op (some 18) (.load 1 false (.t 5)) (.op (some 19) (.build [.int .i64 0,.int .i64 0,.int .i64 0,.int .i64 0,.int .i64 0,.en false [],.en false []] [(0,1,(.t 18))]) (.op none (.store 10 (.t 1) (.t 17)) (.op none (.store 7 (.t 2) (.t 19)) (.nil))))))))) (.skip)))
def GB:List AV:=[.en false [],.int .i64 0,.int .i64 0,.int .i64 0,.en false [],.en false [],.en false [],.int .i64 0,.en false [],.en false []]
def Gz:List AV:=[.int .i64 0,.int .i64 0,.int .i64 0,.int .i64 0,.int .i64 0,.en false [],.en false []]
def JO:List AV->Option St
 | [f,o]=>some ⟨(((((iX [f,o]).put 2 (.ptr 0 0 0 0)).put 3 (.iw o.cells)).put 4 (.ptr 1 0 0 0)).put 5 (.ptr 2 0 0 0)).put 9 .dead,[.var f.cells,.var GB,.var Gz]⟩
 |_=>none
def xu:List AR:=[.cell 4 10 true,.cell 5 7 true]
def zR(p:Pn)(s:St):Option AV:=match p,s.e 2,s.e 4,s.e 5,s.h with
 |(41,.i64,n),.ptr 0 0 0 0,.ptr 1 0 0 0,.ptr 2 0 0 0,.var cs :: .var a :: .var b::_ =>
  if cs.length=10/\a.length=10/\b.length=7/\cs.all AV.jD=true then some (.iV [.agg cs,.agg [.int .i64 n,.int .i64 0,.int .i64 0,.int .i64 0,.int .i64 0,.en false [],.en false []]])else none
 |_,_,_,_,_=>none
def d12:DF:=⟨JO,P3,xu,zR⟩
noncomputable def DG:Code:=match Tryz.f10.body with
 |some (.seq _ (.seq _ c))=>c
 |_=>.skip
noncomputable def Hy:Code:=match Tryz.f10.body with
 |some (.seq c _)=>c
 |_=>.skip
noncomputable def IQ:Array Oper:=match Tryz.f10.body with
 |some (.seq _ (.seq (.region _ ops _) _))=>ops
 |_ => #[]
noncomputable def DE:Code:=match Tryz.f31.body with
 |some (.seq _ c)=>c
 |_=>.skip
def acA:ir Tryz.prog 44 Hy (.ops l12)=true:=ai
def acz:ir Tryz.prog 44 DG P3=true:=ai
def acy:ir Tryz.prog 20 DE r23=true:=ai
def IU:nv Tryz.prog Tryz.f10.results.toList xu=true:=ai
def agL:∀t∈rD P3,(λt=>decide (t≠2/\t≠4/\t≠5)) t=true:=by
 have:(rD P3).all (λt=>decide (t≠2/\t≠4/\t≠5))=true:=ai
 simpa using this
def agV(v:Value)(w:World):(Instr.typeAssert (.iface 41 v) 20 73 true).run Tryz.prog w = .ok (.tuple #[.iface 41 v,.bool true]) w:=ai
def taN(w:World):(Instr.typeAssert .nilIface 20 73 true).run Tryz.prog w = .ok (.tuple #[.nilIface,.bool false]) w:=ai
def HS(p q r:Value)(w:World):
  CallsD Tryz.prog 31 #[p,q,r] .returning w λe i w'=>e = .returned (.tuple #[])/\i = .returning/\w'=w:=by
 refine callsD_of_wpS Tryz.func31 rfl λb cs h=>?_
 apply wpS_seq;apply wpS_region;simp[wpOpsS,go_sem,recoverD,h,Tryz.ntmps31,Exit.thenS,taN];apply wpS_seq;apply wpS_region;simp[wpOpsS,go_sem,recoverD,h,Tryz.ntmps31,Exit.thenS,taN];refine wpS_cond (t:=false) (by simp[Act.eval,Array.replicate]) ?_
 simp only[bq,if_false];refine wpS_of_wp (wp_skip ?_);cases b
 simp_all[bodyPostS,results,Tryz.results31]
set_option maxHeartbeats 1000000 in
def xY(p q r:Value)(n:Int)(w:World){R:Ending->FrameMode->World->Prop}
  (h:∀a:Act,a.tmps.size=20->a.defers=[]->a.tmps.getD 0 undef=p->a.tmps.getD 1 undef=q->a.tmps.getD 2 undef=r->a.tmps.getD 3 undef = .iface 41 (.int .i64 n)->a.tmps.getD 4 undef = .bool true->
   DE.wp Tryz.prog (λe i w'=>(e = .normal\/e = .ret)/\i.defers=[]/\R (.returned (.tuple #[])) (.panicking [{v:=.iface 41 (.int .i64 n),recovered:=true}]) w') a w) :
  CallsD Tryz.prog 31 #[p,q,r] (.panicking [{v:=.iface 41 (.int .i64 n),recovered:=false}]) w R:=by
 refine callsD_of_wpS Tryz.func31 rfl λb cs l=>?_
 apply wpS_seq;apply wpS_region;simp[wpOpsS,go_sem,recoverD,l,Tryz.ntmps31,Exit.thenS,agV];refine wpS_of_wp ?_
 have key:∀T:Array Value,T.size=20->T.getD 0 undef=p->T.getD 1 undef=q->T.getD 2 undef=r->T.getD 3 undef = .iface 41 (.int .i64 n)->T.getD 4 undef = .bool true->
   DE.wp Tryz.prog (λe i w'=>bodyPostS Tryz.prog Tryz.f31 b cs R e i ({b with mode:=.panicking [{v:=.iface 41 (.int .i64 n),recovered:=true}]}::cs) w') {tmps:=T,defers:=[]} w:=λT h1 h2 h3 h4 h5 z =>
  wp_mono (h ⟨T,[]⟩ h1 rfl h2 h3 h4 h5 z) λe i w' ⟨o,x,y⟩=>by
   have:bodyPostS Tryz.prog Tryz.f31 b cs R .normal i ({b with mode:=.panicking [{v:=.iface 41 (.int .i64 n),recovered:=true}]}::cs) w':=⟨x,_,rfl,.tuple #[],by simp[results,Tryz.results31],y⟩
   rcases o with rfl | rfl<;>exact this
 refine key _ ?_ ?_ ?_ ?_ ?_ ?_
 all_goals clear key h
 .simp
 .simp_all
 .simp_all
 .simp_all
 .simp_all
 simp_all
def LO:ja:=⟨λ_ _=>none,λf args h=>if f=32 then asH args h else none,λ_ _ _=>none⟩
def PD:js Tryz.prog LO:=by
 refine⟨λ_ _ _ _ _ h=>(by cases h),λf args h r h' b=>?_,λ_ _ _ _ _ h=>(by cases h)⟩
 grind[LO,TE]
def RQ(n m:Int)(x y z:AB)(rest:AH):rF LO 32 [.uc 41 (.int .i64 n),.uc 84 (.ptr (rest.length+1+1+1) 0 0 0)] (x::y::z::(rest++[.var [.int .i64 m]]))=some (.bool true,x::y::z::(rest++[.var [.int .i64 n]])):=by
 simp[rF,LO,asH,jk,lG,AV.jE,AV.jD];split<;>rfl
def Bj{n:Nat}{cs:List AV}(h:cs.length=n):Am.shape n true cs=some (.agg cs):=by
 grind[Bk]
def ajM{V:aA}{ρ:Type}(k:AX->St->Option ρ)(n:Int)(cs a b:List AV)(rest:AH)(i:cs.length=10)(o:a.length=10)(l:b.length=7)(h:cs.all AV.jD=true):
  ∃e',eval LO r23 V ρ k ⟨iX [.ptr 0 0 0 0,.ptr 1 0 0 0,.ptr 2 0 0 0,.uc 41 (.int .i64 n),.bool true],.var cs :: .var a :: .var b::rest⟩ =
   k .normal ⟨e',.var cs :: .var cs :: .var [.int .i64 n,.int .i64 0,.int .i64 0,.int .i64 0,.int .i64 0,.en false [],.en false []]::(rest++[.var [.int .i64 n]])⟩:=by
 match cs,i,a,o,b,l with
 | [c0,y,c2,c3,c4,c5,c6,c7,c8,c9],_,[a0,H,a2,a3,a4,a5,a6,a7,a8,a9],_,[b0,b1,G,F,E,A,z],_ =>
  simp only[cm,gT,gN,aC]at h;let⟨h0,h1,h2,h3,h4,h5,x,v,r,q⟩:=h;simp -implicitDefEqProofs (disch:=omega)[mN,sI,sJ,sK,sL,sg,si,sj,su,sM,sN,oR,oQ,oT,oS,ko,jx,r23,iX,RQ,Bj,nI,h0,h1,h2,h3,h4,h5,x,v,r,q];exact⟨_,rfl⟩
def Ng{h:AH}{v:AV}(b:v.rI=true):lP h v=some (v,h):=by simp[lP,b]
def ado(Γ:ja)(f o:AV)(h:f.cells.all AV.qF=true)(b:o.cells.all AV.jD=true):
  qX Γ l12 ⟨iX [f,o],[]⟩=some ⟨((((iX [f,o]).put 2 (.ptr 0 0 0 0)).put 3 (.iw o.cells)).put 4 (.ptr 1 0 0 0)).put 5 (.ptr 2 0 0 0),[.var f.cells,.var GB,.var Gz]⟩:=by
 simp -implicitDefEqProofs (disch:=omega)[mN,sI,sJ,sK,sL,sg,si,sj,su,sM,sN,oR,oQ,oT,oS,ko,jx,l12,iX,h,b];exact⟨rfl,rfl⟩
def KE{p:Pn}{s:St}{r:AV}(h:zR p s=some r):∃n cs a b rest,p=(41,.i64,n)/\s.e 2 = .ptr 0 0 0 0/\s.e 4 = .ptr 1 0 0 0/\s.e 5 = .ptr 2 0 0 0/\s.h = .var cs :: .var a :: .var b::rest/\
  cs.length=10/\a.length=10/\b.length=7/\cs.all AV.jD=true/\r = .iV [.agg cs,.agg [.int .i64 n,.int .i64 0,.int .i64 0,.int .i64 0,.int .i64 0,.en false [],.en false []]]:=by
 unfold zR at h
 grind
def Mq{e:Env}{cs b:List AV}{x:AB}{rest:AH}(h4:e 4 = .ptr 1 0 0 0)(h5:e 5 = .ptr 2 0 0 0)(h:cs.length=10)(i:b.length=7):
  oa ⟨e,x :: .var cs :: .var b::rest⟩ xu=some (.iV [.agg cs,.agg b]):=by
 simp -implicitDefEqProofs (disch:=omega)[mN,sI,sJ,sK,sL,sg,si,sj,su,sM,sN,oR,oQ,oT,oS,ko,jx,xu,h4,h5,Bj,h,i]
def ajN{Z:ay}{β:iW}{w:World}{f o:AV}{u1 b:Value}(h1:VR β (Am.Own Z β []) w f u1)(h2:VR β (Am.Own Z β []) w o b):
  iP Z β [] w (iX [f,o]) {tmps:=[u1,b].toArray++Array.replicate (44 - [u1,b].toArray.size) undef,defers:=[]} 44:=by
 refine⟨ah,λt=>?_⟩
 have hg:∀t,([u1,b].toArray++Array.replicate (44 - [u1,b].toArray.size) undef).getD t undef=[u1,b].getD t undef:=λt=>by
  match t with
  |0 | 1=>simp
  |t+2=>simp[dw,eP];by_cases h:t<42<;>simp[h,show ¬t+2<2 by omega]
 rw[hg]
 match t with
 |0=>exact h1
 |1=>exact h2
 |t+2=>exact .dead _
def abV{Q:Exit->Act->World->Prop}{a:Act}{w:World}(i:a.tmps.size=44)
  (h:Q .normal {tmps:=a.tmps.setIfInBounds 9 (.func (.func 31) #[] #[a.tmps.getD 2 undef,a.tmps.getD 4 undef,a.tmps.getD 5 undef]),defers:={target:=.fn (.func 31) #[a.tmps.getD 2 undef,a.tmps.getD 4 undef,a.tmps.getD 5 undef],args := #[]}::a.defers} w):wpOps Tryz.prog IQ Q (List.range IQ.size) a w:=by
 have b:∀(fn:Fn)(first cap:Array Value)(w:World),(Instr.makeFunc fn first cap).run Tryz.prog w = .ok (.func fn first cap) w:=λ_ _ _ _=>rfl
 simp only[IQ,Tryz.f10];simp[wpOps,go_sem,i,b]
 simp_all
set_option maxHeartbeats 1000000 in
def aeO(Γ:ja)(L:js Tryz.prog Γ)(args:List AV)(r:AV)(h:AH)(A:args.all AV.jE=true)(T:Es Γ d12 args=some r):nC Tryz.prog 10 args h r h:=by
 have hm:Tryz.prog.follows .mixedOrders=true:=ai
 simp only[Es,d12,aD]at T;let⟨s0,z,T⟩:=T;unfold JO at z;split at z
 case h_2=>cases z
 rename_i f o;cases z;refine rT (r':=r) A ⟨⟨Tryz.f10,Tryz.func10,ai,ai⟩,λZ β w vs R hl hv=>?_⟩ h
 obtain⟨u1,S,rfl⟩:∃u1 S,vs=[u1,S]:=by
  match vs,hl with
  | [u1,S],_=>exact⟨u1,S,rfl⟩
 have hE:f.jE=true/\o.jE=true:=by simpa using A
 have hS:∀a:AV,a.jE=true->a.cells.all AV.jD=true:=λa ha=>by cases a<;>simp_all[AV.jE,AV.cells]
 have hO:∀a:AV,a.cells.all AV.jD=true->a.cells.all AV.qF=true:=λa ha=>aJ.2 λx hx=>nI (aJ.1 ha x hx)
 have hb:Tryz.f10.body=some (.seq Hy (.seq (.region 1 IQ false) DG)):=rfl;refine calls_of_wp_defers Tryz.func10 hb (wp_seq ?_);rw[Tryz.ntmps10];have E0:=ajN (Z:=Z) (β:=β) (w:=w) (hv 0 _ _ rfl rfl) (hv 1 _ _ rfl rfl)
 refine kR hm L (.ops l12) Hy acA (V:=λ_=>true) (ρ:=St) (k:=λx s=>match x with | .normal=>some s | _=>none) (s:=⟨iX [f,o],[]⟩)
  (r:=⟨((((iX [f,o]).put 2 (.ptr 0 0 0 0)).put 3 (.iw o.cells)).put 4 (.ptr 1 0 0 0)).put 5 (.ptr 2 0 0 0),[.var f.cells,.var GB,.var Gz]⟩)
  (by rw[eval,ado Γ f o (hO f (hS f hE.1)) (hS o hE.2)];rfl) (W:=λ_=>true) (λ_ _=>rfl) R E0 λx s1 l w1 β1 hk R1 F1 Q K1=>?_
 cases x<;>simp only[reduceCtorEq]at hk
 cases hk;have hd1:l.defers=[]:=K1.defers;let⟨b2,c2,q2,q2',e2⟩:=(Q.2 2).jl;let⟨b4,c4,q4,q4',e4⟩:=(Q.2 4).jl;let⟨b5,c5,q5,q5',e5⟩:=(Q.2 5).jl;refine wp_seq (wp_region ?_);refine abV Q.1 ?_
 change DG.wp _ _ _ _
 generalize hF:Value.func (.func 31) #[] #[l.tmps.getD 2 undef,l.tmps.getD 4 undef,l.tmps.getD 5 undef]=F;have E2:=Q.put (d:=9) aa (VR.dead (β:=β1) (O:=Am.Own Z β1 [.var f.cells,.var GB,.var Gz]) (w:=w1) F)
 have E3:iP Z β1 [.var f.cells,.var GB,.var Gz] w1 ((((((iX [f,o]).put 2 (.ptr 0 0 0 0)).put 3 (.iw o.cells)).put 4 (.ptr 1 0 0 0)).put 5 (.ptr 2 0 0 0)).put 9 .dead)
   {tmps:=l.tmps.setIfInBounds 9 F,defers:={target:=.fn (.func 31) #[l.tmps.getD 2 undef,l.tmps.getD 4 undef,l.tmps.getD 5 undef],args := #[]}::l.defers} 44:=⟨E2.1,E2.2⟩
 refine kR hm L P3 DG acz T (W:=λt=>decide (t≠2/\t≠4/\t≠5)) agL R1 E3 λx K a2 E β2 hk P F2 H K2=>?_
 have N:a2.defers=[{target:=.fn (.func 31) #[l.tmps.getD 2 undef,l.tmps.getD 4 undef,l.tmps.getD 5 undef],args := #[]}]:=by rw[K2.defers,hd1]
 have y:=F1.trans F2;have FF:Fr Z β [] w β2 K.h E:=⟨y.kJ,y.os,y.tape,y.output,λi v bd e=>(by rw[R.fresh i v (bp _)]at e;cases e),y.stay⟩
 have fin:((oa K xu).bind λv=>(lP K.h v).bind λq=>some q.1)=some r->Leaves Tryz.prog Tryz.f10 a2.tmps (λe w'=>∃v β' r0 h1 h2,e = .returned v/\lP h1 r0=some (r,h2)/\Rel Z β' h1 w'/\Fr Z β [] w β' h1 w'/\VR β' (Am.Own Z β' h1) w' r0 v) a2.defers .returning E:=by
  intro hq;simp only[aD]at hq;let⟨v,Y,⟨r',h3⟩,X,U⟩:=hq;cases U;rw[N];refine leaves_cons (f:=31) (args := #[l.tmps.getD 2 undef,l.tmps.getD 4 undef,l.tmps.getD 5 undef]) ah (by simp[go_sem]) ?_
  refine(HS _ _ _ _).mono ?_
  rintro e u' w'' ⟨rfl,rfl,rfl⟩
  let⟨u,g1,g2⟩:=qg P H IU Y;exact⟨u,g1,u,β2,v,K.h,h3,rfl,X,P,FF,g2⟩
 cases x with
 |exit id=>cases hk
 |normal=>exact fin hk
 |ret=>exact fin hk
 |mD p =>
  obtain⟨n,cs,a,b,rest,rfl,h2,h4,h5,hh,l1,l2,l3,l4,rfl⟩:=KE hk;rw[hh]at P F2 y FF H
  have same:∀t,t=2\/t=4\/t=5->a2.tmps.getD t undef=l.tmps.getD t undef:=λt ht=>by
   refine(K2.same t aj).trans ?_
   rcases ht with rfl | rfl | rfl<;>simp[aO,fB]
  let⟨e',he⟩:=ajM (V:=λi=>decide ((AB.var cs :: .var a :: .var b::rest).length<=i)) (ρ:=St) (λx s=>match x with | .normal=>some s | _=>none) n cs a b rest l1 l2 l3 l4
  have l5:K.e 2 = .ptr 0 0 0 0:=h2
  change Leaves Tryz.prog Tryz.f10 a2.tmps _ a2.defers (.panicking (US (41,.i64,n))) E
  rw[N];refine leaves_cons (f:=31) (args := #[l.tmps.getD 2 undef,l.tmps.getD 4 undef,l.tmps.getD 5 undef]) ah (by simp[go_sem]) ?_
  refine xY _ _ _ n E λac hz hd g0 g1 g2 g3 g4=>?_
  have E5:iP Z β2 (.var cs :: .var a :: .var b::rest) E (iX [.ptr 0 0 0 0,.ptr 1 0 0 0,.ptr 2 0 0 0,.uc 41 (.int .i64 n),.bool true]) ac 20:=by
   refine⟨hz,λt=>?_⟩
   match t with
   |0=>rw[g0,<-same 2 (.inl rfl)];have:=H.2 2;rw[h2]at this;exact this
   |1=>rw[g1,<-same 4 (.inr (.inl rfl))];have:=H.2 4;rw[h4]at this;exact this
   |2=>rw[g2,<-same 5 (.inr (.inr rfl))];have:=H.2 5;rw[h5]at this;exact this
   |3=>rw[g3];exact .uc _ _ _ (VR.of_int _ _)
   |4=>rw[g4];exact VR.of_bool _
   |t+5=>exact .dead _
  refine kR hm PD r23 DE acy he (W:=λ_=>true) (λ_ _=>rfl) P E5 λx s3 a3 w3 β3 M R3 G E6 K3=>?_
  cases x<;>simp only[reduceCtorEq]at M
  cases M
  have F4:Fr Z β2 _ E β3 _ w3:=⟨G.kJ,G.os,G.tape,G.output,λi v bd e=>G.ext i v bd (by
   simp only[decide_eq_false_iff_not];intro hle;rw[P.fresh i v hle]at e;cases e) e,G.stay⟩
  let⟨u,g5,g6⟩:=qg R3 (H.fr F4) IU (Mq h4 h5 l1 rfl);exact⟨.inl rfl,K3.defers.trans hd,u,g5,u,β3,_,_,_,rfl,Ng (by simp;exact λx hx=>aJ.1 l4 x hx),R3,FF.trans F4,g6⟩
end Go.Proofs.YtahlmpbhfljalaaGreatDoor
