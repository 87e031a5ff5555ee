/- Part of the proof that TopTwoPartsCard holds. -/
import Derived.Test.YtghgbehknhmnaaaGreatDoorAt30
import Derived.Recover
set_option linter.all false
namespace Go.Proofs.YtghgbehknhmnaaaGreatDoor
open Go.Am Go.Proofs Go.RowKit Go.Lib
def l12:IT:=(.op (some 2) (.box (.t 0)) (.op (some 3) (.Fh (.t 1)) (.op (some 4) (.alloc [.b9 false [],.int .i64 0,.int .i64 0,.int .i64 0,.b9 false [],.b9 false [],.b9 false [],.int .i64 0,.b9 false [],.b9 false []]) (.op (some 5) (.alloc [.int .i64 0,.int .i64 0,.int .i64 0,.int .i64 0,.int .i64 0,.b9 false [],.b9 false []]) (.nil)))))
def Qp:AC:=(.seq (.ops (.op (some 11) (.wP 25 []) (.op (some 12) (.LJ 0 (.t 3)) (.op (some 13) (.sC 1 false (.t 12)) (.op (some 14) (.sV .i64 (.mj) (.t 11) (.t 13)) (.op (some 10) (.mv (.t 14)) (.op (some 15) (.ext (.t 10) 0) (.op (some 16) (.ext (.t 10) 1) (.op (some 6) (.mv (.t 15)) (.op (some 7) (.mv (.t 16)) (.nil)))))))))))
 (.seq (.vk [(.op (some 17) (.mv (.t 7)) (.op (some 18) (.mv (.t 17)) (.sc 22 true 18 19 21 (.op (some 19) (.LJ 1 (.t 3)) (.op (some 20) (.sC 1 false (.t 19)) (.op (some 21) (.bin .geq (.t 20) (.c (.int .i64 0))) (.nil)))) (.t 21) (.op (some 23) (.mv (.t 22)) (.sc 27 true 23 24 26 (.op (some 24) (.LJ 1 (.t 3)) (.op (some 25) (.sC 1 false (.t 24)) (.op (some 26) (.bin .lss (.t 25) (.c (.int .i64 16))) (.nil)))) (.t 26) (.nil))))),.call (some 28) 26 [(.t 27),(.c (.int .i64 1))])] (.nil))
 (.seq (.ops (.op (some 29) (.load 10 true (.t 2)) (.op (some 30) (.sC 8 true (.t 3)) (.op (some 31) (.build [.b9 false [],.int .i64 0,.int .i64 0,.int .i64 0,.b9 false [],.b9 false [],.b9 false [],.int .i64 0,.b9 false [],.b9 false [],.int .i64 0,.int .i64 0,.str [],.str [],.int .i64 0,.int .i64 0,.int .i64 0,.b9 false [],.int .i64 0,.int .i64 0,.int .i64 0,.int .i64 0,.int .i64 0,.b9 false [],.b9 false []] [(0,10,(.t 29)),(10,8,(.t 30))]) (.op (some 32) (.box (.t 31)) (.op (some 8) (.mv (.t 32)) (.nil)))))))
 (.seq (.vk [(.op (some 33) (.mv (.t 6)) (.op (some 34) (.mv (.t 8)) (.nil)),.lQ (some 35) (.t 33) [(.t 34)])] (.nil))
 (.seq (.ops (.op (some 36) (.mv (.t 8)) (.op (some 37) (.Nl (.t 36)) (.op (some 38) (.LJ 0 (.t 37)) (.op (some 39) (.load 10 true (.t 38)) (.op (some 40) (.mv (.t 8)) (.op (some 41) (.Nl (.t 40)) (.op (some 42) (.LJ 18 (.t 41)) (.op (some 43) (.oc 7 true (.t 42) 4) (.op none (.ot 10 (.t 4) (.t 39) 4) (.op none (.store 7 (.t 5) (.t 43)) (.nil))))))))))))
 (.ret))))))
def r23:AC:=(.seq (.ops (.op (some 11) (.mv (.t 4)) (.nil)))
 (.cond (.t 11) (.seq (.ops (.op (some 5) (.alloc [.int .i64 0]) (.nil)))
 (.seq (.seq (.ops (.op (some 12) (.mv (.t 3)) (.op (some 13) (.LG 77 (.t 5)) (.op (some 14) (.call 24 [(.t 12),(.t 13)]) (.op (some 15) (.un .not (.t 14)) (.nil))))))
 (.cond (.t 15) (.vk [(.op (some 16) (.mv (.t 3)) (.nil),.ny (.t 16))] (.nil)) (.skip)))
 (.ops (.op (some 17) (.load 10 true (.t 0)) (.op (some 18) (.load 1 false (.t 5)) (.op (some 19) (.build [.int .i64 0,.int .i64 0,.int .i64 0,.int .i64 0,.int .i64 0,.b9 false [],.b9 false []] [(0,1,(.t 18))]) (.op none (.store 10 (.t 1) (.t 17)) (.op none (.store 7 (.t 2) (.t 19)) (.nil))))))))) (.skip)))
def nY:List AV:=[.b9 false [],.int .i64 0,.int .i64 0,.int .i64 0,.b9 false [],.b9 false [],.b9 false [],.int .i64 0,.b9 false [],.b9 false []]
def Dm:List AV:=[.int .i64 0,.int .i64 0,.int .i64 0,.int .i64 0,.int .i64 0,.b9 false [],.b9 false []]
def Ka:List AV->Option St
 | [f,o]=>some ⟨(((((jJ [f,o]).put 2 (.ptr 0 0 0 0)).put 3 (.iV o.cells)).put 4 (.ptr 1 0 0 0)).put 5 (.ptr 2 0 0 0)).put 9 .dead,[.var f.cells,.var nY,.var Dm]⟩
 |_=>none
def yK:List AR:=[.cell 4 10 true,.cell 5 7 true]
def Bj(p:Pn)(s:St):Option AV:=match p,s.e 2,s.e 4,s.e 5,s.h with
 |(45,.i64,n),.ptr 0 0 0 0,.ptr 1 0 0 0,.ptr 2 0 0 0,.var cs :: .var a :: .var b::_ =>
  if cs.length=10/\a.length=10/\b.length=7/\cs.all AV.jW=true then some (.jg [.agg cs,.agg [.int .i64 n,.int .i64 0,.int .i64 0,.int .i64 0,.int .i64 0,.b9 false [],.b9 false []]])else none
 |_,_,_,_,_=>none
def d12:DF:=⟨Ka,Qp,yK,Bj⟩
noncomputable def Ep:Code:=match Tryz.f12.body with
 |some (.seq _ (.seq _ c))=>c
 |_=>.skip
noncomputable def HK:Code:=match Tryz.f12.body with
 |some (.seq c _)=>c
 |_=>.skip
noncomputable def I2:Array Oper:=match Tryz.f12.body with
 |some (.seq _ (.seq (.region _ ops _) _))=>ops
 |_ => #[]
noncomputable def Eo:Code:=match Tryz.f23.body with
 |some (.seq _ c)=>c
 |_=>.skip
def acF:je Tryz.prog 44 HK (.ops l12)=true:=aj
def acE:je Tryz.prog 44 Ep Qp=true:=aj
def acD:je Tryz.prog 20 Eo r23=true:=aj
def I3:oI Tryz.prog Tryz.f12.results.toList yK=true:=aj
def ag5:∀t∈sG Qp,(λt=>decide (t≠2/\t≠4/\t≠5)) t=true:=by
 have:(sG Qp).all (λt=>decide (t≠2/\t≠4/\t≠5))=true:=aj
 simpa using this
def ahd(v:Value)(w:World):(Instr.typeAssert (.iface 45 v) 20 74 true).run Tryz.prog w = .ok (.tuple #[.iface 45 v,.bool true]) w:=aj
def taN(w:World):(Instr.typeAssert .nilIface 20 74 true).run Tryz.prog w = .ok (.tuple #[.nilIface,.bool false]) w:=aj
def H9(p q r:Value)(w:World):
  CallsD Tryz.prog 23 #[p,q,r] .returning w λe i w'=>e = .returned (.tuple #[])/\i = .returning/\w'=w:=by
 refine callsD_of_wpS Tryz.func23 rfl λb cs h=>?_
 apply wpS_seq;apply wpS_region;simp[wpOpsS,go_sem,recoverD,h,Tryz.ntmps23,Exit.thenS,taN];apply wpS_seq;apply wpS_region;simp[wpOpsS,go_sem,recoverD,h,Tryz.ntmps23,Exit.thenS,taN];refine wpS_cond (t:=false) (by simp[Act.eval,Array.replicate]) ?_
 simp only[aZ,if_false];refine wpS_of_wp (wp_skip ?_);cases b
 simp_all[bodyPostS,results,Tryz.results23]
set_option maxHeartbeats 1000000 in
def zm(p q r:Value)(n:Int)(w:World){R:Ending->FrameMode->World->Prop}
  (h:∀a:Act,a.tmps.size=20->a.defers=[]->a.tmps.getD 0 undef=p->a.tmps.getD 1 undef=q->a.tmps.getD 2 undef=r->a.tmps.getD 3 undef = .iface 45 (.int .i64 n)->a.tmps.getD 4 undef = .bool true->
   Eo.wp Tryz.prog (λe i w'=>(e = .normal\/e = .ret)/\i.defers=[]/\R (.returned (.tuple #[])) (.panicking [{v:=.iface 45 (.int .i64 n),recovered:=true}]) w') a w) :
  CallsD Tryz.prog 23 #[p,q,r] (.panicking [{v:=.iface 45 (.int .i64 n),recovered:=false}]) w R:=by
 refine callsD_of_wpS Tryz.func23 rfl λb cs l=>?_
 apply wpS_seq;apply wpS_region;simp[wpOpsS,go_sem,recoverD,l,Tryz.ntmps23,Exit.thenS,ahd];refine wpS_of_wp ?_
 have key:∀T:Array Value,T.size=20->T.getD 0 undef=p->T.getD 1 undef=q->T.getD 2 undef=r->T.getD 3 undef = .iface 45 (.int .i64 n)->T.getD 4 undef = .bool true->
   Eo.wp Tryz.prog (λe i w'=>bodyPostS Tryz.prog Tryz.f23 b cs R e i ({b with mode:=.panicking [{v:=.iface 45 (.int .i64 n),recovered:=true}]}::cs) w') {tmps:=T,defers:=[]} w:=λT h1 h2 h3 h4 h5 h6 =>
  wp_mono (h ⟨T,[]⟩ h1 rfl h2 h3 h4 h5 h6) λe i w' ⟨o,x,y⟩=>by
   have:bodyPostS Tryz.prog Tryz.f23 b cs R .normal i ({b with mode:=.panicking [{v:=.iface 45 (.int .i64 n),recovered:=true}]}::cs) w':=⟨x,_,rfl,.tuple #[],by simp[results,Tryz.results23],y⟩
   rcases o with rfl | rfl<;>exact this
 refine key _ ?_ ?_ ?_ ?_ ?_ ?_
 all_goals clear key h
 .simp
 .simp_all
 .simp_all
 .simp_all
 .simp_all
 simp_all
def L7:jE:=⟨λ_ _=>none,λf args h=>if f=24 then LL args h else none,λ_ _ _=>none⟩
def P7:j3 Tryz.prog L7:=by
 refine⟨λ_ _ _ _ _ h=>(by cases h),λf args h r h' b=>?_,λ_ _ _ _ _ h=>(by cases h)⟩
 grind[L7,TP]
def Sy(n m:Int)(x y z:AB)(rest:AH):eT L7 24 [.sI 45 (.int .i64 n),.sI 77 (.ptr (rest.length+1+1+1) 0 0 0)] (x::y::z::(rest++[.var [.int .i64 m]]))=some (.bool true,x::y::z::(rest++[.var [.int .i64 n]])):=by
 simp[eT,L7,LL,jT,mH,AV.j8,AV.jW];split<;>rfl
def Cn{n:Nat}{cs:List AV}(h:cs.length=n):Am.shape n true cs=some (.agg cs):=by
 grind[Co]
def akk{V:aB}{ρ:Type}(k:AX->St->Option ρ)(n:Int)(cs a b:List AV)(rest:AH)(i:cs.length=10)(o:a.length=10)(l:b.length=7)(h:cs.all AV.jW=true):
  ∃e',eval L7 r23 V ρ k ⟨jJ [.ptr 0 0 0 0,.ptr 1 0 0 0,.ptr 2 0 0 0,.sI 45 (.int .i64 n),.bool true],.var cs :: .var a :: .var b::rest⟩ =
   k .normal ⟨e',.var cs :: .var cs :: .var [.int .i64 n,.int .i64 0,.int .i64 0,.int .i64 0,.int .i64 0,.b9 false [],.b9 false []]::(rest++[.var [.int .i64 n]])⟩:=by
 match cs,i,a,o,b,l with
 | [y,x,v,c3,c4,c5,c6,c7,c8,c9],_,[a0,K,H,a3,a4,a5,a6,a7,a8,a9],_,[b0,b1,G,F,E,A,z],_ =>
  simp only[bV,iJ,Bool.and_true,aF]at h;let⟨h0,h1,h2,h3,h4,h5,h6,r,h8,q⟩:=h;simp -implicitDefEqProofs (disch:=omega)[oB,uT,uU,uV,uW,uN,uO,uP,uQ,uX,uY,qB,qA,qD,qC,lS,j6,r23,jJ,Sy,Cn,oy,h0,h1,h2,h3,h4,h5,h6,r,h8,q];exact⟨_,rfl⟩
def ND{h:AH}{v:AV}(b:v.sH=true):nr h v=some (v,h):=by simp[nr,b]
def ads(Γ:jE)(f o:AV)(h:f.cells.all AV.sw=true)(b:o.cells.all AV.jW=true):
  rT Γ l12 ⟨jJ [f,o],[]⟩=some ⟨((((jJ [f,o]).put 2 (.ptr 0 0 0 0)).put 3 (.iV o.cells)).put 4 (.ptr 1 0 0 0)).put 5 (.ptr 2 0 0 0),[.var f.cells,.var nY,.var Dm]⟩:=by
 simp -implicitDefEqProofs (disch:=omega)[oB,uT,uU,uV,uW,uN,uO,uP,uQ,uX,uY,qB,qA,qD,qC,lS,j6,l12,jJ,h,b];exact⟨rfl,rfl⟩
def KX{p:Pn}{s:St}{r:AV}(h:Bj p s=some r):∃n cs a b rest,p=(45,.i64,n)/\s.e 2 = .ptr 0 0 0 0/\s.e 4 = .ptr 1 0 0 0/\s.e 5 = .ptr 2 0 0 0/\s.h = .var cs :: .var a :: .var b::rest/\
  cs.length=10/\a.length=10/\b.length=7/\cs.all AV.jW=true/\r = .jg [.agg cs,.agg [.int .i64 n,.int .i64 0,.int .i64 0,.int .i64 0,.int .i64 0,.b9 false [],.b9 false []]]:=by
 unfold Bj at h
 grind
def MG{e:Env}{cs b:List AV}{x:AB}{rest:AH}(h4:e 4 = .ptr 1 0 0 0)(h5:e 5 = .ptr 2 0 0 0)(h:cs.length=10)(i:b.length=7):
  pV ⟨e,x :: .var cs :: .var b::rest⟩ yK=some (.jg [.agg cs,.agg b]):=by
 simp -implicitDefEqProofs (disch:=omega)[oB,uT,uU,uV,uW,uN,uO,uP,uQ,uX,uY,qB,qA,qD,qC,lS,j6,yK,h4,h5,Cn,h,i]
def akl{Z:az}{β:jO}{w:World}{f o:AV}{u1 b:Value}(h1:VR β (Am.Own Z β []) w f u1)(h2:VR β (Am.Own Z β []) w o b):
  jt Z β [] w (jJ [f,o]) {tmps:=[u1,b].toArray++Array.replicate (44 - [u1,b].toArray.size) undef,defers:=[]} 44:=by
 refine⟨ai,λt=>?_⟩
 have hg:∀t,([u1,b].toArray++Array.replicate (44 - [u1,b].toArray.size) undef).getD t undef=[u1,b].getD t undef:=λt=>by
  match t with
  |0 | 1=>simp
  |t+2=>simp[fL,fh];by_cases h:t<42<;>simp[h,show ¬t+2<2 by omega]
 rw[hg]
 match t with
 |0=>exact h1
 |1=>exact h2
 |t+2=>exact .dead _
def ab3{Q:Exit->Act->World->Prop}{a:Act}{w:World}(i:a.tmps.size=44)
  (h:Q .normal {tmps:=a.tmps.setIfInBounds 9 (.func (.func 23) #[] #[a.tmps.getD 2 undef,a.tmps.getD 4 undef,a.tmps.getD 5 undef]),defers:={target:=.fn (.func 23) #[a.tmps.getD 2 undef,a.tmps.getD 4 undef,a.tmps.getD 5 undef],args := #[]}::a.defers} w):wpOps Tryz.prog I2 Q (List.range I2.size) a w:=by
 have b:∀(fn:Fn)(first cap:Array Value)(w:World),(Instr.makeFunc fn first cap).run Tryz.prog w = .ok (.func fn first cap) w:=λ_ _ _ _=>rfl
 simp only[I2,Tryz.f12];simp[wpOps,go_sem,i,b]
 simp_all
set_option maxHeartbeats 1000000 in
def aeI(Γ:jE)(M:j3 Tryz.prog Γ)(args:List AV)(r:AV)(h:AH)(A:args.all AV.j8=true)(U:Ae Γ d12 args=some r):ux Tryz.prog 12 args h r h:=by
 have hm:Tryz.prog.follows .mixedOrders=true:=aj
 simp only[Ae,d12,aG]at U;let⟨s0,z,U⟩:=U;unfold Ka at z;split at z
 case h_2=>cases z
 rename_i f o;cases z;refine wh (r':=r) A ⟨⟨Tryz.f12,Tryz.func12,aj,aj⟩,λZ β w vs R hl hv=>?_⟩ h
 obtain⟨u1,T,rfl⟩:∃u1 T,vs=[u1,T]:=by
  match vs,hl with
  | [u1,T],_=>exact⟨u1,T,rfl⟩
 have hE:f.j8=true/\o.j8=true:=by simpa using A
 have hS:∀a:AV,a.j8=true->a.cells.all AV.jW=true:=λa ha=>by cases a<;>simp_all[AV.j8,AV.cells]
 have hO:∀a:AV,a.cells.all AV.jW=true->a.cells.all AV.sw=true:=λa ha=>aM.2 λx X=>oy (aM.1 ha x X)
 have hb:Tryz.f12.body=some (.seq HK (.seq (.region 1 I2 false) Ep)):=rfl;refine calls_of_wp_defers Tryz.func12 hb (wp_seq ?_);rw[Tryz.ntmps12];have E0:=akl (Z:=Z) (β:=β) (w:=w) (hv 0 _ _ rfl rfl) (hv 1 _ _ rfl rfl)
 refine mD hm M (.ops l12) HK acF (V:=λ_=>true) (ρ:=St) (k:=λx s=>match x with | .normal=>some s | _=>none) (s:=⟨jJ [f,o],[]⟩)
  (r:=⟨((((jJ [f,o]).put 2 (.ptr 0 0 0 0)).put 3 (.iV o.cells)).put 4 (.ptr 1 0 0 0)).put 5 (.ptr 2 0 0 0),[.var f.cells,.var nY,.var Dm]⟩)
  (by rw[eval,ads Γ f o (hO f (hS f hE.1)) (hS o hE.2)];rfl) (W:=λ_=>true) (λ_ _=>rfl) R E0 λx s1 l w1 β1 hk R1 F1 S K1=>?_
 cases x<;>simp only[reduceCtorEq]at hk
 cases hk;have hd1:l.defers=[]:=K1.defers;let⟨b2,c2,q2,q2',e2⟩:=(S.2 2).kY;let⟨b4,c4,q4,q4',e4⟩:=(S.2 4).kY;let⟨b5,c5,q5,q5',e5⟩:=(S.2 5).kY;refine wp_seq (wp_region ?_);refine ab3 S.1 ?_
 change Ep.wp _ _ _ _
 generalize hF:Value.func (.func 23) #[] #[l.tmps.getD 2 undef,l.tmps.getD 4 undef,l.tmps.getD 5 undef]=F;have E2:=S.put (d:=9) af (VR.dead (β:=β1) (O:=Am.Own Z β1 [.var f.cells,.var nY,.var Dm]) (w:=w1) F)
 have E3:jt Z β1 [.var f.cells,.var nY,.var Dm] w1 ((((((jJ [f,o]).put 2 (.ptr 0 0 0 0)).put 3 (.iV o.cells)).put 4 (.ptr 1 0 0 0)).put 5 (.ptr 2 0 0 0)).put 9 .dead)
   {tmps:=l.tmps.setIfInBounds 9 F,defers:={target:=.fn (.func 23) #[l.tmps.getD 2 undef,l.tmps.getD 4 undef,l.tmps.getD 5 undef],args := #[]}::l.defers} 44:=⟨E2.1,E2.2⟩
 refine mD hm M Qp Ep acE U (W:=λt=>decide (t≠2/\t≠4/\t≠5)) ag5 R1 E3 λx L G E β2 hk Q F2 K K2=>?_
 have P:G.defers=[{target:=.fn (.func 23) #[l.tmps.getD 2 undef,l.tmps.getD 4 undef,l.tmps.getD 5 undef],args := #[]}]:=by rw[K2.defers,hd1]
 have y:=F1.trans F2;have FF:Fr Z β [] w β2 L.h E:=⟨y.lF,y.os,y.tape,y.output,λi v bd e=>(by rw[R.fresh i v (aT _)]at e;cases e),y.stay⟩
 have fin:((pV L yK).bind λv=>(nr L.h v).bind λq=>some q.1)=some r->Leaves Tryz.prog Tryz.f12 G.tmps (λe w'=>∃v β' r0 h1 h2,e = .returned v/\nr h1 r0=some (r,h2)/\Rel Z β' h1 w'/\Fr Z β [] w β' h1 w'/\VR β' (Am.Own Z β' h1) w' r0 v) G.defers .returning E:=by
  intro hq;simp only[aG]at hq;let⟨v,D1,⟨r',h3⟩,hv2,Y⟩:=hq;cases Y;rw[P];refine leaves_cons (f:=23) (args := #[l.tmps.getD 2 undef,l.tmps.getD 4 undef,l.tmps.getD 5 undef]) ai (by simp[go_sem]) ?_
  refine(H9 _ _ _ _).mono ?_
  rintro e u' w'' ⟨rfl,rfl,rfl⟩
  let⟨u,g1,g2⟩:=qT Q K I3 D1;exact⟨u,g1,u,β2,v,L.h,h3,rfl,hv2,Q,FF,g2⟩
 cases x with
 |exit id=>cases hk
 |normal=>exact fin hk
 |ret=>exact fin hk
 |ny p =>
  obtain⟨n,cs,a,b,rest,rfl,h2,h4,h5,hh,l1,l2,l3,l4,rfl⟩:=KX hk;rw[hh]at Q F2 y FF K
  have same:∀t,t=2\/t=4\/t=5->G.tmps.getD t undef=l.tmps.getD t undef:=λt ht=>by
   refine(K2.same t ak).trans ?_
   rcases ht with rfl | rfl | rfl<;>simp[bD,fZ]
  let⟨e',he⟩:=akk (V:=λi=>decide ((AB.var cs :: .var a :: .var b::rest).length<=i)) (ρ:=St) (λx s=>match x with | .normal=>some s | _=>none) n cs a b rest l1 l2 l3 l4
  have l5:L.e 2 = .ptr 0 0 0 0:=h2
  change Leaves Tryz.prog Tryz.f12 G.tmps _ G.defers (.panicking (UW (45,.i64,n))) E
  rw[P];refine leaves_cons (f:=23) (args := #[l.tmps.getD 2 undef,l.tmps.getD 4 undef,l.tmps.getD 5 undef]) ai (by simp[go_sem]) ?_
  refine zm _ _ _ n E λac hz hd g0 g1 g2 g3 g4=>?_
  have E5:jt Z β2 (.var cs :: .var a :: .var b::rest) E (jJ [.ptr 0 0 0 0,.ptr 1 0 0 0,.ptr 2 0 0 0,.sI 45 (.int .i64 n),.bool true]) ac 20:=by
   refine⟨hz,λt=>?_⟩
   match t with
   |0=>rw[g0,<-same 2 (.inl rfl)];have:=K.2 2;rw[h2]at this;exact this
   |1=>rw[g1,<-same 4 (.inr (.inl rfl))];have:=K.2 4;rw[h4]at this;exact this
   |2=>rw[g2,<-same 5 (.inr (.inr rfl))];have:=K.2 5;rw[h5]at this;exact this
   |3=>rw[g3];exact .sI _ _ _ (VR.of_int _ _)
   |4=>rw[g4];exact VR.of_bool _
   |t+5=>exact .dead _
  refine mD hm P7 r23 Eo acD he (W:=λ_=>true) (λ_ _=>rfl) Q E5 λx s3 a3 w3 β3 N R3 H E6 K3=>?_
  cases x<;>simp only[reduceCtorEq]at N
  cases N
  have F4:Fr Z β2 _ E β3 _ w3:=⟨H.lF,H.os,H.tape,H.output,λi v bd e=>H.ext i v bd (by
   simp only[decide_eq_false_iff_not];intro hle;rw[Q.fresh i v hle]at e;cases e) e,H.stay⟩
  let⟨u,g5,g6⟩:=qT R3 (K.fr F4) I3 (MG h4 h5 l1 rfl);exact⟨.inl rfl,K3.defers.trans hd,u,g5,u,β3,_,_,_,rfl,ND (by simp;exact λx X=>aM.1 l4 x X),R3,FF.trans F4,g6⟩
end Go.Proofs.YtghgbehknhmnaaaGreatDoor
