/- Part of the proof that TopScriptsCard holds. -/
import Derived.Test.YtahlmpbhfljalaaGreatDoorRp32a
import Derived.Test.YtahlmpbhfljalaaGreatDoorAmSr
set_option linter.all false
set_option maxRecDepth 100000
namespace Go.Proofs.YtahlmpbhfljalaaGreatDoor
open Go.Am Go.Am.Nm Go.Shelf Go.Proofs
def ahZ:Ren:=⟨λ| 143=>141 | 217=>142 | 219=>178 | 224=>278 | 225=>277 | 266=>246 | 267=>279 | 314=>333 | n=>n,λ| 3=>3 | 4=>4 | 5=>5 | 9=>9 | 46=>131 | 51=>355 | 146=>397 | n=>n,λ| 1=>4 | n=>n⟩
def ac3:Lays.n143 Tryz.prog ahZ where
 mixed:=ai
 f143:=Tryz.func141.trans (congrArg some ai)
 f217:=Tryz.func142.trans (congrArg some ai)
 f219:=Tryz.func178.trans (congrArg some ai)
 f224:=Tryz.func278.trans (congrArg some ai)
 f225:=Tryz.func277.trans (congrArg some ai)
 f266:=Tryz.func246.trans (congrArg some ai)
 f267:=Tryz.func279.trans (congrArg some ai)
 f314:=Tryz.func333.trans (congrArg some ai)
 t3:=Tryz.underlying3
 a3:=Tryz.isAgg3
 z3:=Tryz.sizeOf3
 v3:=Tryz.zeroValue3
 t4:=Tryz.underlying4
 a4:=Tryz.isAgg4
 z4:=Tryz.sizeOf4
 v4:=Tryz.zeroValue4
 t5:=Tryz.underlying5
 a5:=Tryz.isAgg5
 z5:=Tryz.sizeOf5
 v5:=Tryz.zeroValue5
 t9:=Tryz.underlying9
 a9:=Tryz.isAgg9
 z9:=Tryz.sizeOf9
 v9:=Tryz.zeroValue9
 t46:=Tryz.underlying131
 a46:=Tryz.isAgg131
 z46:=Tryz.sizeOf131
 v46:=Tryz.zeroValue131
 t51:=Tryz.underlying355
 a51:=Tryz.isAgg355
 z51:=Tryz.sizeOf355
 v51:=Tryz.zeroValue355
 t146:=Tryz.underlying397
 a146:=Tryz.isAgg397
 z146:=Tryz.sizeOf397
 v146:=Tryz.zeroValue397
 g1:=ai
def adn(args:List AV)(r:AV)(h:AH)(b:Sq.Qq args=some r):nC Tryz.prog 141 args h r h:=Sq.Qp ac3 ⟨_,Tryz.func141,ai,ai⟩ h b
def c47:AF:=AF.mk 8 [.t 4] (.seq (.ops (.op (some 4) (.mv (.c (.kU))) (.nil))) (.seq (.ops (.op (some 5) (.mv (.t 0)) (.op (some 6) (.mv (.t 1)) (.op (some 7) (.call 96 [(.t 5),(.t 6),(.c (.int .i64 0))]) (.op (some 4) (.mv (.t 7)) (.nil)))))) .ret))
def c96:AF:=AF.mk 8 [.t 6] (.seq (.ops (.op (some 3) (.box (.t 0)) (.op (some 4) (.box (.t 1)) (.op (some 5) (.box (.t 2)) (.op (some 6) (.mv (.c (.kU))) (.nil)))))) (.seq (.ops (.op (some 7) (.Hi (.func 166) [] [(.t 4),(.t 3),(.t 5)]) (.op (some 6) (.mv (.t 7)) (.nil)))) .ret))
def aiI:okF Tryz.prog 47 c47=true:=ai
def aiG:okF Tryz.prog 96 c96=true:=ai
noncomputable def kd0(f:FuncId):Kd:=if f=5\/f=19 then .no else if f=47 then .h c47 else if f=96 then .h c96 else if f=141 then .y Sq.Qq else gV.kd f
noncomputable def ah3(f:FuncId):Nat:=if f=47 then 1 else if f=96 then 0 else if f=141 then 0 else gV.pos f
noncomputable def C0:iu:=⟨kd0,ah3⟩
def VX:∀f,(C0.kd f).ok Tryz.prog f:=λf=>by
 show (kd0 f).ok Tryz.prog f;unfold kd0
 by_cases h:f=5\/f=19
 .rw[if_pos h];trivial
 rw[if_neg h]
 by_cases h1:f=47
 .rw[if_pos h1,h1];exact aiI
 rw[if_neg h1]
 by_cases h2:f=96
 .rw[if_pos h2,h2];exact aiG
 rw[if_neg h2]
 by_cases h3:f=141
 .rw[if_pos h3,h3];exact adn
 rw[if_neg h3];exact C8 f (λe=>h (.inl e)) (λe=>h (.inr e))
def PF(n:Nat):js Tryz.prog (C0.fk n):=iu.yG nr VX n
def Fe:∀f,(C0.kd f).mono:=λf=>by
 show (kd0 f).mono;unfold kd0;split
 .trivial
 split
 .trivial
 split
 .trivial
 split
 .trivial
 exact BF f
def acG:Sq.L3 Tryz.prog 166 141=true:=ai
def s47{n:Nat}(o:1<n)(s p:aq)(h:AH):rF (C0.fk n) 47 [.str s,.str p] h=some (.fn (.func 166) [] [.ptr (h.length+1) 0 0 0,.ptr h.length 0 0 0,.ptr (h.length+2) 0 0 0],h++[.var [.str s],.var [.str p],.var [.int .i64 0]]):=by
 have b:∀h,rF (C0.fk 1) 96 [.str s,.str p,.int .i64 0] h=jU (C0.fk 0) c96 [.str s,.str p,.int .i64 0] h:=λh=>(iE (λ_=>iu.lW rfl _ _)).trans (iu.nu rfl rfl af _ h)
 have i:rF (C0.fk n) 47 [.str s,.str p] h=jU (C0.fk 1) c47 [.str s,.str p] h:=(iE (λ_=>iu.lW rfl _ _)).trans (iu.nu rfl rfl o _ h)
 have l:rF (C0.fk 1) 96 [.str s,.str p,.int .i64 0] h=some (.fn (.func 166) [] [.ptr (h.length+1) 0 0 0,.ptr h.length 0 0 0,.ptr (h.length+2) 0 0 0],h++[.var [.str s],.var [.str p],.var [.int .i64 0]]):=by
  rw[b,b6];simp(disch:=omega)[c96]
 rw[i,b6];simp(disch:=omega)[c47,l]
end Go.Proofs.YtahlmpbhfljalaaGreatDoor
set_option maxRecDepth 100000
namespace Go.Proofs.YtahlmpbhfljalaaGreatDoor
open Go.Am Go.Am.Nm Go.Shelf Go.Proofs Go.RowKit
abbrev evZ:List AV:=[.int .i64 0,.int .i64 0,.int .i64 0,.int .i64 0,.str [],.str [],.int .i64 0,.int .i64 0,.int .i64 0,.en false [],.int .i64 0,.int .i64 0,.int .i64 0,.int .i64 0,.int .i64 0,.en false [],.en false []]
def abQ:AC:=.ops (.op (some 2) (.alloc [.en true []]) (.op (some 3) (.alloc [.int .i64 0]) (.nil)))
def abP:AC:=.ops (.op (some 4) (.alloc [.en true []]) (.nil))
def abO:AC:=.ops (.op (some 8) (.mv (.t 0)) (.op (some 9) (.call 47 [(.t 8),(.c (.str [10]))]) (.nil)))
def rhB:AC:=.block 1 (.seq (.seq (.ops (.op (some 11) (.mv (.t 5)) (.op (some 12) (.bin .eql (.t 11) (.c (.str []))) (.nil)))) (.cond (.t 12) (.exit 1) .skip))
 (.seq (.ops (.op (some 14) (.mv (.t 5)) (.op (some 15) (.call 48 [(.t 14)]) (.op (some 13) (.mv (.t 15)) (.op (some 16) (.ext (.t 13) 0) (.op (some 17) (.ext (.t 13) 1) (.op (some 6) (.alloc evZ) (.op none (.store 17 (.t 6) (.t 16)) (.op (some 7) (.mv (.t 17)) (.nil))))))))))
 (.seq (.seq (.ops (.op (some 18) (.mv (.t 7)) (.op (some 19) (.un .not (.t 18)) (.nil)))) (.cond (.t 19) (.seq (.ops (.op none (.store 1 (.t 2) (.c (.en false []))) (.op none (.store 1 (.t 3) (.c (.int .i64 11))) (.nil)))) .ret) .skip))
 (.ops (.op (some 20) (.load 1 false (.t 4)) (.op (some 21) (.load 17 true (.t 6)) (.op (some 22) (.DD 17 (.agg evZ) 1 [(0,(.t 21))]) (.op (some 23) (.app 17 200 (.t 20) (.t 22)) (.op none (.store 1 (.t 4) (.t 23)) (.nil))))))))))
def rhP:AC:=.seq (.seq (.ops (.op (some 24) (.load 1 false (.t 4)) (.op (some 25) (.call 49 [(.t 24)]) (.op (some 26) (.mv (.t 0)) (.op (some 27) (.bin .neq (.t 25) (.t 26)) (.nil))))))
 (.cond (.t 27) (.seq (.ops (.op none (.store 1 (.t 2) (.c (.en false []))) (.op none (.store 1 (.t 3) (.c (.int .i64 11))) (.nil)))) .ret) .skip))
 (.seq (.ops (.op (some 28) (.load 1 false (.t 4)) (.op none (.store 1 (.t 2) (.t 28)) (.op none (.store 1 (.t 3) (.c (.int .i64 0))) (.nil))))) .ret)
noncomputable def abR:Bool:=match Tryz.prog.funcs[19]? with
 |some fn=>match fn.body with
  |some (.seq l (.seq i (.seq (.seq h (.block 0 (.rangeFunc (.tmp 9) ps (.region _ b false) bd))) n))) =>
   decide (fn.ntmps=29)&&nv Tryz.prog fn.results.toList [.cell 2 1 false,.cell 3 1 false]&&ir Tryz.prog 29 l abQ&&ir Tryz.prog 29 i abP&&ir Tryz.prog 29 h abO&&ir Tryz.prog 29 bd rhB&&C3 bd&&ir Tryz.prog 29 n rhP &&
   (match ps.toList with | [10]=>true | _=>false)&&sG b.toList 5 10&&(fn.name == "runtime.NumGoroutine")==false
  |_=>false
 |none=>false
def abN:abR=true:=ai
def CM:List aq:=[[98,101,103,105,110,32,48,58,32,109,97,107,101,32,112,97,116,104,61,47,97,32,110,61,50],[101,110,100,32,48,58,32,111,107,32,105,110,111,61,50,32,107,105,110,100,61,50],[]]
def UM:Sq.Pcs 10 Mo CM:=.more 25 af af (.more 22 af af (.last af))
def ahR:List AV:=match Zf with | .iV [.en _ l,_]=>l | _=>[]
def O7(k:Nat):AH:=[.var [.en true []],.var [.int .i64 0],.var [.own 6 k 0 k],.gone,.gone,.gone,.row k 17 (ahR.take k)]
def rhE(x:Option aq):Env:=λt=>if t=2 then .ptr 0 0 0 0 else if t=3 then .ptr 1 0 0 0 else if t=4 then .ptr 2 0 0 0 else if t=5 then(x.elim .dead AV.str)else .dead
noncomputable def ΓK:ja:=iu.vg 200 C0 300 273
noncomputable def rhC(x:aq)(a b:AH):Bool:=match lV (λf=>(C0.kd f).rI) 200 ΓK rhB (nS [] 7) (AX×AH) (λi s=>some (i,s.h)) ⟨rhE (some x),a⟩with
 |some (.normal,h')=>Ii (iQ 7 [] h' 0 (h'.take 7)) b
 |_=>false
def rh0:rhC (CM.getD 0 []) (O7 0) (O7 1)=true:=ai
def rh1:rhC (CM.getD 1 []) (O7 1) (O7 2)=true:=ai
def rh2:rhC (CM.getD 2 []) (O7 2) (O7 2)=true:=ai
def GZ{x:aq}{a b:AH}(h:rhC x a b=true):∃h',eval (C0.fk 273) rhB (nS [] 7) (AX×AH) (λl s=>some (l,s.h)) ⟨rhE (some x),a⟩=some (.normal,h')/\iQ 7 [] h' 0 (h'.take 7)=b:=by
 unfold rhC at h;split at h
 .rename_i h' i;exact⟨h',j7 (tu (N:=200) C0 Fe 300 273) _ _ _ _ _ _ _ (λ_ _ e=>e) i,yA _ _ h⟩
 .cases h
def PX:Env:=(((((iX [AV.str Mo]).put 2 (.ptr 0 0 0 0)).put 3 (.ptr 1 0 0 0)).put 4 (.ptr 2 0 0 0)).put 8 (.str Mo)).put 9 (.fn (.func 166) [] [.ptr 4 0 0 0,.ptr 3 0 0 0,.ptr 5 0 0 0])
noncomputable def abS:Bool:=match lV (λf=>(C0.kd f).rI) 200 ΓK rhP (λi=>decide (([]:AH).length<=i)) (AX×St) (λx s=>some (x,s)) ⟨PX,O7 2⟩with
 |some (.ret,s1)=>match oa s1 [.cell 2 1 false,.cell 3 1 false]with
  |some r0=>match lP s1.h r0 with
   |some (v,_)=>OL v Zf
   |none=>false
  |none=>false
 |_=>false
def rhp:abS=true:=ai
end Go.Proofs.YtahlmpbhfljalaaGreatDoor
set_option maxRecDepth 100000
namespace Go.Am
open Go.RowKit
variable{P:Program}{Γ:ja}{Z:ay}{β:iW}{h:AH}{w:World}{n:Nat}{Zc:ay}{ds:List Deferred}{s:St}{a:Act}{β':iW}{W:World}
def At.gone(A:At n Z β h w Zc ds s a β' W){b:Nat}{cs:List AV}(l:s.h[b]? = some (.var cs))(hs:cs.all AV.jD=true):
  At n Z β h w Zc ds ⟨s.e,s.h.set b .gone⟩ a β' W/\(∀v,VR β' (Own Zc β' s.h) W (.ptr b 0 0 0) v->VR β' (Own Zc β' (s.h.set b .gone)) W (.iw cs) v)/\Fr Zc β' s.h W β' (s.h.set b .gone) W:=by
 let⟨o,F,i⟩:=Fu A.rel l hs;exact⟨⟨o,A.keep,A.os,A.tape,A.output,A.ext,A.stay.trans F.stay,A.env.fr F,A.defers,A.sub⟩,i,F⟩
def We{k:Nat}{x:Int}(R:Rel Z β h W)(hk:h[k]? = some (.var [.int .i64 x])):∃c T,β k 0=some ⟨some c,0,1,1,T⟩/\W.heap[c]? = some (.cells #[.int .i64 x] T (0,0)):=by
 let⟨c,cur,elem,e1,q,o,l⟩:=R.blk k _ hk;let⟨v,g1,_,g3⟩:=l 0 _ rfl;have b:=g3.jF;subst b;have:cur = #[.int .i64 x]:=by
  have hs:cur.size=1:=o;apply Array.ext
  .simpa using hs
  .intro j h1 h2;have i:j=0:=by omega
   subst i;have:=bT h1;rw[g1]at this
   simpa using this.symm
 exact⟨c,elem,e1,by rw[<-this];exact q⟩
def QV{O:ay}{f:Fn}{b1 x r o c2 c3:Nat}{v:Value}{S Q N:TypeId}(h1:β b1 0=some ⟨some o,0,1,1,S⟩)(h2:β x 0=some ⟨some c2,0,1,1,Q⟩)(h3:β r 0=some ⟨some c3,0,1,1,N⟩)
  (h:VR β O w (.fn f [] [.ptr b1 0 0 0,.ptr x 0 0 0,.ptr r 0 0 0]) v):v = .func f #[] #[.pointer (some ⟨o,0,none⟩),.pointer (some ⟨c2,0,none⟩),.pointer (some ⟨c3,0,none⟩)]:=by
 cases h with
 |pure _ _ h=>cases h
 |fn _ _ _ z y q1 F T b =>
  have e1:z=[]:=aV (ak q1.symm)
  subst e1
  match y,F with
  | [u1,E,A],_ =>
   let⟨bd,q,g1,M,g3⟩:=(b 0 _ u1 rfl rfl).jl;rw[h1]at g1;cases g1;cases M;let⟨bd,q,l,L,K⟩:=(b 1 _ E rfl rfl).jl;rw[h2]at l;cases l;cases L;let⟨bd,q,i,H,G⟩:=(b 2 _ A rfl rfl).jl;rw[h3]at i;cases i;cases H;rw[g3,K,G];simp
def Et{O:ay}{cs:List AV}{c o:Nat}(h:VR β O w (.iw cs) (.pointer (some ⟨c,o,none⟩))):¬O c:=by
 cases h with
 |pure _ _ h=>cases h
 |iw _ _ _ _ b=>exact b
end Go.Am
namespace Go.Proofs.YtahlmpbhfljalaaGreatDoor
open Go.Am Go.Am.Nm Go.RowKit
def L1{f l:FuncId}(ok:Sq.L3 Tryz.prog f l=true)(args:Array Value)(w:World):(callFunc f args).run Tryz.prog w = .ok (.enter f args) w:=by
 unfold Sq.L3 at ok;split at ok
 .rename_i fn i;split at ok
  .rename_i b;simp only[aC,decide_eq_true_eq,beq_iff_eq]at ok;exact oV i (by rw[b];rfl) (ak ok.1.1.1.1.1.1.1.1.2) args w
  .cases ok
 .cases ok
def UK:∃s1 r0 h2,eval (C0.fk 273) rhP (λi=>decide (([]:AH).length<=i)) (AX×St) (λx s=>some (x,s)) ⟨PX,O7 2⟩=some (.ret,s1)/\oa s1 [.cell 2 1 false,.cell 3 1 false]=some r0/\lP s1.h r0=some (Zf,h2):=by
 have h:=rhp;unfold abS at h;split at h
 .rename_i s1 o;split at h
  .rename_i r0 b;split at h
   .rename_i v h2 l;have:=DI _ _ h;subst this;exact⟨s1,r0,h2,j7 (tu (N:=200) C0 Fe 300 273) _ _ _ _ _ _ _ (λ_ _ e=>e) o,b,l⟩
   .cases h
  .cases h
 .cases h
def UL(h:AH):nC Tryz.prog 19 [.str Mo] h Zf h:=by
 have ok:=abN;unfold abR at ok;split at ok
 .rename_i fn hf;split at ok
  .rename_i R0 R1 R2 ps idA aiA bd PO G;simp only[aC,decide_eq_true_eq,beq_iff_eq]at ok;let⟨⟨⟨⟨⟨⟨⟨⟨⟨⟨hn,hres⟩,k0⟩,k1⟩,k2⟩,kb⟩,nb⟩,kp⟩,hps⟩,ha⟩,Q⟩:=ok;have Wk:ps = #[10]:=by
    split at hps
    .rename_i h1;exact cq (by simpa using h1)
    .cases hps
   subst Wk;have U:=nr;have z:=PF 273;refine rT rfl ⟨⟨fn,hf,by rw[G];rfl,by simpa using Q⟩,λZ β w vs R hl hv=>?_⟩ h
   refine(callsIn_wide (n:=1)).1 (callsIn_of_wp_marks hf G trivial ?_ rfl);generalize hRR:(λ(e:Ending)(w':World)=>∃v β' r0 h1 h2,e = .returned v/\lP h1 r0=some (Zf,h2)/\Rel Z β' h1 w'/\Fr Z β [] w β' h1 w'/\VR β' (Am.Own Z β' h1) w' r0 v)=RR
   have A0:=At.start (n:=29) R hl hv ah
   rw[hn];refine wpIn_seq (A0.step U z R k0 (x:=.normal) (s1:=⟨((iX [AV.str Mo]).put 2 (.ptr 0 0 0 0)).put 3 (.ptr 1 0 0 0),[.var [.en true []],.var [.int .i64 0]]⟩) (by simp(disch:=omega)[abQ]) λa1 β1 W1 A1=>?_)
   refine wpIn_seq (A1.step U z R k1 (x:=.normal) (s1:=⟨(((iX [AV.str Mo]).put 2 (.ptr 0 0 0 0)).put 3 (.ptr 1 0 0 0)).put 4 (.ptr 2 0 0 0),[.var [.en true []],.var [.int .i64 0],.var [.en true []]]⟩) (by simp(disch:=omega)[abP]) λa2 β2 W2 A2=>?_)
   have ajh:=s47 (n:=273) af Mo [10]
   refine wpIn_seq (wpIn_seq (A2.step U z R k2 (x:=.normal) (s1:=⟨PX,[.var [.en true []],.var [.int .i64 0],.var [.en true []],.var [.str Mo],.var [.str [10]],.var [.int .i64 0]]⟩) (by simp(disch:=omega)[abO,PX,ajh]) λa3 β3 W3 A3=>?_))
   let⟨β4,X⟩:=A3.iJ (i:=2) (sz:=17) af rfl
   let⟨c,T1,H,hbx⟩:=H9 (k:=3) (p:=Mo) X.rel rfl;let⟨d,T2,A,hbd⟩:=H9 (k:=4) (p:=[10]) X.rel rfl;let⟨d2,T3,o,ajH⟩:=We (k:=5) (x:=0) X.rel rfl
   have hcd:d≠c:=λe=>by
    have:=X.rel.apart 4 3 c ⟨_,rfl,_,by rw[e],A⟩ ⟨_,rfl,_,rfl,H⟩
    omega
   have ajG:d2≠c:=λe=>by
    have:=X.rel.apart 5 3 c ⟨_,rfl,_,by rw[e],o⟩ ⟨_,rfl,_,rfl,H⟩
    omega
   let⟨A5,hv5,F5⟩:=X.gone (b:=4) (cs:=[.str [10]]) rfl rfl;let⟨M,hv6,F6⟩:=A5.gone (b:=5) (cs:=[.int .i64 0]) rfl rfl;have hOd:=Et (hv5 _ (.ptr 4 0 0 0 _ d A rfl));have ajJ:=Et (hv6 _ (.ptr 5 0 0 0 _ d2 o rfl));have hdl:d<W3.heap.size:=hbd.lt;have ajK:=(F6.stay.2 d hdl (by simpa using hOd)).2
   have hB3:Sq.B3 W3 c d d2 10 Mo:=by
    let⟨⟨e1,b1⟩,g1⟩:=hbx;let⟨⟨T,b2⟩,_⟩:=hbd;exact⟨⟨e1,b1⟩,⟨T,_,by simpa using b2⟩,⟨T3,_,ajH⟩,hcd,ajG,g1⟩
   have hX:∀p s,(C0.fk 273).p 141 [.str p,.str [s]]=some (.int .i64 (Lib.indexByte p s)):=λp s=>(iu.oc (C:=C0) rfl rfl af _).trans rfl
   obtain⟨L,hT0⟩:∃L:Array Value->Array Value,L=λx=>((#[10]:Array Tmp).zip x).foldl (λt (p,v)=>t.setIfInBounds p v) a3.tmps:=⟨_,rfl⟩
   have hT:∀x:aq,L (Sq.vH x)=a3.tmps.setIfInBounds 10 (.string ⟨x.toArray⟩):=λx=>by rw[hT0];simp[Sq.vH]
   have hs3:a3.tmps.size=29:=M.env.1;have N:(CM.map Sq.vH).length=3:=rfl
   refine wpIn_block (Ew U z kb nb M.rel (kb:=3) (c:=c) ⟨_,rfl,_,rfl,H⟩ (gf:=166) (lb := #[.pointer (some ⟨d,0,none⟩),.pointer (some ⟨c,0,none⟩),.pointer (some ⟨d2,0,none⟩)]) (QV A H o (M.env.2 9)) (L1 acG)
    (encs:=CM.map Sq.vH) (Sq.L0 U z acG hX UM af hB3 _ (λq hq=>(M.rel.gl q hq).1) ajK ajJ) (λx hx=>by
     obtain⟨y,_,rfl⟩:=b7.1 hx;rfl)
    (λi S=>i<=3/\S=O7 (min i 2)) (λ_ _=>False) 7 rfl
    (λi S E=>by
     obtain⟨h3,rfl⟩:=E;have:∀k:Fin 3,(O7 k.val).all AJ=true:=by intro k;rfl
     exact this ⟨min i 2,aa⟩) (λex S E=>E.elim) (λp S E=>E)
    ⟨aa,rfl⟩
    (λi E=>({tmps:=L (CM.map Sq.vH)[i],defers:=[]}:Act).put (some 5) ((L (CM.map Sq.vH)[i]).getD 10 undef))
    (λl i E W K hK=>?_) (λi=>rhE CM[i]?) (λi E O' β' W O F=>?_) (λi S E hI=>?_) (λD W' S β' hD hI R' F' hk=>?_) (λD ex W' S β' hD hne hX R' F' hk=>hX.elim))
   .refine xe rfl ha ?_;rw[hT0]at hK;exact hK
   .have hi3:i<3:=by simpa[N]using E
    suffices key:∀x:aq,(({tmps:=L (Sq.vH x),defers:=[]}:Act).put (some 5) ((L (Sq.vH x)).getD 10 undef)).tmps.size=29/\∀t,VR β' O' W (rhE (some x) t) ((({tmps:=L (Sq.vH x),defers:=[]}:Act).put (some 5) ((L (Sq.vH x)).getD 10 undef)).tmps.getD t undef) by
     have hc:i=0\/i=1\/i=2:=aa
     rcases hc with rfl | rfl | rfl
     .exact key _
     .exact key _
     .exact key _
    intro x;rw[hT];refine⟨by simp[Act.put,hs3],λt=>?_⟩
    obtain⟨v1,Y⟩:∃v1:Value,v1 = .string ⟨x.toArray⟩:=⟨_,rfl⟩;rw[<-Y];have m2:VR β' O' W (.ptr 0 0 0 0) (a3.tmps.getD 2 undef):=(M.env.2 2).mono F O;have m3:VR β' O' W (.ptr 1 0 0 0) (a3.tmps.getD 3 undef):=(M.env.2 3).mono F O;have m4:VR β' O' W (.ptr 2 0 0 0) (a3.tmps.getD 4 undef):=(M.env.2 4).mono F O;show VR β' O' W (if t=2 then .ptr 0 0 0 0 else if t=3 then .ptr 1 0 0 0 else if t=4 then .ptr 2 0 0 0 else if t=5 then .str x else .dead) _
    have other:∀t,t≠5->t≠10->(({tmps:=a3.tmps.setIfInBounds 10 v1,defers:=[]}:Act).put (some 5) ((a3.tmps.setIfInBounds 10 v1).getD 10 undef)).tmps.getD t undef=a3.tmps.getD t undef:=λt h1 h2=>by
     simp[Act.put,aO,bO (Ne.symm h1),bO (Ne.symm h2)]
    by_cases t2:t=2
    .rw[if_pos t2,t2,other 2 aa aa];exact m2
    rw[if_neg t2]
    by_cases t3:t=3
    .rw[if_pos t3,t3,other 3 aa aa];exact m3
    rw[if_neg t3]
    by_cases t4:t=4
    .rw[if_pos t4,t4,other 4 aa aa];exact m4
    rw[if_neg t4]
    by_cases t5:t=5
    .rw[if_pos t5,t5]
     have:(({tmps:=a3.tmps.setIfInBounds 10 v1,defers:=[]}:Act).put (some 5) ((a3.tmps.setIfInBounds 10 v1).getD 10 undef)).tmps.getD 5 undef=v1:=by
      simp[Act.put,aO,hs3]
     rw[this,Y];exact .pure _ _ (qK _)
    rw[if_neg t5];exact .dead _
   .obtain⟨_,rfl⟩:=hI;have hi3:i<3:=by simpa[N]using E
    have hc:i=0\/i=1\/i=2:=aa
    rcases hc with rfl | rfl | rfl
    .let⟨h',e1,T⟩:=GZ rh0;exact⟨_,h',e1,λ_=>⟨aa,T⟩,λh0=>absurd rfl h0⟩
    .let⟨h',e1,T⟩:=GZ rh1;exact⟨_,h',e1,λ_=>⟨aa,T⟩,λh0=>absurd rfl h0⟩
    .let⟨h',e1,T⟩:=GZ rh2;exact⟨_,h',e1,λ_=>⟨aa,T⟩,λh0=>absurd rfl h0⟩
   .obtain⟨_,rfl⟩:=hI;have A7:=M.behind R hD R' F';let⟨s1,r0,h2,ev,hr,ajk⟩:=UK;refine A7.step1 U z R hk kp (x:=.ret) ev λa' β'' W'' A8 hk8=>?_
    refine A8.C2 (x:=.ret) (r:=r0) R (bQ M.stay.1 hD) hk8 hres hr (.inl rfl) λu β' W' q1 q2 q3=>?_
    rw[<-hRR];exact⟨u,β',r0,_,_,rfl,ajk,q1,q2,q3⟩
  .cases ok
 .cases ok
def abM(args:List AV)(r:AV)(h:AH)(b:rhY args=some r):nC Tryz.prog 19 args h r h:=by
 unfold rhY at b;split at b
 .split at b
  .rename_i e;cases b;rw[e];exact UL h
  .cases b
 .cases b
end Go.Proofs.YtahlmpbhfljalaaGreatDoor
set_option maxRecDepth 100000
namespace Go.Proofs.YtahlmpbhfljalaaGreatDoor
open Go.Am Go.Am.Nm
noncomputable def kd1(f:FuncId):Kd:=if f=5 then .p c5 else gV.kd f
noncomputable def pos1(f:FuncId):Nat:=if f=5 then 273 else gV.pos f
noncomputable def C1:iu:=⟨kd1,pos1⟩
def VW:∀f,(C1.kd f).ok Tryz.prog f:=λf=>by
 show (kd1 f).ok Tryz.prog f;unfold kd1
 by_cases h:f=5
 .rw[if_pos h,h];exact Lj
 rw[if_neg h]
 by_cases h1:f=19
 .rw[h1];exact abM
 exact C8 f h h1
def PE(n:Nat):js Tryz.prog (C1.fk n):=iu.yG nr VW n
def M9:∀f,(C1.kd f).mono:=λf=>by
 show (kd1 f).mono;unfold kd1;split
 .trivial
 exact BF f
def k5:(iu.vg 200 C1 300 274).p 5 []=some (.bool true):=ai
def ajB(args:List AV)(r:AV)(h:AH)(b:hdY args=some r):nC Tryz.prog 5 args h r h:=by
 unfold hdY at b;split at b
 .cases b;exact(PE 274).p _ _ _ h rfl ((tu (N:=200) C1 M9 300 274).p _ _ _ k5)
 .cases b
def Fb:∀f,(gV.kd f).ok Tryz.prog f:=λf=>by
 by_cases h:f=5
 .rw[h];exact ajB
 by_cases h1:f=19
 .rw[h1];exact abM
 exact C8 f h h1
def LP(n:Nat):js Tryz.prog (gV.fk n):=iu.yG nr Fb n
def rp5{n:Nat}(b:0<n):(gV.fk n).p 5 []=some (.bool true):=(p5 b []).trans rfl
end Go.Proofs.YtahlmpbhfljalaaGreatDoor
