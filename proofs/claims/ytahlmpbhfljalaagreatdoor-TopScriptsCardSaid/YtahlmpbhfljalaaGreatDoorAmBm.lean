/- Part of the proof that TopScriptsCard holds. -/
import Derived.Test.YtahlmpbhfljalaaGreatDoorAmRt
import Derived.Test.YtahlmpbhfljalaaGreatDoorAmKe
import Derived.Lib.Bytealg
import Derived.Laws.Externs
set_option linter.all false
namespace Go.Am.Nm
open Go.Am Go.RowKit Go.Lib
variable{P:Program}
def yJ{Z:ay}{β:iW}{w:World}{s:aq}{v:Value}(h:VR β Z w (.str s) v):v = .string ⟨s.toArray⟩:=by
 obtain⟨b,rfl,rfl⟩:=h.lN;cases b;simp
def qc{f:FuncId}{args:List AV}{r:AV}{h:AH}(l:jH P f) (H:∀(Z:ay)(β:iW)(w:World)(vs:List Value),Rel Z β h w->args.length=vs.length->
  (∀(j:Nat)(y:AV)(u:Value),args[j]? = some y->vs[j]? = some u->VR β (Own Z β h) w y u)->
  ∃v,(∀(β:iW)(O:ay)(w':World),VR β O w' r v)/\Calls P f vs.toArray w λe w'=>e = .returned v/\Below w.heap.size w w'):nC P f args h r h:=by
 refine⟨l,λZ β w vs R hl i=>?_⟩
 let⟨v,h1,h2⟩:=H Z β w vs R hl i;refine h2.mono ?_
 rintro e w' ⟨rfl,b⟩
 let⟨n,o⟩:=R.grown b.os b.tape b.output b.size b.block;exact⟨v,β,rfl,n,o,h1 _ _ _⟩
def wg:List AV->Option AV
 | [.str s]=>some (.bool (iN s))
 |_=>none
variable{f tS tI:Nat}
def Bq{tB tR t0:Nat}(L:DM P f tS tB tI tR t0){args:List AV}{r:AV}(h:AH)(b:wg args=some r):nC P f args h r h:=by
 unfold wg at b;split at b
 .rename_i s;cases b;refine qc (by let⟨nm,q,o,n⟩:=L.f;exact⟨_,o,rfl,n⟩) λZ β w vs R hl l=>?_
  match vs,hl with
  | [v],_ =>
   have:=yJ (l 0 _ v rfl rfl);subst this;refine⟨_,λ_ _ _=>.pure _ _ (.bool _),(Ev L ⟨s.toArray⟩ w).mono ?_⟩
   rintro e w' ⟨rfl,i⟩
   refine⟨rfl,?_⟩
   rcases i with rfl | ⟨pos,rfl⟩
   .exact Below.refl _ _
   .exact(Below.refl _ w).alloc (aT _) _
 .cases b
section
open S
abbrev v0:= "compare_native.go:14"
abbrev v1:= "compare_native.go:15"
def Tq(nm:String)(h:Array TypeId)(tS tI:TypeId)(b:FuncId):Func :=
 V ({name:=nm,origin:= "",params:=#[tS,tS],resultTypes:=#[tI],nfree:=0,ntmps:=8,results:=#[ResultVar.tmp 4],body:=some ((R 0 #[j 4 (.assign (.const (.int .i64 0))) tI v0 #[]]).seq ((R 1 #[m 5 0 tS v1 #[],m 6 1 tS v1 #[],j 7 (k (.value (.func b)) #[t 5,t 6] #[tS,tS]) tI v1 #[d 0,d 1],a 4 7 tI v1 #[d 2,c 2,p 0,p 1,p 2]]).seq .ret)),norace:=false,file:= "internal/bytealg/compare_native.go",endLine:=16,tmpNames:=#["a","b","a","b","","","",""]}:Func) (by conv=>lhs;simp only[d,c,g,p,t,k,J,j,m,a,R,I,v0,v1])
end
theorem FT(nm:String)(b:Array TypeId)(tS tI:TypeId)(h:FuncId):(Tq nm b tS tI h).ntmps=8:=rfl
structure YP(P:Program)(f:FuncId)(tS tI:TypeId)(fX:FuncId):Prop where
 mixed:P.follows .mixedOrders=true
 f:∃nm ta,P.funcs[f]? = some (Tq nm ta tS tI fX)/\(nm == "runtime.NumGoroutine")=false
 o:∃fn,P.funcs[fX]? = some fn/\fn.body=none/\(fn.name == "runtime.NumGoroutine")=false/\Extern.findNext fn=none/\Extern.find fn=some Extern.BytealgCompare.compare
def KP{i:Nat}(L:YP P f tS tI i)(a b:ByteArray)(w:World):
  Calls P f #[.string a,.string b] w λe w'=>e = .returned (.int .i64 (compareBytes a.data.toList b.data.toList))/\w'=w:=by
 have mixed:=L.mixed;let⟨nm,y,x,_⟩:=L.f;let⟨fn,v,r,q,n,l⟩:=L.o
 have h:(callFunc i #[.string a,.string b]).run P w = .ok (.value (.int .i64 (compareBytes a.data.toList b.data.toList))) w:=by
  rw[run_callFunc_extern v q (by rw[r];rfl) n l,run_compareString];rfl
 go_enter x,FT _ _ _ _ _
 go_wp2_with (simp only[h])
 go_ret
 exact⟨rfl,rfl⟩
def Rn:List AV->Option AV
 | [.str a,.str b]=>some (.int .i64 (compareBytes a b))
 |_=>none
def Rl{q:Nat}(L:YP P f tS tI q){args:List AV}{r:AV}(h:AH)(i:Rn args=some r):nC P f args h r h:=by
 unfold Rn at i;split at i
 .rename_i a b;cases i;refine qc (by let⟨nm,x,o,n⟩:=L.f;exact⟨_,o,rfl,n⟩) λZ β w vs R hl l=>?_
  match vs,hl with
  | [v,u],_ =>
   have h1:=yJ (l 0 _ v rfl rfl);have h2:=yJ (l 1 _ u rfl rfl);subst h1 h2;refine⟨_,λ_ _ _=>.pure _ _ (.int _ _),(KP L ⟨a.toArray⟩ ⟨b.toArray⟩ w).mono ?_⟩
   rintro e w' ⟨rfl,rfl⟩
   exact⟨rfl,Below.refl _ _⟩
 .cases i
def uO:∀a b:aq,compareBytes a b=if a=b then 0 else if ij a b=true then -1 else 1
 | [],[]=>rfl
 | [],_::_=>by simp[compareBytes,ij]
 |_::_,[]=>by simp[compareBytes,ij]
 |a::u,b::v=>by
  have o:=uO u v;unfold compareBytes;rw[o]
  by_cases i:a=b
  .subst i;have h1:¬a<a:=by rw[eB];omega
   simp[ij,h1]
  .by_cases l : a < b
   .simp[ij,l,i]
   .have n:b<a:=by
     rw[eB]at l⊢;have:a.toNat≠b.toNat:=λh=>i (UInt8.toNat_inj.1 h)
     omega
    simp[ij,l,n,i]
end Go.Am.Nm
