/- Part of the proof that TopTwoPartsCard holds. -/
import Derived.Test.YtghgbehknhmnaaaGreatDoorAmRt
import Derived.Test.YtghgbehknhmnaaaGreatDoorAmKe
import Derived.Lib.Bytealg
import Derived.Laws.Externs
set_option linter.all false
namespace Go.Am.Nm
open Go.Am Go.RowKit Go.Lib
variable{P:Program}
def zT{Z:az}{β:jO}{w:World}{s:au}{v:Value}(h:VR β Z w (.str s) v):v = .string ⟨s.toArray⟩:=by
 obtain⟨b,rfl,rfl⟩:=h.oD;cases b;simp
def ua{f:FuncId}{args:List AV}{r:AV}{h:AH}(l:oO P f) (H:∀(Z:az)(β:jO)(w:World)(vs:List Value),Rel Z β h w->args.length=vs.length->
  (∀(j:Nat)(y:AV)(u:Value),args[j]? = some y->vs[j]? = some u->VR β (Own Z β h) w y u)->
  ∃v,(∀(β:jO)(O:az)(w':World),VR β O w' r v)/\Calls P f vs.toArray w λe w'=>e = .returned v/\Below w.heap.size w w'):ux P f args h r h:=by
 refine⟨l,λZ β w vs R hl i=>?_⟩
 let⟨v,h1,h2⟩:=H Z β w vs R hl i;refine h2.mono ?_
 rintro e w' ⟨rfl,b⟩
 let⟨n,o⟩:=R.grown b.os b.tape b.output b.size b.block;exact⟨v,β,rfl,n,o,h1 _ _ _⟩
def xg:List AV->Option AV
 | [.str s]=>some (.bool (iN s))
 |_=>none
variable{f tS tI:Nat}
def Cu{tB tR t0:Nat}(L:Ez P f tS tB tI tR t0){args:List AV}{r:AV}(h:AH)(b:xg args=some r):ux P f args h r h:=by
 unfold xg at b;split at b
 .rename_i s;cases b;refine ua (by let⟨nm,q,o,n⟩:=L.f;exact⟨_,o,rfl,n⟩) λZ β w vs R hl l=>?_
  match vs,hl with
  | [v],_ =>
   have:=zT (l 0 _ v rfl rfl);subst this;refine⟨_,λ_ _ _=>.pure _ _ (.bool _),(Fb L ⟨s.toArray⟩ w).mono ?_⟩
   rintro e w' ⟨rfl,i⟩
   refine⟨rfl,?_⟩
   rcases i with rfl | ⟨pos,rfl⟩
   .exact Below.refl _ _
   .exact(Below.refl _ w).alloc (aV _) _
 .cases b
section
open S
abbrev v0:= "compare_native.go:14"
abbrev v1:= "compare_native.go:15"
def TG(nm:String)(h:Array TypeId)(tS tI:TypeId)(b:FuncId):Func :=
 V ({name:=nm,origin:= "",params:=#[tS,tS],resultTypes:=#[tI],nfree:=0,ntmps:=8,results:=#[ResultVar.tmp 4],body:=some ((R 0 #[j 4 (.assign (.const (.int .i64 0))) tI v0 #[]]).seq ((R 1 #[m 5 0 tS v1 #[],m 6 1 tS v1 #[],j 7 (k (.value (.func b)) #[t 5,t 6] #[tS,tS]) tI v1 #[d 0,d 1],a 4 7 tI v1 #[d 2,c 2,p 0,p 1,p 2]]).seq .ret)),norace:=false,file:= "internal/bytealg/compare_native.go",endLine:=16,tmpNames:=#["a","b","a","b","","","",""]}:Func) (by conv=>lhs;simp only[d,c,g,p,t,k,J,j,m,a,R,I,v0,v1])
end
theorem Gp(nm:String)(b:Array TypeId)(tS tI:TypeId)(h:FuncId):(TG nm b tS tI h).ntmps=8:=rfl
structure Y1(P:Program)(f:FuncId)(tS tI:TypeId)(fX:FuncId):Prop where
 mixed:P.follows .mixedOrders=true
 f:∃nm ta,P.funcs[f]? = some (TG nm ta tS tI fX)/\(nm == "runtime.NumGoroutine")=false
 o:∃fn,P.funcs[fX]? = some fn/\fn.body=none/\(fn.name == "runtime.NumGoroutine")=false/\Extern.findNext fn=none/\Extern.find fn=some Extern.BytealgCompare.compare
def Lb{i:Nat}(L:Y1 P f tS tI i)(a b:ByteArray)(w:World):
  Calls P f #[.string a,.string b] w λe w'=>e = .returned (.int .i64 (compareBytes a.data.toList b.data.toList))/\w'=w:=by
 have mixed:=L.mixed;let⟨nm,x,v,_⟩:=L.f;let⟨fn,r,q,o3,n,l⟩:=L.o
 have h:(callFunc i #[.string a,.string b]).run P w = .ok (.value (.int .i64 (compareBytes a.data.toList b.data.toList))) w:=by
  rw[run_callFunc_extern r o3 (by rw[q];rfl) n l,run_compareString];rfl
 go_enter v,Gp _ _ _ _ _
 go_wp2_with (simp only[h])
 go_ret
 exact⟨rfl,rfl⟩
def RJ:List AV->Option AV
 | [.str a,.str b]=>some (.int .i64 (compareBytes a b))
 |_=>none
def RH{q:Nat}(L:Y1 P f tS tI q){args:List AV}{r:AV}(h:AH)(i:RJ args=some r):ux P f args h r h:=by
 unfold RJ at i;split at i
 .rename_i a b;cases i;refine ua (by let⟨nm,x,o,n⟩:=L.f;exact⟨_,o,rfl,n⟩) λZ β w vs R hl l=>?_
  match vs,hl with
  | [v,u],_ =>
   have h1:=zT (l 0 _ v rfl rfl);have h2:=zT (l 1 _ u rfl rfl);subst h1 h2;refine⟨_,λ_ _ _=>.pure _ _ (.int _ _),(Lb L ⟨a.toArray⟩ ⟨b.toArray⟩ w).mono ?_⟩
   rintro e w' ⟨rfl,rfl⟩
   exact⟨rfl,Below.refl _ _⟩
 .cases i
def vt:∀a b:au,compareBytes a b=if a=b then 0 else if gr a b=true then -1 else 1
 | [],[]=>rfl
 | [],_::_=>by simp[compareBytes,gr]
 |_::_,[]=>by simp[compareBytes,gr]
 |a::u,b::v=>by
  have o:=vt u v;unfold compareBytes;rw[o]
  by_cases i:a=b
  .subst i;have h1:¬a<a:=by rw[eN];omega
   simp[gr,h1]
  .by_cases l : a < b
   .simp[gr,l,i]
   .have n:b<a:=by
     rw[eN]at l⊢;have:a.toNat≠b.toNat:=λh=>i (ga.1 h)
     omega
    simp[gr,l,n,i]
end Go.Am.Nm
