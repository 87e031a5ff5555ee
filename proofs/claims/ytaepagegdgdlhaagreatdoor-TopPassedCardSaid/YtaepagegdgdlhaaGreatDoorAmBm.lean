/- Part of the proof that TopPassedCard holds. -/
import Derived.Test.YtaepagegdgdlhaaGreatDoorAmRt
import Derived.Test.YtaepagegdgdlhaaGreatDoorAmKe
import Derived.Lib.Bytealg
import Derived.Laws.Externs
set_option linter.all false
namespace Go.Am.Nm
open Go.Am Go.RowKit Go.Lib
variable{P:Program}
def Dx{Z:az}{β:kW}{w:World}{s:au}{v:Value}(h:VR β Z w (.str s) v):v = .string ⟨s.toArray⟩:=by
 obtain⟨b,rfl,rfl⟩:=h.pH;cases b;simp
def xN{f:FuncId}{args:List AV}{r:AV}{h:AH}(hc:tw P f) (H:∀(Z:az)(β:kW)(w:World)(vs:List Value),Rel Z β h w->args.length=vs.length->
  (∀(j:Nat)(y:AV)(u:Value),args[j]? = some y->vs[j]? = some u->VR β (Own Z β h) w y u)->
  ∃v,(∀(β:kW)(O:az)(w':World),VR β O w' r v)/\Calls P f vs.toArray w λe w'=>e = .returned v/\Below w.heap.size w w'):zl P f args h r h:=by
 refine⟨hc,λZ β w vs R hl hv=>?_⟩
 let⟨v,h1,h2⟩:=H Z β w vs R hl hv;refine h2.mono ?_
 rintro e w' ⟨rfl,hb⟩
 let⟨R',F'⟩:=R.grown hb.os hb.tape hb.output hb.size hb.block;exact⟨v,β,rfl,R',F',h1 _ _ _⟩
def DN:List AV->Option AV
 | [.str s]=>some (.bool (jL s))
 |_=>none
variable{f tS tI fX:Nat}
def G3{tB tR t0:Nat}(L:KJ P f tS tB tI tR t0){args:List AV}{r:AV}(h:AH)(hr:DN args=some r):zl P f args h r h:=by
 unfold DN at hr;split at hr
 .rename_i s;cases hr;refine xN (by let⟨nm,ta,hf,hn⟩:=L.f;exact⟨_,hf,rfl,hn⟩) λZ β w vs R hl hv=>?_
  match vs,hl with
  | [v],_ =>
   have:=Dx (hv 0 _ v rfl rfl);subst this;refine⟨_,λ_ _ _=>.pure _ _ (.bool _),(Lo L ⟨s.toArray⟩ w).mono ?_⟩
   rintro e w' ⟨rfl,hw⟩
   refine⟨rfl,?_⟩
   rcases hw with rfl | ⟨pos,rfl⟩
   .exact Below.refl _ _
   .exact(Below.refl _ w).alloc (aN _) _
 .cases hr
section
open S
abbrev v0:= "compare_native.go:14"
abbrev v1:= "compare_native.go:15"
def ab7(nm:String)(ta:Array TypeId)(tS tI:TypeId)(fX:FuncId):Func :=
 V ({name:=nm,origin:= "",params:=#[tS,tS],resultTypes:=#[tI],nfree:=0,ntmps:=8,results:=#[ResultVar.tmp 4],body:=some ((R 0 #[j 4 (.assign (.const (.int .i64 0))) tI v0 #[]]).seq ((R 1 #[m 5 0 tS v1 #[],m 6 1 tS v1 #[],j 7 (k (.value (.func fX)) #[t 5,t 6] #[tS,tS]) tI v1 #[d 0,d 1],a 4 7 tI v1 #[d 2,c 2,p 0,p 1,p 2]]).seq .ret)),norace:=false,file:= "internal/bytealg/compare_native.go",endLine:=16,tmpNames:=#["a","b","a","b","","","",""]}:Func) (by conv=>lhs;simp only[d,c,g,p,t,k,J,j,m,a,R,I,v0,v1])
end
theorem MR(nm:String)(ta:Array TypeId)(tS tI:TypeId)(fX:FuncId):(ab7 nm ta tS tI fX).ntmps=8:=rfl
structure ags(P:Program)(f:FuncId)(tS tI:TypeId)(fX:FuncId):Prop where
 mixed:P.follows .mixedOrders=true
 f:∃nm ta,P.funcs[f]? = some (ab7 nm ta tS tI fX)/\(nm == "runtime.NumGoroutine")=false
 o:∃fn,P.funcs[fX]? = some fn/\fn.body=none/\(fn.name == "runtime.NumGoroutine")=false/\Extern.findNext fn=none/\Extern.find fn=some Extern.BytealgCompare.compare
def Tt(L:ags P f tS tI fX)(a b:ByteArray)(w:World):
  Calls P f #[.string a,.string b] w λe w'=>e = .returned (.int .i64 (compareBytes a.data.toList b.data.toList))/\w'=w:=by
 have mixed:=L.mixed;let⟨nm,ta,hf,_⟩:=L.f;let⟨fn,o1,o2,o3,o4,o5⟩:=L.o
 have hov:(callFunc fX #[.string a,.string b]).run P w = .ok (.value (.int .i64 (compareBytes a.data.toList b.data.toList))) w:=by
  rw[run_callFunc_extern o1 o3 (by rw[o2];rfl) o4 o5,run_compareString];rfl
 go_enter hf,MR _ _ _ _ _
 go_wp2_with (simp only[hov])
 go_ret
 exact⟨rfl,rfl⟩
def aaL:List AV->Option AV
 | [.str a,.str b]=>some (.int .i64 (compareBytes a b))
 |_=>none
def aaJ(L:ags P f tS tI fX){args:List AV}{r:AV}(h:AH)(hr:aaL args=some r):zl P f args h r h:=by
 unfold aaL at hr;split at hr
 .rename_i a b;cases hr;refine xN (by let⟨nm,ta,hf,hn⟩:=L.f;exact⟨_,hf,rfl,hn⟩) λZ β w vs R hl hv=>?_
  match vs,hl with
  | [v,u],_ =>
   have h1:=Dx (hv 0 _ v rfl rfl);have h2:=Dx (hv 1 _ u rfl rfl);subst h1 h2;refine⟨_,λ_ _ _=>.pure _ _ (.int _ _),(Tt L ⟨a.toArray⟩ ⟨b.toArray⟩ w).mono ?_⟩
   rintro e w' ⟨rfl,rfl⟩
   exact⟨rfl,Below.refl _ _⟩
 .cases hr
def yW:∀a b:au,compareBytes a b=if a=b then 0 else if jP a b=true then -1 else 1
 | [],[]=>rfl
 | [],_::_=>by simp[compareBytes,jP]
 |_::_,[]=>by simp[compareBytes,jP]
 |a::u,b::v=>by
  have ih:=yW u v;unfold compareBytes;rw[ih]
  by_cases hab:a=b
  .subst hab;have h1:¬a<a:=by rw[eX];omega
   simp[jP,h1]
  .by_cases hlt : a < b
   .simp[jP,hlt,hab]
   .have hgt:b<a:=by
     rw[eX]at hlt⊢;have:a.toNat≠b.toNat:=λh=>hab (gF.1 h)
     omega
    simp[jP,hlt,hgt,hab]
end Go.Am.Nm
