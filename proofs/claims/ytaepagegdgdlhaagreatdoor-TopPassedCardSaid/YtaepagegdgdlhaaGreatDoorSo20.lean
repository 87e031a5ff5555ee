/- Part of the proof that TopPassedCard holds. -/
import Derived.Test.YtaepagegdgdlhaaGreatDoorProg
import Derived.Test.YtaepagegdgdlhaaGreatDoorAmSo
import Derived.Shelf.SlicesG.Cmp
import Derived.KernelRfl
set_option linter.all false
namespace Go.Proofs.YtaepagegdgdlhaaGreatDoor
open Go.Am Go.Proofs Go.Shelf Go.RowKit Go.Lib Go.Sort
def aoq:Ren:=⟨λ
 |6=>89
 |15=>138
 |14=>137
 |28=>203
 |29=>204
 |20=>195
 |21=>196
 |22=>197
 |23=>198
 |24=>199
 |25=>200
 |26=>201
 |27=>202
 |46=>252
 |47=>253
 |48=>254
 |49=>255
 |50=>256
 |57=>280
 |n=>n,λ
 |22=>53
 |24=>133
 |25=>169
 |3=>3
 |39=>214
 |0=>0
 |53=>284
 |55=>286
 |4=>4
 |46=>278
 |45=>277
 |50=>125
 |5=>5
 |9=>9
 |66=>331
 |70=>335
 |76=>355
 |77=>356
 |n=>n,λn=>n⟩
def aoV:SlLaysF0.n6 Tryz.prog aoq where
 mixed:=ai
 f6:=⟨Tryz.f89.name,ai,Tryz.func89⟩
 f14:=⟨Tryz.f137.name,ai,Tryz.func137⟩
 f15:=Tryz.func138
 f20:=⟨Tryz.f195.name,ai,Tryz.func195⟩
 f21:=⟨Tryz.f196.name,ai,Tryz.func196⟩
 f22:=⟨Tryz.f197.name,ai,Tryz.func197⟩
 f23:=⟨Tryz.f198.name,ai,Tryz.func198⟩
 f24:=⟨Tryz.f199.name,ai,Tryz.func199⟩
 f25:=⟨Tryz.f200.name,ai,Tryz.func200⟩
 f26:=⟨Tryz.f201.name,ai,Tryz.func201⟩
 f27:=⟨Tryz.f202.name,ai,Tryz.func202⟩
 f28:=Tryz.func203
 f29:=Tryz.func204
 f46:=⟨Tryz.f252.name,ai,Tryz.func252⟩
 f47:=Tryz.func253
 f48:=Tryz.func254
 f49:=⟨Tryz.f255.name,ai,Tryz.func255⟩
 f50:=⟨Tryz.f256.name,ai,Tryz.func256⟩
 f57:=⟨Tryz.f280.name,ai,Tryz.func280⟩
 t0:=Tryz.underlying0
 a0:=Tryz.isAgg0
 z0:=Tryz.sizeOf0
 v0:=Tryz.zeroValue0
 t3:=Tryz.underlying3
 a3:=Tryz.isAgg3
 z3:=Tryz.sizeOf3
 v3:=Tryz.zeroValue3
 t4:=Tryz.underlying4
 a4:=Tryz.isAgg4
 z4:=Tryz.sizeOf4
 v4:=Tryz.zeroValue4
 t5:=Tryz.underlying5
 a5:=Tryz.isAgg5
 z5:=Tryz.sizeOf5
 v5:=Tryz.zeroValue5
 t9:=Tryz.underlying9
 a9:=Tryz.isAgg9
 z9:=Tryz.sizeOf9
 v9:=Tryz.zeroValue9
 t22:=Tryz.underlying53
 a22:=Tryz.isAgg53
 z22:=Tryz.sizeOf53
 v22:=Tryz.zeroValue53
 t25:=Tryz.underlying169
 a25:=Tryz.isAgg169
 z25:=Tryz.sizeOf169
 v25:=Tryz.zeroValue169
 t39:=Tryz.underlying214
 a39:=Tryz.isAgg214
 z39:=Tryz.sizeOf214
 v39:=Tryz.zeroValue214
 t45:=Tryz.underlying277
 a45:=Tryz.isAgg277
 z45:=Tryz.sizeOf277
 v45:=Tryz.zeroValue277
 t46:=Tryz.underlying278
 a46:=Tryz.isAgg278
 z46:=Tryz.sizeOf278
 v46:=Tryz.zeroValue278
 t50:=Tryz.underlying125
 a50:=Tryz.isAgg125
 z50:=Tryz.sizeOf125
 v50:=Tryz.zeroValue125
 t53:=Tryz.underlying284
 a53:=Tryz.isAgg284
 z53:=Tryz.sizeOf284
 v53:=Tryz.zeroValue284
 t55:=Tryz.underlying286
 a55:=Tryz.isAgg286
 z55:=Tryz.sizeOf286
 v55:=Tryz.zeroValue286
 t66:=Tryz.underlying331
 a66:=Tryz.isAgg331
 z66:=Tryz.sizeOf331
 v66:=Tryz.zeroValue331
 t70:=Tryz.underlying335
 a70:=Tryz.isAgg335
 z70:=Tryz.sizeOf335
 v70:=Tryz.zeroValue335
 t76:=Tryz.underlying355
 a76:=Tryz.isAgg355
 z76:=Tryz.sizeOf355
 v76:=Tryz.zeroValue355
 t77:=Tryz.underlying356
 a77:=Tryz.isAgg356
 z77:=Tryz.sizeOf356
 v77:=Tryz.zeroValue356
def aor:Ren:=⟨λ
 |5=>91
 |7=>139
 |n=>n,λ
 |22=>3
 |n=>n,λn=>n⟩
def aoW:SlLaysC2.n5 Tryz.prog aor where
 mixed:=ai
 f5:=⟨Tryz.f91.name,ai,Tryz.func91⟩
 f7:=⟨Tryz.f139.name,ai,Tryz.func139⟩
 t3:=Tryz.underlying3
 a3:=Tryz.isAgg3
 z3:=Tryz.sizeOf3
 v3:=Tryz.zeroValue3
 t4:=Tryz.underlying4
 a4:=Tryz.isAgg4
 z4:=Tryz.sizeOf4
 v4:=Tryz.zeroValue4
 t22:=Tryz.underlying3
 a22:=Tryz.isAgg3
 z22:=Tryz.sizeOf3
 v22:=Tryz.zeroValue3
set_option maxHeartbeats 1000000 in
def alU(n m:Int)(a1 a2 a3 a4 a5 b1 b2 b3 b4 b5:Value)(W:World):Calls Tryz.prog 90 #[.agg #[.int .i64 n,a1,a2,a3,a4,a5],.agg #[.int .i64 m,b1,b2,b3,b4,b5]] W λe w'=>e = .returned (.int .i64 (Lib.compareInt n m))/\∃q os',w'=grow (W.drewN q) os':=by
 have S6:=λW'=>AnyG.cmp_Compare_int aoW n m W'
 change ∀W',Calls Tryz.prog 91 _ _ _ at S6
 generalize Lib.compareInt n m=r at S6⊢
 go_enter Tryz.func90,Tryz.ntmps90
 go_wp2_with (go_at_call 91;refine(S6 _).mono ?_;rintro e w' ⟨rfl,rfl⟩)
 go_ret
 exact⟨rfl,0,_,by rw[alloc_eq_grow,alloc_eq_grow,grow_grow];rfl⟩
def afu:amG Tryz.prog 0 6 90:=by
 refine⟨enters_of Tryz.func90 ai rfl,λx y W=>?_⟩
 let⟨n,hn⟩:=x.2.2.2;let⟨m,hm⟩:=y.2.2.2;rw[Cl.Oq hn,Cl.Oq hm];let⟨xs,hx,_⟩:=x;let⟨ys,hy,_⟩:=y
 match xs,hx,ys,hy with
 | [_,a1,a2,a3,a4,a5],_,[_,b1,b2,b3,b4,b5],_ =>
  simp only[bz,bp]at hn hm;subst hn hm;exact alU n m a1 a2 a3 a4 a5 b1 b2 b3 b4 b5 W
def Y9(args:List AV)(h:AH)(r:AV)(h':AH)(hr:GS 0 6 [90] args h=some (r,h')):zl Tryz.prog 89 args h r h' :=
 Uv aoV af Tryz.isAgg133 Tryz.sizeOf133 ⟨Tryz.f89,Tryz.func89,ai,ai⟩ (λg hg=>by
  have:g=90:=by simpa using hg
  subst this;exact afu) hr
end Go.Proofs.YtaepagegdgdlhaaGreatDoor
