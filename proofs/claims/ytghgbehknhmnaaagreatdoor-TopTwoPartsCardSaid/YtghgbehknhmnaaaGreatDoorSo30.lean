/- Part of the proof that TopTwoPartsCard holds. -/
import Derived.Test.YtghgbehknhmnaaaGreatDoorProg
import Derived.Test.YtghgbehknhmnaaaGreatDoorAmSo
import Derived.Shelf.SlicesG.Cmp
import Derived.KernelRfl
set_option linter.all false
namespace Go.Proofs.YtghgbehknhmnaaaGreatDoor
open Go.Am Go.Proofs Go.Shelf Go.RowKit Go.Lib Go.Sort
def aiq:Ren:=⟨λ
 |6=>198
 |15=>253
 |14=>252
 |28=>294
 |29=>295
 |20=>286
 |21=>287
 |22=>288
 |23=>289
 |24=>290
 |25=>291
 |26=>292
 |27=>293
 |46=>308
 |47=>309
 |48=>310
 |49=>311
 |50=>312
 |57=>329
 |n=>n,λ
 |22=>116
 |24=>162
 |25=>277
 |3=>3
 |39=>223
 |0=>0
 |53=>357
 |55=>106
 |4=>4
 |46=>351
 |45=>350
 |50=>92
 |5=>5
 |9=>9
 |66=>367
 |70=>371
 |76=>384
 |77=>244
 |n=>n,λn=>n⟩
def ajc:SlLaysF0.n6 Tryz.prog aiq where
 mixed:=aj
 f6:=⟨Tryz.f198.name,aj,Tryz.func198⟩
 f14:=⟨Tryz.f252.name,aj,Tryz.func252⟩
 f15:=Tryz.func253
 f20:=⟨Tryz.f286.name,aj,Tryz.func286⟩
 f21:=⟨Tryz.f287.name,aj,Tryz.func287⟩
 f22:=⟨Tryz.f288.name,aj,Tryz.func288⟩
 f23:=⟨Tryz.f289.name,aj,Tryz.func289⟩
 f24:=⟨Tryz.f290.name,aj,Tryz.func290⟩
 f25:=⟨Tryz.f291.name,aj,Tryz.func291⟩
 f26:=⟨Tryz.f292.name,aj,Tryz.func292⟩
 f27:=⟨Tryz.f293.name,aj,Tryz.func293⟩
 f28:=Tryz.func294
 f29:=Tryz.func295
 f46:=⟨Tryz.f308.name,aj,Tryz.func308⟩
 f47:=Tryz.func309
 f48:=Tryz.func310
 f49:=⟨Tryz.f311.name,aj,Tryz.func311⟩
 f50:=⟨Tryz.f312.name,aj,Tryz.func312⟩
 f57:=⟨Tryz.f329.name,aj,Tryz.func329⟩
 t0:=Tryz.underlying0
 a0:=Tryz.isAgg0
 z0:=Tryz.sizeOf0
 v0:=Tryz.zeroValue0
 t3:=Tryz.underlying3
 a3:=Tryz.isAgg3
 z3:=Tryz.sizeOf3
 v3:=Tryz.zeroValue3
 t4:=Tryz.underlying4
 a4:=Tryz.isAgg4
 z4:=Tryz.sizeOf4
 v4:=Tryz.zeroValue4
 t5:=Tryz.underlying5
 a5:=Tryz.isAgg5
 z5:=Tryz.sizeOf5
 v5:=Tryz.zeroValue5
 t9:=Tryz.underlying9
 a9:=Tryz.isAgg9
 z9:=Tryz.sizeOf9
 v9:=Tryz.zeroValue9
 t22:=Tryz.underlying116
 a22:=Tryz.isAgg116
 z22:=Tryz.sizeOf116
 v22:=Tryz.zeroValue116
 t25:=Tryz.underlying277
 a25:=Tryz.isAgg277
 z25:=Tryz.sizeOf277
 v25:=Tryz.zeroValue277
 t39:=Tryz.underlying223
 a39:=Tryz.isAgg223
 z39:=Tryz.sizeOf223
 v39:=Tryz.zeroValue223
 t45:=Tryz.underlying350
 a45:=Tryz.isAgg350
 z45:=Tryz.sizeOf350
 v45:=Tryz.zeroValue350
 t46:=Tryz.underlying351
 a46:=Tryz.isAgg351
 z46:=Tryz.sizeOf351
 v46:=Tryz.zeroValue351
 t50:=Tryz.underlying92
 a50:=Tryz.isAgg92
 z50:=Tryz.sizeOf92
 v50:=Tryz.zeroValue92
 t53:=Tryz.underlying357
 a53:=Tryz.isAgg357
 z53:=Tryz.sizeOf357
 v53:=Tryz.zeroValue357
 t55:=Tryz.underlying106
 a55:=Tryz.isAgg106
 z55:=Tryz.sizeOf106
 v55:=Tryz.zeroValue106
 t66:=Tryz.underlying367
 a66:=Tryz.isAgg367
 z66:=Tryz.sizeOf367
 v66:=Tryz.zeroValue367
 t70:=Tryz.underlying371
 a70:=Tryz.isAgg371
 z70:=Tryz.sizeOf371
 v70:=Tryz.zeroValue371
 t76:=Tryz.underlying384
 a76:=Tryz.isAgg384
 z76:=Tryz.sizeOf384
 v76:=Tryz.zeroValue384
 t77:=Tryz.underlying244
 a77:=Tryz.isAgg244
 z77:=Tryz.sizeOf244
 v77:=Tryz.zeroValue244
def aip:Ren:=⟨λ
 |6=>268
 |15=>253
 |14=>299
 |28=>294
 |29=>295
 |20=>315
 |21=>316
 |22=>317
 |23=>318
 |24=>319
 |25=>320
 |26=>321
 |27=>322
 |46=>330
 |47=>309
 |48=>310
 |49=>331
 |50=>332
 |57=>335
 |n=>n,λ
 |22=>27
 |24=>118
 |25=>338
 |3=>3
 |39=>223
 |0=>0
 |53=>357
 |55=>106
 |4=>4
 |46=>351
 |45=>350
 |50=>92
 |5=>5
 |9=>9
 |66=>367
 |70=>371
 |76=>384
 |77=>244
 |n=>n,λn=>n⟩
def ajb:SlLaysF0.n6 Tryz.prog aip where
 mixed:=aj
 f6:=⟨Tryz.f268.name,aj,Tryz.func268⟩
 f14:=⟨Tryz.f299.name,aj,Tryz.func299⟩
 f15:=Tryz.func253
 f20:=⟨Tryz.f315.name,aj,Tryz.func315⟩
 f21:=⟨Tryz.f316.name,aj,Tryz.func316⟩
 f22:=⟨Tryz.f317.name,aj,Tryz.func317⟩
 f23:=⟨Tryz.f318.name,aj,Tryz.func318⟩
 f24:=⟨Tryz.f319.name,aj,Tryz.func319⟩
 f25:=⟨Tryz.f320.name,aj,Tryz.func320⟩
 f26:=⟨Tryz.f321.name,aj,Tryz.func321⟩
 f27:=⟨Tryz.f322.name,aj,Tryz.func322⟩
 f28:=Tryz.func294
 f29:=Tryz.func295
 f46:=⟨Tryz.f330.name,aj,Tryz.func330⟩
 f47:=Tryz.func309
 f48:=Tryz.func310
 f49:=⟨Tryz.f331.name,aj,Tryz.func331⟩
 f50:=⟨Tryz.f332.name,aj,Tryz.func332⟩
 f57:=⟨Tryz.f335.name,aj,Tryz.func335⟩
 t0:=Tryz.underlying0
 a0:=Tryz.isAgg0
 z0:=Tryz.sizeOf0
 v0:=Tryz.zeroValue0
 t3:=Tryz.underlying3
 a3:=Tryz.isAgg3
 z3:=Tryz.sizeOf3
 v3:=Tryz.zeroValue3
 t4:=Tryz.underlying4
 a4:=Tryz.isAgg4
 z4:=Tryz.sizeOf4
 v4:=Tryz.zeroValue4
 t5:=Tryz.underlying5
 a5:=Tryz.isAgg5
 z5:=Tryz.sizeOf5
 v5:=Tryz.zeroValue5
 t9:=Tryz.underlying9
 a9:=Tryz.isAgg9
 z9:=Tryz.sizeOf9
 v9:=Tryz.zeroValue9
 t22:=Tryz.underlying27
 a22:=Tryz.isAgg27
 z22:=Tryz.sizeOf27
 v22:=Tryz.zeroValue27
 t25:=Tryz.underlying338
 a25:=Tryz.isAgg338
 z25:=Tryz.sizeOf338
 v25:=Tryz.zeroValue338
 t39:=Tryz.underlying223
 a39:=Tryz.isAgg223
 z39:=Tryz.sizeOf223
 v39:=Tryz.zeroValue223
 t45:=Tryz.underlying350
 a45:=Tryz.isAgg350
 z45:=Tryz.sizeOf350
 v45:=Tryz.zeroValue350
 t46:=Tryz.underlying351
 a46:=Tryz.isAgg351
 z46:=Tryz.sizeOf351
 v46:=Tryz.zeroValue351
 t50:=Tryz.underlying92
 a50:=Tryz.isAgg92
 z50:=Tryz.sizeOf92
 v50:=Tryz.zeroValue92
 t53:=Tryz.underlying357
 a53:=Tryz.isAgg357
 z53:=Tryz.sizeOf357
 v53:=Tryz.zeroValue357
 t55:=Tryz.underlying106
 a55:=Tryz.isAgg106
 z55:=Tryz.sizeOf106
 v55:=Tryz.zeroValue106
 t66:=Tryz.underlying367
 a66:=Tryz.isAgg367
 z66:=Tryz.sizeOf367
 v66:=Tryz.zeroValue367
 t70:=Tryz.underlying371
 a70:=Tryz.isAgg371
 z70:=Tryz.sizeOf371
 v70:=Tryz.zeroValue371
 t76:=Tryz.underlying384
 a76:=Tryz.isAgg384
 z76:=Tryz.sizeOf384
 v76:=Tryz.zeroValue384
 t77:=Tryz.underlying244
 a77:=Tryz.isAgg244
 z77:=Tryz.sizeOf244
 v77:=Tryz.zeroValue244
def aio:Ren:=⟨λ
 |5=>82
 |7=>143
 |n=>n,λ
 |22=>3
 |n=>n,λn=>n⟩
def acV:SlLaysC2.n5 Tryz.prog aio where
 mixed:=aj
 f5:=⟨Tryz.f82.name,aj,Tryz.func82⟩
 f7:=⟨Tryz.f143.name,aj,Tryz.func143⟩
 t3:=Tryz.underlying3
 a3:=Tryz.isAgg3
 z3:=Tryz.sizeOf3
 v3:=Tryz.zeroValue3
 t4:=Tryz.underlying4
 a4:=Tryz.isAgg4
 z4:=Tryz.sizeOf4
 v4:=Tryz.zeroValue4
 t22:=Tryz.underlying3
 a22:=Tryz.isAgg3
 z22:=Tryz.sizeOf3
 v22:=Tryz.zeroValue3
set_option maxHeartbeats 1000000 in
def XJ(n m:Int)(a0 l b0 b1:Value)(W:World):Calls Tryz.prog 199 #[.agg #[a0,l,.int .i64 n],.agg #[b0,b1,.int .i64 m]] W λe w'=>e = .returned (.int .i64 (Lib.compareInt n m))/\∃q h,w'=grow (W.drewN q) h:=by
 have b:=λi=>AnyG.cmp_Compare_int acV n m i
 change ∀i,Calls Tryz.prog 82 _ _ _ at b
 generalize Lib.compareInt n m=r at b⊢
 go_enter Tryz.func199,Tryz.ntmps199
 go_wp2_with (go_at_call 82;refine(b _).mono ?_;rintro e w' ⟨rfl,rfl⟩)
 go_ret
 exact⟨rfl,0,_,by rw[alloc_eq_grow,alloc_eq_grow,grow_grow];rfl⟩
def RM:Y4 Tryz.prog 2 3 199:=by
 refine⟨enters_of Tryz.func199 aj rfl,λx y W=>?_⟩
 let⟨n,b⟩:=x.2.2.2;let⟨m,h⟩:=y.2.2.2;rw[Cl.AP b,Cl.AP h];let⟨xs,o,_⟩:=x;let⟨i,l,_⟩:=y
 match xs,o,i,l with
 | [a0,q,v],_,[b0,b1,r],_ =>
  simp only[bH,cA,bn]at b h;subst b h;exact XJ n m a0 q b0 b1 W
def Mm(args:List AV)(h:AH)(r:AV)(h':AH)(b:qN 2 3 [199] args h=some (r,h')):ux Tryz.prog 198 args h r h' :=
 EP ajc ah Tryz.isAgg162 Tryz.sizeOf162 ⟨Tryz.f198,Tryz.func198,aj,aj⟩ (λg hg=>by
  have:g=199:=by simpa using hg
  subst this;exact RM) b
set_option maxHeartbeats 1000000 in
def XI(n m:Int)(z y a3 a4 a5 b1 x v o l:Value)(W:World):Calls Tryz.prog 269 #[.agg #[.int .i64 n,z,y,a3,a4,a5],.agg #[.int .i64 m,b1,x,v,o,l]] W λe w'=>e = .returned (.int .i64 (Lib.compareInt n m))/\∃q h,w'=grow (W.drewN q) h:=by
 have b:=λi=>AnyG.cmp_Compare_int acV n m i
 change ∀i,Calls Tryz.prog 82 _ _ _ at b
 generalize Lib.compareInt n m=r at b⊢
 go_enter Tryz.func269,Tryz.ntmps269
 go_wp2_with (go_at_call 82;refine(b _).mono ?_;rintro e w' ⟨rfl,rfl⟩)
 go_ret
 exact⟨rfl,0,_,by rw[alloc_eq_grow,alloc_eq_grow,grow_grow];rfl⟩
def RL:Y4 Tryz.prog 0 6 269:=by
 refine⟨enters_of Tryz.func269 aj rfl,λx y W=>?_⟩
 let⟨n,b⟩:=x.2.2.2;let⟨m,h⟩:=y.2.2.2;rw[Cl.AP b,Cl.AP h];let⟨xs,o,_⟩:=x;let⟨i,l,_⟩:=y
 match xs,o,i,l with
 | [a0,E,A,a3,a4,a5],_,[b0,b1,z,v,r,q],_ =>
  simp only[bH,cA,bn]at b h;subst b h;exact XI n m E A a3 a4 a5 b1 z v r q W
def Ml(args:List AV)(h:AH)(r:AV)(h':AH)(b:qN 0 6 [269] args h=some (r,h')):ux Tryz.prog 268 args h r h' :=
 EP ajb ah Tryz.isAgg118 Tryz.sizeOf118 ⟨Tryz.f268,Tryz.func268,aj,aj⟩ (λg hg=>by
  have:g=269:=by simpa using hg
  subst this;exact RL) b
end Go.Proofs.YtghgbehknhmnaaaGreatDoor
