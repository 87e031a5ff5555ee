/- Part of the proof that TopScriptsCard holds. -/
import Derived.Test.YtahlmpbhfljalaaGreatDoorProg
import Derived.Test.YtahlmpbhfljalaaGreatDoorAmSo
import Derived.Shelf.SlicesG.Cmp
import Derived.KernelRfl
set_option linter.all false
namespace Go.Proofs.YtahlmpbhfljalaaGreatDoor
open Go.Am Go.Proofs Go.Shelf Go.RowKit Go.Lib Go.Sort
def ahU:Ren:=⟨λ
 |6=>215
 |15=>305
 |14=>304
 |28=>354
 |29=>283
 |20=>346
 |21=>347
 |22=>348
 |23=>349
 |24=>350
 |25=>351
 |26=>352
 |27=>353
 |46=>365
 |47=>366
 |48=>367
 |49=>368
 |50=>369
 |57=>382
 |n=>n,λ
 |22=>109
 |24=>154
 |25=>299
 |3=>3
 |39=>131
 |0=>0
 |53=>355
 |55=>167
 |4=>4
 |46=>407
 |45=>406
 |50=>289
 |5=>5
 |9=>9
 |66=>416
 |70=>420
 |76=>431
 |77=>284
 |n=>n,λn=>n⟩
def aiS:SlLaysF0.n6 Tryz.prog ahU where
 mixed:=ai
 f6:=⟨Tryz.f215.name,ai,Tryz.func215⟩
 f14:=⟨Tryz.f304.name,ai,Tryz.func304⟩
 f15:=Tryz.func305
 f20:=⟨Tryz.f346.name,ai,Tryz.func346⟩
 f21:=⟨Tryz.f347.name,ai,Tryz.func347⟩
 f22:=⟨Tryz.f348.name,ai,Tryz.func348⟩
 f23:=⟨Tryz.f349.name,ai,Tryz.func349⟩
 f24:=⟨Tryz.f350.name,ai,Tryz.func350⟩
 f25:=⟨Tryz.f351.name,ai,Tryz.func351⟩
 f26:=⟨Tryz.f352.name,ai,Tryz.func352⟩
 f27:=⟨Tryz.f353.name,ai,Tryz.func353⟩
 f28:=Tryz.func354
 f29:=Tryz.func283
 f46:=⟨Tryz.f365.name,ai,Tryz.func365⟩
 f47:=Tryz.func366
 f48:=Tryz.func367
 f49:=⟨Tryz.f368.name,ai,Tryz.func368⟩
 f50:=⟨Tryz.f369.name,ai,Tryz.func369⟩
 f57:=⟨Tryz.f382.name,ai,Tryz.func382⟩
 t0:=Tryz.underlying0
 a0:=Tryz.isAgg0
 z0:=Tryz.sizeOf0
 v0:=Tryz.zeroValue0
 t3:=Tryz.underlying3
 a3:=Tryz.isAgg3
 z3:=Tryz.sizeOf3
 v3:=Tryz.zeroValue3
 t4:=Tryz.underlying4
 a4:=Tryz.isAgg4
 z4:=Tryz.sizeOf4
 v4:=Tryz.zeroValue4
 t5:=Tryz.underlying5
 a5:=Tryz.isAgg5
 z5:=Tryz.sizeOf5
 v5:=Tryz.zeroValue5
 t9:=Tryz.underlying9
 a9:=Tryz.isAgg9
 z9:=Tryz.sizeOf9
 v9:=Tryz.zeroValue9
 t22:=Tryz.underlying109
 a22:=Tryz.isAgg109
 z22:=Tryz.sizeOf109
 v22:=Tryz.zeroValue109
 t25:=Tryz.underlying299
 a25:=Tryz.isAgg299
 z25:=Tryz.sizeOf299
 v25:=Tryz.zeroValue299
 t39:=Tryz.underlying131
 a39:=Tryz.isAgg131
 z39:=Tryz.sizeOf131
 v39:=Tryz.zeroValue131
 t45:=Tryz.underlying406
 a45:=Tryz.isAgg406
 z45:=Tryz.sizeOf406
 v45:=Tryz.zeroValue406
 t46:=Tryz.underlying407
 a46:=Tryz.isAgg407
 z46:=Tryz.sizeOf407
 v46:=Tryz.zeroValue407
 t50:=Tryz.underlying289
 a50:=Tryz.isAgg289
 z50:=Tryz.sizeOf289
 v50:=Tryz.zeroValue289
 t53:=Tryz.underlying355
 a53:=Tryz.isAgg355
 z53:=Tryz.sizeOf355
 v53:=Tryz.zeroValue355
 t55:=Tryz.underlying167
 a55:=Tryz.isAgg167
 z55:=Tryz.sizeOf167
 v55:=Tryz.zeroValue167
 t66:=Tryz.underlying416
 a66:=Tryz.isAgg416
 z66:=Tryz.sizeOf416
 v66:=Tryz.zeroValue416
 t70:=Tryz.underlying420
 a70:=Tryz.isAgg420
 z70:=Tryz.sizeOf420
 v70:=Tryz.zeroValue420
 t76:=Tryz.underlying431
 a76:=Tryz.isAgg431
 z76:=Tryz.sizeOf431
 v76:=Tryz.zeroValue431
 t77:=Tryz.underlying284
 a77:=Tryz.isAgg284
 z77:=Tryz.sizeOf284
 v77:=Tryz.zeroValue284
def ahT:Ren:=⟨λ
 |6=>321
 |15=>305
 |14=>358
 |28=>354
 |29=>283
 |20=>372
 |21=>373
 |22=>374
 |23=>375
 |24=>376
 |25=>377
 |26=>378
 |27=>379
 |46=>383
 |47=>366
 |48=>367
 |49=>384
 |50=>385
 |57=>386
 |n=>n,λ
 |22=>25
 |24=>111
 |25=>386
 |3=>3
 |39=>131
 |0=>0
 |53=>355
 |55=>167
 |4=>4
 |46=>407
 |45=>406
 |50=>289
 |5=>5
 |9=>9
 |66=>416
 |70=>420
 |76=>431
 |77=>284
 |n=>n,λn=>n⟩
def aiR:SlLaysF0.n6 Tryz.prog ahT where
 mixed:=ai
 f6:=⟨Tryz.f321.name,ai,Tryz.func321⟩
 f14:=⟨Tryz.f358.name,ai,Tryz.func358⟩
 f15:=Tryz.func305
 f20:=⟨Tryz.f372.name,ai,Tryz.func372⟩
 f21:=⟨Tryz.f373.name,ai,Tryz.func373⟩
 f22:=⟨Tryz.f374.name,ai,Tryz.func374⟩
 f23:=⟨Tryz.f375.name,ai,Tryz.func375⟩
 f24:=⟨Tryz.f376.name,ai,Tryz.func376⟩
 f25:=⟨Tryz.f377.name,ai,Tryz.func377⟩
 f26:=⟨Tryz.f378.name,ai,Tryz.func378⟩
 f27:=⟨Tryz.f379.name,ai,Tryz.func379⟩
 f28:=Tryz.func354
 f29:=Tryz.func283
 f46:=⟨Tryz.f383.name,ai,Tryz.func383⟩
 f47:=Tryz.func366
 f48:=Tryz.func367
 f49:=⟨Tryz.f384.name,ai,Tryz.func384⟩
 f50:=⟨Tryz.f385.name,ai,Tryz.func385⟩
 f57:=⟨Tryz.f386.name,ai,Tryz.func386⟩
 t0:=Tryz.underlying0
 a0:=Tryz.isAgg0
 z0:=Tryz.sizeOf0
 v0:=Tryz.zeroValue0
 t3:=Tryz.underlying3
 a3:=Tryz.isAgg3
 z3:=Tryz.sizeOf3
 v3:=Tryz.zeroValue3
 t4:=Tryz.underlying4
 a4:=Tryz.isAgg4
 z4:=Tryz.sizeOf4
 v4:=Tryz.zeroValue4
 t5:=Tryz.underlying5
 a5:=Tryz.isAgg5
 z5:=Tryz.sizeOf5
 v5:=Tryz.zeroValue5
 t9:=Tryz.underlying9
 a9:=Tryz.isAgg9
 z9:=Tryz.sizeOf9
 v9:=Tryz.zeroValue9
 t22:=Tryz.underlying25
 a22:=Tryz.isAgg25
 z22:=Tryz.sizeOf25
 v22:=Tryz.zeroValue25
 t25:=Tryz.underlying386
 a25:=Tryz.isAgg386
 z25:=Tryz.sizeOf386
 v25:=Tryz.zeroValue386
 t39:=Tryz.underlying131
 a39:=Tryz.isAgg131
 z39:=Tryz.sizeOf131
 v39:=Tryz.zeroValue131
 t45:=Tryz.underlying406
 a45:=Tryz.isAgg406
 z45:=Tryz.sizeOf406
 v45:=Tryz.zeroValue406
 t46:=Tryz.underlying407
 a46:=Tryz.isAgg407
 z46:=Tryz.sizeOf407
 v46:=Tryz.zeroValue407
 t50:=Tryz.underlying289
 a50:=Tryz.isAgg289
 z50:=Tryz.sizeOf289
 v50:=Tryz.zeroValue289
 t53:=Tryz.underlying355
 a53:=Tryz.isAgg355
 z53:=Tryz.sizeOf355
 v53:=Tryz.zeroValue355
 t55:=Tryz.underlying167
 a55:=Tryz.isAgg167
 z55:=Tryz.sizeOf167
 v55:=Tryz.zeroValue167
 t66:=Tryz.underlying416
 a66:=Tryz.isAgg416
 z66:=Tryz.sizeOf416
 v66:=Tryz.zeroValue416
 t70:=Tryz.underlying420
 a70:=Tryz.isAgg420
 z70:=Tryz.sizeOf420
 v70:=Tryz.zeroValue420
 t76:=Tryz.underlying431
 a76:=Tryz.isAgg431
 z76:=Tryz.sizeOf431
 v76:=Tryz.zeroValue431
 t77:=Tryz.underlying284
 a77:=Tryz.isAgg284
 z77:=Tryz.sizeOf284
 v77:=Tryz.zeroValue284
def ahS:Ren:=⟨λ
 |5=>217
 |7=>306
 |n=>n,λ
 |22=>3
 |n=>n,λn=>n⟩
def ac6:SlLaysC2.n5 Tryz.prog ahS where
 mixed:=ai
 f5:=⟨Tryz.f217.name,ai,Tryz.func217⟩
 f7:=⟨Tryz.f306.name,ai,Tryz.func306⟩
 t3:=Tryz.underlying3
 a3:=Tryz.isAgg3
 z3:=Tryz.sizeOf3
 v3:=Tryz.zeroValue3
 t4:=Tryz.underlying4
 a4:=Tryz.isAgg4
 z4:=Tryz.sizeOf4
 v4:=Tryz.zeroValue4
 t22:=Tryz.underlying3
 a22:=Tryz.isAgg3
 z22:=Tryz.sizeOf3
 v22:=Tryz.zeroValue3
set_option maxHeartbeats 1000000 in
def XG(n m:Int)(a0 l b0 b1:Value)(W:World):Calls Tryz.prog 216 #[.agg #[a0,l,.int .i64 n],.agg #[b0,b1,.int .i64 m]] W λe w'=>e = .returned (.int .i64 (Lib.compareInt n m))/\∃q h,w'=grow (W.drewN q) h:=by
 have b:=λi=>AnyG.cmp_Compare_int ac6 n m i
 change ∀i,Calls Tryz.prog 217 _ _ _ at b
 generalize Lib.compareInt n m=r at b⊢
 go_enter Tryz.func216,Tryz.ntmps216
 go_wp2_with (go_at_call 217;refine(b _).mono ?_;rintro e w' ⟨rfl,rfl⟩)
 go_ret
 exact⟨rfl,0,_,by rw[alloc_eq_grow,alloc_eq_grow,grow_grow];rfl⟩
def Rq:YQ Tryz.prog 2 3 216:=by
 refine⟨enters_of Tryz.func216 ai rfl,λx y W=>?_⟩
 let⟨n,b⟩:=x.2.2.2;let⟨m,h⟩:=y.2.2.2;rw[Cl.zC b,Cl.zC h];let⟨xs,hx,_⟩:=x;let⟨i,l,_⟩:=y
 match xs,hx,i,l with
 | [a0,o,a2],_,[b0,b1,q],_ =>
  simp only[aS,bY,aP]at b h;subst b h;exact XG n m a0 o b0 b1 W
def L7(args:List AV)(h:AH)(r:AV)(h':AH)(b:qb 2 3 [216] args h=some (r,h')):nC Tryz.prog 215 args h r h' :=
 Ed aiS af Tryz.isAgg154 Tryz.sizeOf154 ⟨Tryz.f215,Tryz.func215,ai,ai⟩ (λg hg=>by
  have:g=216:=by simpa using hg
  subst this;exact Rq) b
set_option maxHeartbeats 1000000 in
def XF(n m:Int)(y a2 a3 a4 a5 b1 x v o l:Value)(W:World):Calls Tryz.prog 322 #[.agg #[.int .i64 n,y,a2,a3,a4,a5],.agg #[.int .i64 m,b1,x,v,o,l]] W λe w'=>e = .returned (.int .i64 (Lib.compareInt n m))/\∃q h,w'=grow (W.drewN q) h:=by
 have b:=λi=>AnyG.cmp_Compare_int ac6 n m i
 change ∀i,Calls Tryz.prog 217 _ _ _ at b
 generalize Lib.compareInt n m=r at b⊢
 go_enter Tryz.func322,Tryz.ntmps322
 go_wp2_with (go_at_call 217;refine(b _).mono ?_;rintro e w' ⟨rfl,rfl⟩)
 go_ret
 exact⟨rfl,0,_,by rw[alloc_eq_grow,alloc_eq_grow,grow_grow];rfl⟩
def Rp:YQ Tryz.prog 0 6 322:=by
 refine⟨enters_of Tryz.func322 ai rfl,λx y W=>?_⟩
 let⟨n,b⟩:=x.2.2.2;let⟨m,h⟩:=y.2.2.2;rw[Cl.zC b,Cl.zC h];let⟨xs,hx,_⟩:=x;let⟨i,l,_⟩:=y
 match xs,hx,i,l with
 | [a0,z,a2,a3,a4,a5],_,[b0,b1,v,r,q,o],_ =>
  simp only[aS,bY,aP]at b h;subst b h;exact XF n m z a2 a3 a4 a5 b1 v r q o W
def L6(args:List AV)(h:AH)(r:AV)(h':AH)(b:qb 0 6 [322] args h=some (r,h')):nC Tryz.prog 321 args h r h' :=
 Ed aiR af Tryz.isAgg111 Tryz.sizeOf111 ⟨Tryz.f321,Tryz.func321,ai,ai⟩ (λg hg=>by
  have:g=322:=by simpa using hg
  subst this;exact Rp) b
end Go.Proofs.YtahlmpbhfljalaaGreatDoor
