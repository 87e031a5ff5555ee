/- Part of the proof that TopScriptsCard holds. -/
import Derived.Test.YtahlmpbhfljalaaGreatDoorAmBm
import Derived.Test.YtahlmpbhfljalaaGreatDoorReB
import Derived.Shelf.Strconv.AtoiAll
import Derived.Shelf.Strconv.Itoa3
import Derived.Shelf.Strings.Split
import Derived.Shelf.Strings.Cut
import Derived.Shelf.Strings.Prefix
set_option linter.all false
namespace Go.Am
open Go.Shelf Go.RowKit Go.Proofs Go.Lib Go.Re
variable{P:Program}{ρ:Ren}
def Of:Nat->Nat->aq->aq
 |0,_,b=>b
 |k+1,u,b=>if u<10 then UInt8.ofNat (48+u)::b else Of k (u / 10) (UInt8.ofNat (48+u%10)::b)
def Dt:∀(k u:Nat)(b:aq),u<10 ^ k->0<k->Of k u b=decDigits u++b
 |k+1,u,b,h,_=>by
  rw[Of,decDigits];split
  .simp
  .have hk:0<k:=by
    cases k with
    |zero=>simp at h;omega
    |succ k=>omega
   rw[Dt k (u / 10) _ (by rw[Nat.pow_succ]at h;omega) hk]
   simp
def I9(n:Int):aq:=if n<0 then 45::Of 20 n.natAbs []else Of 20 n.toNat []
def Fi{n:Int}(h:qE n):I9 n=itoa n:=by
 unfold I9 itoa;rw[Dt _ _ _ (by have:=h.1;have:=h.2;omega) af,Dt _ _ _ (by have:=h.1;have:=h.2;omega) af]
 simp
def Fh:List AV->Option AV
 | [.int .i64 n]=>if qE n then some (.str (I9 n))else none
 |_=>none
def sv{Z:ay}{β:iW}{w:World}{s:aq}{v:Value}(h:VR β Z w (.str s) v):v = .string ⟨s.toArray⟩:=by
 obtain⟨b,rfl,rfl⟩:=h.lN;cases b;simp
def sr{β:iW}{O:ay}{w:World}(s:aq):VR β O w (.str s) (.string ⟨s.toArray⟩):=by
 have:=mM.str (O:=O) (w:=w) ⟨s.toArray⟩;exact .pure _ _ (ak this)
def Fw{Z:ay}{β:iW}{h:AH}{w:World}(R:Rel Z β h w){g:Nat}{q:Array Value->Prop}(b:(g,q)∈GM):∃cur t fr,w.heap[g]? = some (.cells cur t fr)/\q cur:=by
 let⟨_,cur,t,fr,h1,h2⟩:=R.gl (g,q) (aZ.2 (.inl b));exact⟨cur,t,fr,h1,h2⟩
variable{r:AV}
def yP{f:FuncId}{args:List AV}{h:AH}(z:jH P f) (H:∀(Z:ay)(β:iW)(w:World)(vs:List Value),Rel Z β h w->args.length=vs.length->
  (∀(j:Nat)(y:AV)(u:Value),args[j]? = some y->vs[j]? = some u->VR β (Own Z β h) w y u)->
  Calls P f vs.toArray w λe w'=>∃v,e = .returned v/\Below w.heap.size w w'/\(∀(O:ay),(∀b,w.heap.size<=b->¬O b)->VR β O w' r v)):nC P f args h r h:=by
 refine⟨z,λZ β w vs R hl q=>?_⟩
 refine(H Z β w vs R hl q).mono ?_
 rintro e w' ⟨v,rfl,l,x⟩
 let⟨E,F⟩:=R.grown l.os l.tape l.output l.size l.block;refine⟨v,β,rfl,E,F,x _ λb A n=>?_⟩
 rcases n with o | ⟨i,n⟩
 .have:=R.xlt _ o;omega
 .have:=R.mS n;omega
def NF(w:World)(k:Nat)(os:Array Obj):Below w.heap.size w (Go.Sort.grow (w.drewN k) os) :=
 ⟨rfl,rfl,rfl,by simp[Go.Sort.grow,World.drewN],λb h=>by
  show (w.heap++os)[b]? = w.heap[b]?;rw[cT h]⟩
def Nf(L:LaysM.n171 P ρ)(hg:P.globalNamed "internal/strconv.uint64pow10" = some 5)(q:jH P (ρ.f 171)){args:List AV}(h:AH)(b:Fh args=some r):nC P (ρ.f 171) args h r h:=by
 unfold Fh at b;split at b
 .rename_i n;split at b
  .rename_i l;cases b;refine yP q λZ β w vs R hl o=>?_
   match vs,hl with
   | [v],_ =>
    obtain rfl:=(o 0 _ v rfl rfl).jF;let⟨cur,t,fr,h1,h2⟩:=Fw R gm5;have i:Lib.TabIs P w "internal/strconv.uint64pow10" .u64 Lib.pow10Tab:=by
     unfold Lib.TabIs World.var?;rw[hg];simp only[bH,h1];rw[h2];rfl
    refine(Any.strconv_Itoa L n l.1 l.2 w i).mono ?_
    rintro e w' ⟨rfl,k,os,rfl⟩
    exact⟨_,rfl,NF w k os,λO _=>by rw[Fi l];exact sr _⟩
  .cases b
 .cases b
def D6:List AV->Option AV
 | [.str s,.str p]=>some (.str (trimPrefix s p))
 |_=>none
def LB(L:Lays.n101 P ρ)(l:jH P (ρ.f 101)){args:List AV}(h:AH)(b:D6 args=some r):nC P (ρ.f 101) args h r h:=by
 unfold D6 at b;split at b
 .rename_i s p;cases b;refine yP l λZ β w vs R hl i=>?_
  match vs,hl with
  | [v,u],_ =>
   obtain rfl:=sv (i 0 _ v rfl rfl);obtain rfl:=sv (i 1 _ u rfl rfl);refine(Any.strings_TrimPrefix L ⟨s.toArray⟩ ⟨p.toArray⟩ w).mono ?_
   rintro e w' ⟨rfl,rfl⟩
   exact⟨_,rfl,Below.refl _ _,λO _=>sr _⟩
 .cases b
def Oh:List AV->Option AV
 | [.str s,.str p]=>if s.length<4294967281 then some (.iV [.str (cut s p).1,.str (cut s p).2.1,.bool (cut s p).2.2])else none
 |_=>none
def Rk(L:Lays.n145 P ρ)(hg:ρ.g 1=4)(o:jH P (ρ.f 145)){args:List AV}(h:AH)(i:Oh args=some r):nC P (ρ.f 145) args h r h:=by
 unfold Oh at i;split at i
 .rename_i s p;split at i
  .rename_i hs;cases i;refine yP o λZ β w vs R hl b=>?_
   match vs,hl with
   | [v,u],_ =>
    obtain rfl:=sv (b 0 _ v rfl rfl);obtain rfl:=sv (b 1 _ u rfl rfl);let⟨cur,t,fr,h1,m,h2⟩:=Fw R gm4;refine(Any.strings_Cut L ⟨s.toArray⟩ ⟨p.toArray⟩ m w (by show s.toArray.size<_;simpa using hs) (by rw[hg,cell_of_row w 4 0 cur t fr h1];exact h2)).mono ?_
    rintro e w' ⟨rfl,n,rfl⟩
    exact⟨_,rfl,⟨rfl,rfl,rfl,aT _,λ_ _=>rfl⟩,λO _=>.iV _ [_,_,_] rfl λj y v l b=>by
     match j with
     |0=>cases l;cases b;exact sr _
     |1=>cases l;cases b;exact sr _
     |2=>cases l;cases b;exact .pure _ _ (.bool _)
     |j+3=>simp at l⟩
  .cases i
 .cases i
def yO:List AV->Option AV
 | [.str s,.str [c]]=>if s.length<4294967281 then some (.en true ((split s [c]).map .str))else none
 |_=>none
def GN(L:Lays.n146 P ρ)(F:(P.info? (ρ.t 9)).map (λi=>(i.zero,i.size,i.bytes))=some (some (.string ByteArray.empty),1,16))(hg:ρ.g 1=4)(M:jH P (ρ.f 146)){args:List AV}(h:AH)(o:yO args=some r):nC P (ρ.f 146) args h r h:=by
 unfold yO at o;split at o
 .rename_i s c;split at o
  .rename_i hs;cases o;refine yP M λZ β w vs R hl H=>?_
   match vs,hl with
   | [v,u],_ =>
    obtain rfl:=sv (H 0 _ v rfl rfl);obtain rfl:=sv (H 1 _ u rfl rfl);let⟨cur,t,fr,h1,m,h2⟩:=Fw R gm4;refine(Any.strings_Split L F ⟨s.toArray⟩ ⟨#[c]⟩ m w (by show s.toArray.size<_;simpa using hs) (by rw[hg,cell_of_row w 4 0 cur t fr h1];exact h2) (aT 1)).mono ?_
    rintro e w' ⟨rfl,rfl⟩
    have E:=splitB_data ⟨#[c]⟩ 0 (countB ⟨s.toArray⟩ ⟨#[c]⟩) ⟨s.toArray⟩;have n:=splitB_all ⟨#[c]⟩ (aT 1) 0 _ ⟨s.toArray⟩ rfl
    have z:split s [c]=(splitB ⟨#[c]⟩ 0 (countB ⟨s.toArray⟩ ⟨#[c]⟩) ⟨s.toArray⟩).map (·.data.toList):=by
     rw[E];rfl
    generalize Q:splitB ⟨#[c]⟩ 0 (countB ⟨s.toArray⟩ ⟨#[c]⟩) ⟨s.toArray⟩=K at *
    refine⟨_,rfl,(Below.refl _ w).alloc (aT _) _,λO N=>?_⟩
    have q:ic O (w.alloc (.cells (K.map Value.string).toArray (ρ.t 9))) (λk=>(w.alloc (.cells (K.map Value.string).toArray (ρ.t 9))).cell? ⟨w.heap.size,0+k,none⟩) 1 ((split s [c]).map AV.str):=by
     intro i x hx;rw[z,eL,bM]at hx;cases G:K[i]? with
     |none=>rw[G]at hx;cases hx
     |some b =>
      rw[G]at hx;simp only[cB,aP,Function.comp_apply]at hx;subst hx;refine⟨rfl,λj y A=>?_⟩
      cases j with
      |succ j=>simp[AV.cells]at A
      |zero =>
       simp only[AV.cells,aS,aP]at A;subst A;refine⟨.string b,?_,rfl,.str b⟩;show (w.alloc (.cells (K.map Value.string).toArray (ρ.t 9))).cell? ⟨w.heap.size,0+(i*1+0),none⟩=_;rw[cell_of_row _ w.heap.size _ _ (ρ.t 9) (0,0) (heap_alloc_new w _)];simp[G]
    have l:((split s [c]).map AV.str).length=K.length:=by rw[z];simp
    have:=oM (full:=true) af (N _ (aT _)) ah q (λ_=>by rw[l,n]) (c:=countB ⟨s.toArray⟩ ⟨#[c]⟩+1) (by rw[l,n];exact aT _)
    rw[l,n]at this;exact .pure _ _ this
  .cases o
 .cases o
def Gq:List AV->Option AV
 | [.str s]=>if s.length<=281474976710656 then(match atoiAll s with
  | .ok v=>some (.iV [.int .i64 v,.kg])
  | .range=>some (.iV [.int .i64 (atoiSat s),.dead])
  |_=>some (.iV [.int .i64 0,.dead]))else none
 |_=>none
def OM(L : LaysC.n172 P ρ)(A : ρ.g 15 = 2)(z : ρ.g 16 = 3)(H : jH P (ρ.f 172)){args : List AV}(h : AH)(b : Gq args = some r): nC P (ρ.f 172) args h r h := by
 unfold Gq at b;split at b
 .rename_i s;split at b
  .rename_i hs;refine yP H λZ β w vs R hl o=>?_
   match vs,hl with
   | [v],_ =>
    obtain rfl:=sv (o 0 _ v rfl rfl);have i:(⟨s.toArray⟩:ByteArray).size=s.length:=by show s.toArray.size=_;simp
    have two:∀ {O:ay} {w':World} {n:Int} {u:Value} {a:AV},VR β O w' a u->VR β O w' (.iV [.int .i64 n,a]) (.tuple #[.int .i64 n,u]):=λ{O w' n u a} G=>.iV _ [_,_] rfl λj y v q o=>by
     match j with
     |0=>cases q;cases o;exact .pure _ _ (.int _ _)
     |1=>cases q;cases o;exact G
     |j+2=>simp at q
    cases l:atoiAll s with
    |ok k =>
     rw[l]at b;cases b;refine(Any.strconv_Atoi_ok L ⟨s.toArray⟩ (by rw[i];omega) k l w).mono ?_
     rintro e w' ⟨rfl,F⟩
     refine⟨_,rfl,?_,λO _=>two (.pure _ _ .kg)⟩
     rcases F with rfl | ⟨t,rfl⟩
     .exact Below.refl _ _
     .exact Lib.bytesWorld_below _ _ _
    |range =>
     rw[l]at b;cases b;let⟨cur,t,fr,h1,E,h2,h3⟩:=Fw R gm3;refine(Any.strconv_Atoi_range L ⟨s.toArray⟩ (by rw[i];exact hs) l E w (by rw[z,cell_of_row w 3 0 cur t fr h1];exact h2) h3).mono ?_
     rintro e w' ⟨N,rfl,_,_,x⟩
     exact⟨_,rfl,x,λO _=>two (.dead _)⟩
    |_ =>
     rw[l]at b;cases b;let⟨cur,t,fr,h1,E,h2,h3⟩:=Fw R gm2;refine(Any.strconv_Atoi_syntax L ⟨s.toArray⟩ (by rw[i];exact hs) l E w (by rw[A,cell_of_row w 2 0 cur t fr h1];exact h2) h3).mono ?_
     rintro e w' ⟨N,rfl,_,_,x⟩
     exact⟨_,rfl,x,λO _=>two (.dead _)⟩
  .cases b
 .cases b
end Go.Am
