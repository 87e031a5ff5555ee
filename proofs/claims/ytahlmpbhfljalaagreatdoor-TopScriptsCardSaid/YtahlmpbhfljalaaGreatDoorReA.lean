/- Part of the proof that TopScriptsCard holds. -/
import Derived.Test.YtahlmpbhfljalaaGreatDoorAl0
import Derived.Lib.ItoaMem
import Derived.Lib.AtoiAll
import Derived.Lib.SplitLaws
import Derived.Lib.CutLaws
import Derived.Lib.Join
set_option linter.all false
namespace Go.Re
open Go.Lib
def UR(l r:aq)(a:Nat):parseUint10 a (l++r)=match parseUint10 a l with | .ok v=>parseUint10 v r | e=>e:=by
 induction l generalizing a with
 |nil=>rfl
 |cons c l b =>
  simp only[aM,parseUint10];split
  .split
   .rfl
   .split
    .rfl
    .exact b _
  .rfl
def yx{u:Nat}(h:u<10):(UInt8.ofNat (48+u)).toNat=48+u:=by rw[UInt8.toNat_ofNat'];omega
def Du(u:Nat):∀c∈decDigits u,48<=c.toNat/\c.toNat<=57:=by
 induction u using Nat.strongRecOn with
 |_ u i =>
  intro c b;rw[decDigits]at b;split at b
  .rename_i h;rw[bS.1 b,yx h];omega
  .rename_i h
   rcases aZ.1 b with b | b
   .exact i _ aa c b
   .rw[bS.1 b,yx aa];omega
def HN(u:Nat):decDigits u≠[]:=by
 rw[decDigits];split<;>simp
def UQ(u:Nat)(i:u<18446744073709551616):parseUint10 0 (decDigits u) = .ok u:=by
 induction u using Nat.strongRecOn with
 |_ u b =>
  rw[decDigits];split
  .rename_i h;simp only[parseUint10,yx h];rw[if_pos aa,if_neg aa,if_neg aa]
   congr 1;omega
  .rw[UR,b _ aa aa]
   simp only[parseUint10,yx (show u%10<10 by omega)]
   rw[if_pos aa,if_neg aa,if_neg aa]
   congr 1;omega
def I1(u:Nat)(b:u<18446744073709551616):parseMag (decDigits u) = .ok u:=by
 unfold parseMag;rw[if_neg (HN u),UQ u b]
def K9{n:Int}(h0 : -9223372036854775808<=n)(h1:n<=9223372036854775807):atoiAll (itoa n) = .ok n:=by
 unfold itoa;split
 .have:=I1 n.natAbs aa
  simp only[atoiAll,show (45:UInt8).toNat=45 from rfl]
  rw[if_pos (.inr trivial),this];simp only[not_true_eq_false,false_and,if_false,true_and,if_true];rw[if_neg aa]
  congr 1;omega
 .have h:=I1 n.toNat aa
  have b:=Du n.toNat;cases hl:decDigits n.toNat with
  |nil=>exact absurd hl (HN _)
  |cons c r =>
   rw[hl]at h b;have:=b c ah
   simp only[atoiAll];rw[if_neg aa,h]
   simp only[];rw[if_neg aa,if_neg aa,if_neg aa]
   congr 1;omega
def acL(s:aq)(c:UInt8)(i:Nat):occAt s [c] i=decide (s[i]? = some c):=by
 unfold occAt;rw[<-List.head?_drop];cases s.drop i with
 |nil=>simp
 |cons b l =>
  simp only[List.isPrefixOf,List.head?_cons,aP,gN]
  by_cases h:c=b
  .subst h;simp
  .simp[h,Ne.symm h]
variable{b s:aq}
def Np{a:aq}{c:UInt8}(h:c∉a):index (a++c::b) [c]=a.length:=by
 refine index_first ah (by rw[acL];simp) λj i=>?_
 rw[acL,aI i,decide_eq_false_iff_not];intro e;exact h (bE e)
def ajR{a:aq}{c:UInt8}(h:c∉a):cut (a++c::b) [c]=(a,b,true):=by
 unfold cut;rw[Np h,if_pos aa]
 simp[List.drop_append,fW]
def Uh{c:UInt8}(h:c∉s):split s [c]=[s]:=by
 unfold split;rw[count_one,dH.2 h];rfl
def Ug{a:aq}{c:UInt8}(h:c∉a):split (a++c::b) [c]=a::split b [c]:=by
 unfold split;rw[count_one,count_one,List.count_append,dH.2 h,List.count_cons_self,b8,splitK,Np h];have:¬(((a.length:Int) == -1)=true):=ah
 rw[if_neg this];simp[List.drop_append,fW,dO]
def uz{c:UInt8}:∀(l:List aq),l≠[]->(∀s∈l,c∉s)->split (join l [c]) [c]=l
 | [s],_,h=>by rw[join_one];exact Uh (h s ah)
 |s::t::l,_,h=>by
  have b:=uz (t::l) ah λs hs=>h s (by simp[hs])
  rw[join_cons]at b⊢;simp only[joinTail,bF,List.flatten_cons,aM,aN]at b⊢;rw[Ug (h s ah),b]
def zF(c:UInt8):Bool:=(decide (65<=c.toNat)&&decide (c.toNat<=90))||(decide (97<=c.toNat)&&decide (c.toNat<=122))||(decide (46<=c.toNat)&&decide (c.toNat<=57))||decide (c.toNat=95)||decide (c.toNat=45)
def hx(n:Nat):UInt8:=UInt8.ofNat (if n<10 then 48+n else 87+n)
def e1(c:UInt8):aq:=if zF c=true then[c]else[37,hx (c.toNat / 16),hx (c.toNat%16)]
def esc(s:aq):aq:=s.flatMap e1
def jE(c:UInt8):Bool:=zF c||c==37
def SU:∀n:Fin 16,zF (hx n.val)=true:=af
def Q3(s:aq):∀c∈esc s,jE c=true:=by
 intro c l;let⟨b,_,i⟩:=fZ.1 l;unfold e1 at i;split at i
 .rename_i h;rw[bS.1 i];simp[jE,h]
 .have h1:=SU ⟨b.toNat / 16,by have:=b.toNat_lt;omega⟩
  have h2:=SU ⟨b.toNat%16,aa⟩
  simp only[aY,dz,or_false]at i
  rcases i with rfl | rfl | rfl
  .rfl
  .simp only[jE];rw[h1];rfl
  .simp only[jE];rw[h2];rfl
def tH{c:UInt8}(h:jE c=false)(s:aq):c∉esc s:=λb=>by
 have:=Q3 s c b;rw[h]at this;cases this
def zu{c:UInt8}(h:zF c=false)(n:Int):c∉itoa n:=by
 have i:∀u,c∉decDigits u:=λu b=>by
  have:=Du u c b;simp only[zF,eG,Bool.and_eq_false_iff,decide_eq_false_iff_not]at h;omega
 unfold itoa;split
 .intro b
  rcases aY.1 b with rfl | b
  .simp[zF]at h
  .exact i _ b
 .exact i _
def mq(s:aq):(esc s).length<=3*s.length:=by
 induction s with
 |nil=>simp[esc]
 |cons c s b =>
  have:(e1 c).length<=3:=by unfold e1;split<;>simp
  simp only[esc,bZ,aG,aK]at b⊢;omega
def Q2(h:esc s=[]):s=[]:=by
 cases s with
 |nil=>rfl
 |cons c s =>
  simp only[esc,bZ,List.append_eq_nil_iff,e1]at h;have:=h.1;split at this<;>simp at this
abbrev KV:=aq×aq
def E8(p:KV):aq:=p.1++61::p.2
def text(first:aq)(l:List KV):aq:=first++l.flatMap λp=>32::E8 p
def Aw(l:List KV):Prop:=∀p∈l,32∉p.1/\61∉p.1/\32∉p.2
def JH(first:aq)(l:List KV):text first l=join (first::l.map E8) [32]:=by
 rw[join_cons];unfold text joinTail
 congr 1
 induction l with
 |nil=>rfl
 |cons p l b=>simp[b]
def GL{first:aq}{l:List KV}(h:32∉first)(hl:Aw l):split (text first l) [32]=first::l.map E8:=by
 rw[JH];refine uz _ ah λs hs=>?_
 rcases aY.1 hs with rfl | hs
 .exact h
 .obtain⟨p,b,rfl⟩:=b7.1 hs;let⟨h1,_,h3⟩:=hl p b;simp[E8,h1,h3]
def XD{l:List KV}(hl:Aw l){p:KV}(b:p∈l):cut (E8 p) [61]=(p.1,p.2,true):=ajR (hl p b).2.1
def wm(s:aq):Int:=match atoiAll s with | .ok v=>v | .range=>atoiSat s | _=>0
end Go.Re
