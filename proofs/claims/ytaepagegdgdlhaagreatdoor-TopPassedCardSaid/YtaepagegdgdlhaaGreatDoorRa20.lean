/- Part of the proof that TopPassedCard holds. -/
import Derived.Test.YtaepagegdgdlhaaGreatDoorT20e
set_option linter.all false
namespace Go.Proofs.YtaepagegdgdlhaaGreatDoor.T
open Go.Am Go.Tr
def okB(b:UInt8):Bool:=decide (32<=b.toNat) && !decide (b.toNat=47)
def lG(s:au):Bool:=decide (1<=s.length/\s.length<=32/\s≠[46]/\s≠[46,46])&&s.all okB
def ajL{Γ:kP}(s:au)(hs:s.length<=32)(e0:Env)(h0:e0 0 = .str s):
  iter (round Γ [3] [(.exit 0,[]),(.ret,[2])] BM e0 0 []) ([.int .i64 0],[])=some (if s.all okB=true then(.exit 0,[],[])else(.ret,[.bool false],[])) :=
 qm (f:=round Γ [3] [(.exit 0,[]),(.ret,[2])] BM e0 0 []) (λi=>([.int .i64 (i:Int)],[])) s okB _ _ (λi hi=>by
   obtain⟨b,hb⟩:∃b,b=s[i]:=⟨_,rfl⟩;rw[<-hb];unfold okB
   by_cases c1:32<=b.toNat
   .have c1':¬((b.toNat:Int)<32):=by omega
    by_cases c2:b.toNat=47
    .have c2':(b.toNat:Int)=47:=by omega
     simp(disch:=omega)[round_eq,uk,h0,<-hb,c2]
    .have c2':¬(b.toNat:Int)=47:=by omega
     simp(disch:=omega)[round_eq,uk,h0,<-hb,c1,c2,c1',c2']
   .have c1':(b.toNat:Int)<32:=by omega
    simp(disch:=omega)[round_eq,uk,h0,<-hb,c1,c1'])
  (by simp(disch:=omega)[round_eq,uk,h0])
def GX{n:Nat}(hn:171<n)(s:au)(hs:s.length<=9223372036854775807):(jJ.jG n).p 234 [.str s]=some (.bool (lG s)):=by
 rw[pp 234 rfl hn rfl,jA,jy];unfold lG
 by_cases c1:s.length<1
 .simp(disch:=omega)[Ff]
 .by_cases c2 : 32 < s.length
  .simp(disch:=omega)[Ff]
  .by_cases c3 : s = [46]
   .subst c3;simp[Ff]
   .by_cases c4 : s = [46, 46]
    .subst c4;simp[Ff]
    .have h:=ajL (Γ:=jJ.jG 171) s aa
     generalize s.all okB=q at *
     simp[Ff,c3,c4];rw[h _ rfl];cases q with
     |true=>simp(disch:=omega)
     |false=>simp -implicitDefEqProofs
def ait{n:Nat}(hn:207<n)(t:Tr.Tree)(hb:Bt t)(i:Int)(s:au)(hs:s.length<=9223372036854775807):(jJ.jG n).p 238 [Tv t,I i,.str s]=some (I (enter lG t i s)):=by
 rw[pp 238 rfl hn rfl,jA,jy];have hD:=Sl (n:=207) af t hb i
 have hR:=GX (n:=207) af s hs
 have hq:(mK t i).jF.length<=1000:=by
  unfold mK;cases hf:find t.nodes i with
  |none=>simp[mq]
  |some p =>
   simp only;split
   .exact hb.jF _ (jY hf).1
   .simp[mq]
 have hN:=UD (n:=207) af (mK t i) hq s
 have hF:=anS (n:=207) af t hb (mK t i) hq
 unfold enter
 have hno:(0<=zT (mK t i).jF s)↔(mU (mK t i) s).isSome=true:=by
  unfold zT mU;cases(mK t i).jF.find? λe=>decide (e.name=s)with
  |none=>simp
  |some e=>simp
 generalize mK t i=q at *
 generalize oN t i=c at *
 simp only[Tv,Nd]at hD hN hF
 by_cases c0:c=0
 .cases c1:lG s with
  |false =>
   rw[c1]at hR;simp[Ty,ca 235,hD,c0,ca 234,hR]
  |true =>
   rw[c1]at hR
   by_cases c2:0<=zT q.jF s
   .have c2':=hno.1 c2;simp[Ty,ca 235,hD,c0,ca 234,hR,ca 236,hN,c2,c2']
   .have c2':(mU q s).isSome=false:=by
     cases hq:(mU q s).isSome with
     |false=>rfl
     |true=>exact absurd (hno.2 hq) c2
    cases c3:full t q with
    |true =>
     rw[c3]at hF;simp[Ty,ca 235,hD,c0,ca 234,hR,ca 236,hN,c2,c2',ca 274,hF]
    |false =>
     rw[c3]at hF;simp[Ty,ca 235,hD,c0,ca 234,hR,ca 236,hN,c2,c2',ca 274,hF]
 .simp[Ty,ca 235,hD,c0]
def s50{n:Nat}(hn:182<n):(jJ.jG n).p 50 []=some (Tv AY):=by
 rw[pp 50 rfl hn rfl,jA,jy];simp[c50,AY]
def anR{n:Nat}(hn:212<n)(t:Tr.Tree)(hb:Bt t)(i:Int):(jJ.jG n).p 275 [Tv t,I i]=some (.kT [Tv (free t i).1,I (free t i).2]):=by
 rw[pp 275 rfl hn rfl,jA,jy];have hG:=wN (n:=212) af t hb i
 have hw:=aio (m:=212) af t hb i
 unfold free;unfold mB at hG;cases hf:find t.nodes i with
 |none =>
  rw[hf]at hG;simp only[cK,Tv,Nd]at hG;simp[XK,ca 110,hG]
 |some q =>
  rw[hf]at hG;simp only[bw,Tv,Nd]at hG hw
  by_cases c1:q.kind=2
  .simp[XK,ca 110,hG,c1]
  .by_cases c2:0<q.links
   .simp[XK,ca 110,hG,c1,c2]
   .simp[XK,ca 110,hG,c1,c2,ca 276,hw]
open Go.Am Go.Tr
def sn{t:Tr.Tree}(hb:Bt t)(i:Int):(mK t i).jF.length<=1000:=by
 unfold mK;cases hf:find t.nodes i with
 |none=>simp[mq]
 |some p =>
  simp only;split
  .exact hb.jF _ (jY hf).1
  .simp[mq]
def Xp{l:List Tr.Ent}{s:au}{e:Tr.Ent}(h:(l.find? λe=>decide (e.name=s))=some e):∃k:Nat,zT l s=k/\k<l.length/\l[k]? = some e:=by
 have hf:(l.findIdx λe=>decide (e.name=s))<l.length:=dH ⟨e,dx h,by have:=ek h;simpa using this⟩
 refine⟨l.findIdx λe=>decide (e.name=s),by unfold zT;rw[h];rfl,hf,?_⟩
 rw[lQ];exact h
def Sm{n:Nat}(hn:187<n)(t:Tr.Tree)(hb:Bt t)(i:Int)(s:au)(hs:s.length<=9223372036854775807):(jJ.jG n).p 164 [Tv t,I i,.str s]=some (.kT [I (Tr.look lG t i s).1,I (Tr.look lG t i s).2]):=by
 rw[pp 164 rfl hn rfl,jA,jy];have hD:=Sl (n:=187) af t hb i
 have hR:=GX (n:=187) af s hs
 have hq:=sn hb i;have hN:=UD (n:=187) af (mK t i) hq s
 unfold Tr.look;generalize mK t i=q at *
 generalize oN t i=c at *
 simp only[Tv,Nd]at hD hN
 by_cases c0:c=0
 .cases c1:lG s with
  |false =>
   rw[c1]at hR;simp(disch:=omega)[XQ,ca 235,hD,c0,ca 234,hR]
  |true =>
   rw[c1]at hR;unfold mU;cases hf:q.jF.find? λe=>decide (e.name=s)with
   |none =>
    have e1:zT q.jF s = -1:=by unfold zT;rw[hf];rfl
    rw[e1]at hN;simp(disch:=omega)[XQ,ca 235,hD,c0,ca 234,hR,ca 236,hN]
   |some e =>
    let⟨k,hk,yS,he⟩:=Xp hf;rw[hk]at hN;have he':e=q.jF[k]:=by rw[aG yS]at he;exact(cu he).symm
    simp(disch:=omega)[XQ,ca 235,hD,c0,ca 234,hR,ca 236,hN,<-he']
 .simp(disch:=omega)[XQ,ca 235,hD,c0]
open Go.Am Go.Tr
def BA{t:Tr.Tree}(hb:Bt t)(i:Int):(kI t i).jF.length<=1000:=by
 obtain⟨_,_,h | h⟩:=sX t i
 .rw[h];simp[mq]
 .exact hb.jF _ h
def an7{n:Nat}(hn:218<n)(t:Tr.Tree)(hb:Bt t)(i:Int)(s:au)(hs:s.length<=9223372036854775807)(xl:(Tr.look lG t i s).2=0->Bt (left t i s))
  (hk:∀q,find (left t i s).nodes (Tr.look lG t i s).1=some q->-4398046511104<=q.links/\q.links<=4398046511104) :
  (jJ.jG n).p 175 [Tv t,I i,.str s]=some (.kT [Tv (Tr.un lG t i s).1,I (Tr.un lG t i s).2.1,I (Tr.un lG t i s).2.2]):=by
 rw[pp 175 rfl hn rfl,jA,jy];have hL:=Sm (n:=218) af t hb i s hs
 have hlf:=Zf (m:=218) af t hb i s
 unfold Tr.un;generalize Tr.look lG t i s=r at *
 let⟨x,e⟩:=r;simp only at hL xl hk⊢;have hG:=wN (n:=218) af t hb x
 let⟨b,hv,_⟩:=sX t x;rw[hv]at hG;have hqe:=BA hb x;generalize kI t x=q at *
 by_cases c0:e=0
 .subst c0;have hU:=ais (m:=218) af (left t i s) (xl rfl) x hk
  simp only[Tv,Nd]at hL hlf hG hU
  by_cases c1:0<q.jF.length
  .simp(disch:=omega)[aaX,ca 164,hL,ca 110,hG,c1]
  .simp(disch:=omega)[aaX,ca 164,hL,ca 110,hG,c1,ca 243,hlf,ca 242,hU]
 .simp only[Tv]at hL;simp(disch:=omega)[aaX,ca 164,hL,c0]
open Go.Am Go.Tr
def aoa{n:Nat}(hn:210<n)(t:Tr.Tree)(hb:Bt t)(i to:Int)(s:au)(hs:s.length<=9223372036854775807)(oV:t.jC<4398046511104)
  (xl:∀q,find t.nodes i=some q->Bt (kG t {q with links:=q.links+1}))
  (hk:∀q,find t.nodes i=some q->-4398046511104<=q.links/\q.links<=4398046511104) :
  (jJ.jG n).p 172 [Tv t,I i,I to,.str s]=some (.kT [Tv (Tr.ln lG jP t i to s).1,I (Tr.ln lG jP t i to s).2]):=by
 rw[pp 172 rfl hn rfl,jA,jy];have hG:=wN (n:=210) af t hb i
 have hE:=ait (n:=210) af t hb to s hs
 unfold Tr.ln;unfold mB at hG;cases hf:find t.nodes i with
 |none =>
  rw[hf]at hG;simp only[cK,Tv,Nd]at hG;simp[MV,ca 110,hG]
 |some q =>
  have hw:=N1 (m:=210) af t hb {q with links:=q.links+1}
  have he:=Lh (m:=210) af (kG t {q with links:=q.links+1}) (xl q hf) to s i oV
  have hlk:=hk q hf;rw[hf]at hG;simp only[bw]at hG;generalize enter lG t to s=c at *
  dsimp only;obtain⟨v,hv⟩:∃v,v=kG t {q with links:=q.links+1}:=⟨_,rfl⟩
  rw[<-hv]at hw he⊢;generalize kJ jP v to s i=u at *
  simp only[Tv,Nd]at hG hw he hE
  by_cases c1:q.kind=1
  .by_cases c2 : q.links = 0
   .simp[MV,ca 110,hG,c1,c2]
   .rw[c1]at hw
    by_cases c3:c=0
    .simp(disch:=omega)[MV,ca 110,hG,c1,c2,ca 238,hE,c3,ca 240,hw,ca 239,he]
    .simp[MV,ca 110,hG,c1,c2,ca 238,hE,c3]
  .by_cases c2 : q.kind = 2
   .simp[MV,ca 110,hG,c2]
   .by_cases c3:c=0
    .simp(disch:=omega)[MV,ca 110,hG,c1,c2,ca 238,hE,c3,ca 240,hw,ca 239,he]
    .simp[MV,ca 110,hG,c1,c2,ca 238,hE,c3]
open Go.Am Go.Tr
def an8{n:Nat}(hn:215<n)(t:Tr.Tree)(hb:Bt t)(i:Int)(s:au)(hs:s.length<=9223372036854775807)(kind:Int)(oV:t.jC<4398046511104)
  (xl:t.next<1099511627776->t.nodes.length<200->Bt (pP t kind (if kind=2 then i else 0))) :
  (jJ.jG n).p 174 [Tv t,I i,.str s,I kind]=some (.kT [Tv (Tr.add lG jP t i s kind).1,I (Tr.add lG jP t i s kind).2.1,I (Tr.add lG jP t i s kind).2.2]):=by
 rw[pp 174 rfl hn rfl,jA,jy];have hE:=ait (n:=215) af t hb i s hs
 have hl:=hb.len;have hn0:=hb.nx0;have hn1:=hb.nx;unfold Tr.add;generalize enter lG t i s=c at *
 by_cases c1:kind≠1/\kind≠2
 .rw[if_pos c1];let⟨k1,k2⟩:=c1;simp(disch:=omega)[GG,k1,k2]
 .rw[if_neg c1]
  by_cases c2:c=0
  .rw[if_neg (show ¬(c≠0)from λh=>h c2)]
   simp only[Tv]at hE
   by_cases c3:200<=t.nodes.length
   .rw[if_pos (show 200<=t.nodes.length\/1099511627776<=t.next from .inl c3)]
    by_cases k2:kind=2
    .simp(disch:=omega)[GG,k2,ca 238,hE,c2]
    .have k1:kind=1:=by omega
     simp(disch:=omega)[GG,k1,ca 238,hE,c2]
   .by_cases c4 : 1099511627776 <= t.next
    .rw[if_pos (show 200<=t.nodes.length\/1099511627776<=t.next from .inr c4)]
     by_cases k2:kind=2
     .simp(disch:=omega)[GG,k2,ca 238,hE,c2,c4]
     .have k1:kind=1:=by omega
      simp(disch:=omega)[GG,k1,ca 238,hE,c2,c4]
    .rw[if_neg (show ¬(200<=t.nodes.length\/1099511627776<=t.next) by omega)]
     have Gz:=xl aa aa
     have hbn:Bt ⟨t.fn,t.nodes,t.next+1,t.jC⟩:=⟨hb.len,hb.jF,hb.YT,hb.ck,by simp only;omega,by simp only;omega⟩
     have hw:=N1 (m:=215) af ⟨t.fn,t.nodes,t.next+1,t.jC⟩ hbn (uK t kind (if kind=2 then i else 0))
     have he:=Lh (m:=215) af (pP t kind (if kind=2 then i else 0)) Gz i s t.next oV
     obtain⟨v,hv⟩:∃v,v=pP t kind (if kind=2 then i else 0):=⟨_,rfl⟩
     have hv':kG ⟨t.fn,t.nodes,t.next+1,t.jC⟩ (uK t kind (if kind=2 then i else 0))=v:=hv.symm
     have Z2:kG ⟨t.fn,t.nodes,t.next+1,t.jC⟩ ⟨t.next,kind,1,true,[],true,[],if kind=2 then i else 0⟩=v:=hv.symm
     rw[Z2];rw[hv']at hw;rw[<-hv]at he;generalize kJ jP v i s t.next=u at *
     simp only[Tv,Nd,uK,bQ]at hw he
     by_cases k2:kind=2
     .subst k2;simp only[if_true]at hw;simp(disch:=omega)[GG,ca 238,hE,c2,c4,hw,he]
     .have k1:kind=1:=by omega
      subst k1;simp only[show ¬((1:Int)=2) by omega,if_false]at hw
      simp(disch:=omega)[GG,ca 238,hE,c2,c4,hw,he]
  .rw[if_pos (show c≠0 from c2)]
   simp only[Tv]at hE
   by_cases k2:kind=2
   .simp(disch:=omega)[GG,k2,ca 238,hE,c2]
   .have k1:kind=1:=by omega
    simp(disch:=omega)[GG,k1,ca 238,hE,c2]
open Go.Am Go.Tr
def air{n:Nat}(hn:220<n)(t:Tr.Tree)(hb:Bt t)(x:Tr.Node)(y:Int):(jJ.jG n).p 245 [Tv t,Nd x,I y]=some (I (Tr.jD t x y)):=by
 rw[pp 245 rfl hn rfl,jA,jy];have hG:=wN (n:=220) af t hb y
 unfold Tr.jD;unfold mB at hG;cases hf:find t.nodes y with
 |none =>
  rw[hf]at hG;simp only[cK,Tv,Nd]at hG;simp[MU,ca 110,hG]
 |some q =>
  have hq:=hb.jF _ (jY hf).1;rw[hf]at hG;simp only[bw,Tv,Nd]at hG
  by_cases c1:x.kind=2
  .by_cases c2 : q.kind = 2
   .by_cases c3:0<q.jF.length
    .simp[MU,ca 110,hG,c1,c2,c3]
    .simp[MU,ca 110,hG,c1,c2,c3]
   .simp[MU,ca 110,hG,c1,c2]
  .by_cases c2 : q.kind = 2
   .simp[MU,ca 110,hG,c1,c2]
   .by_cases c3:0<q.jF.length
    .simp[MU,ca 110,hG,c1,c2,c3]
    .simp[MU,ca 110,hG,c1,c2,c3]
open Go.Am Go.Tr
def QN(t:Tr.Tree):∀(k:Nat)(i:Int),xz t k i<=k
 |0,i=>by simp[xz]
 |k+1,i=>by
  simp only[xz];split
  .omega
  .have:=QN t k (GM t i);omega
def Ak(t:Tr.Tree)(i:Int):depth t i<=201:=QN t 201 i
def hg(t:Tr.Tree)(i at_:Int)(m:Int)(n:Tr.Node):Int:=if n.kind=2/\below t n.ino i=true then max m (at_+depth t n.ino-depth t i+if 0<n.jF.length then 1 else 0)else m
def ao6{n:Nat}(hn:221<=n)(t:Tr.Tree)(hb:Bt t)(i at_:Int)(ha0:0<=at_)(ha1:at_<=1000)(e0:Env)(h3:e0 3 = .kE [.jB t.fn (t.nodes.map Nd),.int .i64 t.next,.int .i64 t.jC])(h1:e0 1=I i)(h2:e0 2=I at_)(h8:e0 8=I (depth t i)):
  iter (round (jJ.jG n) [7,9] [(.exit 0,[7])] JL e0 0 []) ([.int .i64 0,.int .i64 0],[])=some (.exit 0,[.int .i64 (t.nodes.foldl (hg t i at_) 0)],[]):=by
 have := jU (f := round (jJ.jG n) [7, 9] [(.exit 0, [7])] JL e0 0 []) (λk (m : Int) => ([.int .i64 m, .int .i64 (k : Int)], [])) t.nodes (hg t i at_) (λm => (.exit 0, [.int .i64 m], [])) (λ_ m => 0 <= m /\ m <= 2000)
  (λk hk m hm=>by
   have hl:=hb.len;have hd1:=Ak t i;obtain⟨q,hq⟩:∃q,q=t.nodes[k]:=⟨_,rfl⟩;have hqe:q.jF.length<=1000:=by rw[hq];exact hb.jF _ (aS hk)
   have hB:=acV (n:=n) aa t hb q.ino i
   have hD:=UC (n:=n) aa t hb q.ino
   have hd2:=Ak t q.ino;rw[<-hq];simp only[Tv]at hB hD;unfold hg;generalize depth t q.ino=d2 at *
   generalize depth t i=d1 at *
   by_cases c1:q.kind=2
   .cases c2:below t q.ino i with
    |true =>
     rw[c2]at hB
     by_cases c3:0<q.jF.length
     .refine⟨by simp only[c1,c3,and_self,if_true];omega,?_⟩
      have Mi:=jt (at_+(d2:Int)-d1+1) m
      rcases Mi with Mi | Mi
      .rw[if_pos ⟨c1,rfl⟩,if_pos c3,iY Mi];simp(disch:=omega)[round_eq,vO,h3,h1,h2,h8,<-hq,c1,ca 244,hB,ca 246,hD,c3]
      .rw[if_pos ⟨c1,rfl⟩,if_pos c3,iO Mi];simp(disch:=omega)[round_eq,vO,h3,h1,h2,h8,<-hq,c1,ca 244,hB,ca 246,hD,c3]
     .refine⟨by simp only[c1,c3,and_self,if_true,if_false];omega,?_⟩
      have Mi:=jt (at_+(d2:Int)-d1) m
      rcases Mi with Mi | Mi
      .rw[if_pos ⟨c1,rfl⟩,if_neg c3,Int.add_zero,iY Mi];simp(disch:=omega)[round_eq,vO,h3,h1,h2,h8,<-hq,c1,ca 244,hB,ca 246,hD,c3]
      .rw[if_pos ⟨c1,rfl⟩,if_neg c3,Int.add_zero,iO Mi];simp(disch:=omega)[round_eq,vO,h3,h1,h2,h8,<-hq,c1,ca 244,hB,ca 246,hD,c3]
    |false =>
     rw[c2]at hB;refine⟨aj,?_⟩
     simp(disch:=omega)[round_eq,vO,h3,h1,<-hq,c1,ca 244,hB]
   .refine⟨by simp[c1];omega,?_⟩
    simp(disch:=omega)[round_eq,vO,h3,<-hq,c1])
  (λm hm=>by have hl:=hb.len;simp(disch:=omega)[round_eq,vO,h3]) 0 aa
 simpa using this
def aiq{n:Nat}(hn:221<n)(t:Tr.Tree)(hb:Bt t)(i at_:Int)(ha0:0<=at_)(ha1:at_<=1000):(jJ.jG n).p 247 [Tv t,I i,I at_]=some (I (high t i at_)):=by
 rw[pp 247 rfl hn rfl,jA,jy];have h:=ao6 (n:=221) af t hb i at_ ha0 ha1
 have hD:=UC (n:=221) af t hb i
 have e:high t i at_=t.nodes.foldl (hg t i at_) 0:=rfl;rw[e];simp only[Tv]at hD;simp[al1,ca 246,hD];rw[h _ rfl rfl rfl rfl];simp
open Go.Am Go.Tr
structure Bm(t:Tr.Tree)(fr:Int)(s:au)(to:Int)(nm:au)(i y:Int):Prop where
 y0:∀e∈(mK t to).jF,e.ino≠0
 a:Bt (left t fr s)
 b:y≠0->Bt (left (left t fr s) to nm)
 lk:y≠0->∀q,find (left (left t fr s) to nm).nodes y=some q->-4398046511104<=q.links/\q.links<=4398046511104
 c:Bt (if y≠0 then unnamed (left (left t fr s) to nm) y else left t fr s)
 d:Bt (if (kI t i).kind=2 then kG (if y≠0 then unnamed (left (left t fr s) to nm) y else left t fr s) {kI t i with up:=to}else(if y≠0 then unnamed (left (left t fr s) to nm) y else left t fr s))
def ZA{t:Tr.Tree}(to:Int)(nm:au):(zT (mK t to).jF nm = -1/\Tr.ot t to nm=0)\/∃(k:Nat) (e:Tr.Ent),zT (mK t to).jF nm=k/\k<(mK t to).jF.length/\(mK t to).jF[k]? = some e/\Tr.ot t to nm=e.ino:=by
 unfold Tr.ot mU;cases h:(mK t to).jF.find? λe=>decide (e.name=nm)with
 |none=>exact .inl ⟨by unfold zT;rw[h];rfl,rfl⟩
 |some e =>
  let⟨k,h1,h2,h3⟩:=Xp h;exact .inr ⟨k,e,h1,h2,h3,rfl⟩
theorem abC(ok:au->Bool)(lt:au->au->Bool)(t:Tr.Tree)(fr:Int)(s:au)(to:Int)(nm:au):Tr.mv ok lt t fr s to nm =
 if (Tr.look ok t fr s).2≠0 then(t,0,(Tr.look ok t fr s).2)else if oN t to≠0 then(t,0,oN t to)else if ok nm=false then(t,0,60)else
 if Tr.ot t to nm=(Tr.look ok t fr s).1 then(t,0,0)else if (kI t (Tr.look ok t fr s).1).kind=2/\below t to (Tr.look ok t fr s).1=true then(t,0,75)else
 if Tr.jD t (kI t (Tr.look ok t fr s).1) (Tr.ot t to nm)≠0 then(t,0,Tr.jD t (kI t (Tr.look ok t fr s).1) (Tr.ot t to nm))else
 if (Tr.ot t to nm=0/\to≠fr/\64<=(mK t to).jF.length)\/12<=depth t to\/((kI t (Tr.look ok t fr s).1).kind=2/\12<high t (Tr.look ok t fr s).1 (depth t to+1))\/1099511627776<=t.jC then(t,0,76)else
 (kJ lt (if (kI t (Tr.look ok t fr s).1).kind=2 then kG (if Tr.ot t to nm≠0 then unnamed (left (left t fr s) to nm) (Tr.ot t to nm)else left t fr s) {kI t (Tr.look ok t fr s).1 with up:=to}else(if Tr.ot t to nm≠0 then unnamed (left (left t fr s) to nm) (Tr.ot t to nm)else left t fr s)) to nm (Tr.look ok t fr s).1,Tr.ot t to nm,0):=rfl
set_option maxHeartbeats 4000000 in
def mvA{n:Nat}(hn:222<n)(t:Tr.Tree)(hb:Bt t)(fr to:Int)(s nm:au)(hs:s.length<=9223372036854775807)(hnm:nm.length<=9223372036854775807)(oV:t.jC<4398046511104)
  (hm:Bm t fr s to nm (Tr.look lG t fr s).1 (Tr.ot t to nm)) (S5:(if Tr.ot t to nm≠0 then unnamed (left (left t fr s) to nm) (Tr.ot t to nm)else left t fr s).jC<4398046511104)
  (c1:(Tr.look lG t fr s).2=0) (c2:oN t to=0) (c3:lG nm=true) (NC:zT (mK t to).jF nm = -1) (hy:Tr.ot t to nm=0) :
  (jJ.jG n).p 176 [Tv t,I fr,.str s,I to,.str nm]=some (.kT [Tv (Tr.mv lG jP t fr s to nm).1,I (Tr.mv lG jP t fr s to nm).2.1,I (Tr.mv lG jP t fr s to nm).2.2]):=by
 rw[pp 176 rfl hn rfl,jA,jy];have hL:=Sm (n:=222) af t hb fr s hs
 have hD:=Sl (n:=222) af t hb to
 have hR:=GX (n:=222) af nm hnm
 have hN:=UD (n:=222) af (mK t to) (sn hb to) nm
 have hlf:=Zf (m:=222) af t hb fr s
 have hma:=hm.a;have hmb:=hm.b;have hmk:=hm.lk;have TW:=hm.c;have Mj:=hm.d;clear hm;have hE:=UC (n:=222) af t hb to
 have vu:=Ak t to;have akV:=hb.YT;have hdn:=sn hb to;rw[c3]at hR;rw[NC]at hN;rw[hy]at hmb hmk TW Mj S5;rw[abC,hy,c3,if_neg (show ¬(Tr.look lG t fr s).2≠0 from λh=>h c1),if_neg (show ¬oN t to≠0 from λh=>h c2),if_neg (show ¬true=false by simp),if_neg (show ¬(0:Int)≠0 by simp)]
 rw[c1]at hL;rw[c2]at hD;generalize(Tr.look lG t fr s).1=i at *
 clear c1 c2 hy;generalize mK t to=d at *
 generalize left t fr s=v1 at *
 have hB:=acV (n:=222) af t hb to i
 have hC:=air (n:=222) af t hb (kI t i) (0)
 have hH:=aiq (n:=222) af t hb i (depth t to+1) aa aa
 have hG:=wN (n:=222) af t hb i
 let⟨b,hv,_⟩:=sX t i;rw[hv]at hG;have hqe:=BA hb i;clear hv;generalize kI t i=q at *
 generalize below t to i=bl at *
 generalize jD t q 0=cl at *
 generalize high t i (depth t to+1)=hi at *
 generalize depth t to=dp at *
 rw[if_neg (show ¬(0:Int)≠0 by simp)]at TW Mj S5
 have hw:=N1 (m:=222) af v1 TW {q with up:=to}
 have Ji:(kG v1 {q with up:=to}).jC<4398046511104:=S5
 generalize kG v1 {q with up:=to}=v4 at *
 simp only[Tv,Nd]at hL hD hN hC hB hE hH hG hlf hw
 by_cases c4:0=i
 .rw[if_pos c4];simp(disch:=omega)[oA,ca 164,hL,ca 235,hD,ca 234,hR,ca 236,hN,c4.symm]
 .rw[if_neg c4]
  by_cases ck:q.kind=2
  .rw[ck]at hC hw;cases bl with
   |true =>
    rw[if_pos (show q.kind=2/\true=true from⟨ck,rfl⟩)]
    simp(disch:=omega)[oA,ca 164,hL,ca 235,hD,ca 234,hR,ca 236,hN,ca 110,hG,ca 244,hB,c4,ck]
   |false =>
    rw[if_neg (show ¬(q.kind=2/\false=true) by simp)]
    by_cases c5:cl=0
    .rw[if_neg (show ¬cl≠0 from λh=>h c5)]
     by_cases c7:to=fr
     .subst c7
      by_cases c9:12<=dp
      .rw[if_pos (Or.inr (Or.inl c9))];simp(disch:=omega)[oA,ca 164,hL,ca 235,hD,ca 234,hR,ca 236,hN,ca 110,hG,ca 244,hB,ca 245,hC,ca 246,hE,c4,ck,c5]
      .by_cases GH : 12 < hi
       .rw[if_pos (Or.inr (Or.inr (Or.inl ⟨ck,GH⟩)))];simp(disch:=omega)[oA,ca 164,hL,ca 235,hD,ca 234,hR,ca 236,hN,ca 110,hG,ca 244,hB,ca 245,hC,ca 246,hE,ca 247,hH,c4,ck,c5,GH]
       .by_cases yj : 1099511627776 <= t.jC
        .rw[if_pos (Or.inr (Or.inr (Or.inr yj)))];simp(disch:=omega)[oA,ca 164,hL,ca 235,hD,ca 234,hR,ca 236,hN,ca 110,hG,ca 244,hB,ca 245,hC,ca 246,hE,ca 247,hH,c4,ck,c5,GH,yj]
        .rw[if_neg (λh=>Or.elim h (λh=>h.2.1 rfl) (λh=>Or.elim h c9 (λh=>Or.elim h (λh=>GH h.2) yj)))]
         rw[if_pos ck];rw[if_pos ck]at Mj;have he:=Lh (m:=222) af v4 Mj to nm i Ji
         generalize kJ jP v4 to nm i=v5 at *
         simp only[Tv]at he hw⊢;simp(disch:=omega)[oA,ca 164,hL,ca 235,hD,ca 234,hR,ca 236,hN,ca 110,hG,ca 244,hB,ca 245,hC,ca 246,hE,ca 247,hH,c4,ck,c5,GH,yj,ca 243,hlf,ca 240,hw,ca 239,he]
     .by_cases c8 : 64 <= d.jF.length
      .rw[if_pos (Or.inl ⟨rfl,c7,c8⟩)];simp(disch:=omega)[oA,ca 164,hL,ca 235,hD,ca 234,hR,ca 236,hN,ca 110,hG,ca 244,hB,ca 245,hC,ca 246,hE,c4,ck,c5,c7]
      .skip
       by_cases c9:12<=dp
       .rw[if_pos (Or.inr (Or.inl c9))];simp(disch:=omega)[oA,ca 164,hL,ca 235,hD,ca 234,hR,ca 236,hN,ca 110,hG,ca 244,hB,ca 245,hC,ca 246,hE,c4,ck,c5,c7]
       .by_cases GH : 12 < hi
        .rw[if_pos (Or.inr (Or.inr (Or.inl ⟨ck,GH⟩)))];simp(disch:=omega)[oA,ca 164,hL,ca 235,hD,ca 234,hR,ca 236,hN,ca 110,hG,ca 244,hB,ca 245,hC,ca 246,hE,ca 247,hH,c4,ck,c5,c7,GH]
        .by_cases yj : 1099511627776 <= t.jC
         .rw[if_pos (Or.inr (Or.inr (Or.inr yj)))];simp(disch:=omega)[oA,ca 164,hL,ca 235,hD,ca 234,hR,ca 236,hN,ca 110,hG,ca 244,hB,ca 245,hC,ca 246,hE,ca 247,hH,c4,ck,c5,c7,GH,yj]
         .rw[if_neg (λh=>Or.elim h (λh=>c8 h.2.2) (λh=>Or.elim h c9 (λh=>Or.elim h (λh=>GH h.2) yj)))]
          rw[if_pos ck];rw[if_pos ck]at Mj;have he:=Lh (m:=222) af v4 Mj to nm i Ji
          generalize kJ jP v4 to nm i=v5 at *
          simp only[Tv]at he hw⊢;simp(disch:=omega)[oA,ca 164,hL,ca 235,hD,ca 234,hR,ca 236,hN,ca 110,hG,ca 244,hB,ca 245,hC,ca 246,hE,ca 247,hH,c4,ck,c5,c7,GH,yj,ca 243,hlf,ca 240,hw,ca 239,he]
    .rw[if_pos (show cl≠0 from c5)]
     simp(disch:=omega)[oA,ca 164,hL,ca 235,hD,ca 234,hR,ca 236,hN,ca 110,hG,ca 244,hB,ca 245,hC,c4,ck,c5]
  .rw[if_neg (show ¬(q.kind=2/\bl=true)from λh=>ck h.1)]
   by_cases c5:cl=0
   .rw[if_neg (show ¬cl≠0 from λh=>h c5)]
    by_cases c7:to=fr
    .subst c7
     by_cases c9:12<=dp
     .rw[if_pos (Or.inr (Or.inl c9))];simp(disch:=omega)[oA,ca 164,hL,ca 235,hD,ca 234,hR,ca 236,hN,ca 110,hG,ca 245,hC,ca 246,hE,c4,ck,c5]
     .by_cases yj : 1099511627776 <= t.jC
      .rw[if_pos (Or.inr (Or.inr (Or.inr yj)))];simp(disch:=omega)[oA,ca 164,hL,ca 235,hD,ca 234,hR,ca 236,hN,ca 110,hG,ca 245,hC,ca 246,hE,c4,ck,c5,yj]
      .rw[if_neg (λh=>Or.elim h (λh=>h.2.1 rfl) (λh=>Or.elim h c9 (λh=>Or.elim h (λh=>ck h.1) yj)))]
       rw[if_neg ck];rw[if_neg ck]at Mj;have he:=Lh (m:=222) af v1 Mj to nm i S5
       generalize kJ jP v1 to nm i=v5 at *
       simp only[Tv]at he hw⊢;simp(disch:=omega)[oA,ca 164,hL,ca 235,hD,ca 234,hR,ca 236,hN,ca 110,hG,ca 245,hC,ca 246,hE,c4,ck,c5,yj,ca 243,hlf,ca 239,he]
    .by_cases c8 : 64 <= d.jF.length
     .rw[if_pos (Or.inl ⟨rfl,c7,c8⟩)];simp(disch:=omega)[oA,ca 164,hL,ca 235,hD,ca 234,hR,ca 236,hN,ca 110,hG,ca 245,hC,ca 246,hE,c4,ck,c5,c7]
     .skip
      by_cases c9:12<=dp
      .rw[if_pos (Or.inr (Or.inl c9))];simp(disch:=omega)[oA,ca 164,hL,ca 235,hD,ca 234,hR,ca 236,hN,ca 110,hG,ca 245,hC,ca 246,hE,c4,ck,c5,c7]
      .by_cases yj : 1099511627776 <= t.jC
       .rw[if_pos (Or.inr (Or.inr (Or.inr yj)))];simp(disch:=omega)[oA,ca 164,hL,ca 235,hD,ca 234,hR,ca 236,hN,ca 110,hG,ca 245,hC,ca 246,hE,c4,ck,c5,c7,yj]
       .rw[if_neg (λh=>Or.elim h (λh=>c8 h.2.2) (λh=>Or.elim h c9 (λh=>Or.elim h (λh=>ck h.1) yj)))]
        rw[if_neg ck];rw[if_neg ck]at Mj;have he:=Lh (m:=222) af v1 Mj to nm i S5
        generalize kJ jP v1 to nm i=v5 at *
        simp only[Tv]at he hw⊢;simp(disch:=omega)[oA,ca 164,hL,ca 235,hD,ca 234,hR,ca 236,hN,ca 110,hG,ca 245,hC,ca 246,hE,c4,ck,c5,c7,yj,ca 243,hlf,ca 239,he]
   .rw[if_pos (show cl≠0 from c5)]
    simp(disch:=omega)[oA,ca 164,hL,ca 235,hD,ca 234,hR,ca 236,hN,ca 110,hG,ca 245,hC,c4,ck,c5]
open Go.Am Go.Tr
set_option maxHeartbeats 4000000 in
def mvB{n:Nat}(hn:222<n)(t:Tr.Tree)(hb:Bt t)(fr to:Int)(s nm:au)(hs:s.length<=9223372036854775807)(hnm:nm.length<=9223372036854775807)(oV:t.jC<4398046511104)
  (hm:Bm t fr s to nm (Tr.look lG t fr s).1 (Tr.ot t to nm)) (S5:(if Tr.ot t to nm≠0 then unnamed (left (left t fr s) to nm) (Tr.ot t to nm)else left t fr s).jC<4398046511104)
  (c1:(Tr.look lG t fr s).2=0) (c2:oN t to=0) (c3:lG nm=true) (k:Nat) (e:Tr.Ent) (NC:zT (mK t to).jF nm=k) (yS:k<(mK t to).jF.length) (he:(mK t to).jF[k]? = some e) (hy:Tr.ot t to nm=e.ino) (c6:e.ino≠0) :
  (jJ.jG n).p 176 [Tv t,I fr,.str s,I to,.str nm]=some (.kT [Tv (Tr.mv lG jP t fr s to nm).1,I (Tr.mv lG jP t fr s to nm).2.1,I (Tr.mv lG jP t fr s to nm).2.2]):=by
 rw[pp 176 rfl hn rfl,jA,jy];have hL:=Sm (n:=222) af t hb fr s hs
 have hD:=Sl (n:=222) af t hb to
 have hR:=GX (n:=222) af nm hnm
 have hN:=UD (n:=222) af (mK t to) (sn hb to) nm
 have hlf:=Zf (m:=222) af t hb fr s
 have hma:=hm.a;have hmb:=hm.b;have hmk:=hm.lk;have TW:=hm.c;have Mj:=hm.d;clear hm;have hE:=UC (n:=222) af t hb to
 have vu:=Ak t to;have akV:=hb.YT;have hdn:=sn hb to;rw[c3]at hR;rw[NC]at hN;rw[hy]at hmb hmk TW Mj S5;rw[abC,hy,c3,if_neg (show ¬(Tr.look lG t fr s).2≠0 from λh=>h c1),if_neg (show ¬oN t to≠0 from λh=>h c2),if_neg (show ¬true=false by simp),if_pos c6]
 rw[c1]at hL;rw[c2]at hD;generalize(Tr.look lG t fr s).1=i at *
 clear c1 c2 hy;generalize mK t to=d at *
 generalize left t fr s=v1 at *
 have hB:=acV (n:=222) af t hb to i
 have hC:=air (n:=222) af t hb (kI t i) (e.ino)
 have hH:=aiq (n:=222) af t hb i (depth t to+1) aa aa
 have hG:=wN (n:=222) af t hb i
 let⟨b,hv,_⟩:=sX t i;rw[hv]at hG;have hqe:=BA hb i;clear hv;generalize kI t i=q at *
 generalize below t to i=bl at *
 generalize jD t q e.ino=cl at *
 generalize high t i (depth t to+1)=hi at *
 generalize depth t to=dp at *
 have he':e=d.jF[k]:=by rw[aG yS]at he;exact(cu he).symm
 have tQ:=Zf (m:=222) af v1 hma to nm
 rw[if_pos c6]at TW Mj S5;generalize left v1 to nm=v2 at *
 have hun:=ais (m:=222) af v2 (hmb c6) e.ino (hmk c6)
 generalize unnamed v2 e.ino=v3 at *
 have hw:=N1 (m:=222) af v3 TW {q with up:=to}
 have Ji:(kG v3 {q with up:=to}).jC<4398046511104:=S5
 generalize kG v3 {q with up:=to}=v4 at *
 simp only[Tv,Nd]at hL hD hN hC hB hE hH hG hlf hw tQ hun
 by_cases c4:e.ino=i
 .rw[if_pos c4];simp(disch:=omega)[oA,ca 164,hL,ca 235,hD,ca 234,hR,ca 236,hN,<-he',c4]
 .rw[if_neg c4]
  by_cases ck:q.kind=2
  .rw[ck]at hC hw;cases bl with
   |true =>
    rw[if_pos (show q.kind=2/\true=true from⟨ck,rfl⟩)]
    simp(disch:=omega)[oA,ca 164,hL,ca 235,hD,ca 234,hR,ca 236,hN,ca 110,hG,ca 244,hB,<-he',c4,ck]
   |false =>
    rw[if_neg (show ¬(q.kind=2/\false=true) by simp)]
    by_cases c5:cl=0
    .rw[if_neg (show ¬cl≠0 from λh=>h c5)]
     by_cases c9:12<=dp
     .rw[if_pos (Or.inr (Or.inl c9))];simp(disch:=omega)[oA,ca 164,hL,ca 235,hD,ca 234,hR,ca 236,hN,ca 110,hG,ca 244,hB,ca 245,hC,ca 246,hE,<-he',c4,ck,c5,c6]
     .by_cases GH : 12 < hi
      .rw[if_pos (Or.inr (Or.inr (Or.inl ⟨ck,GH⟩)))];simp(disch:=omega)[oA,ca 164,hL,ca 235,hD,ca 234,hR,ca 236,hN,ca 110,hG,ca 244,hB,ca 245,hC,ca 246,hE,ca 247,hH,<-he',c4,ck,c5,c6,GH]
      .by_cases yj : 1099511627776 <= t.jC
       .rw[if_pos (Or.inr (Or.inr (Or.inr yj)))];simp(disch:=omega)[oA,ca 164,hL,ca 235,hD,ca 234,hR,ca 236,hN,ca 110,hG,ca 244,hB,ca 245,hC,ca 246,hE,ca 247,hH,<-he',c4,ck,c5,c6,GH,yj]
       .rw[if_neg (λh=>Or.elim h (λh=>c6 h.1) (λh=>Or.elim h c9 (λh=>Or.elim h (λh=>GH h.2) yj)))]
        rw[if_pos ck];rw[if_pos ck]at Mj;have he:=Lh (m:=222) af v4 Mj to nm i Ji
        generalize kJ jP v4 to nm i=v5 at *
        simp only[Tv]at he hw⊢;simp(disch:=omega)[oA,ca 164,hL,ca 235,hD,ca 234,hR,ca 236,hN,ca 110,hG,ca 244,hB,ca 245,hC,ca 246,hE,ca 247,hH,<-he',c4,ck,c5,c6,GH,yj,ca 243,hlf,tQ,ca 242,hun,ca 240,hw,ca 239,he]
    .rw[if_pos (show cl≠0 from c5)]
     simp(disch:=omega)[oA,ca 164,hL,ca 235,hD,ca 234,hR,ca 236,hN,ca 110,hG,ca 244,hB,ca 245,hC,<-he',c4,ck,c5]
  .rw[if_neg (show ¬(q.kind=2/\bl=true)from λh=>ck h.1)]
   by_cases c5:cl=0
   .rw[if_neg (show ¬cl≠0 from λh=>h c5)]
    by_cases c9:12<=dp
    .rw[if_pos (Or.inr (Or.inl c9))];simp(disch:=omega)[oA,ca 164,hL,ca 235,hD,ca 234,hR,ca 236,hN,ca 110,hG,ca 245,hC,ca 246,hE,<-he',c4,ck,c5,c6]
    .by_cases yj : 1099511627776 <= t.jC
     .rw[if_pos (Or.inr (Or.inr (Or.inr yj)))];simp(disch:=omega)[oA,ca 164,hL,ca 235,hD,ca 234,hR,ca 236,hN,ca 110,hG,ca 245,hC,ca 246,hE,<-he',c4,ck,c5,c6,yj]
     .rw[if_neg (λh=>Or.elim h (λh=>c6 h.1) (λh=>Or.elim h c9 (λh=>Or.elim h (λh=>ck h.1) yj)))]
      rw[if_neg ck];rw[if_neg ck]at Mj;have he:=Lh (m:=222) af v3 Mj to nm i S5
      generalize kJ jP v3 to nm i=v5 at *
      simp only[Tv]at he hw⊢;simp(disch:=omega)[oA,ca 164,hL,ca 235,hD,ca 234,hR,ca 236,hN,ca 110,hG,ca 245,hC,ca 246,hE,<-he',c4,ck,c5,c6,yj,ca 243,hlf,tQ,ca 242,hun,ca 239,he]
   .rw[if_pos (show cl≠0 from c5)]
    simp(disch:=omega)[oA,ca 164,hL,ca 235,hD,ca 234,hR,ca 236,hN,ca 110,hG,ca 245,hC,<-he',c4,ck,c5]
open Go.Am Go.Tr
def an6{n:Nat}(hn:222<n)(t:Tr.Tree)(hb:Bt t)(fr to:Int)(s nm:au)(hs:s.length<=9223372036854775807)(hnm:nm.length<=9223372036854775807)(oV:t.jC<4398046511104)
  (hm:Bm t fr s to nm (Tr.look lG t fr s).1 (Tr.ot t to nm)) (S5:(if Tr.ot t to nm≠0 then unnamed (left (left t fr s) to nm) (Tr.ot t to nm)else left t fr s).jC<4398046511104) :
  (jJ.jG n).p 176 [Tv t,I fr,.str s,I to,.str nm]=some (.kT [Tv (Tr.mv lG jP t fr s to nm).1,I (Tr.mv lG jP t fr s to nm).2.1,I (Tr.mv lG jP t fr s to nm).2.2]):=by
 by_cases d1:(Tr.look lG t fr s).2=0/\oN t to=0/\lG nm=true
 .let⟨d1,d2,d3⟩:=d1
  rcases ZA (t:=t) to nm with⟨hi,hy⟩ | ⟨k,e,hi,hk,hek,hy⟩
  .exact mvA hn t hb fr to s nm hs hnm oV hm S5 d1 d2 d3 hi hy
  .exact mvB hn t hb fr to s nm hs hnm oV hm S5 d1 d2 d3 k e hi hk hek hy (hm.y0 e (aR hek))
 rw[pp 176 rfl hn rfl,jA,jy];have hL:=Sm (n:=222) af t hb fr s hs
 have hD:=Sl (n:=222) af t hb to
 have hR:=GX (n:=222) af nm hnm
 have hN:=UD (n:=222) af (mK t to) (sn hb to) nm
 unfold Tr.mv
 by_cases c1:(Tr.look lG t fr s).2=0
 .rw[if_neg (show ¬(Tr.look lG t fr s).2≠0 from λh=>h c1)]
  by_cases c2:oN t to=0
  .rw[if_neg (show ¬oN t to≠0 from λh=>h c2)]
   cases c3:lG nm with
   |false =>
    rw[if_pos rfl];rw[c3]at hR;generalize Tr.look lG t fr s=r at *
    let⟨i,e⟩:=r;simp only at c1;generalize mK t to=q at *
    generalize oN t to=d at *
    simp only[Tv,Nd]at hL hD;simp(disch:=omega)[oA,ca 164,hL,c1,ca 235,hD,c2,ca 234,hR]
   |true=>exact absurd ⟨c1,c2,c3⟩ d1
  .rw[if_pos (show oN t to≠0 from c2)]
   generalize Tr.look lG t fr s=r at *
   let⟨i,e⟩:=r;simp only at c1;generalize mK t to=q at *
   generalize oN t to=d at *
   simp only[Tv,Nd]at hL hD;simp(disch:=omega)[oA,ca 164,hL,c1,ca 235,hD,c2]
 .rw[if_pos (show (Tr.look lG t fr s).2≠0 from c1)]
  generalize Tr.look lG t fr s=r at *
  let⟨i,e⟩:=r;simp only[Tv]at hL c1⊢;simp(disch:=omega)[oA,ca 164,hL,c1]
end Go.Proofs.YtaepagegdgdlhaaGreatDoor.T
namespace Go.Proofs.YtaepagegdgdlhaaGreatDoor.R
open Go.Am Go.Am.Nm Go.Tr
open T (lG Bt Tv Nd En I B okB)
def sq(t:Tr.Tree):List au->Int->Int×Int
 | [],i=>(i,0)
 |s::l,i=>if (Tr.look lG t i s).2≠0 then(0,(Tr.look lG t i s).2)else sq t l (Tr.look lG t i s).1
def o8(t:Tr.Tree)(p:au):Int×Int:=match split p with
 |none=>(0,60)
 |some l=>sq t l 1
def Pr(t:Tr.Tree)(i:Int)(s:au):Int⊕(AX×List AV×AH):=if (Tr.look lG t i s).2≠0 then .inr (.ret,[.int .i64 0,.int .i64 (Tr.look lG t i s).2],[])else .inl (Tr.look lG t i s).1
def KX(t:Tr.Tree):∀(l:List au)(i:Int),(sq t l i).2≠0->(sq t l i).1=0
 | [],i,h=>absurd rfl h
 |s::l,i,h=>by
  rw[sq]at h⊢;split
  .rfl
  .rename_i h1;rw[if_neg h1]at h;exact KX t l _ h
def GK(t:Tr.Tree):∀(l:List au)(i:Int),rq (Pr t) l i=if (sq t l i).2=0 then .inl (sq t l i).1 else .inr (.ret,[.int .i64 0,.int .i64 (sq t l i).2],[])
 | [],i=>by simp[rq,sq]
 |s::l,i=>by
  rw[rq,sq];unfold Pr
  by_cases h:(Tr.look lG t i s).2=0
  .simp only[h,ne_eq,not_true_eq_false,if_false];exact GK t l _
  .simp only[ne_eq,h,not_false_eq_true,if_true,if_false]
def apr{n:Nat}(hn:187<n)(t:Tr.Tree)(hb:Bt t)(l:List au)(f:Bool)(hl:l.length<=12)(hs:∀s∈l,s.length<=1000000)(e0:Env)(h2:e0 2 = .kE [.jB t.fn (t.nodes.map Nd),.int .i64 t.next,.int .i64 t.jC])(h6:e0 6 = .jB f (l.map AV.str))(i:Int):
  iter (round (jJ.jG n) [8,9] [(.exit 0,[8]),(.ret,[4,5])] Kf e0 0 []) ([.int .i64 i,.int .i64 0],[])=some (if (sq t l i).2=0 then(AX.exit 0,[AV.int .i64 (sq t l i).1],[])else(.ret,[.int .i64 0,.int .i64 (sq t l i).2],[])):=by
 have:=HC (f:=round (jJ.jG n) [8,9] [(.exit 0,[8]),(.ret,[4,5])] Kf e0 0 []) (λk (s:Int)=>([.int .i64 s,.int .i64 (k:Int)],[])) l (Pr t) (λj=>(.exit 0,[.int .i64 j],[])) (λ_ _=>True)
  (λk hk s _=>by
   have hsl:=hs _ (aS hk);obtain⟨x,hx⟩:∃x,x=l[k]:=⟨_,rfl⟩;rw[<-hx]at hsl⊢;have aeH:=T.Sm (n:=n) hn t hb s x aa
   simp only[Tv]at aeH;unfold Pr
   by_cases h:(Tr.look lG t s x).2=0
   .rw[if_neg (an h)]
    simp(disch:=omega)[round_eq,FJ,h2,h6,<-hx,aeH,h]
   .rw[if_pos h];simp(disch:=omega)[round_eq,FJ,h2,h6,<-hx,aeH,h])
  (λs _=>by simp(disch:=omega)[round_eq,FJ,h6]) i trivial
 simp only[cW]at this;rw[this,GK]
 by_cases h:(sq t l i).2=0
 .rw[if_pos h,if_pos h]
 .rw[if_neg h,if_neg h]
def adu:lG=jL:=by
 funext s
 by_cases hs:s.length<=9223372036854775807
 .have h1:=T.GX (n:=172) af s hs
  rw[aiu af]at h1
  simpa using h1.symm
 .have e1:lG s=false:=by unfold lG;rw[decide_eq_false aa];rfl
  have e2:jL s=false:=by unfold jL;simp[show 32<s.length by omega]
  rw[e1,e2]
def AM{s:au}(h:jL s=true):s.length<=32:=by
 unfold jL at h;simp only[aH,cv,eE,decide_eq_false_iff_not]at h;omega
def Si{p:au}{l:List au}(h:split p=some l):l.length<=12/\∀s∈l,s.length<=1000000:=by
 have:=k9 h;exact⟨this.2.1,λs hs=>by have:=AM (aO.1 this.2.2 s hs);omega⟩
def Sn{n:Nat}(hn:188<n)(t:Tr.Tree)(hb:Bt t)(p:au)(hp:p.length<=1000000):(jJ.jG n).p 109 [Tv t,.str p]=some (.kT [I (o8 t p).1,I (o8 t p).2]):=by
 rw[pp 109 rfl hn rfl,jA,jy];have WR:=Li (n:=188) af p aa
 unfold PF at WR;unfold o8;cases hs:split p with
 |none =>
  rw[hs]at WR;simp(disch:=omega)[afZ,ca 163,WR]
 |some l =>
  rw[hs]at WR;let⟨h1,h2⟩:=Si hs;simp(disch:=omega)[afZ,ca 163,WR];rw[apr af t hb l (decide (p=[47])) h1 h2 _ aq aq]
  by_cases h:(sq t l 1).2=0
  .simp(disch:=omega)[h]
  .simp(disch:=omega)[h,KX t l 1 h]
end Go.Proofs.YtaepagegdgdlhaaGreatDoor.R
