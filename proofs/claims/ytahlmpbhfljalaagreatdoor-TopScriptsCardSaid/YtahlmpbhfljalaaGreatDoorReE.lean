/- Part of the proof that TopScriptsCard holds. -/
import Derived.Test.YtahlmpbhfljalaaGreatDoorReB
import Derived.Test.YtahlmpbhfljalaaGreatDoorTrQ
import Derived.Lib.ItoaLen
set_option linter.all false
namespace Go.Re
open Go.Lib Go.Tr
def nA(path:aq)(n:Tr.Node):aq:=text (path++[32,102,105,108,101,32]++itoa n.ino) (DQ Cx n.links++(I6 nR (esc n.data)++[]))++[10]
def FO(path:aq)(i:Int):aq:=path++[32,100,105,114,32]++itoa i++[10]
def ug(t:Tree):Nat->Int->aq->aq
 |0,_,_=>[]
 |k+1,i,path=>(iq t i).ek.flatMap λe =>
  if (iq t e.ino).kind=2 then FO (esc (path++47::e.name)) (iq t e.ino).ino++ug t k (iq t e.ino).ino (path++47::e.name)else nA (esc (path++47::e.name)) (iq t e.ino)
def loose(n:Tr.Node):Bool:=decide (n.kind=1)&&decide (n.links=0)
def Iv(t:Tree):aq:=[47,32,100,105,114,32,49,10]++ug t 14 1 []++(t.nodes.filter loose).flatMap (nA [45])
variable{ok:aq->Bool}{lt:aq->aq->Bool}{t:Tree}
def FU(w:WF ok lt t){i:Int}{p:Tr.Node}(b:find t.nodes i=some p){e:Ent}(o:e∈p.ek){n:Tr.Node}(l:find t.nodes e.ino=some n)(hk:n.kind=2):n.up=i/\e.ino≠1:=by
 let⟨_,h1,_⟩:=kW w b o;let⟨q,h,r⟩:=w.wf.par _ _ l hk h1 rfl;let⟨h2,_⟩:=w.wf.CZ _ _ l hk h1;have:=Dv w.wf.jh (i:=e.ino) (ak h2) (gZ b).1 (gZ h).1 (uQ.2 ⟨e,o,rfl⟩) aa
 subst this;exact⟨(iI h).symm.trans (iI b),h1⟩
def q9(t:Tree)(i:Int):ax:=((iq t i).ek.filter λe=>decide ((iq t e.ino).kind=2)).map Ent.ino
def vis(t:Tree):Nat->Int->ax
 |0,_=>[]
 |k+1,i=>i::(q9 t i).flatMap (vis t k)
def zz(w:WF ok lt t){i x:Int}(h:x∈q9 t i):∃p e n,find t.nodes i=some p/\e∈p.ek/\e.ino=x/\find t.nodes x=some n/\n.kind=2/\n.up=i/\x≠1:=by
 obtain⟨e,b,rfl⟩:=b7.1 h;let⟨b,hk⟩:=bU.1 b;simp only[decide_eq_true_eq]at hk;unfold iq at b hk;cases l:find t.nodes i with
 |none=>rw[l]at b;simp[jb]at b
 |some p =>
  rw[l]at b;cases o:find t.nodes e.ino with
  |none=>rw[o]at hk;simp[jb]at hk
  |some n =>
   rw[o]at hk;let⟨h1,h2⟩:=FU w l b o hk;exact⟨p,e,n,rfl,b,rfl,rfl,hk,h1,h2⟩
def HM(w:WF ok lt t)(i:Int):(q9 t i).Nodup:=by
 have key:∀x,(q9 t i).count x<=1:=λx=>by
  by_cases hx:x∈q9 t i
  .let⟨p,e,n,b,q,hex,l,hk,o,h1⟩:=zz w hx;let⟨h2,_⟩:=w.wf.CZ _ _ l hk h1;have h3:=Cf (gZ b).1 x
   have h4:(q9 t i).count x<=cN p x:=by
    unfold q9 cN;rw[iy b,List.count_eq_countP,List.countP_map,List.countP_filter,<-List.countP_eq_length_filter];refine List.countP_mono_left λa _ h=>?_
    simp only[Function.comp_apply,aC,beq_iff_eq]at h
    simpa using h.1
   omega
  .rw[dH.2 hx];omega
 exact List.nodup_iff_count.2 key
def vb(w:WF ok lt t):∀ {k:Nat} {i j:Int},j∈vis t k i->∃e,Cr t i j e
 |k+1,i,j,h=>by
  rcases aY.1 h with rfl | h
  .exact⟨0,.here⟩
  .let⟨x,hx,q⟩:=fZ.1 h;let⟨e,r⟩:=vb w q;let⟨p,_,n,_,_,_,o,hk,l,h1⟩:=zz w hx;have v:Cr t i x 1:=.up o hk h1 (by rw[l];exact .here)
   have tr:∀ {j e},Cr t x j e->Cr t i j (e+1):=λh=>by
    induction h with
    |here=>exact v
    |up g y g1 _ b=>exact .up g y g1 b
   exact⟨_,tr r⟩
def P0{i b j:Int}{e:Nat}(h:Cr t i j e):Cr t b j e->i=b:=by
 induction h with
 |here=>intro h';cases h';rfl
 |up h hk h1 o l =>
  intro h';cases h' with
  |up g q g1 n =>
   have:=h.symm.trans g;cases this;exact l n
def Be(w:WF ok lt t):∀ {k:Nat} {i:Int} {d:Nat},rK t i d->(vis t k i).Nodup
 |0,_,_,_=>by simp[vis]
 |k+1,i,d,v=>by
  have l:∀x∈q9 t i,rK t x (d+1):=λx hx=>by
   let⟨p,_,n,_,_,_,E,hk,A,h1⟩:=zz w hx;exact .up E hk h1 (by rw[A];exact v)
  refine fE.2 ⟨λh=>?_,List.pairwise_flatMap.2 ⟨λx hx=>Be w (l x hx),?_⟩⟩
  .let⟨x,hx,F⟩:=fZ.1 h;let⟨e,b⟩:=vb w F;have:=(b.dep (l x hx)).inj v;omega
  .refine(HM w i).imp_of_mem λ{x y} hx z o j h1 j' h2 q=>?_
   subst q;let⟨e,b⟩:=vb w h1;let⟨f,r⟩:=vb w h2;have:=(b.dep (l x hx)).inj (r.dep (l y z));have:e=f:=aa
   subst this;exact o (P0 b r)
def Pq(w:WF ok lt t){k:Nat}:(vis t k 1).length<=200:=by
 have h:=Ak (Be w (k:=k) .root) (b:=t.nodes.map Tr.Node.ino) λx hx=>by
  let⟨e,l⟩:=vb w hx;cases l with
  |here =>
   let⟨r,i,_⟩:=w.wf.root;exact b7.2 ⟨r,(gZ i).1,iI i⟩
  |up h _ _ _=>exact b7.2 ⟨_,(gZ h).1,iI h⟩
 have:=w.wf.len;simp only[cw]at h;omega
def kV{n:Int}(h:qE n):(itoa n).length<=21:=itoa_length_le n h.1 h.2
def zT{path:aq}(h:path.length<=3200){n:Tr.Node}(b:qE n.ino)(hl:qE n.links)(i:n.data.length<=4096):(nA path n).length<=16000:=by
 have h1:=kV b;have h2:=kV hl;have h3:=mq n.data;unfold nA text DQ I6 E8;split<;>split<;>simp<;>omega
def Rf{path:aq}(h:path.length<=3200){i:Int}(b:qE i):(FO path i).length<=16000:=by
 have h1:=kV b;unfold FO;simp;omega
def j6(w:WF ok lt t)(i:Int):qE (iq t i).ino/\qE (iq t i).links/\(iq t i).data.length<=4096/\(iq t i).ek.length<=64:=by
 unfold iq;cases l:find t.nodes i with
 |none=>simp[jb,qE]
 |some n =>
  have o:=(gZ l).1;have b:=w.bg;have q:=w.wf.pos _ _ l;have r:=b.nx;have hl:=b.lk n o;have x:=b.ek n o;have v:=iI l;simp only[cM];refine⟨by unfold qE;omega,by unfold qE;omega,?_,aa⟩
  rcases w.wf.kind _ _ l with h | h
  .exact(w.wf.file _ _ l h).2.2.1
  .rw[(w.wf.dir _ _ l h).1];simp
def LR{α:Type}(f:α->aq)(b:Nat):∀(l:List α),(∀x∈l,(f x).length<=b)->(l.flatMap f).length<=l.length*b
 | [],_=>ah
 |x::l,h=>by
  have h1:=h x ah
  have h2:=LR f b l λy i=>h y (by simp[i])
  simp only[bZ,aG,aK,gQ];omega
def JB(w:WF ok lt t)(o:∀s,ok s=true->s.length<=32):∀(k:Nat)(i:Int)(path:aq),path.length+40*k<=1000->(ug t k i path).length<=1024000*(vis t k i).length
 |0,i,path,_=>by simp[ug,vis]
 |k+1,i,path,E=>by
  have A:=JB w o k;have F:=(j6 w i).2.2.2
  have r:∀e∈(iq t i).ek,e.name.length<=32:=λe h=>by
   unfold iq at h;cases b:find t.nodes i with
   |none=>rw[b]at h;simp[jb]at h
   |some p =>
    rw[b]at h;exact o _ ((w.wf.dir _ _ b (qY w.wf b h)).2.nm e h)
  have key:∀l:List Ent,(∀e∈l,e∈(iq t i).ek)->(l.flatMap λe=>if (iq t e.ino).kind=2 then FO (esc (path++47::e.name)) (iq t e.ino).ino++ug t k (iq t e.ino).ino (path++47::e.name)else nA (esc (path++47::e.name)) (iq t e.ino)).length<=16000*l.length+1024000*(((l.filter λe=>decide ((iq t e.ino).kind=2)).map Ent.ino).flatMap (vis t k)).length:=λl=>by
   induction l with
   |nil=>simp
   |cons e l q =>
    intro hl;have h1:=q λx hx=>hl x (by simp[hx])
    have h2:=r e (hl e ah)
    have h3:=mq (path++47::e.name);simp only[aG,aK]at h3;let⟨n1,z,y,_⟩:=j6 w e.ino;simp only[bZ,aG,aK,bX]
    by_cases hk:(iq t e.ino).kind=2
    .have h4:=Rf (path:=esc (path++47::e.name)) aa n1
     have h5:=A (iq t e.ino).ino (path++47::e.name) (by simp only[aG,aK];omega)
     have v:(iq t e.ino).ino=e.ino:=by
      unfold iq at hk⊢;cases b:find t.nodes e.ino with
      |none=>rw[b]at hk;simp[jb]at hk
      |some n=>exact iI b
     rw[v]at h4 h5;simp only[hk,if_true,decide_true,bF,bZ,aG,v];omega
    .have h4:=zT (path:=esc (path++47::e.name)) aa n1 z y
     simp only[hk,if_false,decide_false,bq];omega
  have:=key _ λe h=>h
  simp only[ug,vis,q9,aK];omega
def LC(w:WF ok lt t)(b:∀s,ok s=true->s.length<=32):(Iv t).length<=1000000000:=by
 have h1:=JB w b 14 1 [] ah
 have h2:=Pq w (k:=14)
 have h3:=LR (nA [45]) 16000 (t.nodes.filter loose) λn l=>by
  have o:=(bU.1 l).1;have q:=jt w.wf.jh o;let⟨n1,i,h,_⟩:=j6 w n.ino;rw[iy q]at n1 i h;exact zT ah n1 i h
 have h4:=bG loose t.nodes;have h5:=w.wf.len;have r:(t.nodes.filter loose).length*16000<=200*16000:=bl _ aa
 unfold Iv;simp only[aG,aK,aR];omega
section
variable{ok:aq->Bool}{lt:aq->aq->Bool}{t t':Tree}
theorem N4{i:Int}{e:Ent}(h:e∈(iq t i).ek):∃n,find t.nodes i=some n/\e∈n.ek:=by
 unfold iq at h;cases b:find t.nodes i with
 |none=>rw[b]at h;simp[jb]at h
 |some n=>rw[b]at h;exact⟨n,rfl,h⟩
variable(hsl:∀s,ok s=true->47∉s)
include hsl
variable(o:Ord lt)
include o
end
end Go.Re
