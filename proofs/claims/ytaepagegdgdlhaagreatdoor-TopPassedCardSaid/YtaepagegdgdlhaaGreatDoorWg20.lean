/- Part of the proof that TopPassedCard holds. -/
import Derived.Test.YtaepagegdgdlhaaGreatDoorR20
import Derived.Test.YtaepagegdgdlhaaGreatDoorCrH
set_option linter.all false
namespace Go.Proofs.YtaepagegdgdlhaaGreatDoor.X
open Go.Am Go.Am.Nm Go.Lib Go.Cr
variable{n:Nat}
def aiE(hn:25<n)(c:Ca)(h:AH):jM (jJ.jG n) 132 [.agg [I c.de.id,.jB c.de.fg (c.de.jN.map I),.jB c.de.fp (c.de.lu.map AV.str),.bool c.sure,.jB c.fh (c.heard.map I)]] h=some (.bool (!c.sure),h):=by
 rw[ph 132 rfl hn rfl,jy];simp[amn]
def anM(hn:138<n)(l:List Ca)(hl:l.length<=1000000)(b0 b1:List AV)(h0:b0.all AV.kZ=true)(h1:b1.all AV.kZ=true):
  jM (jJ.jG n) 188 [.own 2 0 0 l.length,.fn (.func 132) [] []] [.var b0,.var b1,.row 0 5 (l.map Cv)]=some (I ((l.find? λc=>!c.sure).elim (-1) λ_=>((l.findIdx λc=>!c.sure:Nat):Int)),[.var b0,.var b1,.row 0 5 (l.map Cv)]):=by
 rw[ph 188 rfl hn rfl,jy];have wz:∀h0,j5 3 [] h0 0 [.var b0,.var b1,.row 0 5 (l.map Cv)]=[.var b0,.var b1,.row 0 5 (l.map Cv)]:=λh'=>kH 3 h' _ 0 (by simp[lE,h0,h1])
 have h:∀e0:Env,e0 0 = .own 2 0 0 l.length->e0 1 = .fn (.func 132) [] []->e0 7 = .int .i64 l.length->iter (round (jJ.jG 138) [8] [(.exit 0,[]),(.ret,[4])] BN e0 3 []) ([.int .i64 0],[.var b0,.var b1,.row 0 5 (l.map Cv)])=some ((l.find? λc=>!c.sure).elim (.exit 0,[],[.var b0,.var b1,.row 0 5 (l.map Cv)]) λ_=>(.ret,[.int .i64 (l.findIdx λc=>!c.sure:Nat)],[.var b0,.var b1,.row 0 5 (l.map Cv)])):=λe0 q0 q1 qo7 =>
  qS (f:=round (jJ.jG 138) [8] [(.exit 0,[]),(.ret,[4])] BN e0 3 []) (λi=>([.int .i64 (i:Int)],[.var b0,.var b1,.row 0 5 (l.map Cv)])) l (λc=>!c.sure) (λi _=>(.ret,[.int .i64 (i:Int)],[.var b0,.var b1,.row 0 5 (l.map Cv)])) (.exit 0,[],[.var b0,.var b1,.row 0 5 (l.map Cv)])
   (λi hi=>by
    obtain⟨y,hy⟩:∃y,y=l[i]:=⟨_,rfl⟩;rw[<-hy];have WM:=λh=>aiE (n:=138) af y h
    simp only[j5,dm]at wz;cases hs:y.sure
    .simp only[hs]at WM;simp(disch:=omega)[round_eq,xG,q0,q1,qo7,hi,<-hy,WM,Cv,hs]
     done
    .simp only[hs]at WM;simp(disch:=omega)[round_eq,xG,q0,q1,qo7,hi,<-hy,WM,Cv,hs,wz]
     done)
   (by simp[round_eq,xG,qo7])
 simp[afM,wz];have akv:=wz;simp only[j5,dm]at akv
 try rw[akv.1]
 rw[h _ rfl rfl rfl];cases hf:l.find? λc=>!c.sure with
 |none=>simp
 |some y=>simp
def E8(s:Nat×List Ca)(c:Ca):Nat×List Ca:=if c.sure=true then(s.1+1,s.2.set s.1 c)else s
def MM(l:List Ca)(i0:Nat)(hi:i0<l.length)(hf:(l.take (i0+1)).filter (λc=>c.sure)=l.take i0):
  ∀(k:Nat),k<=l.length-(i0+1)->((((l.drop (i0+1)).take k).foldl E8 (i0,l)).2.take (((l.drop (i0+1)).take k).foldl E8 (i0,l)).1=(l.take (i0+1+k)).filter (λc=>c.sure))/\(((l.drop (i0+1)).take k).foldl E8 (i0,l)).1<=i0+k/\
   (((l.drop (i0+1)).take k).foldl E8 (i0,l)).2.length=l.length/\∀m,i0+k<m->(((l.drop (i0+1)).take k).foldl E8 (i0,l)).2[m]? = l[m]?
 |0,_=>by
  refine⟨?_,aN _,rfl,λm _=>rfl⟩
  simp only[jl,eW,ct];exact hf.symm
 |k+1,hk=>by
  let⟨h1,h2,h3,h4⟩:=MM l i0 hi hf k aa
  have hlt:k<(l.drop (i0+1)).length:=by rw[cq];omega
  have hlt2:i0+1+k<l.length:=aa
  rw[bC hlt,dV,aT,eW];rw[show i0+1+(k+1)=i0+1+k+1 by omega,bC hlt2,eV]
  have hel:(l.drop (i0+1))[k]=l[i0+1+k]:=by rw[iL]
  rw[hel];generalize((l.drop (i0+1)).take k).foldl E8 (i0,l)=s at h1 h2 h3 h4;let⟨n,r⟩:=s;simp only at h1 h2 h3 h4;unfold E8;cases hs:(l[i0+1+k]).sure
  .simp only[aU,if_false];refine⟨?_,aa,h3,λm hm=>h4 m aa⟩
   rw[h1];simp[List.filter,hs]
  .simp only[if_true];refine⟨?_,aa,by simp[h3],λm hm=>?_⟩
   .have hn:n<r.length:=by omega
    rw[bC (an hn),List.take_set_of_le (aN _),h1]
    simp[List.filter,hs]
   .rw[aJ aa]
    exact h4 m aa
def apm(hn:25<n)(l:List Ca)(hl:l.length<=1000000)(b0 b1:List AV)(h0:b0.all AV.kZ=true)(h1:b1.all AV.kZ=true)(i0:Nat)(hi0:i0<l.length)(hf:(l.take (i0+1)).filter (λc=>c.sure)=l.take i0):
  ∃r:Nat×List Ca,r.2.take r.1=l.filter (λc=>c.sure)/\r.1<=l.length/\r.2.length=l.length/\∀e0:Env,e0 0 = .own 2 0 0 l.length->e0 1 = .fn (.func 132) [] []->
  iter (round (jJ.jG n) [5,6] [(.exit 0,[5])] J4 e0 3 []) ([.int .i64 i0,.int .i64 ((i0:Int)+1)],[.var b0,.var b1,.row 0 5 (l.map Cv)])=some (.exit 0,[.int .i64 r.1],[.var b0,.var b1,.row 0 5 (r.2.map Cv)]):=by
 have inv:=MM l i0 hi0 hf;have wz:∀(h0:AH)(r:List Ca),j5 3 [] h0 0 [.var b0,.var b1,.row 0 5 (r.map Cv)]=[.var b0,.var b1,.row 0 5 (r.map Cv)]:=λh' r=>kH 3 h' _ 0 (by simp[lE,h0,h1])
 simp only[j5,dm]at wz;have hnb:∀h0,kL 3 [] h0 0 (.var b0) = .var b0:=λh'=>(wz h' []).1
 have aep:∀h0,kL 3 [] h0 (0+1) (.var b1) = .var b1:=λh'=>(wz h' []).2.1
 simp only[kL,AB.var.injEq]at hnb aep;refine⟨(l.drop (i0+1)).foldl E8 (i0,l),?_,?_,?_,?_⟩
 .have:=(inv (l.length-(i0+1)) (aN _)).1;rw[br (l:=l.drop (i0+1)) ah,br (l:=l) aa]at this
  exact this
 .have:=(inv (l.length-(i0+1)) (aN _)).2.1;rw[br (l:=l.drop (i0+1)) ah]at this
  omega
 .have:=(inv (l.length-(i0+1)) (aN _)).2.2.1;rw[br (l:=l.drop (i0+1)) ah]at this
  exact this
 .intro e0 q0 q1
  have := jU (f := round (jJ.jG n) [5, 6] [(.exit 0, [5])] J4 e0 3 []) (λk (s : Nat × List Ca) => ([.int .i64 (s.1 : Int), .int .i64 ((i0 + 1 + k : Nat) : Int)], [.var b0, .var b1, .row 0 5 (s.2.map Cv)])) (l.drop (i0 + 1)) E8
   (λs=>(.exit 0,[.int .i64 (s.1:Int)],[.var b0,.var b1,.row 0 5 (s.2.map Cv)])) (λk s=>k<=l.length-(i0+1)/\s=((l.drop (i0+1)).take k).foldl E8 (i0,l))
   (λk hk s hs=>by
    obtain⟨ND,hs⟩:=hs;have hk':k<l.length-(i0+1):=by rw[cq]at hk;exact hk
    obtain⟨w1,w2,w3,w4⟩:=inv k aa
    rw[<-hs]at w1 w2 w3 w4;refine⟨⟨aa,?_⟩,?_⟩
    .rw[bC hk,dV,aT,eW,<-hs]
    .have hel:(l.drop (i0+1))[k]=l[i0+1+k]:=by rw[iL]
     rw[hel];have hlt:i0+1+k<l.length:=aa
     obtain⟨x,hx⟩:∃x,x=l[i0+1+k]:=⟨_,rfl⟩;have S3:s.2[i0+1+k]? = some x:=by rw[w4 _ aa,hx];exact aG hlt
     have hgm:(s.2.map Cv)[i0+1+k]? = some (Cv x):=by rw[bW,S3];rfl
     rw[<-hx];have hs1:s.1<s.2.length:=aa
     have hlt':i0+1+k<s.2.length:=aa
     obtain⟨s1,s2⟩:=s;simp only at w1 w2 w3 w4 hs1 hgm hlt' S3;rw[show i0+1+(k+1)=i0+1+k+1 by omega]
     generalize i0+1+k=j at hlt hx S3 hgm hlt'⊢;have WM:=λh=>aiE (n:=n) hn x h
     unfold E8;cases hsu:x.sure
     .simp only[hsu]at WM;simp(disch:=omega)[round_eq,FE,q0,q1,hlt,hgm,Cv,hsu,WM,hnb,aep]
      done
     .simp only[hsu]at WM;simp(disch:=omega)[round_eq,FE,q0,q1,hlt,hgm,Cv,hsu,WM,hnb,aep]
      done)
   (λs hs=>by
    have hlen:(l.drop (i0+1)).length=l.length-(i0+1):=cq;rw[hlen,show i0+1+(l.length-(i0+1))=l.length by omega]
    simp[round_eq,FE,q0]
    done) (i0,l) ⟨cH _,rfl⟩
  simpa using this
def aoe(hn:150<n)(l:List Ca)(hl:l.length<=1000000)(b0 b1:List AV)(h0:b0.all AV.kZ=true)(h1:b1.all AV.kZ=true):
  ∃k r,r.take k=(l.filter (λc=>c.sure)).map Cv/\k<=r.length/\jM (jJ.jG n) 131 [.own 2 0 0 l.length,.fn (.func 132) [] []] [.var b0,.var b1,.row 0 5 (l.map Cv)]=some (.own 2 0 0 k,[.var b0,.var b1,.row 0 5 r]):=by
 rw[ph 131 rfl hn rfl,jy];have h79:=anM (n:=150) af l hl b0 b1 h0 h1
 cases hf:l.find? λc=>!c.sure with
 |none =>
  rw[hf]at h79;simp only[cK]at h79;refine⟨l.length,l.map Cv,?_,ah,?_⟩
  .rw[dY.2 λc hc=>by simpa using dy.1 hf c hc]
   exact br ah
  .simp(disch:=omega)[afU,h79]
   done
 |some y =>
  rw[hf]at h79;simp only[bw]at h79;have hx:l[l.findIdx λc=>!c.sure]? = some y:=by rw[lQ];exact hf
  have hlt:(l.findIdx λc=>!c.sure)<l.length:=(aF.1 hx).1
  have hpre:(l.take ((l.findIdx λc=>!c.sure)+1)).filter (λc=>c.sure)=l.take (l.findIdx λc=>!c.sure):=by
   have hys:=ek hf;rw[bC hlt,eV]
   have hy2:l[l.findIdx λc=>!c.sure]=y:=by
    have:=(aF.1 hx).2;exact this
   have e2:[l[l.findIdx λc=>!c.sure]].filter (λc=>c.sure)=[]:=by rw[hy2];simp only[cv]at hys;simp[List.filter,hys]
   rw[e2,dz,dY];intro c hc;let⟨i,hi,e⟩:=dW hc;rw[bM]at hi;rw[fW]at e;have:=fN (p:=λc:Ca=>!c.sure) (xs:=l) (i:=i) aa
   rw[e]at this
   simpa using this
  generalize(l.findIdx λc=>!c.sure)=i0 at *
  let⟨⟨k,r⟩,w1,w2,w3,w4⟩:=apm (n:=150) af l hl b0 b1 h0 h1 i0 hlt hpre
  simp only at w1 w2 w3 w4;have wz:∀h0,j5 3 [] h0 0 [.var b0,.var b1,.row 0 5 (l.map Cv)]=[.var b0,.var b1,.row 0 5 (l.map Cv)]:=λh'=>kH 3 h' _ 0 (by simp[lE,h0,h1])
  simp only[j5,dm]at wz;have hne:¬((i0:Int) = -1):=aa
  refine⟨k,over (r.map Cv) k (List.replicate (l.length-k) (.agg [.int .i64 0,.jB true [],.jB true [],.bool false,.jB true []])),?_,?_,?_⟩
  .rw[<-w1];unfold over;rw[cF,dw (by rw[bM,cV];omega),gq,jw,fT]
  .unfold over;simp only[aL,bM,cV];omega
  .simp(disch:=omega)[afU,h79,hne,wz];rw[w4 _ aq aq]
   simp[w2,w3]
   done
def s77(hn:151<n)(b:Bo)(hl:b.cases.length<=1000000):(jJ.jG n).p 77 [Bv b]=some (Bv (CC b)):=by
 rw[pp 77 rfl hn rfl,jA,jy];have YO:=λa h=>p69 (n:=151) af a h
 let⟨k,r,w1,w2,w3⟩:=aoe (n:=151) af b.cases hl [I b.id,I b.next,.jB b.fc (b.cases.map Cv)] [.int .i64 0,.int .i64 0,.jB true []] rfl rfl
 unfold CC oP;simp(disch:=omega)[c77,Bv,YO,szC,w3,w2,w1]
 done
open Go.Am Go.Am.Nm Go.Lib Go.Cr
def s64{n:Nat}(hn:126<n)(id:Int):(jJ.jG n).p 64 [I id]=some (Bv ⟨id,0,true,[]⟩):=by
 rw[pp 64 rfl hn rfl,jA,jy];simp(disch:=omega)[c64,Bv]
def s65{n:Nat}(hn:127<n)(id:Int):(jJ.jG n).p 65 [I id]=some (Pv ⟨id,true,[],true,[]⟩):=by
 rw[pp 65 rfl hn rfl,jA,jy];simp(disch:=omega)[c65,Pv]
open Go.Am Go.Am.Nm Go.Lib Go.Cr
open Go.Am Go.Am.Nm Go.Lib Go.Cr
def tV(n:Nat):AV->Bool
 | .own b _ _ _=>decide (b<n)
 | .ptr b _ _ _=>decide (b<n)
 |v=>v.lT&&v.kZ
def rQ(n:Nat):AB->Bool
 | .var cs=>cs.all (tV n)
 | .mp _=>false
 | .mps _=>false
 |_=>true
def Cl(n:Nat)(h:AH):Prop:=h.all (rQ n)=true
def uJ{L:Nat}{R:ax}{h:AH}{n:Nat}(hn:n<=L)(hR:∀r∈R,n<=r){x:AV}(hx:tV n x=true):j9 L R h x=x:=by
 unfold tV at hx;split at hx
 .rename_i b v o k;have hb:b<n:=by simpa using hx
  have YG:R.contains b=false:=by
   rw[gP];intro hc;have:=hR b (an hc)
   omega
  simp only[j9,if_pos (show b<L by omega),YG,aU,if_false]
 .rename_i b v i o;have hb:b<n:=by simpa using hx
  have YG:¬R.contains b=true:=by
   intro hc;have:=hR b (an hc)
   omega
  simp only[j9,if_pos (show b<L/\¬R.contains b=true from⟨aa,YG⟩)]
 .simp only[aH]at hx;cases x<;>simp_all[j9,AV.kZ,AV.lT]
def zH(L:Nat)(R:ax)(h0:AH){n:Nat}(hn:n<=L):∀(h:AH)(i:Nat),Cl n h->(∀r∈R,n<=r/\i+h.length<=r)->j5 L R h0 i h=h
 | [],_,_,_=>rfl
 |b::h,i,hc,hR=>by
  simp only[Cl,bH,aH]at hc;simp only[j5];rw[zH L R h0 hn h (i+1) hc.2 λr hr=>⟨(hR r hr).1,by have:=(hR r hr).2;simp only[aQ]at this;omega⟩]
  congr 1
  have hi:R.contains i=false:=by
   rw[gP];intro S8;have:=(hR i (an S8)).2
   simp only[aQ]at this;omega
  cases b with
  |var cs =>
   simp only[kL]
   congr 1
   have h1:=hc.1;simp only[rQ,aO]at h1
   conv=>rhs;rw[<-fF cs]
   exact cS λx hx=>uJ hn (λr hr=>(hR r hr).1) (h1 x hx)
  |row v sz es=>simp only[kL,hi,aU,if_false]
  |qa v sz es=>simp only[kL,hi,aU,if_false]
  |gone=>rfl
  |mp es=>simp[rQ]at hc
  |mps es=>simp[rQ]at hc
open Go.Am Go.Am.Nm Go.Lib Go.Cr
variable{n i:Nat}{h:AH}
def XH{m:Nat}(h:n<=m){x:AV}(hx:tV n x=true):tV m x=true:=by
 unfold tV at hx⊢;split
 .simp only[decide_eq_true_eq]at hx⊢;omega
 .simp only[decide_eq_true_eq]at hx⊢;omega
 .rename_i h1 h2;split at hx
  .exact absurd rfl (h1 _ _ _ _)
  .exact absurd rfl (h2 _ _ _ _)
  .exact hx
def Cl.mono{m:Nat}(hc:Cl n h)(hnm:n<=m):Cl m h:=by
 unfold Cl at hc⊢;rw[aO]at hc⊢;intro B hB;have:=hc B hB;cases B with
 |var cs =>
  simp only[rQ,aO]at this⊢;exact λx hx=>XH hnm (this x hx)
 |mp es=>simp[rQ]at this
 |mps es=>simp[rQ]at this
 |row v sz es=>rfl
 |qa v sz es=>rfl
 |gone=>rfl
def Cl.set(hc:Cl n h)(k:Nat){B:AB}(hB:rQ n B=true):Cl n (h.set k B):=by
 unfold Cl at hc⊢;rw[aO]at hc⊢;intro C hC
 rcases gy hC with h1 | h1
 .exact hc C h1
 .rw[h1];exact hB
def Cl.app{A B:AH}(hA:Cl n A)(hB:Cl n B):Cl n (A++B):=by
 unfold Cl at hA hB⊢;rw[fQ,hA,hB];rfl
def dv(p:Bool×ay):AV:=.jB p.1 (p.2.map I)
structure WH(h:AH)(b u:aA)(w:Wd):Prop where
 r0:h[b 0]? = some (.row (u 0) 3 (w.bs.map Bv))
 r1:h[b 1]? = some (.row (u 1) 3 (w.ps.map Pv))
 r2:h[b 2]? = some (.row (u 2) 5 (w.jQ.map Mv))
 r3:h[b 3]? = some (.row (u 3) 3 (w.jE.map Dv))
 r4:h[b 4]? = some (.row (u 4) 1 (w.did.map dv))
 ne:∀i j,i<5->j<5->i≠j->b i≠b j
 cl:Cl h.length h
def WC(b u:aA)(w:Wd):List AV:=[.own (b 0) (u 0) 0 w.bs.length,.own (b 1) (u 1) 0 w.ps.length,.own (b 2) (u 2) 0 w.jQ.length,.own (b 3) (u 3) 0 w.jE.length,.own (b 4) (u 4) 0 w.did.length]
def Oy:AB->Bool
 | .row _ _ _=>true
 |_=>false
def nV(h:AH)(i:Nat):Prop:=∃B,h[i]? = some B/\Oy B=true
def nV.set{k:Nat}{B:AB}(H:nV h i)(hB:Oy B=true):nV (h.set k B) i:=by
 let⟨C,h1,h2⟩:=H
 by_cases e:k=i
 .subst e;exact⟨B,aZ (aF.1 h1).1,hB⟩
 .exact⟨C,by rw[aJ e];exact h1,h2⟩
def nV.app(H:nV h i)(Y:AH):nV (h++Y) i:=by
 let⟨C,h1,h2⟩:=H;exact⟨C,by rw[aK (aF.1 h1).1];exact h1,h2⟩
structure Fw(h:AH)(b:aA)(h':AH)(b':aA):Prop where
 le:h.length<=h'.length
 old:∀i,i<h.length->(∀j,j<5->i≠b j)->h'[i]? = h[i]?
 new:∀j,j<5->b' j=b j\/h.length<=b' j
 row:∀i,i<h.length->nV h i->nV h' i
def qt{G:AH}{m:Nat}(hm:G.length=m)(cl:Cl m G)(L:Nat)(R:ax)(hL:m<=L)(hR:∀r∈R,m<=r)(h0 Y:AH):j5 L R h0 0 (G++Y)=G++j5 L R h0 m Y:=by
 rw[oH,zH L R h0 hL G 0 cl λr hr=>⟨hR r hr,by have:=hR r hr;omega⟩,hm,bE]
def l71(G:AH)(cl:Cl G.length G)(a0 a1 Yi Yh:AV)(c0:tV G.length a0=true)(c1:tV G.length a1=true)(yF:tV G.length Yi=true)(QU:tV G.length Yh=true)(wi l:List Mg)(fl:Bool)(hw:wi.length<=200)(hl:l.length<=1000000)(e0:Env)(q1:e0 1 = .jB fl (l.map Mv))(q2:e0 2 = .ptr G.length 0 0 0):
  iter (lD (jJ.jG n) (G.length+2) [(2,2,5)] [5] [(.exit 0,[])] Q7 e0 (G.length+3) [G.length+2]) ([.int .i64 0],G++[.var [a0,a1,.own (G.length+2) 0 0 wi.length,Yi,Yh],.var [.jB true [],.jB true [],.jB true [],.jB true [],.jB true []],.row 0 5 (wi.map Mv)]) =
   some (.exit 0,[],G++[.var [a0,a1,.own (G.length+2) 0 0 (lV wi l).length,Yi,Yh],.var [.jB true [],.jB true [],.jB true [],.jB true [],.jB true []],.row 0 5 ((lV wi l).map Mv)]):=by
 have hnt:=λh0 Y=>qt (G:=G) rfl cl (G.length+3) [G.length+2] aa (λr hr=>by simp only[aM]at hr;omega) h0 Y
 have Mh:∀ {x:AV},tV G.length x=true->∀h0,j9 (G.length+3) [G.length+2] h0 x=x:=λhx h0=>uJ (n:=G.length) aa (λr hr=>by simp only[aM]at hr;omega) hx
 have n0:=Mh c0;have n1:=Mh c1;have n3:=Mh yF;have n4:=Mh QU;have uv:=lN G
 have:=jU (f:=lD (jJ.jG n) (G.length+2) [(2,2,5)] [5] [(.exit 0,[])] Q7 e0 (G.length+3) [G.length+2]) (λi (s:List Mg)=>([.int .i64 (i:Int)],G++[.var [a0,a1,.own (G.length+2) 0 0 s.length,Yi,Yh],.var [.jB true [],.jB true [],.jB true [],.jB true [],.jB true []],.row 0 5 (s.map Mv)])) (l.take (200-wi.length))
  (λs x=>s++[x]) (λs=>(.exit 0,[],G++[.var [a0,a1,.own (G.length+2) 0 0 s.length,Yi,Yh],.var [.jB true [],.jB true [],.jB true [],.jB true [],.jB true []],.row 0 5 (s.map Mv)])) (λi s=>s.length=wi.length+i)
  (λi hi s hs=>by
   rw[bM]at hi;have hi1:i<l.length:=aa
   have hs2:s.length<200:=aa
   refine⟨by simp[hs];omega,?_⟩
   rw[fW];obtain⟨x,hx⟩:∃x,x=l[i]:=⟨_,rfl⟩;rw[<-hx];simp(disch:=omega)[jV,M9,q1,q2,<-hx,Mv,hnt,uv,n0,n1,n3,n4]
   done)
  (λs hs=>by
   rw[bM]at hs⊢
   by_cases h1:l.length<=200-wi.length
   .rw[Nat.min_eq_right h1];simp(disch:=omega)[jV,M9,q1]
    done
   .rw[dZ aa]at hs⊢
    have h2:200-wi.length<l.length:=aa
    have h3:¬s.length<200:=aa
    simp(disch:=omega)[jV,M9,q1,q2]
    done) wi rfl
 rw[qK (λx=>x)]at this
 simpa[lV]using this
def s71(hn:135<n)(w:Wd)(l:List Mg)(fl:Bool)(h:AH)(b u:aA)(H:WH h b u w)(hw:w.jQ.length<=200)(hl:l.length<=1000000):
  ∃h' b' u',jM (jJ.jG n) 71 [.agg (WC b u w),.jB fl (l.map Mv)] h=some (.agg (WC b' u' (kf w l)),h')/\WH h' b' u' (kf w l)/\Fw h b h' b':=by
 rw[ph 71 rfl hn rfl,jy];let⟨r0,r1,r2,r3,r4,ne,cl⟩:=H;have xl:b 2<h.length:=(aF.1 r2).1;have hb0:b 0<h.length:=(aF.1 r0).1;have zW:b 1<h.length:=(aF.1 r1).1;have Gz:b 3<h.length:=(aF.1 r3).1;have hb4:b 4<h.length:=(aF.1 r4).1
 refine⟨h.set (b 2) (.row (u 2+1) 5 [])++[.var [.own (b 0) (u 0) 0 w.bs.length,.own (b 1) (u 1) 0 w.ps.length,.own (h.length+2) 0 0 (lV w.jQ l).length,.own (b 3) (u 3) 0 w.jE.length,.own (b 4) (u 4) 0 w.did.length],
   .var [.own (b 0) (u 0) 0 w.bs.length,.own (b 1) (u 1) 0 w.ps.length,.own (h.length+2) 0 0 (lV w.jQ l).length,.own (b 3) (u 3) 0 w.jE.length,.own (b 4) (u 4) 0 w.did.length],.row 0 5 ((lV w.jQ l).map Mv)],
  λj=>if j=2 then h.length+2 else b j,λj=>if j=2 then 0 else u j,?_,?_,?_⟩
 .simp only[WC,kf,if_true,show ¬(0:Nat)=2 from by decide,show ¬(1:Nat)=2 from by decide,show ¬(3:Nat)=2 from by decide,show ¬(4:Nat)=2 from by decide,if_false]
  have r2':=(aF.1 r2).2;simp(disch:=omega)[c71,r2',vB,AA,pz];obtain⟨G,hG⟩:∃G,G=h.set (b 2) (.row (u 2+1) 5 []):=⟨_,rfl⟩;have hlen:h.length=G.length:=by rw[hG];simp
  have clG:Cl G.length G:=by rw[<-hlen,hG];exact cl.set _ rfl
  have hnt:=λh0 Y=>qt (G:=G) rfl clG (G.length+3) [G.length+2] aa (λr hr=>by simp only[aM]at hr;omega) h0 Y
  have uv:=lN G;rw[<-hG,hlen];rw[hlen]at hb0 zW Gz hb4;have hq:∀i,i<G.length->¬i=G.length+2/\i<G.length+3:=λi hi=>⟨aa,aa⟩
  simp(disch:=omega)[hnt,uv,hq _ hb0,hq _ zW,hq _ Gz,hq _ hb4];rw[l71 G clG _ _ _ _ (by simp[tV,hb0]) (by simp[tV,zW]) (by simp[tV,Gz]) (by simp[tV,hb4]) w.jQ l fl hw hl _ aq aq]
  have hG':=hG.symm;simp(disch:=omega)[r2',hG',hlen,pz,MA]
  done
 .have hg:∀i,i<h.length->i≠b 2->∀Y:AH,(h.set (b 2) (.row (u 2+1) 5 [])++Y)[i]? = h[i]? := λi hi hne Y=>by
   rw[aK (an hi),aJ (Ne.symm hne)]
  have n0:=ne 0 2 af af af
  have n1:=ne 1 2 af af af
  have n3:=ne 3 2 af af af
  have n4:=ne 4 2 af af af
  refine⟨?_,?_,?_,?_,?_,λi j hi hj hij=>?_,?_⟩
  .simp only[show ¬(0:Nat)=2 from by decide,if_false];rw[hg _ hb0 n0];exact r0
  .simp only[show ¬(1:Nat)=2 from by decide,if_false];rw[hg _ zW n1];exact r1
  .simp only[if_true];rw[aV ah];simp[kf]
  .simp only[show ¬(3:Nat)=2 from by decide,if_false];rw[hg _ Gz n3];exact r3
  .simp only[show ¬(4:Nat)=2 from by decide,if_false];rw[hg _ hb4 n4];exact r4
  .have hlt:∀j,j<5->b j<h.length:=λj hj=>by
    match j,hj with
    |0,_=>exact hb0
    |1,_=>exact zW
    |2,_=>exact xl
    |3,_=>exact Gz
    |4,_=>exact hb4
   by_cases hi2:i=2
   .subst hi2;rw[if_pos rfl,if_neg (Ne.symm hij)];have:=hlt j hj;omega
   .rw[if_neg hi2]
    by_cases hj2:j=2
    .rw[if_pos hj2];have:=hlt i hi;omega
    .rw[if_neg hj2];exact ne i j hi hj hij
  .have hn:h.length<=(h.set (b 2) (.row (u 2+1) 5 [])++[AB.var [.own (b 0) (u 0) 0 w.bs.length,.own (b 1) (u 1) 0 w.ps.length,.own (h.length+2) 0 0 (lV w.jQ l).length,.own (b 3) (u 3) 0 w.jE.length,.own (b 4) (u 4) 0 w.did.length],
     AB.var [.own (b 0) (u 0) 0 w.bs.length,.own (b 1) (u 1) 0 w.ps.length,.own (h.length+2) 0 0 (lV w.jQ l).length,.own (b 3) (u 3) 0 w.jE.length,.own (b 4) (u 4) 0 w.did.length],AB.row 0 5 ((lV w.jQ l).map Mv)]).length:=ah
   refine((cl.set _ rfl).mono hn).app ?_;simp only[aL,bL,aQ,bq];have e0:b 0<h.length+(0+1+1+1):=aa
   have e1:b 1<h.length+(0+1+1+1):=aa
   have Jv:b 3<h.length+(0+1+1+1):=aa
   have Gc:b 4<h.length+(0+1+1+1):=aa
   simp only[Cl,bH,dh,rQ,tV,decide_eq_true e0,decide_eq_true e1,decide_eq_true Jv,decide_eq_true Gc,decide_eq_true (show h.length+2<h.length+(0+1+1+1) by omega),fU]
 .refine⟨ah,λi hi hne=>?_,λj hj=>?_,λi _ hr=>(hr.set rfl).app _⟩
  .rw[aK (an hi),aJ (Ne.symm (hne 2 af))]
  .by_cases hj2:j=2
   .exact .inr (by rw[if_pos hj2];omega)
   .exact .inl (by rw[if_neg hj2])
open Go.Am Go.Am.Nm Go.Lib Go.Cr
variable{b:aA}{h:AH}
def WH.lt{u:aA}{w:Wd}(H:WH h b u w):∀j,j<5->b j<h.length:=λj hj=>by
 match j,hj with
 |0,_=>exact(aF.1 H.r0).1
 |1,_=>exact(aF.1 H.r1).1
 |2,_=>exact(aF.1 H.r2).1
 |3,_=>exact(aF.1 H.r3).1
 |4,_=>exact(aF.1 H.r4).1
def mP{u:aA}{w:Wd}{n:Nat}(h:∀j,j<5->b j<n):rQ n (.var (WC b u w))=true:=by
 simp only[rQ,WC,bH,dh,tV,decide_eq_true (h 0 af),decide_eq_true (h 1 af),decide_eq_true (h 2 af),decide_eq_true (h 3 af),decide_eq_true (h 4 af),fU]
def WH.app{u:aA}{w:Wd}(H:WH h b u w){Y:AH}(hY:Cl (h++Y).length Y):WH (h++Y) b u w:=by
 have hl:=H.lt;have hg:∀j,j<5->(h++Y)[b j]? = h[b j]? := λj hj=>aK (hl j hj)
 exact⟨(hg 0 af).trans H.r0,(hg 1 af).trans H.r1,(hg 2 af).trans H.r2,(hg 3 af).trans H.r3,(hg 4 af).trans H.r4,H.ne,(H.cl.mono ah).app hY⟩
def WH.other{u:aA}{w:Wd}(H:WH h b u w)(k:Nat)(B:AB)(hk:∀j,j<5->k≠b j)(hB:rQ h.length B=true):WH (h.set k B) b u w:=by
 have hg:∀j,j<5->(h.set k B)[b j]? = h[b j]? := λj hj=>aJ (hk j hj)
 exact⟨(hg 0 af).trans H.r0,(hg 1 af).trans H.r1,(hg 2 af).trans H.r2,(hg 3 af).trans H.r3,(hg 4 af).trans H.r4,H.ne,by
  have:=H.cl.set k hB
  rwa [bL]⟩
def WH.bs{u:aA}{w:Wd}(H:WH h b u w)(l:List Bo):WH (h.set (b 0) (.row (u 0) 3 (l.map Bv))) b u {w with bs:=l}:=by
 have hl:=H.lt 0 af
 have hg:∀j,j<5->j≠0->(h.set (b 0) (.row (u 0) 3 (l.map Bv)))[b j]? = h[b j]? := λj hj hne=>aJ (H.ne 0 j af hj (Ne.symm hne))
 exact⟨by rw[aZ hl],(hg 1 af af).trans H.r1,(hg 2 af af).trans H.r2,(hg 3 af af).trans H.r3,(hg 4 af af).trans H.r4,H.ne,by
  have:=H.cl.set (b 0) (B:=.row (u 0) 3 (l.map Bv)) rfl
  rwa [bL]⟩
def WH.ps{u:aA}{w:Wd}(H:WH h b u w)(l:List Pt):WH (h.set (b 1) (.row (u 1) 3 (l.map Pv))) b u {w with ps:=l}:=by
 have hl:=H.lt 1 af
 have hg:∀j,j<5->j≠1->(h.set (b 1) (.row (u 1) 3 (l.map Pv)))[b j]? = h[b j]? := λj hj hne=>aJ (H.ne 1 j af hj (Ne.symm hne))
 exact⟨(hg 0 af af).trans H.r0,by rw[aZ hl],(hg 2 af af).trans H.r2,(hg 3 af af).trans H.r3,(hg 4 af af).trans H.r4,H.ne,by
  have:=H.cl.set (b 1) (B:=.row (u 1) 3 (l.map Pv)) rfl
  rwa [bL]⟩
def WH.did{u:aA}{w:Wd}(H:WH h b u w)(l:List (Bool×ay)):WH (h.set (b 4) (.row (u 4) 1 (l.map dv))) b u {w with did:=l}:=by
 have hl:=H.lt 4 af
 have hg:∀j,j<5->j≠4->(h.set (b 4) (.row (u 4) 1 (l.map dv)))[b j]? = h[b j]? := λj hj hne=>aJ (H.ne 4 j af hj (Ne.symm hne))
 exact⟨(hg 0 af af).trans H.r0,(hg 1 af af).trans H.r1,(hg 2 af af).trans H.r2,(hg 3 af af).trans H.r3,by rw[aZ hl],H.ne,by
  have:=H.cl.set (b 4) (B:=.row (u 4) 1 (l.map dv)) rfl
  rwa [bL]⟩
def WH.jQ{u:aA}{w:Wd}(H:WH h b u w)(k v:Nat)(l:List Mg)(hk:h[k]? = some (.row v 5 (l.map Mv)))(hne:∀j,j<5->j≠2->b j≠k):WH h (λj=>if j=2 then k else b j) (λj=>if j=2 then v else u j) {w with jQ:=l}:=by
 refine⟨H.r0,H.r1,hk,H.r3,H.r4,λi j hi hj hij=>?_,H.cl⟩
 by_cases h1:i=2
 .subst h1;rw[if_pos rfl,if_neg (Ne.symm hij)];exact Ne.symm (hne j hj (Ne.symm hij))
 .rw[if_neg h1]
  by_cases h2:j=2
  .rw[if_pos h2];exact hne i hi h1
  .rw[if_neg h2];exact H.ne i j hi hj hij
def WH.jE{u:aA}{w:Wd}(H:WH h b u w)(k v:Nat)(l:List De)(hk:h[k]? = some (.row v 3 (l.map Dv)))(hne:∀j,j<5->j≠3->b j≠k):WH h (λj=>if j=3 then k else b j) (λj=>if j=3 then v else u j) {w with jE:=l}:=by
 refine⟨H.r0,H.r1,H.r2,hk,H.r4,λi j hi hj hij=>?_,H.cl⟩
 by_cases h1:i=3
 .subst h1;rw[if_pos rfl,if_neg (Ne.symm hij)];exact Ne.symm (hne j hj (Ne.symm hij))
 .rw[if_neg h1]
  by_cases h2:j=3
  .rw[if_pos h2];exact hne i hi h1
  .rw[if_neg h2];exact H.ne i j hi hj hij
open Go.Am Go.Am.Nm Go.Lib Go.Cr
section
variable{X Y:AH}{a c d i:Nat}{A B C D:AB}
def dsp(h:i<X.length):(X.set a A++Y).set i B=(X.set a A).set i B++Y:=gi _ _ (an h)
def alN(h:i<X.length):((X.set a A).set c C++Y).set i B=((X.set a A).set c C).set i B++Y:=gi _ _ (an h)
def dgp(h:i<X.length):((X.set a A).set c C++Y)[i]? = ((X.set a A).set c C)[i]? := aK (an h)
def alP(h:i<X.length):(((X.set a A).set c C).set d D++Y)[i]? = (((X.set a A).set c C).set d D)[i]? := aK (an h)
def dgg(h:X.length<=i):((X.set a A).set c C++Y)[i]? = Y[i-X.length]? := by rw[aV (an h)];simp
def afe(h:X.length<=i):((X.set a A).set c C++Y).set i B=(X.set a A).set c C++Y.set (i-X.length) B:=by rw[eD _ _ (an h)];simp
end
structure Fz(N:Nat)(h:AH)(b:aA)(h':AH)(b':aA):Prop where
 le:h.length<=h'.length
 old:∀i,i<N->(∀j,j<5->i≠b j)->h'[i]? = h[i]?
 new:∀j,j<5->b' j=b j\/N<=b' j
 row:∀i,i<N->nV h i->nV h' i
variable{h h' h2:AH}{b b' b2:aA}
def Fz.trans{N:Nat}{h'':AH}{b'':aA}(F:Fz N h b h' b')(G:Fz N h' b' h'' b''):Fz N h b h'' b'' :=
 ⟨cQ F.le G.le, λi hi hne => (G.old i hi λj hj => by
  rcases F.new j hj with e | e
  .rw[e];exact hne j hj
  .omega).trans (F.old i hi hne),λj hj=>by
  rcases G.new j hj with e | e
  .rcases F.new j hj with e' | e'
   .exact .inl (e.trans e')
   .exact .inr (by rw[e];exact e')
  .exact .inr e,λi hi hr=>G.row i hi (F.row i hi hr)⟩
def Fw.z(F:Fw h b h' b'){N:Nat}(hN:N<=h.length):Fz N h b h' b' :=
 ⟨F.le,λi hi hne=>F.old i aa hne,λj hj=>(F.new j hj).imp id λe=>aa,λi hi=>F.row i aa⟩
def Fz.w(F:Fz h.length h b h' b'):Fw h b h' b':=⟨F.le,F.old,F.new,F.row⟩
def Fz.Gl(N:Nat)(h:AH)(b:aA)(j:Nat)(hj:j<5)(B:AB)(hB:Oy B=true:=by rfl):Fz N h b (h.set (b j) B) b :=
 ⟨ah,λi _ hne=>aJ (Ne.symm (hne j hj)),λ_ _=>.inl rfl,λ_ _ hr=>hr.set hB⟩
def Fz.DC(N:Nat)(h:AH)(b:aA)(k:Nat)(hk:N<=k)(B:AB):Fz N h b (h.set k B) b :=
 ⟨ah,λi hi _=>aJ aa,λ_ _=>.inl rfl,λi hi ⟨C,h1,h2⟩=>⟨C,by rw[aJ aa];exact h1,h2⟩⟩
def Fz.app{N:Nat}(b:aA)(hN:N<=h.length)(Y:AH):Fz N h b (h++Y) b :=
 ⟨ah,λi hi _=>aK aa,λ_ _=>.inl rfl,λ_ _ hr=>hr.app _⟩
def Fz.mv(N:Nat)(h:AH)(b:aA)(q k:Nat)(hk:N<=k):Fz N h b h (λj=>if j=q then k else b j) :=
 ⟨aN _,λ_ _ _=>rfl,λj _=>by
  by_cases e:j=q
  .exact .inr (by rw[if_pos e];exact hk)
  .exact .inl (by rw[if_neg e]),λ_ _ hr=>hr⟩
def amz{p:Pt}{m:Mg}:(pQ jH kr p m).2.1.length<=1:=by
 unfold pQ;simp only
 repeat' split
 all_goals simp
def K0{b:Bo}{m:Mg}(hb:∀c∈b.cases,c.de.jN.length<=1000000):(qY b m).2.length<=1000000:=by
 unfold qY;split
 .split
  .split<;>simp
  .rename_i c hc;have:=hb c (aR hc);split
   .unfold GO
    repeat' split
    all_goals simp[tu]<;>omega
   .simp
 .simp
abbrev V5:AB:=.var [.jB true [],.jB true [],.jB true [],.jB true [],.jB true []]
def Io{N:Nat}{u2:aA}(FB:Fz N h b h2 b2)(hb:∀j,j<5->N+1≠b2 j)(p1:h2[N+1]? = some V5){hB:AH}{wB:Wd}(HB:WH hB b2 u2 wB)(FH:Fz N h2 b2 hB b2)(e:hB[N+1]? = h2[N+1]?)(l:List Mg)(hw:wB.jQ.length<=200)(hl:l.length<=1000000):
  ∃h3 b3 u3,jM (jJ.jG 145) 71 [.agg (WC b2 u2 wB),.jB true (l.map Mv)] hB=some (.agg (WC b3 u3 (kf wB l)),h3)/\(∃q:N+1<h3.length,h3[N+1]=V5)/\WH (h3.set (N+1) (.var (WC b3 u3 (kf wB l)))) b3 u3 (kf wB l)/\Fz N h b (h3.set (N+1) (.var (WC b3 u3 (kf wB l)))) b3:=by
 let⟨h3,b3,u3,e1,H3,F3⟩:=s71 (n:=145) af _ l true _ _ _ HB hw hl
 have q:=e.trans p1;have ql:=(aF.1 q).1
 have Gz:∀j,j<5->N+1≠b3 j:=λj hj=>by
  have:=hb j hj;have:=F3.new j hj;omega
 exact⟨h3,b3,u3,e1,aF.1 ((F3.old _ ql hb).trans q),H3.other _ _ Gz (mP H3.lt),FB.trans (FH.trans ((F3.z aa).trans (Fz.DC N h3 b3 (N+1) aa _)))⟩
def WH.self{N k:Nat}{u:aA}{w:Wd}(H:WH h b u w)(hk:∀j,j<5->k≠b j)(hN:N<=k)(l:List Pt):
  WH ((h.set k (.var (WC b u w))).set (b 1) (.row (u 1) 3 (l.map Pv))) b u {w with ps:=l}/\Fz N h b ((h.set k (.var (WC b u w))).set (b 1) (.row (u 1) 3 (l.map Pv))) b :=
 ⟨(H.other k _ hk (mP H.lt)).ps l,(Fz.DC N h b k hN _).trans (Fz.Gl N _ b 1 af _)⟩
def abD{c:Nat}{R V0 V1 V2:AB}{Y:AH}(F:Fw (h.set c R++V0::V1::V2::Y) b h2 b2)(hb:∀j,j<5->b j<h.length\/h.length+3<=b j):
  (∃q:h.length<h2.length,h2[h.length]=V0)/\h2[h.length+1]? = some V1/\(∃q:h.length+2<h2.length,h2[h.length+2]=V2)/\∀j,j<5->¬b2 j=h.length/\¬b2 j=h.length+1/\¬b2 j=h.length+2:=by
 have g:∀i,i<3->h2[h.length+i]? = (V0::V1::V2::Y)[i]? := λi hi=>(F.old _ aj λj hj=>by have:=hb j hj;omega).trans (by rw[aV ah];simp)
 refine⟨aF.1 (g 0 aa),g 1 aa,aF.1 (g 2 aa),λj hj=>?_⟩
 have:=hb j hj;have:=F.new j hj;simp at this;omega
set_option maxHeartbeats 2000000 in
def ain{n:Nat}(hn:145<n)(w:Wd)(i:Nat)(h:AH)(b u:aA)(H:WH h b u w)(hi:i<w.jQ.length)(hw:w.jQ.length<=200)(m:Mg)(hm:m=w.jQ[i])(k:Nat)(hk:m.to=(k:Int))(Jc:k<4)(bo:Bo)(yU:k<w.bs.length)(Gy:bo=w.bs[k])(pt:Pt)(wz:k<w.ps.length)(hpt:pt=w.ps[k])(hob:OkB bo)(hpr:pt.ready.length<=1000000)(hpd:pt.did.length<=1000000)(dd:Bool×ay)(vu:k<w.did.length)(Br:dd=w.did[k])(hdn:dd.2.length<=1000000):
  ∃h' b' u',jM (jJ.jG n) 74 [.agg (WC b u w),.int .i64 i,.bool false] h=some (.agg (WC b' u' (rm jH kr (oQ (tN w i) k bo m) k pt dd m)),h')/\WH h' b' u' (rm jH kr (oQ (tN w i) k bo m) k pt dd m)/\Fw h b h' b':=by
 rw[ph 74 rfl hn rfl,jy];have hl:=H.lt;have hb0:=hl 0 af
 have zW:=hl 1 af
 have xl:=hl 2 af
 have Gz:=hl 3 af
 have hb4:=hl 4 af
 have r0:=(aF.1 H.r0).2;have r1:=(aF.1 H.r1).2;have r2:=(aF.1 H.r2).2;have r4:=(aF.1 H.r4).2;have h35:=aiH (n:=145) af pt m hpr hpd
 let⟨fo,h37⟩:=aiI (n:=145) af bo m hob
 have htl:=K0 (b:=bo) (m:=m) λc hc=>(hob.2 c hc).1.1
 have hal:=amz (p:=pt) (m:=m);have Wa:¬(k:Int)<0:=aa
 have V9:¬(4:Int)<=(k:Int):=aa
 unfold rm oQ tN;let⟨fr,to,kind,fn,nu,fd,da⟩:=m;simp only at hk;subst hk;simp only[Mv,Bv]at h37;obtain⟨th,hth⟩:∃th,th=pQ jH kr pt ⟨fr,(k:Int),kind,fn,nu,fd,da⟩:=⟨_,rfl⟩;rw[<-hth]at h35 hal⊢;simp only[Mv,Pv]at h35;obtain⟨rest,xk⟩:∃rest,rest=w.jQ.take i++w.jQ.drop (i+1):=⟨_,rfl⟩;have t3:List.take i (List.take i (w.jQ.map Mv))=List.take i (w.jQ.map Mv):=by rw[gq,jw]
 have t4:List.take (w.jQ.length-(i+1)) (List.drop (i+1) (w.jQ.map Mv))=List.drop (i+1) (w.jQ.map Mv):=br ah
 have t5:List.take i (w.jQ.map Mv)++List.drop (i+1) (w.jQ.map Mv)=rest.map Mv:=by rw[xk,cZ,fT,ia]
 have t6:i+(w.jQ.length-(i+1))=rest.length:=by rw[xk];simp;omega
 have z1:kK 5 (List.take i (w.jQ.map Mv))=true:=by rw[<-fT];exact szM _
 have z2:kK 5 (List.drop (i+1) (w.jQ.map Mv))=true:=by rw[<-ia];exact szM _
 rw[<-xk];obtain⟨tb,htb⟩:∃tb,tb=qY bo ⟨fr,(k:Int),kind,fn,nu,fd,da⟩:=⟨_,rfl⟩;rw[<-htb]at h37 htl⊢;have hnb:∀j,j<5->¬h.length=b j:=λj hj=>by have:=hl j hj;omega
 have HA:=((H.bs (w.bs.set k tb.1)).app (Y:=[.var [.own (b 0) (u 0) 0 w.bs.length,.own (b 1) (u 1) 0 w.ps.length,.own (h.length+3) 1 0 rest.length,.own (b 3) (u 3) 0 w.jE.length,.own (b 4) (u 4) 0 w.did.length],V5,.var [I fr,I k,I kind,.jB fn (nu.map I),.jB fd (Bs da)],.row 1 5 (rest.map Mv),.var [I tb.1.id,I tb.1.next,.jB tb.1.fc (tb.1.cases.map Cv)]]) (by
  simp only[aL,bL,aQ,bq,Cl,bH,dh,rQ,tV,dN,aH,decide_eq_true_eq];refine⟨⟨?_,?_,?_,?_,?_⟩,?_⟩
  all_goals first | omega | simp[AV.lT,AV.kZ])).jQ (h.length+3) 1 rest (by rw[aV ah];simp) λj hj _=>by have:=hl j hj;omega
 let⟨h2,b2,u2,Jy,H2,F2⟩:=s71 (n:=145) af _ tb.2 fo _ _ _ HA (by simp only;rw[<-t6];omega) htl
 have FB:=(((Fz.Gl h.length h b 0 af (.row (u 0) 3 ((w.bs.set k tb.1).map Bv))).trans (Fz.app b ah _)).trans (Fz.mv h.length _ b 2 (h.length+3) aa)).trans (F2.z (N:=h.length) (by simp only[aL,bL];omega))
 let⟨⟨p0,hp0⟩,q1,⟨p2,hp2⟩,Jj⟩:=abD F2 λj hj=>by
  have:=hl j hj
  by_cases e:j=2
  .exact .inr (by rw[if_pos e];omega)
  .exact .inl (by rw[if_neg e];exact this)
 have tQ:=H2.lt;have g1:=(aF.1 H2.r1).2;have g4:=(aF.1 H2.r4).2;have k1:=tQ 1 af
 have k4:=tQ 4 af
 have m1:=Jj 1 af
 have m4:=Jj 4 af
 have p1:=(aF.1 q1).1;have OE:(lV rest tb.2).length<=200:=by unfold lV;simp only[aL,bM];rw[<-t6];omega
 simp only[kf]at g1 g4 H2 Jy;simp only[WC,Bv,dK,bL,if_true,show ¬(0:Nat)=2 from by decide,show ¬(1:Nat)=2 from by decide,show ¬(3:Nat)=2 from by decide,show ¬(4:Nat)=2 from by decide,if_false]at Jy
 have m14:¬b2 1=b2 4:=H2.ne 1 4 af af af
 have aoS:¬b2 4=b2 1:=λe=>m14 e.symm
 let⟨df,dl⟩:=dd;simp only at hdn;let⟨H5,F5⟩:=H2.self (λj hj=>Ne.symm (Jj j hj).1) (aN _) (w.ps.set k th.1)
 have hl5:=λj hj=>Ne.symm (Jj j hj).2.1
 by_cases hid:th.2.2=0
 .let⟨h3,b3,u3,e3,⟨po3,Wg⟩,H3,F3⟩:=Io FB hl5 q1 (H5.app (Y:=[.var [I th.1.id,.jB th.1.fr (th.1.ready.map Rv),.jB th.1.fd (th.1.did.map I)]]) (by simp[Cl,rQ,tV,AV.lT,AV.kZ])) (F5.trans (Fz.app b2 aj _)) (by rw[aK (an p1),aJ m1.2.1,aJ aa]) th.2.1 OE aa
  simp only[kf,ng,if_pos hid]at H3 F3 e3⊢;refine⟨_,_,_,?_,H3,F3.w⟩;simp only[WC,Pv,dK,bL]at e3;simp(disch:=omega)[c74,WC,r0,r2,hi,<-hm,Mv,EF,Bz,vB,AA,pz,t3,t4,t5,t6,z1,z2,Wa,V9,yU,<-Gy,Bv,h37,Jy,hp0,hp2,g1,wz,<-hpt,Pv,h35,hid,dsp,dgp,e3,Wg]
  done
 .let⟨h3,b3,u3,e3,⟨po3,Wg⟩,H3,F3⟩:=Io FB hl5 q1 ((H5.did (w.did.set k (false,dl++[th.2.2]))).app (Y:=[.var [I th.1.id,.jB th.1.fr (th.1.ready.map Rv),.jB th.1.fd (th.1.did.map I)],.qa 1 1 (dl.map I++[I th.2.2])]) (by simp[Cl,rQ,tV,AV.lT,AV.kZ])) ((F5.trans (Fz.Gl h.length _ b2 4 af _)).trans (Fz.app b2 aj _)) (by rw[aK (an p1),aJ m4.2.1,aJ m1.2.1,aJ aa]) th.2.1 OE aa
  simp only[kf,ng,if_neg hid]at H3 F3 e3⊢;refine⟨_,_,_,?_,H3,F3.w⟩;simp only[WC,Pv,dK,bL,dv,cZ,bF,bQ]at e3;simp(disch:=omega)[c74,WC,r0,r2,hi,<-hm,Mv,EF,Bz,vB,AA,pz,t3,t4,t5,t6,z1,z2,Wa,V9,yU,<-Gy,Bv,h37,Jy,hp0,hp2,g1,g4,wz,<-hpt,Pv,h35,hid,vu,<-Br,dv,dsp,alN,dgp,alP,dgg,afe,e3,Wg]
  done
set_option maxHeartbeats 2000000 in
def aim{n:Nat}(hn:145<n)(w:Wd)(i:Nat)(h:AH)(b u:aA)(H:WH h b u w)(hi:i<w.jQ.length)(hw:w.jQ.length<=200)(m:Mg)(hm:m=w.jQ[i])(k:Nat)(hk:m.to=(k:Int))(Jc:k<4)(bo:Bo)(yU:k<w.bs.length)(Gy:bo=w.bs[k])(pt:Pt)(wz:k<w.ps.length)(hpt:pt=w.ps[k])(hob:OkB bo)(hpr:pt.ready.length<=1000000)(hpd:pt.did.length<=1000000)(dd:Bool×ay)(vu:k<w.did.length)(Br:dd=w.did[k])(hdn:dd.2.length<=1000000):
  ∃h' b' u',jM (jJ.jG n) 74 [.agg (WC b u w),.int .i64 i,.bool true] h=some (.agg (WC b' u' (rm jH kr (oQ w k bo m) k pt dd m)),h')/\WH h' b' u' (rm jH kr (oQ w k bo m) k pt dd m)/\Fw h b h' b':=by
 rw[ph 74 rfl hn rfl,jy];have hl:=H.lt;have hb0:=hl 0 af
 have zW:=hl 1 af
 have xl:=hl 2 af
 have Gz:=hl 3 af
 have hb4:=hl 4 af
 have r0:=(aF.1 H.r0).2;have r1:=(aF.1 H.r1).2;have r2:=(aF.1 H.r2).2;have r4:=(aF.1 H.r4).2;have h35:=aiH (n:=145) af pt m hpr hpd
 let⟨fo,h37⟩:=aiI (n:=145) af bo m hob
 have htl:=K0 (b:=bo) (m:=m) λc hc=>(hob.2 c hc).1.1
 have hal:=amz (p:=pt) (m:=m);have Wa:¬(k:Int)<0:=aa
 have V9:¬(4:Int)<=(k:Int):=aa
 unfold rm oQ;let⟨fr,to,kind,fn,nu,fd,da⟩:=m;simp only at hk;subst hk;simp only[Mv,Bv]at h37;obtain⟨th,hth⟩:∃th,th=pQ jH kr pt ⟨fr,(k:Int),kind,fn,nu,fd,da⟩:=⟨_,rfl⟩;rw[<-hth]at h35 hal⊢;simp only[Mv,Pv]at h35;obtain⟨tb,htb⟩:∃tb,tb=qY bo ⟨fr,(k:Int),kind,fn,nu,fd,da⟩:=⟨_,rfl⟩;rw[<-htb]at h37 htl⊢;have hnb:∀j,j<5->¬h.length=b j:=λj hj=>by have:=hl j hj;omega
 have HA:=(H.bs (w.bs.set k tb.1)).app (Y:=[.var (WC b u w),V5,.var [I fr,I k,I kind,.jB fn (nu.map I),.jB fd (Bs da)],.var [I tb.1.id,I tb.1.next,.jB tb.1.fc (tb.1.cases.map Cv)]]) (by
  simp only[WC];simp only[aL,bL,aQ,bq,Cl,bH,dh,rQ,tV,dN,aH,decide_eq_true_eq];refine⟨⟨?_,?_,?_,?_,?_⟩,?_⟩
  all_goals first | omega | simp[AV.lT,AV.kZ])
 let⟨h2,b2,u2,Jy,H2,F2⟩:=s71 (n:=145) af _ tb.2 fo _ _ _ HA hw htl
 have FB:=((Fz.Gl h.length h b 0 af (.row (u 0) 3 ((w.bs.set k tb.1).map Bv))).trans (Fz.app b ah _)).trans (F2.z (N:=h.length) (by simp only[aL,bL];omega))
 let⟨⟨p0,hp0⟩,q1,⟨p2,hp2⟩,Jj⟩:=abD F2 λj hj=>by
  have:=hl j hj;omega
 have tQ:=H2.lt;have g1:=(aF.1 H2.r1).2;have g4:=(aF.1 H2.r4).2;have k1:=tQ 1 af
 have k4:=tQ 4 af
 have m1:=Jj 1 af
 have m4:=Jj 4 af
 have p1:=(aF.1 q1).1;have OE:(lV w.jQ tb.2).length<=200:=by unfold lV;simp only[aL,bM];omega
 simp only[kf]at g1 g4 H2 Jy;simp only[WC,Bv,dK,bL,show ¬(0:Nat)=2 from by decide,show ¬(1:Nat)=2 from by decide,show ¬(3:Nat)=2 from by decide,show ¬(4:Nat)=2 from by decide]at Jy
 have m14:¬b2 1=b2 4:=H2.ne 1 4 af af af
 have aoS:¬b2 4=b2 1:=λe=>m14 e.symm
 let⟨df,dl⟩:=dd;simp only at hdn;let⟨H5,F5⟩:=H2.self (λj hj=>Ne.symm (Jj j hj).1) (aN _) (w.ps.set k th.1)
 have hl5:=λj hj=>Ne.symm (Jj j hj).2.1
 by_cases hid:th.2.2=0
 .let⟨h3,b3,u3,e3,⟨po3,Wg⟩,H3,F3⟩:=Io FB hl5 q1 (H5.app (Y:=[.var [I th.1.id,.jB th.1.fr (th.1.ready.map Rv),.jB th.1.fd (th.1.did.map I)]]) (by simp[Cl,rQ,tV,AV.lT,AV.kZ])) (F5.trans (Fz.app b2 aj _)) (by rw[aK (an p1),aJ m1.2.1,aJ aa]) th.2.1 OE aa
  simp only[kf,ng,if_pos hid]at H3 F3 e3⊢;refine⟨_,_,_,?_,H3,F3.w⟩;simp only[WC,Pv,dK,bL]at e3;simp(disch:=omega)[c74,WC,r0,r2,hi,<-hm,Mv,EF,Bz,vB,AA,pz,Wa,V9,yU,<-Gy,Bv,h37,Jy,hp0,hp2,g1,wz,<-hpt,Pv,h35,hid,dsp,dgp,e3,Wg]
  done
 .let⟨h3,b3,u3,e3,⟨po3,Wg⟩,H3,F3⟩:=Io FB hl5 q1 ((H5.did (w.did.set k (false,dl++[th.2.2]))).app (Y:=[.var [I th.1.id,.jB th.1.fr (th.1.ready.map Rv),.jB th.1.fd (th.1.did.map I)],.qa 1 1 (dl.map I++[I th.2.2])]) (by simp[Cl,rQ,tV,AV.lT,AV.kZ])) ((F5.trans (Fz.Gl h.length _ b2 4 af _)).trans (Fz.app b2 aj _)) (by rw[aK (an p1),aJ m4.2.1,aJ m1.2.1,aJ aa]) th.2.1 OE aa
  simp only[kf,ng,if_neg hid]at H3 F3 e3⊢;refine⟨_,_,_,?_,H3,F3.w⟩;simp only[WC,Pv,dK,bL,dv,cZ,bF,bQ]at e3;simp(disch:=omega)[c74,WC,r0,r2,hi,<-hm,Mv,EF,Bz,vB,AA,pz,Wa,V9,yU,<-Gy,Bv,h37,Jy,hp0,hp2,g1,g4,wz,<-hpt,Pv,h35,hid,vu,<-Br,dv,dsp,alN,dgp,alP,dgg,afe,e3,Wg]
  done
open Go.Am Go.Am.Nm Go.Lib Go.Cr
def Az(j:Nat):Nat:=([3,3,5,3,1][j]?).getD 0
def yf(w:Wd):Nat->List AV
 |0=>w.bs.map Bv
 |1=>w.ps.map Pv
 |2=>w.jQ.map Mv
 |3=>w.jE.map Dv
 |_=>w.did.map dv
variable{b:aA}
def WH.r{h:AH}{u:aA}{w:Wd}(H:WH h b u w):∀j,j<5->h[b j]? = some (.row (u j) (Az j) (yf w j)):=λj hj=>by
 match j,hj with
 |0,_=>exact H.r0
 |1,_=>exact H.r1
 |2,_=>exact H.r2
 |3,_=>exact H.r3
 |4,_=>exact H.r4
def WH.of{h:AH}{u:aA}{w:Wd}(r:∀j,j<5->h[b j]? = some (.row (u j) (Az j) (yf w j)))(ne:∀i j,i<5->j<5->i≠j->b i≠b j)(cl:Cl h.length h):WH h b u w :=
 ⟨r 0 af,r 1 af,r 2 af,r 3 af,r 4 af,ne,cl⟩
def RT(b u:aA)(w:Wd):WC b u w=(List.range 5).map λj=>.own (b j) (u j) 0 (yf w j).length:=by
 simp[WC,List.range,List.range.loop,yf]
def KG{u:aA}{w:Wd}{j:Nat}(hj:j<5):(WC b u w)[j]? = some (.own (b j) (u j) 0 (yf w j).length):=by
 rw[RT,bW,gz hj];rfl
def Ym{u:aA}{w:Wd}{j:Nat}(hj:j<5)(k v:Nat):(WC b u w).set j (.own k v 0 (yf w j).length)=WC (λi=>if i=j then k else b i) (λi=>if i=j then v else u i) w:=by
 apply dr;intro i
 by_cases hi:i<5
 .rw[KG hi]
  by_cases e:i=j
  .subst e;rw[aZ (by rw[RT];simpa using hi),if_pos rfl,if_pos rfl]
  .rw[aJ (Ne.symm e),KG hi,if_neg e,if_neg e]
 .rw[b9 (by simp[RT];omega),b9 (by simp[RT];omega)]
def Lr(e:Env)(t k τ:Nat)(he:e t = .ptr k 0 0 0)(hk:k<τ)(j:Nat)(hj:j<5)(h:AH)(b u:aA)(w:Wd)(H:WH h b u w)(hc:h[k]? = some (.var (WC b u w)))(hr:nV h (τ+j))(hnb:∀i,i<5->i≠j->b i≠τ+j)(hkb:∀i,i<5->b i≠k)(apy:b j=τ+j\/τ+5<=b j):
  ∃u' h',tD (τ+j) ⟨e,h⟩ (t,j,Az j)=⟨e,h'⟩/\h'.length=h.length/\WH h' (λi=>if i=j then τ+j else b i) u' w/\h'[k]? = some (.var (WC (λi=>if i=j then τ+j else b i) u' w))/\
   (∀i,nV h i->nV h' i)/\(∀i,i<τ->i≠k->h'[i]? = h[i]?):=by
 have yS:k<h.length:=(aF.1 hc).1;have yU:=H.lt j hj;let⟨B,hB,hB2⟩:=hr;have apx:τ+j<h.length:=(aF.1 hB).1
 have hg:r6 ⟨e,h⟩ t j=some (.own (b j) (u j) 0 (yf w j).length):=by
  simp only[r6,he,hc,KG hj]
 by_cases e1:b j=τ+j
 .have eb:(λi=>if i=j then τ+j else b i)=b:=by funext i;by_cases e:i=j<;>simp[e,e1]
  refine⟨u,h,?_,rfl,by rw[eb];exact H,by rw[eb];exact hc,λ_ h=>h,λ_ _ _=>rfl⟩
  simp only[tD,hg,if_pos e1]
 .have hx:τ+5<=b j:=by rcases apy with h | h;exact absurd h e1;exact h
  cases B with
  |row v sz es =>
   refine⟨λi=>if i=j then v+1 else u i,((h.set (b j) (.row (u j+1) (Az j) [])).set (τ+j) (.row (v+1) (Az j) (yf w j))).set k (.var (WC (λi=>if i=j then τ+j else b i) (λi=>if i=j then v+1 else u i) w)),?_,ah,?_,?_,λi hi=>?_,λi hi hne=>?_⟩
   .simp only[tD,hg,if_neg e1,H.r j hj,hB,and_self,if_true]
    have h1:((h.set (b j) (.row (u j+1) (Az j) [])).set (τ+j) (.row (v+1) (Az j) (yf w j)))[k]? = some (.var (WC b u w)):=by
     rw[aJ aa,aJ aa,hc]
    simp only[AE,he,h1,Ym hj]
   .refine WH.of (λi hi=>?_) (λi i' hi hi' hne=>?_) ?_
    .by_cases e2:i=j
     .subst e2;simp only[if_true];rw[aJ aa,aZ (an apx)]
     .simp only[if_neg e2];rw[aJ (Ne.symm (hkb i hi)),aJ (Ne.symm (hnb i hi e2)),aJ (H.ne j i hj hi (Ne.symm e2)),H.r i hi]
    .by_cases e2 : i = j
     .subst e2;simp only[if_true,if_neg (Ne.symm hne)];exact Ne.symm (hnb i' hi' (Ne.symm hne))
     .simp only[if_neg e2]
      by_cases Jv:i'=j
      .simp only[if_pos Jv];exact hnb i hi e2
      .simp only[if_neg Jv];exact H.ne i i' hi hi' hne
    .simp only[bL];refine((H.cl.set _ (B:=.row (u j+1) (Az j) []) rfl).set _ (B:=.row (v+1) (Az j) (yf w j)) rfl).set _ (mP λi hi=>?_)
     by_cases e2:i=j
     .simp only[if_pos e2];omega
     .simp only[if_neg e2];exact H.lt i hi
   .rw[aZ (an yS)]
   .by_cases e2:i=k
    .subst e2;let⟨C,q1,q2⟩:=hi;rw[hc]at q1;cases q1;cases q2
    .let⟨C,q1,q2⟩:=(hi.set (k:=b j) (B:=.row (u j+1) (Az j) []) rfl).set (k:=τ+j) (B:=.row (v+1) (Az j) (yf w j)) rfl;exact⟨C,by rw[aJ (Ne.symm e2)];exact q1,q2⟩
   .rw[aJ (Ne.symm hne),aJ aa,aJ aa]
  |_=>cases hB2
def aiR(e:Env)(t k τ:Nat)(he:e t = .ptr k 0 0 0)(hk:k<τ)(h:AH)(b u:aA)(w:Wd)(H:WH h b u w)(hc:h[k]? = some (.var (WC b u w)))(hr:∀j,j<5->nV h (τ+j))(hb:∀j,j<5->b j=τ+j\/τ+5<=b j):
  ∃v h',kO τ [(t,0,3),(t,1,3),(t,2,5),(t,3,3),(t,4,1)] ⟨e,h⟩=⟨e,h'⟩/\h'.length=h.length/\WH h' (λj=>τ+j) v w/\h'[k]? = some (.var (WC (λj=>τ+j) v w))/\∀i,i<τ->i≠k->h'[i]? = h[i]? := by
 let⟨u0,h0,a0,l0,H0,c0,r0,o0⟩:=Lr e t k τ he hk 0 af h b u w H hc (hr 0 af) (λi hi hne=>by rcases hb i hi with e | e<;>omega) (λi hi=>by rcases hb i hi with e | e<;>omega) (hb 0 af)
 have hb0:∀j,j<5->(if j=0 then τ+0 else b j)=τ+j\/τ+5<=(if j=0 then τ+0 else b j):=λj hj=>by
  by_cases e:j=0
  .subst e;exact .inl rfl
  .rw[if_neg e];exact hb j hj
 let⟨u1,h1,a1,l1,H1,c1,r1,o1⟩:=Lr e t k τ he hk 1 af h0 _ u0 w H0 c0 (r0 _ (hr 1 af)) (λi hi hne=>by rcases hb0 i hi with e | e<;>omega) (λi hi=>by rcases hb0 i hi with e | e<;>omega) (hb0 1 af)
 have zW:∀j,j<5->(if j=1 then τ+1 else if j=0 then τ+0 else b j)=τ+j\/τ+5<=(if j=1 then τ+1 else if j=0 then τ+0 else b j):=λj hj=>by
  by_cases e:j=1
  .subst e;exact .inl rfl
  .rw[if_neg e];exact hb0 j hj
 let⟨u2,h2,a2,l2,H2,c2,r2,o2⟩:=Lr e t k τ he hk 2 af h1 _ u1 w H1 c1 (r1 _ (r0 _ (hr 2 af))) (λi hi hne=>by rcases zW i hi with e | e<;>omega) (λi hi=>by rcases zW i hi with e | e<;>omega) (zW 2 af)
 have xl:∀j,j<5->(if j=2 then τ+2 else if j=1 then τ+1 else if j=0 then τ+0 else b j)=τ+j\/τ+5<=(if j=2 then τ+2 else if j=1 then τ+1 else if j=0 then τ+0 else b j):=λj hj=>by
  by_cases e:j=2
  .subst e;exact .inl rfl
  .rw[if_neg e];exact zW j hj
 let⟨u3,h3,Yi,lo3,H3,yF,r3,o3⟩:=Lr e t k τ he hk 3 af h2 _ u2 w H2 c2 (r2 _ (r1 _ (r0 _ (hr 3 af)))) (λi hi hne=>by rcases xl i hi with e | e<;>omega) (λi hi=>by rcases xl i hi with e | e<;>omega) (xl 3 af)
 have Gz:∀j,j<5->(if j=3 then τ+3 else if j=2 then τ+2 else if j=1 then τ+1 else if j=0 then τ+0 else b j)=τ+j\/τ+5<=(if j=3 then τ+3 else if j=2 then τ+2 else if j=1 then τ+1 else if j=0 then τ+0 else b j):=λj hj=>by
  by_cases e:j=3
  .subst e;exact .inl rfl
  .rw[if_neg e];exact xl j hj
 let⟨u4,h4,Yh,lo4,H4,QU,r4,o4⟩:=Lr e t k τ he hk 4 af h3 _ u3 w H3 yF (r3 _ (r2 _ (r1 _ (r0 _ (hr 4 af))))) (λi hi hne=>by rcases Gz i hi with e | e<;>omega) (λi hi=>by rcases Gz i hi with e | e<;>omega) (Gz 4 af)
 have eq:∀j,j<5->(if j=4 then τ+4 else if j=3 then τ+3 else if j=2 then τ+2 else if j=1 then τ+1 else if j=0 then τ+0 else b j)=τ+j:=λj hj=>by
  match j,hj with
  |0,_=>rfl
  |1,_=>rfl
  |2,_=>rfl
  |3,_=>rfl
  |4,_=>rfl
 refine⟨u4,h4,?_,by rw[lo4,lo3,l2,l1,l0],?_,?_,λi hi hne=>by rw[o4 i hi hne,o3 i hi hne,o2 i hi hne,o1 i hi hne,o0 i hi hne]⟩
 .simp only[kO];rw[show tD τ ⟨e,h⟩ (t,0,3)=⟨e,h0⟩from a0,show tD (τ+1) ⟨e,h0⟩ (t,1,3)=⟨e,h1⟩from a1,show tD (τ+1+1) ⟨e,h1⟩ (t,2,5)=⟨e,h2⟩from a2,show tD (τ+1+1+1) ⟨e,h2⟩ (t,3,3)=⟨e,h3⟩from Yi,show tD (τ+1+1+1+1) ⟨e,h3⟩ (t,4,1)=⟨e,h4⟩from Yh]
 .exact WH.of (λj hj=>by
   have:=H4.r j hj
   rwa [eq j hj]at this) (λi j hi hj hne=>aa) H4.cl
 .rw[QU];rfl
def UL(w:Wd):AH:=[.row 0 3 (w.bs.map Bv),.row 0 3 (w.ps.map Pv),.row 0 5 (w.jQ.map Mv),.row 0 3 (w.jE.map Dv),.row 0 1 (w.did.map dv)]
def Hd(P:AH)(k:Nat)(w:Wd):AH:=P.set k (.var (WC (λj=>P.length+j) (λ_=>0) w))++UL w
def Ss(w:Wd)(j:Nat)(hj:j<5):(UL w)[j]? = some (.row 0 (Az j) (yf w j)):=by
 match j,hj with
 |0,_=>rfl
 |1,_=>rfl
 |2,_=>rfl
 |3,_=>rfl
 |4,_=>rfl
def l9(P:AH)(k:Nat)(w:Wd):(Hd P k w).length=P.length+5:=by simp[Hd,UL]
def xJ(P:AH)(k:Nat)(w:Wd)(j:Nat)(hj:j<5):(Hd P k w)[P.length+j]? = some (.row 0 (Az j) (yf w j)):=by
 unfold Hd;rw[aV ah,bL,eN,Ss w j hj]
def tv(P:AH)(k:Nat)(w:Wd)(hk:k<P.length):(Hd P k w)[k]? = some (.var (WC (λj=>P.length+j) (λ_=>0) w)):=EF hk
def uq(P:AH)(k:Nat)(w:Wd)(i:Nat)(hi:i<P.length)(hne:i≠k):(Hd P k w)[i]? = P[i]? := Bz hi (Ne.symm hne)
def F7{P:AH}{k:Nat}(w:Wd)(hk:k<P.length)(oZ:Cl P.length P):WH (Hd P k w) (λj=>P.length+j) (λ_=>0) w:=by
 refine WH.of (λj hj=>xJ P k w j hj) (λi j _ _ h=>aa) ?_
 rw[l9];unfold Hd;refine((oZ.mono aa).set _ (mP λj hj=>aa)).app ?_
 rfl
def sj(L:Nat)(R:ax)(h0:AH):∀(h:AH)(i k:Nat),(j5 L R h0 i h)[k]? = (h[k]?).map (kL L R h0 (i+k))
 | [],_,_=>rfl
 |B::h,i,0=>rfl
 |B::h,i,k+1=>by
  simp only[j5,bG,sj L R h0 h (i+1) k];rw[show i+1+k=i+(k+1) by omega]
def LL{L n:Nat}{R:ax}{h0:AH}{i:Nat}{B:AB}(hn:n<=L)(hR:∀r∈R,n<=r)(hB:rQ n B=true)(hi:R.contains i=false):kL L R h0 i B=B:=by
 cases B with
 |var cs =>
  simp only[kL]
  congr 1
  simp only[rQ,aO]at hB
  conv=>rhs;rw[<-fF cs]
  exact cS λx hx=>uJ hn hR (hB x hx)
 |row v sz es=>simp only[kL,hi];rfl
 |qa v sz es=>simp only[kL,hi];rfl
 |gone=>rfl
 |mp es=>simp[rQ]at hB
 |mps es=>simp[rQ]at hB
def abP(e:Env)(t k τ:Nat)(he:e t = .ptr k 0 0 0)(P:AH)(hτ:τ=P.length)(hk:k<τ)(hP:Cl τ P)(h:AH)(b u:aA)(w:Wd)(H:WH h b u w)(hc:h[k]? = some (.var (WC b u w)))(hr:∀j,j<5->nV h (τ+j))(hb:∀j,j<5->b j=τ+j\/τ+5<=b j)
  (ho:∀i,i<τ->i≠k->h[i]? = P[i]?) (keep:ax) :
  ∃h',head (τ+5) [τ,τ+1,τ+2,τ+3,τ+4] keep (kO τ [(t,0,3),(t,1,3),(t,2,5),(t,3,3),(t,4,1)] ⟨e,h⟩)=(sR (τ+5) [τ,τ+1,τ+2,τ+3,τ+4] h' e keep,Hd P k w):=by
 let⟨v,h',a,l,H',c,o⟩:=aiR e t k τ he hk h b u w H hc hr hb;refine⟨h',?_⟩;rw[a,head_eq]
 congr 1
 have hl:τ+5<=h'.length:=by
  have:=H'.lt 4 af
  omega
 apply dr;intro i;rw[sj,bE]
 by_cases hi:i<τ+5
 .rw[fu hi]
  by_cases h1:i<τ
  .have hni:[τ,τ+1,τ+2,τ+3,τ+4].contains i=false:=by
    rw[gP];intro hh;simp at hh;omega
   by_cases h2:i=k
   .subst h2;rw[c,tv P i w aa]
    simp only[bJ,kL,bp,AB.var.injEq];subst hτ;have r0:=H'.r0;simp only[ct]at r0;simp[WC,j9,r0,H'.r1,H'.r2,H'.r3,H'.r4]
   .rw[o i h1 h2,ho i h1 h2,uq P k w i aa h2]
    cases hB:P[i]? with
    |none=>rfl
    |some B=>rw[bJ,LL (n:=τ) aa (λr hr=>by simp at hr;omega) (aO.1 hP B (aR hB)) hni]
  .obtain⟨j,rfl⟩:∃j,i=τ+j:=⟨i-τ,aa⟩
   have hj:j<5:=aa
   rw[H'.r j hj];have:=xJ P k w j hj;rw[<-hτ]at this;rw[this]
   have Mo:[τ,τ+1,τ+2,τ+3,τ+4].contains (τ+j)=true:=by
    simp;omega
   simp only[bJ,kL,Mo,if_true]
 .rw[b9 aj,b9 (by rw[l9];omega)]
  rfl
open Go.Am Go.Am.Nm Go.Lib Go.Cr
def acZ{n:Nat}(hn:147<n)(k:Nat)(hk:k<256):(jJ.jG n).p 128 [.int .u8 k]=some (.str (vW k)):=by
 rw[pp 128 rfl hn rfl,jA,jy];have Ti:((k:Int).tmod 8)=((k%8:Nat):Int):=by rw[gu aa];omega
 have h8:k%8<8:=dP _ af
 unfold vW;generalize k%8=q at Ti h8
 match q,h8 with
 |0,_=>simp(disch:=omega)[J5,Ti]
 |1,_=>simp(disch:=omega)[J5,Ti]
 |2,_=>simp(disch:=omega)[J5,Ti]
 |3,_=>simp(disch:=omega)[J5,Ti]
 |4,_=>simp(disch:=omega)[J5,Ti]
 |5,_=>simp(disch:=omega)[J5,Ti]
 |6,_=>simp(disch:=omega)[J5,Ti]
 |7,_=>simp(disch:=omega)[J5,Ti]
open Go.Am Go.Am.Nm Go.Lib Go.Cr
def wrap_u8(k:Nat):IntKind.u8.wrap (k:Int)=((k%256:Nat):Int):=by
 unfold IntKind.wrap;simp[IntKind.bits,IntKind.signed]
def X8(k:Nat):AV:=.int .u8 (k:Int)
def Xc(x:Ac):List AV:=[X8 x.op,X8 x.who,X8 x.to,X8 x.a0,X8 x.a1,X8 x.a2]
def Xv(x:Ac):AV:=.agg (Xc x)
structure XOK(x:Ac):Prop where
 op:x.op<256
 who:x.who<256
 to:x.to<256
 a0:x.a0<256
 a1:x.a1<256
 a2:x.a2<256
def Dr(a b:Nat):((a:Int)).tmod (b:Int)=((a%b:Nat):Int):=by
 rw[gu aa];omega
def aid(a b:Nat):((a:Int)).tdiv (b:Int)=((a / b:Nat):Int):=by
 rw[Int.tdiv_eq_ediv_of_nonneg aa];omega
def age(x:Ac)(k:Nat):(k%3=0/\x.at3 k=x.a0)\/(k%3=1/\x.at3 k=x.a1)\/(k%3=2/\x.at3 k=x.a2):=by
 have:k%3=0\/k%3=1\/k%3=2:=aa
 unfold Ac.at3
 rcases this with h | h | h<;>rw[h]<;>simp
set_option maxHeartbeats 1000000 in
set_option maxRecDepth 20000 in
def l75{n:Nat}(hn:147<n)(x:Ac)(hx:XOK x)(P:AH)(cl:Cl P.length P)(k:Nat)(hk:k<P.length)(hP:P[k] = .var [.int .u8 x.op,.int .u8 x.who,.int .u8 x.to,.int .u8 x.a0,.int .u8 x.a1,.int .u8 x.a2])(e0:Env)(qo3:e0 3 = .ptr k 0 0 0):
  iter (round (jJ.jG n) [5,6,7,8] [(.exit 0,[5,6])] Q0 e0 (P.length+2) [P.length,P.length+1]) ([.own P.length 0 0 0,.own (P.length+1) 0 0 0,.int .i64 ((x.to%15+1:Nat):Int),.int .i64 0],P++[.row 0 1 [],.row 0 1 []]) =
   some (.exit 0,[.own P.length 0 0 (yl x).1.length,.own (P.length+1) 0 0 (yl x).2.1.length],P++[.row 0 1 ((yl x).1.map I),.row 0 1 ((yl x).2.1.map AV.str)]):=by
 have hnt:=λh0 Y=>qt (G:=P) rfl cl (P.length+2) [P.length,P.length+1] aa (λr hr=>by simp at hr;omega) h0 Y
 have uv:=lN P;have ND:¬k=P.length:=aa
 have hk2:¬k=P.length+1:=aa
 have := jU (f := round (jJ.jG n) [5, 6, 7, 8] [(.exit 0, [5, 6])] Q0 e0 (P.length + 2) [P.length, P.length + 1])
  (λi (s:ay×List au×Nat)=>([.own P.length 0 0 s.1.length,.own (P.length+1) 0 0 s.2.1.length,.int .i64 (s.2.2:Int),.int .i64 (i:Int)],P++[.row 0 1 (s.1.map I),.row 0 1 (s.2.1.map AV.str)])) [0,1,2,3]
  (BR x) (λs=>(.exit 0,[.own P.length 0 0 s.1.length,.own (P.length+1) 0 0 s.2.1.length],P++[.row 0 1 (s.1.map I),.row 0 1 (s.2.1.map AV.str)])) (λi s=>s.2.2<=15/\s.1.length<=i/\s.2.1.length<=i)
  (λi hi s hs=>by
   let⟨l,ps,bits⟩:=s;let⟨h1,h2,h3⟩:=hs;simp only at h1 h2 h3;have hi4:i<4:=hi
   have hgi:([0,1,2,3]:ax)[i]=i:=by
    match i,hi4 with
    |0,_=>rfl
    |1,_=>rfl
    |2,_=>rfl
    |3,_=>rfl
   rw[hgi];have b1:((bits:Int)).tmod 2=((bits%2:Nat):Int):=Dr bits 2;have b2:((bits:Int)).tdiv 2=((bits / 2:Nat):Int):=aid bits 2;unfold BR
   by_cases c:bits%2=1
   .rw[if_pos c];refine⟨⟨by simp only;omega,aj,aj⟩,?_⟩
    have X2:((l.length:Int)+1).tmod 3=(((l.length+1)%3:Nat):Int):=Dr (l.length+1) 3
    have u1:∀a:Nat,IntKind.u8.wrap ((a:Int)+IntKind.u8.wrap (i:Int))=(((a+i)%256:Nat):Int):=λa=>by
     rw[wrap_u8,show (a:Int)+((i%256:Nat):Int)=((a+i%256:Nat):Int) by omega,wrap_u8]
     congr 1
     omega
    rcases age x (l.length+1)with⟨m1,m2⟩ | ⟨m1,m2⟩ | ⟨m1,m2⟩
    .rw[m1]at X2;have h46:=acZ (n:=n) hn ((x.a0+i)%256) (dP _ af)
     push_cast at h46;simp(disch:=omega)[round_eq,Fl,qo3,b1,b2,c,X2,pz,hP,hnt,uv,ca 128,h46,u1,m2]
     done
    .rw[m1]at X2;have h46:=acZ (n:=n) hn ((x.a1+i)%256) (dP _ af)
     push_cast at h46;simp(disch:=omega)[round_eq,Fl,qo3,b1,b2,c,X2,pz,hP,hnt,uv,ca 128,h46,u1,m2]
     done
    .rw[m1]at X2;have h46:=acZ (n:=n) hn ((x.a2+i)%256) (dP _ af)
     push_cast at h46;simp(disch:=omega)[round_eq,Fl,qo3,b1,b2,c,X2,pz,hP,hnt,uv,ca 128,h46,u1,m2]
     done
   .rw[if_neg c];refine⟨⟨by simp only;omega,by simp only;omega,by simp only;omega⟩,?_⟩
    have c':bits%2=0:=aa
    simp(disch:=omega)[round_eq,Fl,b1,b2,c',hnt,uv]
    done)
  (λs hs=>by
   simp(disch:=omega)[round_eq,Fl]
   done) ([],[],x.to%15+1) ⟨by simp only;omega,aN _,aN _⟩
 exact this
end Go.Proofs.YtaepagegdgdlhaaGreatDoor.X
