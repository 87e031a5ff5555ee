/- Part of the proof that TopScriptsCard holds. -/
import Derived.Test.YtahlmpbhfljalaaGreatDoorAmR
import Derived.Shelf.Strings.OnBuilder
import Derived.Test.YtahlmpbhfljalaaGreatDoorAmLp
set_option linter.all false
namespace Go.Am
open Go.Shelf Go.RowKit Go.Proofs Go.Lib
abbrev YR:=TypeId×Nat×Nat
structure BdL(P:Program)(ρ:Ren)(ok:List YR):Prop where
 aiP:∀p∈ok,liesAt P P.depth p.1 (p.2.1 / P.cellsOf p.1) p.2.2 (ρ.t 72) 1=true
 size:(P.info? (ρ.t 72)).map (·.size)=some 2
variable{b o sz tb v:Nat}{h h' h2:AH}
section
variable{P:Program}{ρ:Ren}{Z:ay}{β:iW}{h:AH}{w:World}{ok:List YR}
set_option maxHeartbeats 1000000 in
set_option maxRecDepth 100000 in
def Rt(L:Lays.n240 P ρ)(i:(P.info? (ρ.t 72)).map (·.size)=some 2)(b o:Nat)(w:World)(h0:w.cell? ⟨b,o,none⟩=some (.pointer (some ⟨b,o,none⟩))):
  Calls P (ρ.f 240) #[.pointer (some ⟨b,o,none⟩)] w λe w'=>e = .returned (.tuple #[])/\w'=w:=by
 let⟨j,r,_⟩:=dB.1 i;have mixed:=L.mixed;have t72:=L.t72;have a72:=L.a72;have z72:=L.z72;have v72:=L.v72;have n:=run_underlying L.t72;have t70:=L.t70;have a70:=L.a70;have z70:=L.z70;have v70:=L.v70;have q:=run_underlying L.t70;have t9:=L.t9;have a9:=L.a9;have z9:=L.z9;have v9:=L.v9;have v:=run_underlying L.t9;have t4:=L.t4;have a4:=L.a4;have z4:=L.z4;have v4:=L.v4;have x:=run_underlying L.t4
 have t164:=L.t164;have a164:=L.a164;have z164:=L.z164;have v164:=L.v164;have l:=run_underlying L.t164
 go_enter L.f240,Body.n240_ntmps ρ
 go_wp2
 rw[Lib.run_neq_ptr_same w _ L.t70 r]
 go_wp2
 go_end0
 exact⟨rfl,rfl⟩
set_option maxHeartbeats 1000000 in
set_option maxRecDepth 100000 in
def Oq(L:Lays.n240 P ρ)(l:(P.info? (ρ.t 72)).map (·.size)=some 2)(b o n:Nat)(T:TypeId)(w:World)(h0:w.cell? ⟨b,o,none⟩=some (.pointer none))(i:w.shape? b=some (T,n))(A:w.frozen? ⟨b,o,none⟩=false)
  (q:o<n) (hl:liesAt P P.depth T (n / P.cellsOf T) o (ρ.t 72) 1=true) :
  Calls P (ρ.f 240) #[.pointer (some ⟨b,o,none⟩)] w λe w'=>e = .returned (.tuple #[])/\w'=w.setCell ⟨b,o,none⟩ (.pointer (some ⟨b,o,none⟩)):=by
 let⟨j,x,r⟩:=dB.1 l;have mixed:=L.mixed;have t72:=L.t72;have a72:=L.a72;have z72:=L.z72;have v72:=L.v72;have y:=run_underlying L.t72;have t70:=L.t70;have a70:=L.a70;have z70:=L.z70;have v70:=L.v70;have z:=run_underlying L.t70;have t9:=L.t9;have a9:=L.a9;have z9:=L.z9;have v9:=L.v9;have E:=run_underlying L.t9;have t4:=L.t4;have a4:=L.a4;have z4:=L.z4;have v4:=L.v4;have F:=run_underlying L.t4
 have t164:=L.t164;have a164:=L.a164;have z164:=L.z164;have v164:=L.v164;have v:=run_underlying L.t164
 go_enter L.f240,Body.n240_ntmps ρ
 go_wp2
 rw[Lib.run_to_unsafe w ⟨b,o,none⟩ L.t70 L.t164 x (by rw[r];decide) i q]
 simp only[Result.andThen];rw[Oper.upon_value]
 go_wp2
 rw[run_callFunc_extern L.f276 ai ai ai (e:=Extern.AbiNoEscape.same) ai]
 rw[Lib.run_noEscape];simp only[Result.andThen];rw[Oper.upon_value]
 go_wp2
 rw[Lib.run_from_unsafe w ⟨b,o,none⟩ L.t164 L.t70 x i hl];simp only[Result.andThen];rw[Oper.upon_value]
 go_wp2
 go_end0
 exact⟨rfl,rfl⟩
def Rv(ok:List YR)(b o:Nat)(cs:List AV):Option (List AV):=match cs[o]? with
 |some (.bt tb i t none)=>if tb=b/\i=0/\(t,cs.length,o)∈ok then some (cs.set o (.bt b 0 t (some (b,o))))else none
 |some (.bt _ _ _ (some q))=>if q=(b,o)then some cs else none
 |_=>none
def EJ{α:Type}(l:List α)(o:Nat)(x:α)(h:o<l.length):over l o [x]=l.set o x:=by
 rw[dR,if_pos h];simp[over]
def EI{α:Type}(l:List α)(o:Nat)(x y:α)(h:o+1<l.length):over l o [x,y]=(l.set o x).set (o+1) y:=by
 apply dm;intro j;rw[iG _ _ _ aj]
 by_cases h1:j=o
 .subst h1;rw[if_pos ah,aL aa]
  simp[show j<l.length by omega]
 .by_cases h2 : j = o + 1
  .subst h2;rw[if_pos ah]
   simp[h]
  .rw[if_neg aj,aL (Ne.symm h2),aL (Ne.symm h1)]
def rQ{α:Type}{l:List α}{i:Nat}{x:α}(h:l[i]? = some x):l.set i x=l:=by
 apply dm;intro j
 by_cases b:i=j
 .subst b;rw[bh (az.1 h).1,h]
 .rw[aL b]
def Oo(L:Lays.n240 P ρ)(D:BdL P ρ ok)(R:Rel Z β h w){cs l:List AV}(T:h[b]? = some (.var cs))(r:Rv ok b o cs=some l){v:Value}(hv:VR β (Own Z β h) w (.ptr b 0 0 o) v):
  ∃c K elem,v = .pointer (some ⟨c,o,none⟩)/\β b 0=some ⟨some c,0,cs.length,cs.length,elem⟩/\Rel Z β (h.set b (.var l)) K/\Fr Z β h w β (h.set b (.var l)) K/\l.length=cs.length/\
   (∃tb H t,l[o]? = some (.bt tb H t (some (b,o))))/\Calls P (ρ.f 240) #[v] w λe w'=>e = .returned (.tuple #[])/\w'=K:=by
 let⟨c,cur,elem,e1,A,e3,e4⟩:=R.blk b _ T;obtain⟨bd,c',G,S,rfl⟩:=hv.jl;rw[e1]at G;cases G;cases S;have Q:0+0*cs.length+o=o:=aa
 simp only[Q];unfold Rv at r;split at r
 .rename_i tb H t i;split at r
  .rename_i M;obtain⟨rfl,rfl,F⟩:=M;cases r;have n:=(az.1 i).1;let⟨u,g1,g2,g3⟩:=e4 o _ i;have E:u = .pointer none/\t=elem:=by
    cases g3 with
    |pure _ _ N=>cases N
    |Tx _ _ _ bd h1 h2 =>
     rw[e1]at h1;cases h1;exact⟨rfl,(h2 ah).1.symm⟩
   obtain⟨rfl,rfl⟩:=E;have x:w.cell? ⟨c,o,none⟩=some (.pointer none):=by rw[cell_of_row w c o cur t (0,0) A];exact g1
   have z:=Oq L D.size c o cs.length t w x (by simp[World.shape?,A,e3]) (Lib.frozen_of_heap A o) n (D.aiP _ F)
   let⟨c2,akL,U,q1,Y,q3,W,X⟩:=R.tj T o [.bt tb 0 t (some (tb,o))] [.pointer (some ⟨c,o,none⟩)] rfl aj (by simp[Value.oneCell']) (λj y u hy E=>by
    match j with
    |0 =>
     cases hy;cases E;have:=VR.Oz (β:=β) (O:=Own Z β h) (w:=w) tb 0 t tb o _ _ c e1 (λ_=>⟨rfl,rfl⟩) e1 rfl
     simpa using this
    |j+1=>simp at hy)
   rw[e1]at q1;cases q1;rw[A]at Y;cases Y;rw[EJ _ _ _ n]at W X
   have hw:w.setRow c (over cur.toList o [Value.pointer (some ⟨c,o,none⟩)]).toArray=w.setCell ⟨c,o,none⟩ (.pointer (some ⟨c,o,none⟩)):=by
    rw[setCell_eq_setRow w c o cur _ (0,0) _ A,EJ _ _ _ (by simpa[e3]using n)]
    congr 1
    apply cq;simp
   rw[hw]at W X;refine⟨c,_,t,rfl,e1,W,X,ah,⟨tb,0,t,by simp[n]⟩,z⟩
  .cases r
 .rename_i tb H t q i;split at r
  .rename_i M;subst M;cases r;let⟨u,g1,g2,g3⟩:=e4 o _ i
   have E:u = .pointer (some ⟨c,o,none⟩):=by
    cases g3 with
    |pure _ _ N=>cases N
    |Oz _ _ _ _ _ bd bi c2 h1 h2 h3 h4 =>
     rw[e1]at h3;cases h3;cases h4;simp
   subst E;rw[rQ T];exact⟨c,w,elem,rfl,e1,R,Fr.refl _ _ _ _,rfl,⟨tb,H,t,i⟩,Rt L D.size c o w (by rw[cell_of_row w c o cur elem (0,0) A];exact g1)⟩
  .cases r
 .cases r
def Gh(E:TypeId)(h:AH)(b o:Nat)(cs i:List AV):Option AH:=match cs[o]?,cs[o+1]? with
 |some (.bt _ _ _ _),some .yl=>if i=[]then some h else if iU 1 i=true/\i.length<=140737488355328 then
   some (h.set b (.var ((cs.set o (.bt h.length 0 E (some (b,o)))).set (o+1) (.own h.length 0 0 i.length)))++[.row 0 1 i])else none
 |some (.bt r v t _),some (.own r' v' 0 n)=>if r'=r/\v'=v/\t=E/\r≠b then(match append h 1 1 (.own r v 0 n) i with
   |some (.own l v2 0 q,h2)=>if l=r then some (h2.set b (.var ((cs.set o (.bt r v2 E (some (b,o)))).set (o+1) (.own r v2 0 q))))else none
   |_=>none)else none
 |_,_=>none
def AZ{bytes n:Nat}{news:List AV}{av:AV}(i:append h sz bytes (.own b v o n) news=some (av,h2)):∃X,h2=h.set b X:=by
 simp only[append]at i;split at i
 .split at i
  .cases i;exact⟨_,rfl⟩
  .cases i
 .cases i
def OA{Z:ay}{β:iW}{O:ay}{w:World}{l t c Tp:Nat}{ty:TypeId}{u:Value}(i:β b 0=some ⟨some c,0,Tp,sz,ty⟩)(h:VR β O w (.bt tb l t (some (b,o))) u):
  u = .pointer (some ⟨c,o,none⟩)/\∃bd,β tb l=some bd/\(bd.cb≠none->bd.ty=t/\bd.base=0):=by
 cases h with
 |pure _ _ n=>cases n
 |Oz _ _ _ _ _ bd q c2 h1 h2 h3 h4 =>
  rw[i]at h3;cases h3;cases h4;exact⟨ah,bd,h1,h2⟩
def Ao{β2:iW}{q:World}(S:Rel Z β2 h2 q){cs:List AV}(O:h2[b]? = some (.var cs)){c:Nat}{elem:TypeId}(r:β2 b 0=some ⟨some c,0,cs.length,cs.length,elem⟩){T t:Nat}
  (X:cs[o]? = some (.bt tb T t (some (b,o)))) (N:o+1<cs.length) {m av:AV} {v':Value} (A:v'.oneCell'=true) (W:VR β2 (Own Z β2 h2) q av v') (E:VR β2 (Own Z β2 h2) q m (.pointer (some ⟨c,o,none⟩))) :
  ∃n,q.heap[c]? = some (.cells n elem (0,0))/\n.size=cs.length/\n[o]? = some (.pointer (some ⟨c,o,none⟩))/\Rel Z β2 (h2.set b (.var ((cs.set o m).set (o+1) av))) (q.setCell ⟨c,o+1,none⟩ v')/\
   Fr Z β2 h2 q β2 (h2.set b (.var ((cs.set o m).set (o+1) av))) (q.setCell ⟨c,o+1,none⟩ v'):=by
 let⟨c0,cur,G,e1,H,Q,Y⟩:=S.blk b _ O;rw[r]at e1;cases e1;let⟨u,g1,_,g3⟩:=Y o _ X;obtain⟨rfl,_⟩:=OA (Z:=Z) r g3
 let⟨c2,n,F,q1,M,q3,K,L⟩:=S.tj O o [m,av] [.pointer (some ⟨c,o,none⟩),v'] rfl aj (λu v=>by
  simp only[aY,dz,or_false]at v
  rcases v with rfl | rfl
  .rfl
  .exact A) (λj y u z v=>by
  match j with
  |0=>cases z;cases v;exact E
  |1=>cases z;cases v;exact W
  |j+2=>simp at z)
 rw[r]at q1;cases q1;rw[H]at M;cases M;rw[EI _ _ _ _ N]at K L
 have U:q.setRow c (over cur.toList o [Value.pointer (some ⟨c,o,none⟩),v']).toArray=q.setCell ⟨c,o+1,none⟩ v':=by
  rw[setCell_eq_setRow q c (o+1) cur _ (0,0) _ H,EI _ _ _ _ (by simpa[Q]using N),rQ (l:=cur.toList) (i:=o) (x:=.pointer (some ⟨c,o,none⟩)) (ak g1)]
  congr 1
  apply cq;simp
 rw[U]at K L;exact⟨cur,H,Q,g1,K,L⟩
def Lp(R:Rel Z β h w){cs:List AV}(hb:h[b]? = some (.var cs)){c:Nat}{elem:TypeId}(N:β b 0=some ⟨some c,0,cs.length,cs.length,elem⟩){tv t:Nat}
  (hm:cs[o]? = some (.bt tb tv t (some (b,o)))) {E:TypeId} {l:List AV} {h':AH} (K:Gh E h b o cs l=some h') {tS ty:TypeId} (hS:P.underlying tS=some (.slice E)) {i:TypeInfo} {z:Value} (hi:P.info? E=some i)
  (hz:i.zero=some z) (Y:z.cells.size=i.size) (hsz:i.size=1) (hby:i.bytes=1) {argTypes:Array TypeId} (NA:argTypes[0]? = some tS) {x:Value} {news:List Value} (S4:DN P w argTypes x 1 l.length news)
  (L:∃u d,argTypes[1]? = some u/\P.underlying u=some d/\(match d with | .int _=>False | _=>True)) (hnl:news.length=l.length*1) (Wl:ic (Own Z β h) w (λk=>news[k]?) 1 l) (Wm:∀u∈news,u.oneCell'=true) :
  ∃U v' M y β',w.cell? ⟨c,o+1,none⟩=some U/\(Builtin.append_ argTypes ty #[U,x]).run P w = .ok v' M/\M.heap[c]? = some (.cells y elem (0,0))/\y.size=cs.length/\o+1<cs.length/\
   (∃ad n cap,v' = .slice ad n cap)/\Rel Z β' h' (M.setCell ⟨c,o+1,none⟩ v')/\Fr Z β h w β' h' (M.setCell ⟨c,o+1,none⟩ v'):=by
 let⟨c0,cur,akk,e1,e2,e3,e4⟩:=R.blk b _ hb;rw[N]at e1;cases e1;let⟨pv,p1,_,p3⟩:=e4 o _ hm;obtain⟨rfl,bdm,m1,m2⟩:=OA (Z:=Z) N p3;have S5:=(az.1 hb).1;unfold Gh at K;rw[hm]at K;split at K
 .rename_i Q A;cases Q;have ho:=(az.1 A).1;let⟨u,g1,g2,g3⟩:=e4 (o+1) _ A;have hu:u = .slice none 0 0:=by
   cases g3 with | pure _ _ hp=>cases hp;rfl
  subst hu;have F:w.cell? ⟨c,o+1,none⟩=some (.slice none 0 0):=by rw[cell_of_row w c (o+1) cur elem (0,0) e2];exact g1
  split at K
  .rename_i hn;subst hn;cases K;have S:news=[]:=aV (ak hnl)
   subst S;let⟨r1,_⟩:=uC (P:=P) (w:=w) tS ty E i z hS hi hz Y argTypes NA none 0 0 x 0 [] [] (by rw[hsz];exact S4) (.inl L) (λ_ _=>rfl) aa ah
   have hr:=r1 (aT _);let⟨y,k1,k2,k3,W,k5⟩:=Ao R hb N hm ho (m:=.bt tb tv t (some (b,o))) (av:=.yl) (v':=.slice none 0 0) rfl (.pure _ _ .yl) p3;rw[rQ hm,rQ A,rQ hb]at W k5;exact⟨_,_,w,y,β,F,hr,k1,k2,ho,⟨_,_,_,rfl⟩,W,k5⟩
  .rename_i hne;split at K
   .rename_i Nz;cases K
    have T:append h 1 1 (.en true []) l=some (.own h.length 0 0 l.length,h++[.row 0 1 l]):=by
     simp only[append];rw[if_pos ⟨.inl trivial,by simp[iU],Nz.1,ak Nz.2,ak Nz.2⟩]
     simp
    have hv0:VR β (Own Z β h) w (.en true []) (.slice none 0 0):=.pure _ _ (.en true [] none 0 0 0 0 (λ_ _=>.bool true) ah ah ah ah ah ah ah)
    let⟨v',M,β2,hr,R2,F2,V2,T2⟩:=tg (ty:=ty) R hS hi hz Y hsz hby af NA T hv0 S4 (.inl L) hnl Wl Wm
    have hT:=T2 _ _ _ _ rfl (λb v o n e=>by cases e)
    obtain⟨bd,ad,cp,H,rfl,_⟩:=V2.jL;have WC:(h++[AB.row 0 1 l])[b]? = some (.var cs):=by rw[aI S5];exact hb
    have G:=F2.ext _ _ _ N
    have hmk:VR β2 (Own Z β2 (h++[AB.row 0 1 l])) M (.bt h.length 0 E (some (b,o))) (.pointer (some ⟨c,o,none⟩)):=by
     have:=VR.Oz (β:=β2) (O:=Own Z β2 (h++[AB.row 0 1 l])) (w:=M) h.length 0 E b o bd _ c H (λhn=>hT bd H hn) G rfl
     simpa using this
    let⟨y,k1,k2,k3,W,k5⟩:=Ao R2 WC G hm ho rfl V2 hmk;rw[eH _ _ S5]at W k5;exact⟨_,_,M,y,β2,F,hr,k1,k2,ho,⟨_,_,_,rfl⟩,W,F2.trans k5⟩
   .cases K
 .rename_i r v t' q r' v2 n Q A;cases Q;have ho:=(az.1 A).1;let⟨u,g1,g2,g3⟩:=e4 (o+1) _ A;have F:w.cell? ⟨c,o+1,none⟩=some u:=by rw[cell_of_row w c (o+1) cur elem (0,0) e2];exact g1
  split at K
  .rename_i hq;obtain⟨rfl,rfl,rfl,hrb⟩:=hq;split at K
   .rename_i r2 v3 n2 h2 T;split at K
    .rename_i hr2;subst hr2;cases K;let⟨v',M,β2,hr,R2,F2,V2,T2⟩:=tg (ty:=ty) R hS hi hz Y hsz hby af NA T g3 S4 (.inl L) hnl Wl Wm
     have hT:=T2 _ _ _ _ rfl (λb v o n e=>by
      cases e;exact⟨rfl,λbd H hn=>by rw[m1]at H;cases H;exact m2 hn⟩)
     obtain⟨bd,ad,cp,H,rfl,_⟩:=V2.jL;obtain⟨X,rfl⟩:=AZ T;have WC:(h.set r2 X)[b]? = some (.var cs):=by rw[aL hrb];exact hb
     have G:=F2.ext _ _ _ N
     have hmk:VR β2 (Own Z β2 (h.set r2 X)) M (.bt r2 v3 t (some (b,o))) (.pointer (some ⟨c,o,none⟩)):=by
      have:=VR.Oz (β:=β2) (O:=Own Z β2 (h.set r2 X)) (w:=M) r2 v3 t b o bd _ c H (λhn=>hT bd H hn) G rfl
      simpa using this
     let⟨y,k1,k2,k3,W,k5⟩:=Ao R2 WC G hm ho rfl V2 hmk;exact⟨_,_,M,y,β2,F,hr,k1,k2,ho,⟨_,_,_,rfl⟩,W,F2.trans k5⟩
    .cases K
   .cases K
  .cases K
 .cases K
def wpList_append_run{ops:Array Oper}{rest:List Oper}{o:Oper}{a:Act}{Q:Exit->Act->World->Prop}(b:o.guard=none)(sl x:Operand)(t u:TypeId)
  (l:o.op = .call {callee:=.builtin .append,args := #[sl,x],argTypes := #[t,u]}) {v y v':Value} {w':World} (hs:a.eval sl=v) (hx:a.eval x=y)
  (i:(Builtin.append_ #[t,u] o.type #[v,y]).run P w = .ok v' w') (h:wpList P ops Q rest (a.put o.dst v') w'):wpList P ops Q (o::rest) a w:=by
 refine wpList_plain b λK n=>?_
 unfold Oper.wp execOp;simp only[l,resolve,invoke,builtin,Sem.run_bind,Sem.run_pure,Result.andThen_ok,List.map_toArray,bF,aX,hs,hx,i];exact n _ _ h
def TJ(ok:List YR)(E:TypeId):List AV->AH->Option (AV×AH)
 | [.ptr b 0 0 o,.str s],h=>match h[b]? with
  |some (.var cs)=>(Rv ok b o cs).bind λi=>(Gh E (h.set b (.var i)) b o i (s.map λc=>.int .u8 (c.toNat:Int))).bind λh'=>some (.iV [.int .i64 s.length,.kg],h')
  |_=>none
 |_,_=>none
def TM(ok:List YR)(E:TypeId):List AV->AH->Option (AV×AH)
 | [.ptr b 0 0 o,.int .u8 n],h=>match h[b]? with
  |some (.var cs)=>(Rv ok b o cs).bind λi=>(Gh E (h.set b (.var i)) b o i [.int .u8 n]).bind λh'=>some (.kg,h')
  |_=>none
 |_,_=>none
def Za:List AV->Option aq
 | []=>some []
 | .int .u8 k::l=>if 0<=k/\k<256 then(Za l).bind λr=>some (UInt8.ofNat k.toNat::r)else none
 |_=>none
def Iy:∀ {es:List AV} {l:aq},Za es=some l->es=l.map λc=>.int .u8 (c.toNat:Int)
 | [],l,h=>by cases h;rfl
 |a::es,l,h=>by
  unfold Za at h;split at h
  .cases ‹a::es=[]›
  .rename_i k i e;cases e;split at h
   .rename_i hk;simp only[aD]at h;let⟨r,b,h⟩:=h;cases h;rw[Iy b];have:((UInt8.ofNat k.toNat).toNat:Int)=k:=by rw[UInt8.toNat_ofNat'];omega
    rw[bF,this]
   .cases h
  .cases h
def PB(l:aq):Za (l.map λc=>.int .u8 (c.toNat:Int))=some l:=by
 induction l with
 |nil=>rfl
 |cons c l b =>
  have:=c.toNat_lt;simp only[bF,Za,b];rw[if_pos aa]
  simp
def Ss(E:TypeId):List AV->AH->Option (AV×AH)
 | [.ptr b 0 0 o],h=>match h[b]? with
  |some (.var cs)=>match cs[o]?,cs[o+1]? with
   |_,some .yl=>some (.str [],h)
   |some (.bt r v t _),some (.own r' v' 0 n)=>if r'=r/\v'=v/\t=E/\0<n/\n<=140737488355328 then match h[r]? with
    |some (.row v2 1 es)=>if v2=v/\n<=es.length then(Za (es.take n)).bind λl=>some (.str l,h.set r (.lu v 1 es))else none
    |_=>none else none
   |_,_=>none
  |_=>none
 |_,_=>none
set_option maxHeartbeats 2000000 in
set_option maxRecDepth 100000 in
def TI (L : Lays.n166 P ρ) (X : Builder.Extra P ρ) (D : BdL P ρ ok) (hc : jH P (ρ.f 166)) {args : List AV} {r : AV} (i : TJ ok (ρ.t 5) args h = some (r, h')) : nC P (ρ.f 166) args h r h' := by
 unfold TJ at i;split at i
 .rename_i b o s;split at i
  .rename_i cs hb;simp only[aD]at i;let⟨O,hcc,h2,WB,i⟩:=i;cases i;refine⟨hc,λZ β w vs R hl G=>?_⟩
   match vs,hl with
   | [v,u],_ =>
    have Y:=G 0 _ v rfl rfl;obtain⟨S,rfl,H⟩:=(G 1 _ u rfl rfl).lN;obtain⟨c,w1,elem,rfl,T,R1,F1,N,⟨tb,tv,t,hm⟩,E⟩:=Oo {L with} D R hb hcc Y
    have hb1:(h.set b (.var O))[b]? = some (.var O):=by simp[(az.1 hb).1]
    let⟨i0,hi,W,F,U⟩:=info_parts X.infoByte;have M:s.length=S.size:=by rw[<-H];simp
    obtain⟨akM, v', Q, l, β', c1, K, k1, k2, ho, ⟨ad, n, cap, rfl⟩, R2, F2⟩ := Lp R1 hb1 (by rw[N]; exact T) hm WB (ty := ρ.t 37) L.t37 hi W (by rw[F]; rfl) F U (argTypes := #[ρ.t 37, ρ.t 9]) rfl
     (x := .string S) (news := s.map λc => .int .u8 (c.toNat : Int)) (.inl ⟨ρ.t 9, .string, rfl, L.t9, trivial, by simp only[cw, M]; rfl, λw' _ => by
      simp only[Builtin.firstCells,Sem.run_pure,cw];rw[xP S s H]⟩) ⟨ρ.t 9,.string,rfl,L.t9,trivial⟩ ah (λk x hk=>by
      rw[bM]at hk;cases A:s[k]? with
      |none=>rw[A]at hk;cases hk
      |some d =>
       rw[A]at hk;simp only[cB,aP]at hk;subst hk;refine⟨rfl,λj y z=>?_⟩
       cases j with
       |succ j=>simp[AV.cells]at z
       |zero =>
        simp only[AV.cells,aS,aP]at z;subst z;exact⟨.int .u8 (d.toNat:Int),by simp[A],rfl,.int _ _⟩) (λq hq=>by
      obtain⟨d,_,rfl⟩:=b7.1 hq;rfl)
    obtain⟨d,hd⟩:∃d,l[o+1]? = some d:=⟨_,bT aa⟩
    have d1:Q.cell? ⟨c,o+1,none⟩=some d:=by rw[cell_of_row Q c (o+1) l elem (0,0) k1];exact hd
    have f1:Q.frozen? ⟨c,o+1,none⟩=false:=Lib.frozen_of_heap k1 (o+1);have mixed:=L.mixed;have t72:=L.t72;have a72:=L.a72;have z72:=L.z72;have v72:=L.v72;have u72:=run_underlying L.t72;have t70:=L.t70;have a70:=L.a70;have z70:=L.z70;have v70:=L.v70;have u70:=run_underlying L.t70;have t37:=L.t37;have a37:=L.a37;have z37:=L.z37;have v37:=L.v37;have u37:=run_underlying L.t37;have t3:=L.t3;have a3:=L.a3;have z3:=L.z3;have v3:=L.v3;have u3:=run_underlying L.t3
    have t9:=L.t9;have a9:=L.a9;have z9:=L.z9;have v9:=L.v9;have u9:=run_underlying L.t9;have t4:=L.t4;have a4:=L.a4;have z4:=L.z4;have v4:=L.v4;have u4:=run_underlying L.t4;have t164:=L.t164;have a164:=L.a164;have z164:=L.z164;have v164:=L.v164;have agU:=run_underlying L.t164;have ajO:∀args w,(callFunc (ρ.f 240) args).run P w = .ok (.enter (ρ.f 240) args) w:=enters_of L.f240 ai rfl
    go_enter L.f166,Body.n166_ntmps ρ
    go_wp2_with (go_at_fn (ρ.f 240);refine E.mono ?_)
    rintro e w' ⟨rfl,rfl⟩
    go_wp2_with (at_builtin;refine wpList_append_run rfl _ _ (ρ.t 37) (ρ.t 9) rfl rfl rfl K ?_)
    go_wp2
    go_ret2
    exact⟨_,β',rfl,R2,F1.trans F2,.iV _ [_,_] rfl (λj y v z G=>by
     match j with
     |0=>cases z;cases G;rw[M];exact .pure _ _ (.int _ _)
     |1=>cases z;cases G;exact .pure _ _ .kg
     |j+2=>simp at z)⟩
  .cases i
 .cases i
set_option maxHeartbeats 2000000 in
set_option maxRecDepth 100000 in
def TL (L : Lays.n167 P ρ) (X : Builder.Extra P ρ) (D : BdL P ρ ok) (hc : jH P (ρ.f 167)) {args : List AV} {r : AV} (z : TM ok (ρ.t 5) args h = some (r, h')) : nC P (ρ.f 167) args h r h' := by
 unfold TM at z;split at z
 .rename_i b o k;split at z
  .rename_i cs hb;simp only[aD]at z;let⟨T,hcc,h2,WB,z⟩:=z;cases z;refine⟨hc,λZ β w vs R hl hv=>?_⟩
   match vs,hl with
   | [v,u],_ =>
    have hv0:=hv 0 _ v rfl rfl;obtain rfl:=(hv 1 _ u rfl rfl).jF;obtain⟨c,l,elem,rfl,K,R1,F1,Q,⟨tb,tv,t,hm⟩,H⟩:=Oo {L with} D R hb hcc hv0
    have S:(h.set b (.var T))[b]? = some (.var T):=by simp[(az.1 hb).1]
    let⟨i0,hi,hz0,M,Hw⟩:=info_parts X.infoByte;obtain⟨F,i⟩:∃w',w'=l.alloc (.cells #[.int .u8 k] (ρ.t 5)):=⟨_,rfl⟩;let⟨W,Y⟩:=R1.pN (.cells #[.int .u8 k] (ρ.t 5));rw[<-i]at W Y
    have O:F.cell? ⟨l.heap.size,0,none⟩=some (.int .u8 k):=by
     rw[i,cell_of_row _ l.heap.size 0 #[.int .u8 k] (ρ.t 5) (0,0) (heap_alloc_new l _)];rfl
    have A:∀w':World,w'.heap=F.heap->(Builtin.firstCells 1 1 (.slice (some ⟨l.heap.size,0,none⟩) 1 1)).run P w' = .ok #[.int .u8 k] w':=λw' hw'=>by
     have:=run_firstCells_some (P:=P) w' 1 1 ⟨l.heap.size,0,none⟩ 1 1 [.int .u8 k] ah (λj u hu=>by
      match j with
      |0 =>
       cases hu;have G:w'.cell? ⟨l.heap.size,0,none⟩=F.cell? ⟨l.heap.size,0,none⟩:=World.cell?_of_block (by rw[hw'])
       rw[addr_add,show (0+0:Nat)=0 from rfl,G]
       exact O
      |j+1=>simp at hu)
     simpa using this
    obtain⟨U, v', w2, E, β', c1, N, k1, k2, ho, ⟨ad, n, cap, rfl⟩, R2, F2⟩ := Lp W S (by rw[Q]; exact K) hm WB (ty := ρ.t 37) L.t37 hi hz0 (by rw[M]; rfl) M Hw (argTypes := #[ρ.t 37, ρ.t 37]) rfl
     (x := .slice (some ⟨l.heap.size, 0, none⟩) 1 1) (news := [.int .u8 k]) (.inl ⟨ρ.t 37, _, rfl, L.t37, trivial, rfl, A⟩) ⟨ρ.t 37, _, rfl, L.t37, trivial⟩ ah (λj x hk => by
      match j with
      |0 =>
       cases hk;refine⟨rfl,λj y hy=>?_⟩
       cases j with
       |succ j=>simp[AV.cells]at hy
       |zero =>
        simp only[AV.cells,aS,aP]at hy;subst hy;exact⟨.int .u8 k,ah,rfl,.int _ _⟩
      |j+1=>simp at hk) (λq hq=>by rw[bS.1 hq];rfl)
    have c1':l.cell? ⟨c,o+1,none⟩=some U:=by
     have hlt:c<l.heap.size:=by
      let⟨c3,akK,el3,z1,z2,_⟩:=R1.blk b _ S;have:=F1.ext _ _ _ K;rw[this]at z1
      injection z1 with z1
      injection z1 with z1 _ _ _ z5
      injection z1 with z1
      rw[z1];exact(aH.1 z2).1
     rw[<-c1,i];exact(World.cell?_of_block (a:=⟨c,o+1,none⟩) (heap_alloc_old l _ hlt)).symm
    obtain⟨d,hd⟩:∃d,E[o+1]? = some d:=⟨_,bT aa⟩
    have d1:w2.cell? ⟨c,o+1,none⟩=some d:=by rw[cell_of_row w2 c (o+1) E elem (0,0) k1];exact hd
    have f1:w2.frozen? ⟨c,o+1,none⟩=false:=Lib.frozen_of_heap k1 (o+1);have mixed:=L.mixed;have t72:=L.t72;have a72:=L.a72;have z72:=L.z72;have v72:=L.v72;have u72:=run_underlying L.t72;have t70:=L.t70;have a70:=L.a70;have z70:=L.z70;have v70:=L.v70;have u70:=run_underlying L.t70;have t5:=L.t5;have a5:=L.a5;have z5:=L.z5;have v5:=L.v5;have u5:=run_underlying L.t5;have t37:=L.t37;have a37:=L.a37;have z37:=L.z37;have v37:=L.v37;have u37:=run_underlying L.t37
    have t9:=L.t9;have a9:=L.a9;have z9:=L.z9;have v9:=L.v9;have u9:=run_underlying L.t9;have t4:=L.t4;have a4:=L.a4;have z4:=L.z4;have v4:=L.v4;have u4:=run_underlying L.t4;have t164:=L.t164;have a164:=L.a164;have z164:=L.z164;have v164:=L.v164;have agU:=run_underlying L.t164;have ajO:∀args w,(callFunc (ρ.f 240) args).run P w = .ok (.enter (ρ.f 240) args) w:=enters_of L.f240 ai rfl
    go_enter L.f167,Body.n167_ntmps ρ
    go_wp2_with (go_at_fn (ρ.f 240);refine H.mono ?_)
    rintro e w' ⟨rfl,rfl⟩
    subst i
    go_wp2_with (at_builtin;refine wpList_append_run rfl _ _ (ρ.t 37) (ρ.t 37) rfl rfl rfl N ?_)
    go_wp2
    go_ret
    exact⟨_,β',rfl,R2,(F1.trans Y).trans F2,.pure _ _ .kg⟩
  .cases z
 .cases z
def Rel.WM(R:Rel Z β h w){es:List AV}(K:h[b]? = some (.row v sz es)){bd:Bd}(r:β b v=some bd){cb:Nat}(q1:bd.cb=some cb)(k m:Nat)(x:m≠0):
  Rel Z β (h.set b (.lu v sz es)) (w.freeze ⟨cb,k,none⟩ m)/\Fr Z β h w β (h.set b (.lu v sz es)) (w.freeze ⟨cb,k,none⟩ m):=by
 let⟨E,U,e1,T,A⟩:=R.blk b _ K;rw[r]at e1;cases e1
 rcases A with⟨A,_⟩ | ⟨W,cur,g1,N,g3,g4,S⟩
 .rw[q1]at A;cases A
 rw[q1]at g1;cases g1;have Q:cb<w.heap.size:=(aH.1 N).1;have l:owned β h b cb:=⟨_,K,bd,q1,r⟩;obtain⟨w',i⟩:∃w',w'=w.freeze ⟨cb,k,none⟩ m:=⟨_,rfl⟩;rw[<-i];have G:w'.heap.size=w.heap.size:=by rw[i];simp[World.freeze,x]
 have y:∀k,k≠cb->w'.heap[k]? = w.heap[k]? := λk hk=>by
  rw[i];simp[World.freeze,x,cR,Ne.symm hk]
 obtain⟨fr,o⟩:∃fr,w'.heap[cb]? = some (.cells cur bd.ty fr):=by
  rw[i];simp[World.freeze,x,cR,N]
 have M:=(az.1 K).1
 exact R.Ly (X':=.lu v sz es) (β':=β) (w':=w') M (by rw[i];simp[World.freeze,x]) (by rw[i];simp[World.freeze,x]) (by rw[i];simp[World.freeze,x]) (λ_ _ _=>rfl) (λ_ _ e=>e) ah (λc0 h=>by
   let⟨_,_,q⟩:=h;exact q.elim) aa (λk hk H=>y k (λe=>H (e▸l))) (λF=>by
  refine⟨E,bd,r,T,.inr ⟨cb,cur,fr,q1,?_,o,g3,g4,ic.mono F S⟩⟩
  rintro(O | ⟨j,X,z,L⟩)
  .exact R.yC b cb l O
  by_cases n:j=b
  .subst n;simp[M]at z;subst z;let⟨_,_,q⟩:=L;exact q
  .rw[aL (Ne.symm n)]at z;exact n (R.apart j b cb ⟨X,z,L⟩ l))
set_option maxHeartbeats 2000000 in
set_option maxRecDepth 100000 in
def Uf(L:Lays.n169 P ρ)(X:Builder.Extra P ρ)(c o:Nat)(w:World)(c0:w.cell? ⟨c,o+1,none⟩=some (.slice none 0 0)):
  Calls P (ρ.f 169) #[.pointer (some ⟨c,o,none⟩)] w λe w'=>e = .returned (.string ⟨#[]⟩)/\w'=w.drew:=by
 have q:=Any.unsafeString_none L X;have z:w.drew.cell? ⟨c,o+1,none⟩=some (.slice none 0 0):=c0;have r:(Builtin.unsafeSliceData_ #[(ρ.t 37)] (ρ.t 127) #[.slice none 0 0]).run P w.drew = .ok (.pointer none) w.drew:=rfl;have mixed:=L.mixed;have t72:=L.t72;have a72:=L.a72;have z72:=L.z72;have v72:=L.v72;have i:=run_underlying L.t72;have t70:=L.t70;have a70:=L.a70;have z70:=L.z70;have v70:=L.v70;have l:=run_underlying L.t70;have t37:=L.t37;have a37:=L.a37;have z37:=L.z37;have v37:=L.v37;have n:=run_underlying L.t37
 have t127:=L.t127;have a127:=L.a127;have z127:=L.z127;have v127:=L.v127;have b:=run_underlying L.t127;have t3:=L.t3;have a3:=L.a3;have z3:=L.z3;have v3:=L.v3;have y:=run_underlying L.t3;have t9:=L.t9;have a9:=L.a9;have z9:=L.z9;have v9:=L.v9;have v:=run_underlying L.t9;have t5:=X.t5;have a5:=X.a5;have z5:=X.z5;have v5:=X.v5;have x:=run_underlying X.t5
 go_enter L.f169,Body.n169_ntmps ρ
 go_wp2
 go_region_o
 all_goals (go_wp2;go_ret;exact⟨rfl,rfl⟩)
set_option maxHeartbeats 2000000 in
set_option maxRecDepth 100000 in
def PJ(L:Lays.n169 P ρ)(X:Builder.Extra P ρ)(c o g cells cap:Nat)(l:aq)(w:World)(c0:w.cell? ⟨c,o+1,none⟩=some (.slice (some ⟨g,0,none⟩) l.length cap))(h0:l≠[])(r:l.length<=cap)
  (i:w.shape? g=some (ρ.t 5,cells)) (A:l.length<=cells) (n:l.length<=9223372036854775807) (b:∀j x,l[j]? = some x->w.cell? ((⟨g,0,none⟩:Addr).add j)=some (.int .u8 x.toNat)) :
  Calls P (ρ.f 169) #[.pointer (some ⟨c,o,none⟩)] w λe w'=>e = .returned (.string ⟨l.toArray⟩)/\w'=w.drew.freeze ⟨g,0,none⟩ l.length:=by
 have E:l.length≠0:=by simpa using h0
 have N:w.drew.cell? ⟨c,o+1,none⟩=some (.slice (some ⟨g,0,none⟩) l.length cap):=c0
 have G:(Builtin.unsafeSliceData_ #[(ρ.t 37)] (ρ.t 127) #[.slice (some ⟨g,0,none⟩) l.length cap]).run P w.drew = .ok (.pointer (some ⟨g,0,none⟩)) w.drew :=
  Lib.run_unsafeSliceData_row _ _ _ _ _ _ aa
 have F:(Builtin.unsafeString_ #[(ρ.t 127),(ρ.t 3)] (ρ.t 9) #[.pointer (some ⟨g,0,none⟩),.int .i64 l.length]).run P w.drew = .ok (.string ⟨l.toArray⟩) (w.drew.freeze ⟨g,0,none⟩ l.length) :=
  Lib.run_unsafeString_row w.drew (ρ.t 127) (ρ.t 3) (ρ.t 9) (ρ.t 5) L.t127 X.cellsByte g cells i l h0 A n b
 have mixed:=L.mixed;have t72:=L.t72;have a72:=L.a72;have z72:=L.z72;have v72:=L.v72;have v:=run_underlying L.t72;have t70:=L.t70;have a70:=L.a70;have z70:=L.z70;have v70:=L.v70;have y:=run_underlying L.t70;have t37:=L.t37;have a37:=L.a37;have z37:=L.z37;have v37:=L.v37;have z:=run_underlying L.t37;have t127:=L.t127;have a127:=L.a127;have z127:=L.z127;have v127:=L.v127;have q:=run_underlying L.t127;have t3:=L.t3;have a3:=L.a3;have z3:=L.z3;have v3:=L.v3;have M:=run_underlying L.t3
 have t9:=L.t9;have a9:=L.a9;have z9:=L.z9;have v9:=L.v9;have H:=run_underlying L.t9;have t5:=X.t5;have a5:=X.a5;have z5:=X.z5;have v5:=X.v5;have K:=run_underlying X.t5
 go_enter L.f169,Body.n169_ntmps ρ
 go_wp2
 go_region_o
 all_goals (go_wp2;go_ret;exact⟨rfl,rfl⟩)
def Ue (L : Lays.n169 P ρ) (X : Builder.Extra P ρ) (hc : jH P (ρ.f 169)) {args : List AV} {r : AV} (i : Ss (ρ.t 5) args h = some (r, h')) : nC P (ρ.f 169) args h r h' := by
 unfold Ss at i;split at i
 .rename_i b o;split at i
  .rename_i cs hb;refine⟨hc,λZ β w vs R hl hv=>?_⟩
   match vs,hl with
   | [v],_ =>
    let⟨c,cur,elem,e1,e2,e3,e4⟩:=R.blk b _ hb;obtain⟨bd,c',Q,hcb,rfl⟩:=(hv 0 _ v rfl rfl).jl;rw[e1]at Q;cases Q;cases hcb;have Y:0+0*cs.length+o=o:=aa
    simp only[Y];let⟨Rd,Fd⟩:=R.drawn (w.drawn+1);split at i
    .rename_i y;cases i;let⟨u,g1,_,g3⟩:=e4 (o+1) _ y;have hu:u = .slice none 0 0:=by cases g3 with | pure _ _ W=>cases W;rfl
     subst hu;refine(Uf L X c o w (by rw[cell_of_row w c (o+1) cur elem (0,0) e2];exact g1)).mono ?_
     rintro e w' ⟨rfl,rfl⟩
     exact⟨_,β,rfl,Rd,Fd,.pure _ _ (.str ⟨#[]⟩)⟩
    .rename_i r1 v1 t1 q S v2 n N y;split at i
     .rename_i hq;obtain⟨rfl,rfl,rfl,hn0,hn63⟩:=hq;split at i
      .rename_i v3 es K;split at i
       .rename_i U;obtain⟨rfl,hn⟩:=U;simp only[aD]at i;let⟨l,hl,i⟩:=i;cases i;have M:=Iy hl;have E:l.length=n:=by
         have:=congrArg List.length M;simp at this;omega
        let⟨u0,f1,_,f3⟩:=e4 o _ N
        have hm:∃bd,β S v3=some bd/\(bd.cb≠none->bd.ty=ρ.t 5/\bd.base=0):=by
         cases f3 with
         |pure _ _ W=>cases W
         |Tx _ _ _ bd h1 h2=>exact⟨bd,h1,h2⟩
         |Oz _ _ _ _ _ bd _ _ h1 h2=>exact⟨bd,h1,h2⟩
        let⟨bd,T,m2⟩:=hm;let⟨u,g1,_,g3⟩:=e4 (o+1) _ y;obtain⟨Lo,ad,cp,k1,rfl,A⟩:=g3.jL;rw[T]at k1;cases k1
        rcases A with⟨_,A⟩ | ⟨cb,A,rfl,k3,k4⟩
        .omega
        let⟨m3,m4⟩:=m2 (by rw[A];simp)
        let⟨_,Lo,p1,p2,p3⟩:=R.blk S _ K;rw[T]at p1;cases p1
        rcases p3 with⟨p3,_⟩ | ⟨cb',z,p4,p5,p6,p7,p8⟩
        .rw[A]at p3;cases p3
        rw[A]at p4;cases p4;have G:bd.base+0*bd.sz=0:=aa
        rw[G,<-E]at g1
        have F:=PJ L X c o cb z.size cp l w (by rw[cell_of_row w c (o+1) cur elem (0,0) e2];exact g1) (by intro e;rw[e]at E;simp at E;omega) aa
         (by simp[World.shape?,p5,m3]) (by rw[p6];omega) aa (λj x hx=>by
          have hj:j<l.length:=(az.1 hx).1;have H:(es.take n)[j]? = some (.int .u8 (x.toNat:Int)):=by rw[M,bM,hx];rfl
          rw[List.getElem?_take_of_lt aa]at H
          let⟨y1,y2⟩:=p8 j _ H;let⟨val,z1,_,z3⟩:=y2 0 (.int .u8 (x.toNat:Int)) rfl;cases z3;rw[addr_add,cell_of_row w cb (0+j) z bd.ty (0,0) p5];rw[m4]at z1
          simpa using z1)
        refine F.mono ?_
        rintro e w' ⟨rfl,rfl⟩
        let⟨R',F'⟩:=Rd.WM K T A 0 l.length aa
        exact⟨_,β,rfl,R',Fd.trans F',.pure _ _ (by have:=mM.str (O:=Own Z β (h.set S (.lu v3 1 es))) (w:=w.drew.freeze ⟨cb,0,none⟩ l.length) ⟨l.toArray⟩;simpa using this)⟩
       .cases i
      .cases i
     .cases i
    .cases i
  .cases i
 .cases i
end
abbrev u6(s:aq):List AV:=s.map λc=>.int .u8 (c.toNat:Int)
def u7(ok:List YR)(E:TypeId)(h:AH)(b:Nat)(tl:List AV)(s:aq):Prop :=
 (s=[]/\∃t p,h[b]? = some (.var (.bt b 0 t p :: .yl::tl))/\(p=some (b,0)\/(p=none/\(t,tl.length+2,0)∈ok)))\/
 (s≠[]/\∃r v,r≠b/\h[b]? = some (.var (.bt r v E (some (b,0)) :: .own r v 0 s.length::tl))/\h[r]? = some (.row v 1 (u6 s)))
def mj(h h':AH)(b:Nat):Prop:=h.length<=h'.length/\∀i X,i≠b->h[i]? = some X->(∀v es,X≠.row v 1 es)->h'[i]? = some X
variable{ok:List YR}{E:TypeId}{h:AH}{b:Nat}{tl:List AV}{s:aq}
def u7.head(i:u7 ok E h b tl s):∃a c,h[b]? = some (.var (a::c::tl)):=by
 rcases i with⟨_,t,p,h1,_⟩ | ⟨_,r,v,_,h1,_⟩
 .exact⟨_,_,h1⟩
 .exact⟨_,_,h1⟩
def u7.lt(i:u7 ok E h b tl s):b<h.length:=by
 let⟨_,_,h1⟩:=i.head;exact(az.1 h1).1
def u7.grow(n:u7 ok E h b tl s)(X:AH):u7 ok E (h++X) b tl s:=by
 have key:∀i Y,h[i]? = some Y->(h++X)[i]? = some Y:=λi Y l=>by
  rw[aI (az.1 l).1,l]
 rcases n with⟨h0,t,p,h1,h2⟩ | ⟨h0,r,v,h3,h1,h2⟩
 .exact .inl ⟨h0,t,p,key _ _ h1,h2⟩
 .exact .inr ⟨h0,r,v,h3,key _ _ h1,key _ _ h2⟩
def D9(x:aq):iU 1 (u6 x)=true:=by
 simp only[iU,u6,gj,aJ];intro c _;rfl
def Ma{α:Type}{l:List α}{i:Nat}{x:α}(h:l[i]? = some x):l.set i x=l:=by
 apply dm;intro j
 by_cases n:i=j
 .subst n;rw[bh (az.1 h).1,h]
 .rw[aL n]
def OJ(M:u7 ok E h b tl s)(x:aq)(hx:s.length+x.length<=140737488355328):
  ∃cs q h',h[b]? = some (.var cs)/\Rv ok b 0 cs=some q/\Gh E (h.set b (.var q)) b 0 q (u6 x)=some h'/\u7 ok E h' b tl (s++x)/\mj h h' b:=by
 have l:=M.lt
 rcases M with⟨rfl,t,p,h1,h2⟩ | ⟨h0,r,v,F,h1,h2⟩
 .have z:Rv ok b 0 (.bt b 0 t p :: .yl::tl)=some (.bt b 0 t (some (b,0)) :: .yl::tl):=by
   rcases h2 with rfl | ⟨rfl,h2⟩
   .simp[Rv]
   .simp[Rv,h2]
  by_cases o:x=[]
  .subst o;refine⟨_,_,_,h1,z,by simp[Gh,u6];rfl,.inl ⟨rfl,t,_,by rw[bh l],.inl rfl⟩,ah,λi X y n _=>by rw[aL (Ne.symm y)];exact n⟩
  .have K:u6 x≠[]:=by simpa[u6]using o
   have G:b≠h.length:=aa
   refine⟨_,_,_,h1,z,by
    simp only[Gh,aS,bY,b8];rw[if_neg K,if_pos ⟨D9 x,by simpa[u6]using hx⟩],.inr ⟨ak o,h.length,0,Ne.symm G,?_,?_⟩,ah,λi X y n _=>?_⟩
   .rw[aI (ak l),bh (ak l)]
    simp[u6]
   .rw[aQ ah]
    simp
   .have:=(az.1 n).1;rw[aI (ak this),aL (Ne.symm y),aL (Ne.symm y)]
    exact n
 .have A:=(az.1 h2).1;have hs:=Ma h1
  have L:append h 1 1 (.own r v 0 s.length) (u6 x)=some (.own r (v+1) 0 (s.length+x.length),h.set r (.row (v+1) 1 (u6 s++u6 x))):=by
   have e1:List.take s.length (u6 s)=u6 s:=bf (by simp[u6])
   simp only[append,h2];rw[if_pos (by exact⟨trivial,trivial,D9 x,by simp[u6],by simpa[u6]using hx,by simpa[u6]using hx⟩)]
   simp only[List.drop_zero,e1];simp[u6]
  refine⟨_,_,(h.set r (.row (v+1) 1 (u6 s++u6 x))).set b (.var (.bt r (v+1) E (some (b,0)) :: .own r (v+1) 0 (s.length+x.length)::tl)),h1,by simp[Rv];rfl,by
   rw[hs];simp only[Gh,aS,bY,b8];rw[if_pos ⟨trivial,trivial,trivial,F⟩,L];simp,.inr ⟨by simp[h0],r,v+1,F,?_,?_⟩,ah,λi X y n N=>?_⟩
  .rw[bh (ak l)]
   simp only[aG]
  .rw[aL (Ne.symm F),bh A];simp[u6]
  .have H:i≠r:=λe=>by
    subst e;rw[h2]at n;exact N _ _ (bB n).symm
   rw[aL (Ne.symm y),aL (Ne.symm H)];exact n
def yD(i:u7 ok E h b tl s)(x:aq)(hx:s.length+x.length<=140737488355328):
  ∃h',TJ ok E [.ptr b 0 0 0,.str x] h=some (.iV [.int .i64 x.length,.kg],h')/\u7 ok E h' b tl (s++x)/\mj h h' b:=by
 let⟨cs,l,h',h1,h2,h3,h4,h5⟩:=OJ i x hx;exact⟨h',by simp only[TJ,h1,h2,bH];simp only[u6]at h3;rw[h3];rfl,h4,h5⟩
def aaP(i:u7 ok E h b tl s)(c:UInt8)(hx:s.length+1<=140737488355328):
  ∃h',TM ok E [.ptr b 0 0 0,.int .u8 (c.toNat:Int)] h=some (.kg,h')/\u7 ok E h' b tl (s++[c])/\mj h h' b:=by
 let⟨cs,l,h',h1,h2,h3,h4,h5⟩:=OJ i [c] hx;exact⟨h',by simp only[TM,h1,h2,bH];simp only[u6,bF,aX]at h3;rw[h3];rfl,h4,h5⟩
def LX(i:u7 ok E h b tl s)(hx:s.length<=140737488355328):∃h',Ss E [.ptr b 0 0 0] h=some (.str s,h'):=by
 rcases i with⟨rfl,t,p,h1,h2⟩ | ⟨h0,r,v,l,h1,h2⟩
 .exact⟨h,by simp[Ss,h1]⟩
 .have hl:0<s.length:=fJ.2 h0;have e1:List.take s.length (u6 s)=u6 s:=bf (by simp[u6])
  refine⟨h.set r (.lu v 1 (u6 s)),?_⟩;simp only[Ss,h1,aS,bY,b8,h2];rw[if_pos (by exact⟨trivial,trivial,trivial,hl,hx⟩)]
  rw[if_pos (by exact⟨trivial,by simp[u6]⟩),e1]
  simp only[u6,PB,bH]
def mj.trans{h' l:AH}(A:mj h h' b)(C:mj h' l b):mj h l b:=⟨bQ A.1 C.1,λi X o q n=>C.2 i X o (A.2 i X o q n) n⟩
def mj.grow(X:AH):mj h (h++X) b:=⟨ah,λi Y _ l _=>by rw[aI (az.1 l).1];exact l⟩
theorem mj.refl:mj h h b:=⟨aT _,λ_ _ _ i _=>i⟩
end Go.Am
