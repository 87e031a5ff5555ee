/- Part of the proof that TopScriptsCard holds. -/
import Derived.Test.YtahlmpbhfljalaaGreatDoorAmKe
import Derived.Deep.RegionLaw
import Derived.Deep.LoopGhost
import Derived.WalkKit
set_option linter.all false
namespace Go.Am
open Go.Shelf Go.RowKit Go.Lib
variable{P:Program}
section
open S
abbrev y0:= "slices.go:224"
abbrev y1:= "slices.go:225"
abbrev y2:= "slices.go:227"
abbrev y3:= "slices.go:228"
abbrev y4:= "slices.go:231"
abbrev y5:= "slices.go:232"
abbrev y6:= "slices.go:233"
abbrev y7:= "slices.go:234"
def To(nm:String)(b:Array TypeId)(tS tI tB t0 tE:TypeId):Func :=
 V ({name:=nm,origin:= "slices.Delete",targs:=b,params:=#[tS,tI,tI],resultTypes:=#[tS],nfree:=0,ntmps:=33,results:=#[ResultVar.tmp 6],body:=some ((R 0 #[j 6 (.assign (.const (.slice none 0 0))) tS y0 #[]]).seq ((R 1 #[m 8 0 tS y1 #[],m 9 1 tI y1 #[],m 10 2 tI y1 #[],m 11 0 tS y1 #[],j 12 (k (.builtin .len) #[t 11] #[tS]) tI y1 #[d 3],j 13 (.slice tS (t 8) (some (t 9)) (some (t 10)) (some (t 12))) tS y1 #[d 0,d 1,d 2,d 4]]).seq (((R 2 #[m 14 1 tI y2 #[],m 15 2 tI y2 #[],j 16 (.binOp .eql tI (t 14) (t 15) tI) tB y2 #[d 0,d 1]]).seq (I (t 16) ((R 3 #[m 17 0 tS y3 #[],a 6 17 tS y3 #[d 0,p 0]]).seq .ret) .skip)).seq ((R 4 #[m 18 0 tS y4 #[],j 19 (k (.builtin .len) #[t 18] #[tS]) tI y4 #[d 0],a 7 19 tI y4 #[d 1,p 0,p 1]]).seq ((Code.region 5 #[m 20 0 tS y5 #[],m 21 1 tI y5 #[],j 22 (.slice tS (t 20) none (some (t 21)) none) tS y5 #[d 0,d 1],m 23 0 tS y5 #[],m 24 2 tI y5 #[],j 25 (.slice tS (t 23) (some (t 24)) none none) tS y5 #[d 3,d 4],j 26 (k (.builtin .append) #[t 22,t 25] #[tS,tS]) tS y5 #[d 2,d 5],a 0 26 tS y5 #[d 6,c 6,p 0,p 1,p 2,p 3,p 4,p 5,p 6]] true).seq ((R 6 #[m 27 0 tS y6 #[],m 28 0 tS y6 #[],j 29 (k (.builtin .len) #[t 28] #[tS]) tI y6 #[d 1],m 30 7 tI y6 #[],j 31 (.slice tS (t 27) (some (t 29)) (some (t 30)) none) tS y6 #[d 0,d 2,d 3],J (none) (k (.builtin .clear) #[t 31] #[tS]) t0 y6 #[d 4] (none)]).seq ((R 7 #[m 32 0 tS y7 #[],a 6 32 tS y7 #[d 0,p 0]]).seq .ret))))))),norace:=false,file:= "slices/slices.go",endLine:=235,tmpNames:=#["s","i","j","s","i","j","","oldlen","","","","","","","","","","","","","","","","","","","","","","","","",""]}:Func) (by conv=>lhs;simp only[d,c,g,p,t,k,J,j,m,a,R,I,y0,y1,y2,y3,y4,y5,y6,y7])
end
theorem FP(nm:String)(b:Array TypeId)(tS tI tB t0 tE:TypeId):(To nm b tS tI tB t0 tE).ntmps=33:=rfl
structure Lg(P:Program)(f:FuncId)(tS tI tB tE t0:TypeId)(i0:TypeInfo)(z:Value):Prop where
 mixed:P.follows .mixedOrders=true
 f:∃nm ta,P.funcs[f]? = some (To nm ta tS tI tB t0 tE)/\(nm == "runtime.NumGoroutine")=false
 tS:P.underlying tS=some (.slice tE)
 tI:P.underlying tI=some (.int .i64)
 tB:P.underlying tB=some .bool
 t0:P.underlying t0=some (.tuple #[])
 i:P.info? tE=some i0
 iz:i0.zero=some z
 zs:z.cells.size=i0.size
 z1:z.cells.toList.all Value.oneCell'=true
 pos:0<i0.size
def Eo(w:World)(t e ty:TypeId)(i:TypeInfo)(z:Value)(q:P.underlying t=some (.slice e))(r:P.info? e=some i)(l:i.zero=some z)(b o n c:Nat)(y:0<n)
  (x:∀j,j<(Builtin.zeroCells z.cells n).toList.length->(w.cell? ⟨b,o+j,none⟩).isSome=true) (v:∀j,j<(Builtin.zeroCells z.cells n).toList.length->w.frozen? ⟨b,o+j,none⟩=false) (h1:∀u∈(Builtin.zeroCells z.cells n).toList,u.oneCell'=true) :
  (Builtin.clear_ #[t] ty #[.slice (some ⟨b,o,none⟩) n c]).run P w = .ok (.tuple #[]) (w.setCells b o (Builtin.zeroCells z.cells n).toList):=by
 have h:=run_storeCells_cells (P:=P) b o (Builtin.zeroCells z.cells n).toList 0 w (ak x) (ak v) h1
 simp only[cK]at h;obtain⟨m,rfl⟩:∃m,n=m+1:=⟨n-1,aa⟩
 simp only[Builtin.clear_,bw,aS,Sem.run_bind,run_underlying q,Result.andThen_ok,iF r l,h,Sem.run_pure]
def DU{z:Value}(h1:z.cells.toList.all Value.oneCell'=true)(n:Nat):∀u∈(Builtin.zeroCells z.cells n).toList,u.oneCell'=true:=by
 intro u b;unfold Builtin.zeroCells at b;simp at b;obtain⟨a,o,rfl⟩:=b;have l:0<z.cells.size:=by
  rcases dx z.cells.size with h | h
  .rw[h]at o;omega
  .exact h
 have i:=gO a l;rw[getElem!_pos z.cells _ i];exact aJ.1 h1 _ ah
variable{f tS tI tB tE t0:Nat}{i0:TypeInfo}{z:Value}
set_option maxHeartbeats 4000000 in
set_option maxRecDepth 100000 in
def KM(L:Lg P f tS tI tB tE t0 i0 z)(b off n c i j:Nat)(o:List Value)(w:World)(hij:i<j)(hjn:j<=n)(hnc:n<=c)(W:o.length=n*i0.size)
  (G:∀q u,o[q]? = some u->w.cell? ⟨b,off+q,none⟩=some u) (F:∀q,q<n*i0.size->w.frozen? ⟨b,off+q,none⟩=false) (h1:∀u∈o,u.oneCell'=true) :
  Calls P f #[.slice (some ⟨b,off,none⟩) n c,.int .i64 i,.int .i64 j] w λe w' =>
   e = .returned (.slice (some ⟨b,off,none⟩) (i+(n-j)) c)/\∃q,w'=({w with drawn:=q}.setCells b (off+i*i0.size) (o.drop (j*i0.size))).setCells b (off+(i+(n-j))*i0.size) (Builtin.zeroCells z.cells (j-i)).toList:=by
 have mixed:=L.mixed;have N:=L.tS;have Z:=L.tI;have tB':=L.tB;have t0':=L.t0;have uS:=run_underlying (w:=w) L.tS;have zE:=rR L.i;let⟨nm,ta,hf,_⟩:=L.f;obtain⟨news,l⟩:∃news,news=o.drop (j*i0.size):=⟨_,rfl⟩;have S:j*i0.size+(n-j)*i0.size=n*i0.size:=by rw[<-bL];congr 1;omega
 have r:news.length=(n-j)*i0.size:=by rw[l,bW,W];omega
 obtain⟨A,hA,M⟩:∃A:Addr,(if c=j then some (⟨b,off,none⟩:Addr)else some ⟨b,off+j*i0.size,none⟩)=some A/\Hid (∀t u,news[t]? = some u->w.drew.cell? (A.add t)=some u):=by
  by_cases h:c=j
  .refine⟨⟨b,off,none⟩,by simp[h],λt u E=>?_⟩
   have h0:news.length=0:=by rw[r,show n-j=0 by omega,gR]
   rw[eo.1 h0]at E;simp at E
  .refine⟨⟨b,off+j*i0.size,none⟩,by simp[h],λt u E=>?_⟩
   rw[l,bR]at E;rw[Addr.add_lit,show off+j*i0.size+t=off+(j*i0.size+t) by omega]
   exact G _ _ E
 have s2:Hid (∀u∈news,u.oneCell'=true):=λu E=>h1 u (cA (l▸E))
 have T:i*i0.size+(n-j)*i0.size<=n*i0.size:=by rw[<-bL];exact bl _ aa
 have v:∀q,q<n*i0.size->(w.cell? ⟨b,off+q,none⟩).isSome=true:=λq hq=>by
  rw[G q _ (aF aa)];rfl
 have s3:Hid (∀t,t<news.length->(w.drew.cell? ⟨b,off+i*i0.size+t,none⟩).isSome=true/\w.drew.frozen? ⟨b,off+i*i0.size+t,none⟩=false):=by
  intro t K;rw[r]at K;rw[cz];exact⟨v _ aa,F _ aa⟩
 have s1:Hid (news.length=(n-j)*i0.size):=r;obtain⟨H,x⟩:∃H,H=w.drew.setCells b (off+i*i0.size) news:=⟨_,rfl⟩;have y:(Builtin.zeroCells z.cells (j-i)).toList.length=(j-i)*i0.size:=by simp[size_zeroCells,L.zs]
 have O:(i+(n-j))*i0.size+(j-i)*i0.size=n*i0.size:=by rw[<-bL];congr 1;omega
 have X:n-(i+(n-j))=j-i:=aa
 have U:∀ty,(Builtin.clear_ #[tS] ty #[.slice (some ⟨b,off+(i+(n-j))*i0.size,none⟩) (j-i) (c-(i+(n-j)))]).run P H = .ok (.tuple #[]) (H.setCells b (off+(i+(n-j))*i0.size) (Builtin.zeroCells z.cells (j-i)).toList):=λty=>by
  exact Eo H tS tE ty i0 z L.tS L.i L.iz b _ (j-i) _ aa
   (λt K=>by
    rw[y]at K;rw[x,cz];exact isSome_setCells b _ _ _ (λj hj=>by rw[r]at hj;rw[cz];exact v _ aa) _ (v _ aa))
   (λt K=>by
    rw[y]at K;rw[x,World.frozen?_setCells,cz];exact F _ aa) (DU L.z1 _)
 have Y:Hid (H=w.drew.setCells b (off+i*i0.size) news):=x;have hic:i<=c:=aa
 have hjc:j<=c:=aa
 have hne:¬((i:Int)=(j:Int)):=aa
 rw[<-l];clear x v F G l r W h1 y
 go_enter hf,FP _ _ _ _ _ _ _
 go_wp2_with fail
 go_region_law_o (refine step_append_room rfl (.tmp 22) (.tmp 25) tS rfl tE i0 i0.size N L.i rfl b off i c (by simp[Act.eval,Act.put]) A (n-j) (c-j) news (by simp[Act.eval,Act.put]) s1.out M.out s2.out aa s3.out ?_;rw[<-Y.out])
 go_wp2_with (simp only[U])
 all_goals (go_ret;refine⟨rfl,w.drawn+1,?_⟩;rw[Y.out])
 .rfl
 .have Q:z.cells = #[z]:=by
   unfold Value.cells;split
   .simp_all
   .rfl
  rw[Q];rfl
def jW(sz:Nat)(args:List AV)(h:AH):Option (AV×AH):=match args with
 | [.own b v o n,.int .i64 i,.int .i64 j] =>
  match h[b]? with
  |some (.row v' l es) =>
   if v=v'/\l=sz/\o+n<=es.length/\0<=i/\i<j/\j<=n then
    some (.own b (v+1) 0 (i.toNat+(n-j.toNat)),h.set b (.row (v+1) sz ((((es.drop o).take n).take i.toNat)++((es.drop o).take n).drop j.toNat)))
   else none
  |_=>none
 |_=>none
def rj{h:AH}(L:Lg P f tS tI tB tE t0 i0 z){args:List AV}{r:AV}{h':AH}(F:jW i0.size args h=some (r,h')):nC P f args h r h':=by
 unfold jW at F;split at F
 .rename_i b v o n i j;split at F
  .rename_i v' sz' es O;split at F
   .rename_i H;obtain⟨rfl,rfl,hon,hi0,hij,hjn⟩:=H;cases F;obtain⟨k,rfl⟩:∃k:Nat,i=(k:Int):=⟨i.toNat,aa⟩
    obtain⟨m,rfl⟩:∃k:Nat,j=(k:Int):=⟨j.toNat,aa⟩
    have hkm:k<m:=aa
    have hmn:m<=n:=aa
    simp only[Int.toNat_natCast];have hpos:=L.pos;refine⟨by let⟨nm,ta,hf,hn⟩:=L.f;exact⟨_,hf,rfl,hn⟩,λZ β w vs R hl hv=>?_⟩
    obtain⟨v1,v2,v3,rfl⟩:∃a b c,vs=[a,b,c]:=by
     match vs,hl with
     | [a,b,c],_=>exact⟨a,b,c,rfl⟩
    have hv1:=hv 0 _ _ rfl rfl;have hv2:=(hv 1 _ _ rfl rfl).jF;have hv3:=(hv 2 _ _ rfl rfl).jF;subst hv2 hv3;obtain⟨bd,ad,c,Q,rfl,h2⟩:=hv1.jL;let⟨_,Lo,q1,q2,U⟩:=R.blk b _ O;rw[Q]at q1;cases q1
    rcases h2 with⟨_,h2⟩ | ⟨cb,W,p2,N,p4⟩
    .omega
    rcases U with⟨U,_⟩ | ⟨c2,cur,g1,S,g3,g4,g5⟩
    .rw[W]at U;cases U
    rw[W]at g1;cases g1;subst p2;have x:((es.drop o).take n).length=n:=aj
    have M:=qQ (o:=o) (n:=n) S g5;rw[q2]at p4;let⟨l,X,o2,o3,o4⟩:=M.list;rw[x]at X;have akf:m*i0.size+(n-m)*i0.size=n*i0.size:=by rw[<-bL];congr 1;omega
    have akB:k*i0.size+(n-m)*i0.size=(k+(n-m))*i0.size:=by rw[<-bL]
    have akC:k*i0.size<=m*i0.size:=bl _ aa
    have hzS:(k+(n-m))*i0.size+(m-k)*i0.size=n*i0.size:=by rw[<-bL];congr 1;omega
    have aky:n*i0.size<=c*i0.size:=bl _ N;rw[bL]at p4;rw[q2];have K:=KM L cb (bd.base+o*i0.size) n c k m l w hkm hmn N X (λq u hq=>o2 q u hq) (λq _=>by simp[World.frozen?,S]) o3
    refine K.mono ?_
    rintro e w' ⟨rfl,q,rfl⟩
    have T:(l.drop (m*i0.size)).length=(n-m)*i0.size:=by rw[bW,X];omega
    have Y:(Builtin.zeroCells z.cells (m-k)).toList.length=(m-k)*i0.size:=by simp[size_zeroCells,L.zs]
    have y:bd.base+o*i0.size+k*i0.size+(l.drop (m*i0.size)).length<=cur.toList.length:=by rw[T];simp;omega
    have A:bd.base+o*i0.size+(k+(n-m))*i0.size+(Builtin.zeroCells z.cells (m-k)).toList.length<=(over cur.toList (bd.base+o*i0.size+k*i0.size) (l.drop (m*i0.size))).length:=by
     rw[ig _ _ _ y,Y];simp;omega
    rw[pP cb _ _ cur _ _ _ {w with drawn:=q} S (ak y) (λu hu=>o3 u (cA hu)) (by rw[ig _ _ _ y]at A;simpa using A) (DU L.z1 _)]
    have E:(((es.drop o).take n).take k).length=k:=by rw[bI,x,gq aa]
    have sA:ic (Own Z β h) w (λj=>(l.take (k*i0.size))[j]?) i0.size (((es.drop o).take n).take k):=(o4.take k).congr λj G=>by
     rw[E]at G;rw[cH,if_pos G]
    have sB:ic (Own Z β h) w (λj=>(l.drop (m*i0.size))[j]?) i0.size (((es.drop o).take n).drop m):=(o4.drop m).congr λj G=>by rw[bR]
    obtain⟨β1,k1,k2,k3,-⟩:=R.ry O Q W S (over (over cur.toList (bd.base+o*i0.size+k*i0.size) (l.drop (m*i0.size))) (bd.base+o*i0.size+(k+(n-m))*i0.size) (Builtin.zeroCells z.cells (m-k)).toList)
     (by rw[ig _ _ _ A,ig _ _ _ y];simp) o (es':=((es.drop o).take n).take k++((es.drop o).take n).drop m)
     (by simp only[aG,bW,E,x];rw[g3];omega)
     (ic.append (sA.congr λj G=>by
       rw[E]at G;simp only[bw];rw[iG _ _ _ A,if_neg aa,iG _ _ _ y,if_neg aa,cH,if_pos G]
       have:l[j]? = some (l[j]'aa):=aF _
       rw[this];have:=o2 _ _ this;unfold World.cell? at this;simp only[S]at this
       simpa using this.symm)
      (sB.congr λj G=>by
       rw[bW,x]at G;simp only[bw,E];rw[iG _ _ _ A,if_neg aa,iG _ _ _ y,if_pos (by rw[T];omega)]
       congr 1;omega))
    let⟨m1,m2⟩:=k1.drawn q;exact⟨_,β1,rfl,m1,k2.trans m2,(k3 (k+(n-m)) c aa (by rw[g3];omega)).fr m2⟩
   .cases F
  .cases F
 .cases F
end Go.Am
