/- Part of the proof that TopPassedCard holds. -/
import Derived.Test.YtaepagegdgdlhaaGreatDoorAmKe
import Derived.Deep.RegionLaw
import Derived.Deep.LoopGhost
import Derived.WalkKit
set_option linter.all false
namespace Go.Am
open Go.Shelf Go.RowKit Go.Lib
variable{P:Program}
section
open S
abbrev y0:= "slices.go:224"
abbrev y1:= "slices.go:225"
abbrev y2:= "slices.go:227"
abbrev y3:= "slices.go:228"
abbrev y4:= "slices.go:231"
abbrev y5:= "slices.go:232"
abbrev y6:= "slices.go:233"
abbrev y7:= "slices.go:234"
def ab6(nm:String)(ta:Array TypeId)(tS tI tB t0 tE:TypeId):Func :=
 V ({name:=nm,origin:= "slices.Delete",targs:=ta,params:=#[tS,tI,tI],resultTypes:=#[tS],nfree:=0,ntmps:=33,results:=#[ResultVar.tmp 6],body:=some ((R 0 #[j 6 (.assign (.const (.slice none 0 0))) tS y0 #[]]).seq ((R 1 #[m 8 0 tS y1 #[],m 9 1 tI y1 #[],m 10 2 tI y1 #[],m 11 0 tS y1 #[],j 12 (k (.builtin .len) #[t 11] #[tS]) tI y1 #[d 3],j 13 (.slice tS (t 8) (some (t 9)) (some (t 10)) (some (t 12))) tS y1 #[d 0,d 1,d 2,d 4]]).seq (((R 2 #[m 14 1 tI y2 #[],m 15 2 tI y2 #[],j 16 (.binOp .eql tI (t 14) (t 15) tI) tB y2 #[d 0,d 1]]).seq (I (t 16) ((R 3 #[m 17 0 tS y3 #[],a 6 17 tS y3 #[d 0,p 0]]).seq .ret) .skip)).seq ((R 4 #[m 18 0 tS y4 #[],j 19 (k (.builtin .len) #[t 18] #[tS]) tI y4 #[d 0],a 7 19 tI y4 #[d 1,p 0,p 1]]).seq ((Code.region 5 #[m 20 0 tS y5 #[],m 21 1 tI y5 #[],j 22 (.slice tS (t 20) none (some (t 21)) none) tS y5 #[d 0,d 1],m 23 0 tS y5 #[],m 24 2 tI y5 #[],j 25 (.slice tS (t 23) (some (t 24)) none none) tS y5 #[d 3,d 4],j 26 (k (.builtin .append) #[t 22,t 25] #[tS,tS]) tS y5 #[d 2,d 5],a 0 26 tS y5 #[d 6,c 6,p 0,p 1,p 2,p 3,p 4,p 5,p 6]] true).seq ((R 6 #[m 27 0 tS y6 #[],m 28 0 tS y6 #[],j 29 (k (.builtin .len) #[t 28] #[tS]) tI y6 #[d 1],m 30 7 tI y6 #[],j 31 (.slice tS (t 27) (some (t 29)) (some (t 30)) none) tS y6 #[d 0,d 2,d 3],J (none) (k (.builtin .clear) #[t 31] #[tS]) t0 y6 #[d 4] (none)]).seq ((R 7 #[m 32 0 tS y7 #[],a 6 32 tS y7 #[d 0,p 0]]).seq .ret))))))),norace:=false,file:= "slices/slices.go",endLine:=235,tmpNames:=#["s","i","j","s","i","j","","oldlen","","","","","","","","","","","","","","","","","","","","","","","","",""]}:Func) (by conv=>lhs;simp only[d,c,g,p,t,k,J,j,m,a,R,I,y0,y1,y2,y3,y4,y5,y6,y7])
end
theorem MN(nm:String)(ta:Array TypeId)(tS tI tB t0 tE:TypeId):(ab6 nm ta tS tI tB t0 tE).ntmps=33:=rfl
structure TS(P:Program)(f:FuncId)(tS tI tB tE t0:TypeId)(i0:TypeInfo)(z:Value):Prop where
 mixed:P.follows .mixedOrders=true
 f:∃nm ta,P.funcs[f]? = some (ab6 nm ta tS tI tB t0 tE)/\(nm == "runtime.NumGoroutine")=false
 tS:P.underlying tS=some (.slice tE)
 tI:P.underlying tI=some (.int .i64)
 tB:P.underlying tB=some .bool
 t0:P.underlying t0=some (.tuple #[])
 i:P.info? tE=some i0
 iz:i0.zero=some z
 zs:z.cells.size=i0.size
 z1:z.cells.toList.all Value.oneCell'=true
 pos:0<i0.size
def Lj(w:World)(t e ty:TypeId)(i:TypeInfo)(z:Value)(ht:P.underlying t=some (.slice e))(hi:P.info? e=some i)(hz:i.zero=some z)(b o n c:Nat)(hn:0<n)
  (hc:∀j,j<(Builtin.zeroCells z.cells n).toList.length->(w.cell? ⟨b,o+j,none⟩).isSome=true) (hf:∀j,j<(Builtin.zeroCells z.cells n).toList.length->w.frozen? ⟨b,o+j,none⟩=false) (h1:∀u∈(Builtin.zeroCells z.cells n).toList,u.oneCell'=true) :
  (Builtin.clear_ #[t] ty #[.slice (some ⟨b,o,none⟩) n c]).run P w = .ok (.tuple #[]) (w.setCells b o (Builtin.zeroCells z.cells n).toList):=by
 have hst:=run_storeCells_cells (P:=P) b o (Builtin.zeroCells z.cells n).toList 0 w (an hc) (an hf) h1
 simp only[ct]at hst;obtain⟨m,rfl⟩:∃m,n=m+1:=⟨n-1,aa⟩
 simp only[Builtin.clear_,bN,bz,Sem.run_bind,run_underlying ht,Result.andThen_ok,kC hi hz,hst,Sem.run_pure]
def KV{z:Value}(h1:z.cells.toList.all Value.oneCell'=true)(n:Nat):∀u∈(Builtin.zeroCells z.cells n).toList,u.oneCell'=true:=by
 intro u hu;unfold Builtin.zeroCells at hu;simp at hu;obtain⟨a,ha,rfl⟩:=hu;have hp:0<z.cells.size:=by
  rcases cM z.cells.size with h | h
  .rw[h]at ha;omega
  .exact h
 have hlt:=dP a hp;rw[getElem!_pos z.cells _ hlt];exact aO.1 h1 _ ah
variable{f tS tI tB tE t0:Nat}{i0:TypeInfo}{z:Value}
set_option maxHeartbeats 4000000 in
set_option maxRecDepth 100000 in
def To(L:TS P f tS tI tB tE t0 i0 z)(b off n c i j:Nat)(olds:List Value)(w:World)(hij:i<j)(hjn:j<=n)(hnc:n<=c)(ho:olds.length=n*i0.size)
  (hcs:∀q u,olds[q]? = some u->w.cell? ⟨b,off+q,none⟩=some u) (hfz:∀q,q<n*i0.size->w.frozen? ⟨b,off+q,none⟩=false) (h1:∀u∈olds,u.oneCell'=true) :
  Calls P f #[.slice (some ⟨b,off,none⟩) n c,.int .i64 i,.int .i64 j] w λe w' =>
   e = .returned (.slice (some ⟨b,off,none⟩) (i+(n-j)) c)/\∃q,w'=({w with drawn:=q}.setCells b (off+i*i0.size) (olds.drop (j*i0.size))).setCells b (off+(i+(n-j))*i0.size) (Builtin.zeroCells z.cells (j-i)).toList:=by
 have mixed:=L.mixed;have tS':=L.tS;have tI':=L.tI;have tB':=L.tB;have t0':=L.t0;have uS:=run_underlying (w:=w) L.tS;have zE:=wO L.i;let⟨nm,ta,hf,_⟩:=L.f;obtain⟨news,hnews⟩:∃news,news=olds.drop (j*i0.size):=⟨_,rfl⟩;have akB:j*i0.size+(n-j)*i0.size=n*i0.size:=by rw[<-bR];congr 1;omega
 have hlen:news.length=(n-j)*i0.size:=by rw[hnews,cq,ho];omega
 obtain⟨A,hA,hsrc⟩:∃A:Addr,(if c=j then some (⟨b,off,none⟩:Addr)else some ⟨b,off+j*i0.size,none⟩)=some A/\Hid (∀t u,news[t]? = some u->w.drew.cell? (A.add t)=some u):=by
  by_cases h:c=j
  .refine⟨⟨b,off,none⟩,by simp[h],λt u hu=>?_⟩
   have h0:news.length=0:=by rw[hlen,show n-j=0 by omega,Nat.zero_mul]
   rw[eH.1 h0]at hu;simp at hu
  .refine⟨⟨b,off+j*i0.size,none⟩,by simp[h],λt u hu=>?_⟩
   rw[hnews,bU]at hu;rw[Addr.add_lit,show off+j*i0.size+t=off+(j*i0.size+t) by omega]
   exact hcs _ _ hu
 have s2:Hid (∀u∈news,u.oneCell'=true):=λu hu=>h1 u (cA (hnews▸hu))
 have ar3:i*i0.size+(n-j)*i0.size<=n*i0.size:=by rw[<-bR];exact bD _ aa
 have hsp:∀q,q<n*i0.size->(w.cell? ⟨b,off+q,none⟩).isSome=true:=λq hq=>by
  rw[hcs q _ (aG aa)];rfl
 have s3:Hid (∀t,t<news.length->(w.drew.cell? ⟨b,off+i*i0.size+t,none⟩).isSome=true/\w.drew.frozen? ⟨b,off+i*i0.size+t,none⟩=false):=by
  intro t ht;rw[hlen]at ht;rw[cz];exact⟨hsp _ aa,hfz _ aa⟩
 have s1:Hid (news.length=(n-j)*i0.size):=hlen;obtain⟨W1,Ga⟩:∃W1,W1=w.drew.setCells b (off+i*i0.size) news:=⟨_,rfl⟩;have hzl:(Builtin.zeroCells z.cells (j-i)).toList.length=(j-i)*i0.size:=by simp[size_zeroCells,L.zs]
 have arZ:(i+(n-j))*i0.size+(j-i)*i0.size=n*i0.size:=by rw[<-bR];congr 1;omega
 have aew:n-(i+(n-j))=j-i:=aa
 have oZ:∀ty,(Builtin.clear_ #[tS] ty #[.slice (some ⟨b,off+(i+(n-j))*i0.size,none⟩) (j-i) (c-(i+(n-j)))]).run P W1 = .ok (.tuple #[]) (W1.setCells b (off+(i+(n-j))*i0.size) (Builtin.zeroCells z.cells (j-i)).toList):=λty=>by
  exact Lj W1 tS tE ty i0 z L.tS L.i L.iz b _ (j-i) _ aa
   (λt ht=>by
    rw[hzl]at ht;rw[Ga,cz];exact isSome_setCells b _ _ _ (λj hj=>by rw[hlen]at hj;rw[cz];exact hsp _ aa) _ (hsp _ aa))
   (λt ht=>by
    rw[hzl]at ht;rw[Ga,World.frozen?_setCells,cz];exact hfz _ aa) (KV L.z1 _)
 have hW:Hid (W1=w.drew.setCells b (off+i*i0.size) news):=Ga;have hic:i<=c:=aa
 have hjc:j<=c:=aa
 have hne:¬((i:Int)=(j:Int)):=aa
 rw[<-hnews];clear Ga hsp hfz hcs hnews hlen ho h1 hzl
 go_enter hf,MN _ _ _ _ _ _ _
 go_wp2_with fail
 go_region_law_o (refine step_append_room rfl (.tmp 22) (.tmp 25) tS rfl tE i0 i0.size tS' L.i rfl b off i c (by simp[Act.eval,Act.put]) A (n-j) (c-j) news (by simp[Act.eval,Act.put]) s1.out hsrc.out s2.out aa s3.out ?_;rw[<-hW.out])
 go_wp2_with (simp only[oZ])
 all_goals (go_ret;refine⟨rfl,w.drawn+1,?_⟩;rw[hW.out])
 .rfl
 .have hzc:z.cells = #[z]:=by
   unfold Value.cells;split
   .simp_all
   .rfl
  rw[hzc];rfl
def qU(sz:Nat)(args:List AV)(h:AH):Option (AV×AH):=match args with
 | [.own b v o n,.int .i64 i,.int .i64 j] =>
  match h[b]? with
  |some (.row v' sz' es) =>
   if v=v'/\sz'=sz/\o+n<=es.length/\0<=i/\i<j/\j<=n then
    some (.own b (v+1) 0 (i.toNat+(n-j.toNat)),h.set b (.row (v+1) sz ((((es.drop o).take n).take i.toNat)++((es.drop o).take n).drop j.toNat)))
   else none
  |_=>none
 |_=>none
def vJ{h:AH}(L:TS P f tS tI tB tE t0 i0 z){args:List AV}{r:AV}{h':AH}(hr:qU i0.size args h=some (r,h')):zl P f args h r h':=by
 unfold qU at hr;split at hr
 .rename_i b v o n i j;split at hr
  .rename_i v' sz' es lJ;split at hr
   .rename_i nR;obtain⟨rfl,rfl,NC,hi0,hij,hjn⟩:=nR;cases hr;obtain⟨k,rfl⟩:∃k:Nat,i=(k:Int):=⟨i.toNat,aa⟩
    obtain⟨m,rfl⟩:∃k:Nat,j=(k:Int):=⟨j.toNat,aa⟩
    have hkm:k<m:=aa
    have hmn:m<=n:=aa
    simp only[eG];have hpos:=L.pos;refine⟨by let⟨nm,ta,hf,hn⟩:=L.f;exact⟨_,hf,rfl,hn⟩,λZ β w vs R hl hv=>?_⟩
    obtain⟨v1,v2,v3,rfl⟩:∃a b c,vs=[a,b,c]:=by
     match vs,hl with
     | [a,b,c],_=>exact⟨a,b,c,rfl⟩
    have Me:=hv 0 _ _ rfl rfl;have Z2:=(hv 1 _ _ rfl rfl).nr;have hv3:=(hv 2 _ _ rfl rfl).nr;subst Z2 hv3;obtain⟨bd,ad,c,hbd,rfl,h2⟩:=Me.mg;let⟨_,zk,q1,q2,q3⟩:=R.blk b _ lJ;rw[hbd]at q1;cases q1
    rcases h2 with⟨_,h2⟩ | ⟨cb,p1,p2,hnc,p4⟩
    .omega
    rcases q3 with⟨q3,_⟩ | ⟨c2,cur,elem,g1,g2,g3,g4,g5⟩
    .rw[p1]at q3;cases q3
    rw[p1]at g1;cases g1;subst p2;have hlen:((es.drop o).take n).length=n:=aj
    have hsrc:=vk (o:=o) (n:=n) g2 g5;rw[q2]at p4;let⟨olds,o1,o2,o3,o4⟩:=hsrc.list;rw[hlen]at o1;have akB:m*i0.size+(n-m)*i0.size=n*i0.size:=by rw[<-bR];congr 1;omega
    have asR:k*i0.size+(n-m)*i0.size=(k+(n-m))*i0.size:=by rw[<-bR]
    have asS:k*i0.size<=m*i0.size:=bD _ aa
    have hzS:(k+(n-m))*i0.size+(m-k)*i0.size=n*i0.size:=by rw[<-bR];congr 1;omega
    have asN:n*i0.size<=c*i0.size:=bD _ hnc;rw[bR]at p4;rw[q2];have sV:=To L cb (bd.base+o*i0.size) n c k m olds w hkm hmn hnc o1 (λq u hq=>o2 q u hq) (λq _=>by simp[World.frozen?,g2]) o3
    refine sV.mono ?_
    rintro e w' ⟨rfl,q,rfl⟩
    have c2l:(olds.drop (m*i0.size)).length=(n-m)*i0.size:=by rw[cq,o1];omega
    have hzl:(Builtin.zeroCells z.cells (m-k)).toList.length=(m-k)*i0.size:=by simp[size_zeroCells,L.zs]
    have hl1:bd.base+o*i0.size+k*i0.size+(olds.drop (m*i0.size)).length<=cur.toList.length:=by rw[c2l];simp;omega
    have tQ:bd.base+o*i0.size+(k+(n-m))*i0.size+(Builtin.zeroCells z.cells (m-k)).toList.length<=(over cur.toList (bd.base+o*i0.size+k*i0.size) (olds.drop (m*i0.size))).length:=by
     rw[jZ _ _ _ hl1,hzl];simp;omega
    rw[uc cb _ _ cur elem _ _ {w with drawn:=q} g2 (an hl1) (λu hu=>o3 u (cA hu)) (by rw[jZ _ _ _ hl1]at tQ;simpa using tQ) (KV L.z1 _)]
    have S0:(((es.drop o).take n).take k).length=k:=by rw[bM,hlen,dZ aa]
    have sA:jW (Own Z β h) w (λj=>(olds.take (k*i0.size))[j]?) i0.size (((es.drop o).take n).take k):=(o4.take k).congr λj hj=>by
     rw[S0]at hj;rw[cC,if_pos hj]
    have sB:jW (Own Z β h) w (λj=>(olds.drop (m*i0.size))[j]?) i0.size (((es.drop o).take n).drop m):=(o4.drop m).congr λj hj=>by rw[bU]
    let⟨β1,k1,k2,k3⟩:=R.vR lJ hbd p1 g2 (over (over cur.toList (bd.base+o*i0.size+k*i0.size) (olds.drop (m*i0.size))) (bd.base+o*i0.size+(k+(n-m))*i0.size) (Builtin.zeroCells z.cells (m-k)).toList)
     (by rw[jZ _ _ _ tQ,jZ _ _ _ hl1];simp) o (es':=((es.drop o).take n).take k++((es.drop o).take n).drop m)
     (by simp only[aL,cq,S0,hlen];rw[g3];omega)
     (jW.append (sA.congr λj hj=>by
       rw[S0]at hj;simp only[bN];rw[kj _ _ _ tQ,if_neg aa,kj _ _ _ hl1,if_neg aa,cC,if_pos hj]
       have:olds[j]? = some (olds[j]'aa):=aG _
       rw[this];have:=o2 _ _ this;unfold World.cell? at this;simp only[g2]at this
       simpa using this.symm)
      (sB.congr λj hj=>by
       rw[cq,hlen]at hj;simp only[bN,S0];rw[kj _ _ _ tQ,if_neg aa,kj _ _ _ hl1,if_pos (by rw[c2l];omega)]
       congr 1;omega))
    let⟨m1,m2⟩:=k1.drawn q;exact⟨_,β1,rfl,m1,k2.trans m2,(k3 (k+(n-m)) c aa (by rw[g3];omega)).fr m2⟩
   .cases hr
  .cases hr
 .cases hr
end Go.Am
