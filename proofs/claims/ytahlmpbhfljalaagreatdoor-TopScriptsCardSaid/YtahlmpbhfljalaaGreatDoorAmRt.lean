/- Part of the proof that TopScriptsCard holds. -/
import Derived.Test.YtahlmpbhfljalaaGreatDoorAmCm
import Derived.Shelf.RegionOpenPlain
import Derived.WalkKit
import Derived.Lib.Walk
import Derived.LoopTactic
import Derived.Laws.RangeAny
import Derived.Laws.Strings
import Derived.Laws.Strings2
import Derived.Laws.Strings3
import Derived.Lib.Strings
import Derived.Test.YtahlmpbhfljalaaGreatDoorAmLp
set_option linter.all false
namespace Go.Am.Nm
open Go.Shelf Go.RowKit Go.Lib Go.Am
variable{P:Program}
section
open S
abbrev z0:= "name.go:13"
abbrev z1:= "name.go:14"
abbrev z2:= "name.go:15"
abbrev z3:= "name.go:17"
abbrev z4:= "name.go:18"
abbrev z5:= "name.go:19"
abbrev z6:= "name.go:22"
def IF(nm:String)(b:Array TypeId)(tS tB tI tR t0:TypeId):Func :=
  V ({name:=nm,origin:= "",params:=#[tS],resultTypes:=#[tB],nfree:=0,ntmps:=31,results:=#[ResultVar.tmp 2],body:=some ((R 0 #[j 2 (.assign (.const (.bool false))) tB z0 #[]]).seq (((R 1 #[m 5 0 tS z1 #[],j 6 (.binOp .eql tS (t 5) (.const (.string {data:=#[]})) tS) tB z1 #[d 0],m 7 6 tB z1 #[d 1],J (some 8) (.move (t 0)) tS z1 #[g 2] (some (2,false)),J (some 9) (k (.builtin .len) #[t 8] #[tS]) tI z1 #[d 3,g 2] (some (2,false)),J (some 10) (.binOp .gtr tI (t 9) (.const (.int .i64 32)) tI) tB z1 #[d 4,g 2] (some (2,false)),j 11 (.pick (t 7) (.const (.bool true)) (t 10)) tB z1 #[d 2,d 5],m 12 11 tB z1 #[d 6,c 2],J (some 13) (.move (t 0)) tS z1 #[g 7] (some (7,false)),J (some 14) (.binOp .eql tS (t 13) (.const (.string {data:=#[46]})) tS) tB z1 #[d 8,g 7] (some (7,false)),j 15 (.pick (t 12) (.const (.bool true)) (t 14)) tB z1 #[d 7,d 9],m 16 15 tB z1 #[d 10,c 7],J (some 17) (.move (t 0)) tS z1 #[g 11] (some (11,false)),J (some 18) (.binOp .eql tS (t 17) (.const (.string {data:=#[46,46]})) tS) tB z1 #[d 12,g 11] (some (11,false)),j 19 (.pick (t 16) (.const (.bool true)) (t 18)) tB z1 #[d 11,d 13]]).seq (I (t 19) ((R 2 #[j 2 (.assign (.const (.bool false))) tB z2 #[]]).seq .ret) .skip)).seq (((R 3 #[m 20 0 tS z3 #[],j 21 (.range tS (t 20)) t0 z3 #[d 0]]).seq (Code.block 0 ((R 4 #[j 22 (.next (t 21) true) t0 z3 #[],j 23 (.extract (t 22) 0) tB z3 #[d 0]]).seq ((I (t 23) .skip (.exit 0)).seq (Code.block 1 ((R 5 #[j 24 (.extract (t 22) 2) tR z3 #[],a 4 24 tR z3 #[d 0,p 0]]).seq ((R 6 #[m 25 4 tR z4 #[],j 26 (.binOp .lss tR (t 25) (.const (.int .i32 32)) tR) tB z4 #[d 0],m 27 26 tB z4 #[d 1],J (some 28) (.move (t 4)) tR z4 #[g 2] (some (2,false)),J (some 29) (.binOp .eql tR (t 28) (.const (.int .i32 47)) tR) tB z4 #[d 3,g 2] (some (2,false)),j 30 (.pick (t 27) (.const (.bool true)) (t 29)) tB z4 #[d 2,d 4]]).seq (I (t 30) ((R 7 #[j 2 (.assign (.const (.bool false))) tB z5 #[]]).seq .ret) .skip)))))).loop)).seq ((R 8 #[j 2 (.assign (.const (.bool true))) tB z6 #[]]).seq .ret)))),norace:=false,file:= "catacomb/name/name.go",endLine:=23,tmpNames:=#["s","s","","_","c","","","","","","","","","","","","","","","","","","","","","","","","","",""]}:Func) (by conv=>lhs;simp only[d,c,g,p,t,k,J,j,m,a,R,I,z0,z1,z2,z3,z4,z5,z6])
end
theorem AE(nm:String)(b:Array TypeId)(tS tB tI tR t0:TypeId):(IF nm b tS tB tI tR t0).ntmps=31:=rfl
def O9(b:UInt8):Bool:=!decide (b.toNat<32) && !decide (b.toNat=47)
def iN(l:aq):Bool:=!(decide (l=[])||decide (32<l.length)||decide (l=[46])||decide (l=[46,46]))&&l.all O9
def lI(s:ByteArray)(pos:Nat):Bool:=(s.data.toList.drop pos).all O9
structure DM(P:Program)(f:FuncId)(tS tB tI tR t0:TypeId):Prop where
  mixed:P.follows .mixedOrders=true
  f:∃nm ta,P.funcs[f]? = some (IF nm ta tS tB tI tR t0)/\(nm == "runtime.NumGoroutine")=false
  tS:P.underlying tS=some .string
  tB:P.underlying tB=some .bool
  tI:P.underlying tI=some (.int .i64)
  tR:P.underlying tR=some (.int .i32)
def Iz(s:ByteArray):s.toList=s.data.toList:=by
  let⟨⟨l⟩⟩:=s;simp
def Ri(s:ByteArray)(pos:Nat)(h:pos<s.size):s.data.toList[pos]? = some (s[pos]'h):=by
  rw[cI];exact bT h
def BQ(s:ByteArray)(pos:Nat)(h:pos<s.size):lI s pos=(O9 (s[pos]'h)&&lI s (pos+1)):=by
  have h1:=Ri s pos h;let⟨h2,h3⟩:=az.1 h1;unfold lI;rw[bz h2,cm,h3]
def NH(s:ByteArray)(pos:Nat)(h:¬pos<s.size):lI s pos=true:=by
  unfold lI;rw[dO (by rw[<-Lib.size_eq];omega)]
  rfl
def BR(s:ByteArray)(pos:Nat):∀n,(∀k,k<n->∃h:pos+k<s.size,128<=(s[pos+k]'h).toNat)->lI s pos=lI s (pos+n)
  |0,_=>rfl
  |n+1,h=>by
    rw[BR s pos n λk hk=>h k aa]
    let⟨h1,h2⟩:=h n aa
    rw[BQ s (pos+n) h1]
    have:O9 (s[pos+n]'h1)=true:=by
      unfold O9;have e1:¬(s[pos+n]'h1).toNat<32:=aa
      have b:¬(s[pos+n]'h1).toNat=47:=aa
      simp[e1,b]
    rw[this];rfl
def Jg(s:ByteArray)(k:Nat)(h:k<s.size):s.get! k=s[k]'h:=by
  have:=get_at s k h
  simpa using this
def aeW(s:ByteArray)(pos:Nat)(h:pos<s.size)(n:128<=(s[pos]'h).toNat):∀k,k<(Utf8.decode s pos).2->∃h:pos+k<s.size,128<=(s[pos+k]'h).toNat:=by
  have h0:128<=(s.get! pos).toNat:=by rw[Jg s pos h];exact n
  suffices i:∀k,k<(Utf8.decode s pos).2->pos+k<s.size/\128<=(s.get! (pos+k)).toNat from λk hk=>by
    let⟨h1,h2⟩:=i k hk;refine⟨h1,?_⟩;rw[Jg s _ h1]at h2;exact h2
  intro k;have b:¬(s.get! pos).toNat<128:=aa
  simp only[Utf8.decode,cK,b,if_false]
  repeat' split
  all_goals (intro hk;simp only[aC,decide_eq_true_eq,beq_iff_eq]at *)
  all_goals (have l:k=0\/k=1\/k=2\/k=3:=aa)
  all_goals (rcases l with rfl | rfl | rfl | rfl)
  all_goals first | (exact⟨aa,by simpa using h0⟩) | (refine⟨aa,aa⟩)
def NI(s:ByteArray)(pos:Nat)(h:pos<s.size)(b:128<=(s[pos]'h).toNat):lI s pos=lI s (pos+(Utf8.decode s pos).2):=BR s pos _ (aeW s pos h b)
def Kx(s:ByteArray)(pos:Nat)(h:pos<s.size):lI s pos=((!decide ((Utf8.decode s pos).1<32) && !decide ((Utf8.decode s pos).1=47))&&lI s (pos+(Utf8.decode s pos).2))/\1<=(Utf8.decode s pos).2:=by
  by_cases b:(s[pos]'h).toNat<128
  . rw[decode_ascii s pos h b,BQ s pos h];exact⟨rfl,aT _⟩
  . let⟨h1,h2⟩:=decode_high s pos h aa
    rw[<-NI s pos h aa]
    have e1:¬(Utf8.decode s pos).1<32:=aa
    have i:¬(Utf8.decode s pos).1=47:=aa
    simp[e1,i,h2]
set_option maxRecDepth 1000000 in
set_option maxHeartbeats 2000000 in
def Ev{f tS tB tI tR t0:Nat}(L:DM P f tS tB tI tR t0)(s:ByteArray)(w:World):
    Calls P f #[.string s] w λe w'=>e = .returned (.bool (iN s.data.toList))/\(w'=w\/∃pos,w'=w.iter s pos):=by
  have mixed:=L.mixed;have tS':=L.tS;have tI':=L.tI;have tB':=L.tB;have tR':=L.tR;have uS:=λw=>run_underlying (w:=w) L.tS
  have hrg:=λ(w:World)=>run_range_string (P:=P) w tS s L.tS
  let⟨nm,ta,hf,_⟩:=L.f
  go_enter hf,AE _ _ _ _ _ _ _
  go_wp2
  any_goals go_ret
  all_goals first
    | (refine ⟨?_, .inl rfl⟩
       have hl:s.toList=s.data.toList:=Iz s;have hz:s.size=s.data.toList.length:=Lib.size_eq s;generalize s.data.toList=l at *
       generalize s.toList=l' at *
       generalize s.size=z at *
       subst hl hz;have hb:=@decide_eq_true_iff
       simp_all[iN,List.isEmpty_iff]
       try omega
       try (intro h1 h2;exfalso;rename_i h;rcases h with h | h<;>first | omega | exact h2 h))
    |skip
  have SV:Hid (iN s.data.toList=lI s 0):=by
    show _=_;have hl:s.toList=s.data.toList:=Iz s;have hz:s.size=s.data.toList.length:=Lib.size_eq s;unfold lI;generalize s.data.toList=l at *
    generalize s.toList=l' at *
    generalize s.size=z at *
    subst hl hz
    simp_all[iN]
    try omega
  have h4:((s.toList.isEmpty=false/\(s.size:Int)<=32)/\(s.toList==[46])=false)/\(s.toList==[46,46])=false:=by assumption
  have e4:decide (32<(s.size:Int))=false:=decide_eq_false aa
  simp only[h4.1.1.1,h4.1.2,h4.2,e4,fV]
  go_loopw [2] (λ_ wr=>∃pos,wr=w.iter s pos/\Hid (lI s pos=lI s 0)) (λ_ wr=>s.size-wr.iterPos w.heap.size)
  case atStart=>exact⟨0,rfl,rfl⟩
  case round =>
    obtain⟨pos,rfl,HG⟩:=hrel
    by_cases hp:pos<s.size
    . let⟨hg,hw⟩:=Kx s pos hp;rw[HG.out]at hg;have HG2:Hid (lI s 0=((!decide ((Utf8.decode s pos).1<32) && !decide ((Utf8.decode s pos).1=47))&&lI s (pos+(Utf8.decode s pos).2))):=hg;clear hg;have hnx:∀ty,(Instr.next (.pointer (some ⟨w.heap.size,0,none⟩)) true ty).run P (w.iter s pos)=_:=λty=>run_next_any w s pos ty hp
      go_wp2
      all_goals first
        | (go_ret
           refine⟨?_,.inr ⟨_,rfl⟩⟩;rw[SV.out,HG2.out]
           have hx:(!decide ((Utf8.decode s pos).1<32) && !decide ((Utf8.decode s pos).1=47))=false:=by
             generalize(Utf8.decode s pos).1=c at *
             simp_all
             try omega
           rw[hx];rfl)
        | (go_roundw
           case rel =>
             refine⟨_,rfl,?_⟩;show _=_
             have hx:(!decide ((Utf8.decode s pos).1<32) && !decide ((Utf8.decode s pos).1=47))=true:=by
               generalize(Utf8.decode s pos).1=c at *
               simp_all
               try omega
             rw[HG2.out,hx];rfl
           case measure =>
             simp;omega)
    . have hnx:∀ty,(Instr.next (.pointer (some ⟨w.heap.size,0,none⟩)) true ty).run P (w.iter s pos)=_:=λty=>run_next_end w s pos ty hp
      go_wp2
      go_ret
      rw[SV.out,<-HG.out,NH s pos hp];exact⟨rfl,.inr ⟨_,rfl⟩⟩
end Go.Am.Nm
