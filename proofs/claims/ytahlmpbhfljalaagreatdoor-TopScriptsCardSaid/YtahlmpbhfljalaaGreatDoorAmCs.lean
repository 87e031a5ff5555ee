/- Part of the proof that TopScriptsCard holds. -/
import Derived.Test.YtahlmpbhfljalaaGreatDoorAmN
import Derived.Lib.ConvBytes
set_option linter.all false
namespace Go.Am
section
variable{P:Program}{Z:ay}{β:iW}{h:AH}{w:World}
def PI(R:Rel Z β h w){s d e:TypeId}(hs:P.underlying s=some .string)(K:P.underlying d=some (.slice e))(H:P.underlying e=some (.int .u8)){l:aq}{v:Value}(F:VR β (Own Z β h) w (.str l) v):
  gY P Z β h w (convert s d v) (.en false (l.map λc=>.int .u8 (c.toNat:Int))) h:=by
 obtain⟨b,rfl,hl⟩:=F.lN;have n:l.length=b.size:=by rw[<-hl];simp
 let⟨N,M⟩:=R.grown (w':=Lib.bytesWorld w e b) rfl rfl rfl (by rw[Lib.bytesWorld_size];omega) (λk hk=>Lib.bytesWorld_at_old w e b k hk)
 refine⟨_,Lib.bytesWorld w e b,β,Lib.run_convert_string_bytes w s d e b hs K H,N,M,?_⟩;have L:¬Own Z β h w.heap.size:=by
  rintro(E | ⟨i,G⟩)
  .have:=R.xlt _ E;omega
  .have:=R.mS G;omega
 have o:ic (Own Z β h) (Lib.bytesWorld w e b) (λk=>(Lib.bytesWorld w e b).cell? ⟨w.heap.size,0+k,none⟩) 1 (l.map λc=>AV.int .u8 (c.toNat:Int)):=by
  intro i x hx;rw[bM]at hx;cases r:l[i]? with
  |none=>rw[r]at hx;cases hx
  |some c =>
   rw[r]at hx;simp only[cB,aP]at hx;subst hx;refine⟨rfl,λj y z=>?_⟩
   cases j with
   |succ j=>simp[AV.cells]at z
   |zero =>
    simp only[AV.cells,aS,aP]at z;subst z;have A:i<b.size:=by rw[<-n];exact(az.1 r).1
    refine⟨.int .u8 (c.toNat:Int),?_,rfl,.int _ _⟩;have:=Lib.bytesWorld_cell w e b i A;simp only[Nat.mul_one,cK,b8];rw[this,hl,bK,r];rfl
 have q:(l.map λc=>AV.int .u8 (c.toNat:Int)).length<=grownCap w b.size 0 e:=by
  rw[cw,n];have:=grownCap_ge w b.size 0 e;omega
 have:=oM (full:=false) af L (by rw[Lib.bytesWorld_size];omega) o (λh=>by cases h) q
 rw[cw,n]at this;exact .pure _ _ this
end
end Go.Am
