/- Part of the proof that TopTwoPartsCard holds. -/
import Derived.Test.YtghgbehknhmnaaaGreatDoorAmN
import Derived.Lib.ConvBytes
set_option linter.all false
namespace Go.Am
section
variable{P:Program}{Z:az}{β:jO}{h:AH}{w:World}
def Qa(R:Rel Z β h w){s d e:TypeId}(hs:P.underlying s=some .string)(L:P.underlying d=some (.slice e))(K:P.underlying e=some (.int .u8)){l:au}{v:Value}(G:VR β (Own Z β h) w (.str l) v):
  iM P Z β h w (convert s d v) (.b9 false (l.map λc=>.int .u8 (c.toNat:Int))) h:=by
 obtain⟨b,rfl,hl⟩:=G.oD;have n:l.length=b.size:=by rw[<-hl];simp
 let⟨O,N⟩:=R.grown (w':=Lib.bytesWorld w e b) rfl rfl rfl (by rw[Lib.bytesWorld_size];omega) (λk hk=>Lib.bytesWorld_at_old w e b k hk)
 refine⟨_,Lib.bytesWorld w e b,β,Lib.run_convert_string_bytes w s d e b hs L K,O,N,?_⟩;have M:¬Own Z β h w.heap.size:=by
  rintro(F | ⟨i,H⟩)
  .have:=R.xlt _ F;omega
  .have:=R.ox H;omega
 have q:iO (Own Z β h) (Lib.bytesWorld w e b) (λk=>(Lib.bytesWorld w e b).cell? ⟨w.heap.size,0+k,none⟩) 1 (l.map λc=>AV.int .u8 (c.toNat:Int)):=by
  intro i x o;rw[bP]at o;cases z:l[i]? with
  |none=>rw[z]at o;cases o
  |some c =>
   rw[z]at o;simp only[cS,bn]at o;subst o;refine⟨rfl,λj y A=>?_⟩
   cases j with
   |succ j=>simp[AV.cells]at A
   |zero =>
    simp only[AV.cells,bH,bn]at A;subst A;have E:i<b.size:=by rw[<-n];exact(aD.1 z).1
    refine⟨.int .u8 (c.toNat:Int),?_,rfl,.int _ _⟩;have:=Lib.bytesWorld_cell w e b i E;simp only[Nat.mul_one,cI,bW];rw[this,hl,bY,z];rfl
 have r:(l.map λc=>AV.int .u8 (c.toNat:Int)).length<=grownCap w b.size 0 e:=by
  rw[cv,n];have:=grownCap_ge w b.size 0 e;omega
 have:=rS (full:=false) ah M (by rw[Lib.bytesWorld_size];omega) q (λh=>by cases h) r
 rw[cv,n]at this;exact .pure _ _ this
end
end Go.Am
