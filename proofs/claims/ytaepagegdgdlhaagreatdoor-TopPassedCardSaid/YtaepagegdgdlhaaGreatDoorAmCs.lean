/- Part of the proof that TopPassedCard holds. -/
import Derived.Test.YtaepagegdgdlhaaGreatDoorAmN
import Derived.Lib.ConvBytes
set_option linter.all false
namespace Go.Am
section
variable{P:Program}{Z:az}{β:kW}{h:AH}{w:World}
def Y7(R:Rel Z β h w){s d e:TypeId}(hs:P.underlying s=some .string)(hd:P.underlying d=some (.slice e))(he:P.underlying e=some (.int .u8)){l:au}{v:Value}(hv:VR β (Own Z β h) w (.str l) v):
  jS P Z β h w (convert s d v) (.jB false (l.map λc=>.int .u8 (c.toNat:Int))) h:=by
 obtain⟨b,rfl,hl⟩:=hv.pH;have hlen:l.length=b.size:=by rw[<-hl];simp
 let⟨G1,G2⟩:=R.grown (w':=Lib.bytesWorld w e b) rfl rfl rfl (by rw[Lib.bytesWorld_size];omega) (λk hk=>Lib.bytesWorld_at_old w e b k hk)
 refine⟨_,Lib.bytesWorld w e b,β,Lib.run_convert_string_bytes w s d e b hs hd he,G1,G2,?_⟩;have hO:¬Own Z β h w.heap.size:=by
  rintro(hz | ⟨i,ho⟩)
  .have:=R.xlt _ hz;omega
  .have:=R.qI ho;omega
 have hsrc:jW (Own Z β h) (Lib.bytesWorld w e b) (λk=>(Lib.bytesWorld w e b).cell? ⟨w.heap.size,0+k,none⟩) 1 (l.map λc=>AV.int .u8 (c.toNat:Int)):=by
  intro i x hx;rw[bW]at hx;cases hi:l[i]? with
  |none=>rw[hi]at hx;cases hx
  |some c =>
   rw[hi]at hx;simp only[bJ,bp]at hx;subst hx;refine⟨rfl,λj y hy=>?_⟩
   cases j with
   |succ j=>simp[AV.cells]at hy
   |zero =>
    simp only[AV.cells,bz,bp]at hy;subst hy;have hil:i<b.size:=by rw[<-hlen];exact(aF.1 hi).1
    refine⟨.int .u8 (c.toNat:Int),?_,rfl,.int _ _⟩;have:=Lib.bytesWorld_cell w e b i hil;simp only[jx,ct,bE];rw[this,hl,bV,hi];rfl
 have hcap:(l.map λc=>AV.int .u8 (c.toNat:Int)).length<=grownCap w b.size 0 e:=by
  rw[cV,hlen];have:=grownCap_ge w b.size 0 e;omega
 have:=vo (full:=false) af hO (by rw[Lib.bytesWorld_size];omega) hsrc (λh=>by cases h) hcap
 rw[cV,hlen]at this;exact .pure _ _ this
end
end Go.Am
