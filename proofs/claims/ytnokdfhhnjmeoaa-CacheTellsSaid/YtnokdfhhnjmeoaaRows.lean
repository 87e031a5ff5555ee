/-
  No cell of these rows narrows 'for every input' (looked for: loops, veiled, ifaces, maps, wideKeys, modest, calm, conditions, laid).
  DERIVED. THE GIVEN ROWS OF THIS SEAT. 6 by the template 'for every input the law returns true; each argument reads behind the call as it read before'; 0 by the template 'total and deterministic' (their statements: YtnokdfhhnjmeoaaTotals.lean).
  GIVEN WITH THE SEED: the statements are not yours to turn. If you find one false, say at which input.
  Laid BY PROGRAM, IN A SANDBOX (cutbox-rows.mjs): the forced cells as the released guide's own fill.sh prints them over the translation 7d77cd385f2f5fb1… (all of the seat's roots in one cut). By AI agents, Wed Nov 11 2026. No macro, syntax, notation, axiom, sorry.
-/
import Derived.Test.YtnokdfhhnjmeoaaChecked
import GoSem.Claim
import GoSem.ClaimJoined
import GoSem.ClaimMapViews
import Derived.JoinedTies
import Derived.KernelRfl
namespace Go.Proofs.Ytnokdfhhnjmeoaa
/- THE CELL 'sum', in the pinned program and in every row, IS THE sha256 OF THE DUMP (.gsa) THAT YtnokdfhhnjmeoaaProg.lean LOADS. Nothing in Lean hashes anything: it is a label: what it is worth is what the hold of that sum in a sandbox is worth. -/
noncomputable def Try.pinned : Pinned := { name := "ytnokdfhhnjmeoaa", sum := "7d77cd385f2f5fb18c6f6267a483d697a23a151f4609ae95d471a528ab959a64", checked := Try.checked }
namespace Rows
def none {H : Type} : Left H := { results := [], args := [] }

/-- 'catacomblaw23.CacheTells': WHATEVER THE INPUT: true; the input reads as it did. -/
def cacheTellsSpec : ChangeSpec := { name := "cacheTells", fn := fun _ => fun
  | [d1, d2, d3, d4] => { results := [.lit (.bool true)], args := [d1, d2, d3, d4] }
  | _ => none }
def cacheTellsRow : OpenClaim := { program := "ytnokdfhhnjmeoaa", sum := "7d77cd385f2f5fb18c6f6267a483d697a23a151f4609ae95d471a528ab959a64", func := "catacomb/catacomblaw23.CacheTells", spec := "cacheTells", inPlace := ["slices.overlaps[catacomb/api.Kept]"], unfollowed := true, recurses := true, apart := false }
def CacheTellsSaid : Prop := cacheTellsRow.holds Try.pinned (OpenSpec.ofChange cacheTellsSpec)

/-- ITS FALSE NEIGHBOUR: 'it returns false'. Refute it at one input. -/
def cacheTellsWrong : ChangeSpec := { name := "cacheTells", fn := fun _ => fun
  | [d1, d2, d3, d4] => { results := [.lit (.bool false)], args := [d1, d2, d3, d4] }
  | _ => none }
def CacheTellsWrongFalsely : Prop := cacheTellsRow.holds Try.pinned (OpenSpec.ofChange cacheTellsWrong)

/-- 'catacomblaw23.CacheLast': WHATEVER THE INPUT: true; the input reads as it did. -/
def cacheLastSpec : ChangeSpec := { name := "cacheLast", fn := fun _ => fun
  | [d1, d2, d3] => { results := [.lit (.bool true)], args := [d1, d2, d3] }
  | _ => none }
def cacheLastRow : OpenClaim := { program := "ytnokdfhhnjmeoaa", sum := "7d77cd385f2f5fb18c6f6267a483d697a23a151f4609ae95d471a528ab959a64", func := "catacomb/catacomblaw23.CacheLast", spec := "cacheLast", inPlace := ["slices.overlaps[catacomb/api.Kept]"], unfollowed := true, recurses := true, apart := false }
def CacheLastSaid : Prop := cacheLastRow.holds Try.pinned (OpenSpec.ofChange cacheLastSpec)

/-- ITS FALSE NEIGHBOUR: 'it returns false'. Refute it at one input. -/
def cacheLastWrong : ChangeSpec := { name := "cacheLast", fn := fun _ => fun
  | [d1, d2, d3] => { results := [.lit (.bool false)], args := [d1, d2, d3] }
  | _ => none }
def CacheLastWrongFalsely : Prop := cacheLastRow.holds Try.pinned (OpenSpec.ofChange cacheLastWrong)

/-- 'catacomblaw23.CacheApart': WHATEVER THE INPUT: true; the input reads as it did. -/
def cacheApartSpec : ChangeSpec := { name := "cacheApart", fn := fun _ => fun
  | [d1, d2, d3] => { results := [.lit (.bool true)], args := [d1, d2, d3] }
  | _ => none }
def cacheApartRow : OpenClaim := { program := "ytnokdfhhnjmeoaa", sum := "7d77cd385f2f5fb18c6f6267a483d697a23a151f4609ae95d471a528ab959a64", func := "catacomb/catacomblaw23.CacheApart", spec := "cacheApart", inPlace := ["slices.overlaps[catacomb/api.Kept]"], unfollowed := true, recurses := true, apart := false }
def CacheApartSaid : Prop := cacheApartRow.holds Try.pinned (OpenSpec.ofChange cacheApartSpec)

/-- ITS FALSE NEIGHBOUR: 'it returns false'. Refute it at one input. -/
def cacheApartWrong : ChangeSpec := { name := "cacheApart", fn := fun _ => fun
  | [d1, d2, d3] => { results := [.lit (.bool false)], args := [d1, d2, d3] }
  | _ => none }
def CacheApartWrongFalsely : Prop := cacheApartRow.holds Try.pinned (OpenSpec.ofChange cacheApartWrong)

/-- 'catacomblaw23.CacheOver': WHATEVER THE INPUT: true; the input reads as it did. -/
def cacheOverSpec : ChangeSpec := { name := "cacheOver", fn := fun _ => fun
  | [d1, d2, d3, d4] => { results := [.lit (.bool true)], args := [d1, d2, d3, d4] }
  | _ => none }
def cacheOverRow : OpenClaim := { program := "ytnokdfhhnjmeoaa", sum := "7d77cd385f2f5fb18c6f6267a483d697a23a151f4609ae95d471a528ab959a64", func := "catacomb/catacomblaw23.CacheOver", spec := "cacheOver", inPlace := ["slices.overlaps[catacomb/api.Kept]"], unfollowed := true, recurses := true, apart := false }
def CacheOverSaid : Prop := cacheOverRow.holds Try.pinned (OpenSpec.ofChange cacheOverSpec)

/-- ITS FALSE NEIGHBOUR: 'it returns false'. Refute it at one input. -/
def cacheOverWrong : ChangeSpec := { name := "cacheOver", fn := fun _ => fun
  | [d1, d2, d3, d4] => { results := [.lit (.bool false)], args := [d1, d2, d3, d4] }
  | _ => none }
def CacheOverWrongFalsely : Prop := cacheOverRow.holds Try.pinned (OpenSpec.ofChange cacheOverWrong)

/-- 'catacomblaw23.CacheForgets': WHATEVER THE INPUT: true; the input reads as it did. -/
def cacheForgetsSpec : ChangeSpec := { name := "cacheForgets", fn := fun _ => fun
  | [d1, d2, d3, d4] => { results := [.lit (.bool true)], args := [d1, d2, d3, d4] }
  | _ => none }
def cacheForgetsRow : OpenClaim := { program := "ytnokdfhhnjmeoaa", sum := "7d77cd385f2f5fb18c6f6267a483d697a23a151f4609ae95d471a528ab959a64", func := "catacomb/catacomblaw23.CacheForgets", spec := "cacheForgets", inPlace := ["slices.overlaps[catacomb/api.Kept]"], unfollowed := true, recurses := true, apart := false }
def CacheForgetsSaid : Prop := cacheForgetsRow.holds Try.pinned (OpenSpec.ofChange cacheForgetsSpec)

/-- ITS FALSE NEIGHBOUR: 'it returns false'. Refute it at one input. -/
def cacheForgetsWrong : ChangeSpec := { name := "cacheForgets", fn := fun _ => fun
  | [d1, d2, d3, d4] => { results := [.lit (.bool false)], args := [d1, d2, d3, d4] }
  | _ => none }
def CacheForgetsWrongFalsely : Prop := cacheForgetsRow.holds Try.pinned (OpenSpec.ofChange cacheForgetsWrong)

/-- 'catacomblaw23.CacheRises': WHATEVER THE INPUT: true; the input reads as it did. -/
def cacheRisesSpec : ChangeSpec := { name := "cacheRises", fn := fun _ => fun
  | [d] => { results := [.lit (.bool true)], args := [d] }
  | _ => none }
def cacheRisesRow : OpenClaim := { program := "ytnokdfhhnjmeoaa", sum := "7d77cd385f2f5fb18c6f6267a483d697a23a151f4609ae95d471a528ab959a64", func := "catacomb/catacomblaw23.CacheRises", spec := "cacheRises", inPlace := ["slices.overlaps[catacomb/api.Kept]"], unfollowed := true, recurses := true, apart := false }
def CacheRisesSaid : Prop := cacheRisesRow.holds Try.pinned (OpenSpec.ofChange cacheRisesSpec)

/-- ITS FALSE NEIGHBOUR: 'it returns false'. Refute it at one input. -/
def cacheRisesWrong : ChangeSpec := { name := "cacheRises", fn := fun _ => fun
  | [d] => { results := [.lit (.bool false)], args := [d] }
  | _ => none }
def CacheRisesWrongFalsely : Prop := cacheRisesRow.holds Try.pinned (OpenSpec.ofChange cacheRisesWrong)

/- THE SECOND FORM. 'bulk': how many values and letters a reading holds, each counted each time it is reached (what is shared counts as often as it is met; a slice's spare places count too). A statement '..UptoSaid' is the law's where the arguments, and the package variables that the reading takes, are together of bulk at most 1048576: NARROWER than '..Said'. Prove '..Said' where nothing that the law and all that it calls make is longer than what came in: it says more and counts as full. Else prove '..UptoSaid'. A law counts once. -/
mutual
def uptoBulk {H : Type} : DataW H → Nat
  | .lit (.string bytes) => bytes.length + 1
  | .lit _ => 1
  | .nil => 1
  | .ptr d => uptoBulk d + 1
  | .slice elems spare => uptoBulkAll elems + uptoBulkAll spare + 1
  | .agg parts => uptoBulkAll parts + 1
  | .iface _ d => uptoBulk d + 1
  | .map entries => uptoBulkEntries entries + 1
  | .held _ => 1
def uptoBulkAll {H : Type} : List (DataW H) → Nat
  | [] => 0
  | d :: r => uptoBulk d + uptoBulkAll r
def uptoBulkEntries {H : Type} : List (Lit × DataW H) → Nat
  | [] => 0
  | x :: r => uptoBulkEntry x + uptoBulkEntries r
def uptoBulkEntry {H : Type} : Lit × DataW H → Nat
  | (.string bytes, d) => bytes.length + uptoBulk d + 1
  | (_, d) => uptoBulk d + 1
 end
def uptoSmall : (H : Type) → List (DataW H) → Bool := fun _ ds => decide (uptoBulkAll ds ≤ 1048576)
def OpenSpec.upto (s : _root_.Go.ChangeSpec) : _root_.Go.OpenSpec := { _root_.Go.OpenSpec.ofChange s with cond := some uptoSmall }

/-- 'catacomblaw23.CacheTells', WHERE WHAT IT READS IS OF BULK AT MOST 1048576: true; the input reads as it did. -/
def cacheTellsUptoRow : OpenClaim := { program := "ytnokdfhhnjmeoaa", sum := "7d77cd385f2f5fb18c6f6267a483d697a23a151f4609ae95d471a528ab959a64", func := "catacomb/catacomblaw23.CacheTells", spec := "cacheTells", inPlace := ["slices.overlaps[catacomb/api.Kept]"], unfollowed := true, recurses := true, apart := false, narrowed := true }
def CacheTellsUptoSaid : Prop := cacheTellsUptoRow.holds Try.pinned (OpenSpec.upto cacheTellsSpec)

/-- 'catacomblaw23.CacheLast', WHERE WHAT IT READS IS OF BULK AT MOST 1048576: true; the input reads as it did. -/
def cacheLastUptoRow : OpenClaim := { program := "ytnokdfhhnjmeoaa", sum := "7d77cd385f2f5fb18c6f6267a483d697a23a151f4609ae95d471a528ab959a64", func := "catacomb/catacomblaw23.CacheLast", spec := "cacheLast", inPlace := ["slices.overlaps[catacomb/api.Kept]"], unfollowed := true, recurses := true, apart := false, narrowed := true }
def CacheLastUptoSaid : Prop := cacheLastUptoRow.holds Try.pinned (OpenSpec.upto cacheLastSpec)

/-- 'catacomblaw23.CacheApart', WHERE WHAT IT READS IS OF BULK AT MOST 1048576: true; the input reads as it did. -/
def cacheApartUptoRow : OpenClaim := { program := "ytnokdfhhnjmeoaa", sum := "7d77cd385f2f5fb18c6f6267a483d697a23a151f4609ae95d471a528ab959a64", func := "catacomb/catacomblaw23.CacheApart", spec := "cacheApart", inPlace := ["slices.overlaps[catacomb/api.Kept]"], unfollowed := true, recurses := true, apart := false, narrowed := true }
def CacheApartUptoSaid : Prop := cacheApartUptoRow.holds Try.pinned (OpenSpec.upto cacheApartSpec)

/-- 'catacomblaw23.CacheOver', WHERE WHAT IT READS IS OF BULK AT MOST 1048576: true; the input reads as it did. -/
def cacheOverUptoRow : OpenClaim := { program := "ytnokdfhhnjmeoaa", sum := "7d77cd385f2f5fb18c6f6267a483d697a23a151f4609ae95d471a528ab959a64", func := "catacomb/catacomblaw23.CacheOver", spec := "cacheOver", inPlace := ["slices.overlaps[catacomb/api.Kept]"], unfollowed := true, recurses := true, apart := false, narrowed := true }
def CacheOverUptoSaid : Prop := cacheOverUptoRow.holds Try.pinned (OpenSpec.upto cacheOverSpec)

/-- 'catacomblaw23.CacheForgets', WHERE WHAT IT READS IS OF BULK AT MOST 1048576: true; the input reads as it did. -/
def cacheForgetsUptoRow : OpenClaim := { program := "ytnokdfhhnjmeoaa", sum := "7d77cd385f2f5fb18c6f6267a483d697a23a151f4609ae95d471a528ab959a64", func := "catacomb/catacomblaw23.CacheForgets", spec := "cacheForgets", inPlace := ["slices.overlaps[catacomb/api.Kept]"], unfollowed := true, recurses := true, apart := false, narrowed := true }
def CacheForgetsUptoSaid : Prop := cacheForgetsUptoRow.holds Try.pinned (OpenSpec.upto cacheForgetsSpec)

/-- 'catacomblaw23.CacheRises', WHERE WHAT IT READS IS OF BULK AT MOST 1048576: true; the input reads as it did. -/
def cacheRisesUptoRow : OpenClaim := { program := "ytnokdfhhnjmeoaa", sum := "7d77cd385f2f5fb18c6f6267a483d697a23a151f4609ae95d471a528ab959a64", func := "catacomb/catacomblaw23.CacheRises", spec := "cacheRises", inPlace := ["slices.overlaps[catacomb/api.Kept]"], unfollowed := true, recurses := true, apart := false, narrowed := true }
def CacheRisesUptoSaid : Prop := cacheRisesUptoRow.holds Try.pinned (OpenSpec.upto cacheRisesSpec)

end Rows
end Go.Proofs.Ytnokdfhhnjmeoaa
