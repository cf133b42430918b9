/- DERIVED: THE SHELF's CONTRACTS AT THIS DUMP, IN PLAIN WORDS (tools/lay-plain.mjs out of 'TryzLay.lean', which tools/lay-shelf.mjs wrote): THE SAME DECLARATIONS UNDER THE SAME NAMES: 'import', 'namespace', 'open', 'def', 'theorem' AND NOTHING ELSE: no command of the shelf's: FOR A HAND-IN. Each laying: the table of numbers ('.._ren') and one theorem, a field a fact of the dump's own or the kernel's comparison; each contract: ONE APPLICATION. -/
import Derived.Shelf.SlGeneric
import Derived.Shelf.SlMaps.Clone
import Derived.Ground.SlmcProg
import Derived.Test.YtmmmdinncmbjkaaGreatProg
namespace Go.Proofs
open Go.Shelf
def Tryz.layMapClone_ren : Go.Shelf.Ren := ⟨fun | 5 => 55 | 7 => 85 | n => n, fun | 23 => 24 | 25 => 9 | 3 => 98 | 4 => 4 | 20 => 20 | n => n, fun | n => n⟩
theorem Tryz.layMapClone : Go.Proofs.SlLaysW.n5 Tryz.prog Tryz.layMapClone_ren := {
  mixed := by kernel_rfl
  f5 := ⟨Tryz.f55.name, by decide, Tryz.func55.trans (congrArg some (by kernel_rfl))⟩
  f7 := Tryz.func85.trans (congrArg some (by kernel_rfl))
  t4 := Tryz.underlying4
  a4 := Tryz.isAgg4
  z4 := Tryz.sizeOf4
  v4 := Tryz.zeroValue4
  t20 := Tryz.underlying20
  a20 := Tryz.isAgg20
  z20 := Tryz.sizeOf20
  v20 := Tryz.zeroValue20
  t23 := Tryz.underlying24
  a23 := Tryz.isAgg24
  z23 := Tryz.sizeOf24
  v23 := Tryz.zeroValue24 }
end Go.Proofs
