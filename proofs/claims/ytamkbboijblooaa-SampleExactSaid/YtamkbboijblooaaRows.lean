/-
  No cell of these rows narrows 'for every input' (looked for: loops, veiled, ifaces, maps, wideKeys, modest, calm, conditions, laid).
  DERIVED. THE GIVEN ROWS OF THIS SEAT. 13 by the template 'for every input the law returns true; each argument reads behind the call as it read before'; 0 by the template 'total and deterministic' (their statements: YtamkbboijblooaaTotals.lean).
  GIVEN WITH THE SEED: the statements are not yours to turn. If you find one false, say at which input.
  Laid BY PROGRAM, IN A SANDBOX (cutbox-rows.mjs): the forced cells as the released guide's own fill.sh prints them over the translation d8de7e9c04a9360d… (all of the seat's roots in one cut). By AI agents, Wed Nov 11 2026. No macro, syntax, notation, axiom, sorry.
-/
import Derived.Test.YtamkbboijblooaaChecked
import GoSem.Claim
import GoSem.ClaimJoined
import GoSem.ClaimMapViews
import Derived.JoinedTies
import Derived.KernelRfl
namespace Go.Proofs.Ytamkbboijblooaa
/- THE CELL 'sum', in the pinned program and in every row, IS THE sha256 OF THE DUMP (.gsa) THAT YtamkbboijblooaaProg.lean LOADS. Nothing in Lean hashes anything: it is a label: what it is worth is what the hold of that sum in a sandbox is worth. -/
noncomputable def Try.pinned : Pinned := { name := "ytamkbboijblooaa", sum := "d8de7e9c04a9360d9be30a4493d0ac93e657c90f4cc402a5ba70e798a56d0a7b", checked := Try.checked }
namespace Rows
def none {H : Type} : Left H := { results := [], args := [] }

/-- 'ordinallaw46.SampleUniform': WHATEVER THE INPUT: true; the input reads as it did. -/
def sampleUniformSpec : ChangeSpec := { name := "sampleUniform", fn := fun _ => fun
  | [d1, d2] => { results := [.lit (.bool true)], args := [d1, d2] }
  | _ => none }
def sampleUniformRow : OpenClaim := { program := "ytamkbboijblooaa", sum := "d8de7e9c04a9360d9be30a4493d0ac93e657c90f4cc402a5ba70e798a56d0a7b", func := "ordinal/ordinallaw46.SampleUniform", spec := "sampleUniform", apart := false }
def SampleUniformSaid : Prop := sampleUniformRow.holds Try.pinned (OpenSpec.ofChange sampleUniformSpec)

/-- ITS FALSE NEIGHBOUR: 'it returns false'. Refute it at one input. -/
def sampleUniformWrong : ChangeSpec := { name := "sampleUniform", fn := fun _ => fun
  | [d1, d2] => { results := [.lit (.bool false)], args := [d1, d2] }
  | _ => none }
def SampleUniformWrongFalsely : Prop := sampleUniformRow.holds Try.pinned (OpenSpec.ofChange sampleUniformWrong)

/-- 'ordinallaw46.SampleUsed': WHATEVER THE INPUT: true; the input reads as it did. -/
def sampleUsedSpec : ChangeSpec := { name := "sampleUsed", fn := fun _ => fun
  | [d1, d2, d3] => { results := [.lit (.bool true)], args := [d1, d2, d3] }
  | _ => none }
def sampleUsedRow : OpenClaim := { program := "ytamkbboijblooaa", sum := "d8de7e9c04a9360d9be30a4493d0ac93e657c90f4cc402a5ba70e798a56d0a7b", func := "ordinal/ordinallaw46.SampleUsed", spec := "sampleUsed", apart := false }
def SampleUsedSaid : Prop := sampleUsedRow.holds Try.pinned (OpenSpec.ofChange sampleUsedSpec)

/-- ITS FALSE NEIGHBOUR: 'it returns false'. Refute it at one input. -/
def sampleUsedWrong : ChangeSpec := { name := "sampleUsed", fn := fun _ => fun
  | [d1, d2, d3] => { results := [.lit (.bool false)], args := [d1, d2, d3] }
  | _ => none }
def SampleUsedWrongFalsely : Prop := sampleUsedRow.holds Try.pinned (OpenSpec.ofChange sampleUsedWrong)

/-- 'ordinallaw46.SampleBits': WHATEVER THE INPUT: true; the input reads as it did. -/
def sampleBitsSpec : ChangeSpec := { name := "sampleBits", fn := fun _ => fun
  | [d] => { results := [.lit (.bool true)], args := [d] }
  | _ => none }
def sampleBitsRow : OpenClaim := { program := "ytamkbboijblooaa", sum := "d8de7e9c04a9360d9be30a4493d0ac93e657c90f4cc402a5ba70e798a56d0a7b", func := "ordinal/ordinallaw46.SampleBits", spec := "sampleBits", apart := false }
def SampleBitsSaid : Prop := sampleBitsRow.holds Try.pinned (OpenSpec.ofChange sampleBitsSpec)

/-- ITS FALSE NEIGHBOUR: 'it returns false'. Refute it at one input. -/
def sampleBitsWrong : ChangeSpec := { name := "sampleBits", fn := fun _ => fun
  | [d] => { results := [.lit (.bool false)], args := [d] }
  | _ => none }
def SampleBitsWrongFalsely : Prop := sampleBitsRow.holds Try.pinned (OpenSpec.ofChange sampleBitsWrong)

/-- 'ordinallaw46.SampleLarge': WHATEVER THE INPUT: true; the input reads as it did. -/
def sampleLargeSpec : ChangeSpec := { name := "sampleLarge", fn := fun _ => fun
  | [d1, d2, d3] => { results := [.lit (.bool true)], args := [d1, d2, d3] }
  | _ => none }
def sampleLargeRow : OpenClaim := { program := "ytamkbboijblooaa", sum := "d8de7e9c04a9360d9be30a4493d0ac93e657c90f4cc402a5ba70e798a56d0a7b", func := "ordinal/ordinallaw46.SampleLarge", spec := "sampleLarge", apart := false }
def SampleLargeSaid : Prop := sampleLargeRow.holds Try.pinned (OpenSpec.ofChange sampleLargeSpec)

/-- ITS FALSE NEIGHBOUR: 'it returns false'. Refute it at one input. -/
def sampleLargeWrong : ChangeSpec := { name := "sampleLarge", fn := fun _ => fun
  | [d1, d2, d3] => { results := [.lit (.bool false)], args := [d1, d2, d3] }
  | _ => none }
def SampleLargeWrongFalsely : Prop := sampleLargeRow.holds Try.pinned (OpenSpec.ofChange sampleLargeWrong)

/-- 'ordinallaw46.SamplePermutes': WHATEVER THE INPUT: true; the input reads as it did. -/
def samplePermutesSpec : ChangeSpec := { name := "samplePermutes", fn := fun _ => fun
  | [d1, d2] => { results := [.lit (.bool true)], args := [d1, d2] }
  | _ => none }
def samplePermutesRow : OpenClaim := { program := "ytamkbboijblooaa", sum := "d8de7e9c04a9360d9be30a4493d0ac93e657c90f4cc402a5ba70e798a56d0a7b", func := "ordinal/ordinallaw46.SamplePermutes", spec := "samplePermutes", apart := false }
def SamplePermutesSaid : Prop := samplePermutesRow.holds Try.pinned (OpenSpec.ofChange samplePermutesSpec)

/-- ITS FALSE NEIGHBOUR: 'it returns false'. Refute it at one input. -/
def samplePermutesWrong : ChangeSpec := { name := "samplePermutes", fn := fun _ => fun
  | [d1, d2] => { results := [.lit (.bool false)], args := [d1, d2] }
  | _ => none }
def SamplePermutesWrongFalsely : Prop := samplePermutesRow.holds Try.pinned (OpenSpec.ofChange samplePermutesWrong)

/-- 'ordinallaw45.QuantilePages': WHATEVER THE INPUT: true; the input reads as it did. -/
def quantilePagesSpec : ChangeSpec := { name := "quantilePages", fn := fun _ => fun
  | [d1, d2] => { results := [.lit (.bool true)], args := [d1, d2] }
  | _ => none }
def quantilePagesRow : OpenClaim := { program := "ytamkbboijblooaa", sum := "d8de7e9c04a9360d9be30a4493d0ac93e657c90f4cc402a5ba70e798a56d0a7b", func := "ordinal/ordinallaw45.QuantilePages", spec := "quantilePages", unfollowed := true, recurses := true, apart := false }
def QuantilePagesSaid : Prop := quantilePagesRow.holds Try.pinned (OpenSpec.ofChange quantilePagesSpec)

/-- ITS FALSE NEIGHBOUR: 'it returns false'. Refute it at one input. -/
def quantilePagesWrong : ChangeSpec := { name := "quantilePages", fn := fun _ => fun
  | [d1, d2] => { results := [.lit (.bool false)], args := [d1, d2] }
  | _ => none }
def QuantilePagesWrongFalsely : Prop := quantilePagesRow.holds Try.pinned (OpenSpec.ofChange quantilePagesWrong)

/-- 'ordinallaw45.QuantileCuts': WHATEVER THE INPUT: true; the input reads as it did. -/
def quantileCutsSpec : ChangeSpec := { name := "quantileCuts", fn := fun _ => fun
  | [d1, d2] => { results := [.lit (.bool true)], args := [d1, d2] }
  | _ => none }
def quantileCutsRow : OpenClaim := { program := "ytamkbboijblooaa", sum := "d8de7e9c04a9360d9be30a4493d0ac93e657c90f4cc402a5ba70e798a56d0a7b", func := "ordinal/ordinallaw45.QuantileCuts", spec := "quantileCuts", unfollowed := true, recurses := true, apart := false }
def QuantileCutsSaid : Prop := quantileCutsRow.holds Try.pinned (OpenSpec.ofChange quantileCutsSpec)

/-- ITS FALSE NEIGHBOUR: 'it returns false'. Refute it at one input. -/
def quantileCutsWrong : ChangeSpec := { name := "quantileCuts", fn := fun _ => fun
  | [d1, d2] => { results := [.lit (.bool false)], args := [d1, d2] }
  | _ => none }
def QuantileCutsWrongFalsely : Prop := quantileCutsRow.holds Try.pinned (OpenSpec.ofChange quantileCutsWrong)

/-- 'ordinallaw45.QuantilePositions': WHATEVER THE INPUT: true; the input reads as it did. -/
def quantilePositionsSpec : ChangeSpec := { name := "quantilePositions", fn := fun _ => fun
  | [d1, d2, d3] => { results := [.lit (.bool true)], args := [d1, d2, d3] }
  | _ => none }
def quantilePositionsRow : OpenClaim := { program := "ytamkbboijblooaa", sum := "d8de7e9c04a9360d9be30a4493d0ac93e657c90f4cc402a5ba70e798a56d0a7b", func := "ordinal/ordinallaw45.QuantilePositions", spec := "quantilePositions", unfollowed := true, recurses := true, apart := false }
def QuantilePositionsSaid : Prop := quantilePositionsRow.holds Try.pinned (OpenSpec.ofChange quantilePositionsSpec)

/-- ITS FALSE NEIGHBOUR: 'it returns false'. Refute it at one input. -/
def quantilePositionsWrong : ChangeSpec := { name := "quantilePositions", fn := fun _ => fun
  | [d1, d2, d3] => { results := [.lit (.bool false)], args := [d1, d2, d3] }
  | _ => none }
def QuantilePositionsWrongFalsely : Prop := quantilePositionsRow.holds Try.pinned (OpenSpec.ofChange quantilePositionsWrong)

/-- 'ordinallaw45.QuantileRises': WHATEVER THE INPUT: true; the input reads as it did. -/
def quantileRisesSpec : ChangeSpec := { name := "quantileRises", fn := fun _ => fun
  | [d1, d2, d3] => { results := [.lit (.bool true)], args := [d1, d2, d3] }
  | _ => none }
def quantileRisesRow : OpenClaim := { program := "ytamkbboijblooaa", sum := "d8de7e9c04a9360d9be30a4493d0ac93e657c90f4cc402a5ba70e798a56d0a7b", func := "ordinal/ordinallaw45.QuantileRises", spec := "quantileRises", unfollowed := true, recurses := true, apart := false }
def QuantileRisesSaid : Prop := quantileRisesRow.holds Try.pinned (OpenSpec.ofChange quantileRisesSpec)

/-- ITS FALSE NEIGHBOUR: 'it returns false'. Refute it at one input. -/
def quantileRisesWrong : ChangeSpec := { name := "quantileRises", fn := fun _ => fun
  | [d1, d2, d3] => { results := [.lit (.bool false)], args := [d1, d2, d3] }
  | _ => none }
def QuantileRisesWrongFalsely : Prop := quantileRisesRow.holds Try.pinned (OpenSpec.ofChange quantileRisesWrong)

/-- 'ordinallaw45.QuantileLarge': WHATEVER THE INPUT: true; the input reads as it did. -/
def quantileLargeSpec : ChangeSpec := { name := "quantileLarge", fn := fun _ => fun
  | [d1, d2, d3] => { results := [.lit (.bool true)], args := [d1, d2, d3] }
  | _ => none }
def quantileLargeRow : OpenClaim := { program := "ytamkbboijblooaa", sum := "d8de7e9c04a9360d9be30a4493d0ac93e657c90f4cc402a5ba70e798a56d0a7b", func := "ordinal/ordinallaw45.QuantileLarge", spec := "quantileLarge", unfollowed := true, recurses := true, apart := false }
def QuantileLargeSaid : Prop := quantileLargeRow.holds Try.pinned (OpenSpec.ofChange quantileLargeSpec)

/-- ITS FALSE NEIGHBOUR: 'it returns false'. Refute it at one input. -/
def quantileLargeWrong : ChangeSpec := { name := "quantileLarge", fn := fun _ => fun
  | [d1, d2, d3] => { results := [.lit (.bool false)], args := [d1, d2, d3] }
  | _ => none }
def QuantileLargeWrongFalsely : Prop := quantileLargeRow.holds Try.pinned (OpenSpec.ofChange quantileLargeWrong)

/-- 'ordinallaw45.QuantileHalves': WHATEVER THE INPUT: true; the input reads as it did. -/
def quantileHalvesSpec : ChangeSpec := { name := "quantileHalves", fn := fun _ => fun
  | [d] => { results := [.lit (.bool true)], args := [d] }
  | _ => none }
def quantileHalvesRow : OpenClaim := { program := "ytamkbboijblooaa", sum := "d8de7e9c04a9360d9be30a4493d0ac93e657c90f4cc402a5ba70e798a56d0a7b", func := "ordinal/ordinallaw45.QuantileHalves", spec := "quantileHalves", unfollowed := true, recurses := true, apart := false }
def QuantileHalvesSaid : Prop := quantileHalvesRow.holds Try.pinned (OpenSpec.ofChange quantileHalvesSpec)

/-- ITS FALSE NEIGHBOUR: 'it returns false'. Refute it at one input. -/
def quantileHalvesWrong : ChangeSpec := { name := "quantileHalves", fn := fun _ => fun
  | [d] => { results := [.lit (.bool false)], args := [d] }
  | _ => none }
def QuantileHalvesWrongFalsely : Prop := quantileHalvesRow.holds Try.pinned (OpenSpec.ofChange quantileHalvesWrong)

/-- 'ordinallaw46.SampleSets': WHATEVER THE INPUT: true; the input reads as it did. -/
def sampleSetsSpec : ChangeSpec := { name := "sampleSets", fn := fun _ => fun
  | [d1, d2, d3] => { results := [.lit (.bool true)], args := [d1, d2, d3] }
  | _ => none }
def sampleSetsRow : OpenClaim := { program := "ytamkbboijblooaa", sum := "d8de7e9c04a9360d9be30a4493d0ac93e657c90f4cc402a5ba70e798a56d0a7b", func := "ordinal/ordinallaw46.SampleSets", spec := "sampleSets", inPlace := ["slices.overlaps[ordinal/nat.Nat]"], unfollowed := true, recurses := true, apart := false }
def SampleSetsSaid : Prop := sampleSetsRow.holds Try.pinned (OpenSpec.ofChange sampleSetsSpec)

/-- ITS FALSE NEIGHBOUR: 'it returns false'. Refute it at one input. -/
def sampleSetsWrong : ChangeSpec := { name := "sampleSets", fn := fun _ => fun
  | [d1, d2, d3] => { results := [.lit (.bool false)], args := [d1, d2, d3] }
  | _ => none }
def SampleSetsWrongFalsely : Prop := sampleSetsRow.holds Try.pinned (OpenSpec.ofChange sampleSetsWrong)

/-- 'ordinallaw46.SampleExact': WHATEVER THE INPUT: true; the input reads as it did. -/
def sampleExactSpec : ChangeSpec := { name := "sampleExact", fn := fun _ => fun
  | [d1, d2, d3] => { results := [.lit (.bool true)], args := [d1, d2, d3] }
  | _ => none }
def sampleExactRow : OpenClaim := { program := "ytamkbboijblooaa", sum := "d8de7e9c04a9360d9be30a4493d0ac93e657c90f4cc402a5ba70e798a56d0a7b", func := "ordinal/ordinallaw46.SampleExact", spec := "sampleExact", inPlace := ["slices.overlaps[ordinal/nat.Nat]"], unfollowed := true, recurses := true, apart := false }
def SampleExactSaid : Prop := sampleExactRow.holds Try.pinned (OpenSpec.ofChange sampleExactSpec)

/-- ITS FALSE NEIGHBOUR: 'it returns false'. Refute it at one input. -/
def sampleExactWrong : ChangeSpec := { name := "sampleExact", fn := fun _ => fun
  | [d1, d2, d3] => { results := [.lit (.bool false)], args := [d1, d2, d3] }
  | _ => none }
def SampleExactWrongFalsely : Prop := sampleExactRow.holds Try.pinned (OpenSpec.ofChange sampleExactWrong)

/- THE SECOND FORM. 'bulk': how many values and letters a reading holds, each counted each time it is reached (what is shared counts as often as it is met; a slice's spare places count too). A statement '..UptoSaid' is the law's where the arguments, and the package variables that the reading takes, are together of bulk at most 1048576: NARROWER than '..Said'. Prove '..Said' where nothing that the law and all that it calls make is longer than what came in: it says more and counts as full. Else prove '..UptoSaid'. A law counts once. -/
mutual
def uptoBulk {H : Type} : DataW H → Nat
  | .lit (.string bytes) => bytes.length + 1
  | .lit _ => 1
  | .nil => 1
  | .ptr d => uptoBulk d + 1
  | .slice elems spare => uptoBulkAll elems + uptoBulkAll spare + 1
  | .agg parts => uptoBulkAll parts + 1
  | .iface _ d => uptoBulk d + 1
  | .map entries => uptoBulkEntries entries + 1
  | .held _ => 1
def uptoBulkAll {H : Type} : List (DataW H) → Nat
  | [] => 0
  | d :: r => uptoBulk d + uptoBulkAll r
def uptoBulkEntries {H : Type} : List (Lit × DataW H) → Nat
  | [] => 0
  | x :: r => uptoBulkEntry x + uptoBulkEntries r
def uptoBulkEntry {H : Type} : Lit × DataW H → Nat
  | (.string bytes, d) => bytes.length + uptoBulk d + 1
  | (_, d) => uptoBulk d + 1
 end
def uptoSmall : (H : Type) → List (DataW H) → Bool := fun _ ds => decide (uptoBulkAll ds ≤ 1048576)
def OpenSpec.upto (s : _root_.Go.ChangeSpec) : _root_.Go.OpenSpec := { _root_.Go.OpenSpec.ofChange s with cond := some uptoSmall }

/-- 'ordinallaw46.SampleUniform', WHERE WHAT IT READS IS OF BULK AT MOST 1048576: true; the input reads as it did. -/
def sampleUniformUptoRow : OpenClaim := { program := "ytamkbboijblooaa", sum := "d8de7e9c04a9360d9be30a4493d0ac93e657c90f4cc402a5ba70e798a56d0a7b", func := "ordinal/ordinallaw46.SampleUniform", spec := "sampleUniform", apart := false, narrowed := true }
def SampleUniformUptoSaid : Prop := sampleUniformUptoRow.holds Try.pinned (OpenSpec.upto sampleUniformSpec)

/-- 'ordinallaw46.SampleUsed', WHERE WHAT IT READS IS OF BULK AT MOST 1048576: true; the input reads as it did. -/
def sampleUsedUptoRow : OpenClaim := { program := "ytamkbboijblooaa", sum := "d8de7e9c04a9360d9be30a4493d0ac93e657c90f4cc402a5ba70e798a56d0a7b", func := "ordinal/ordinallaw46.SampleUsed", spec := "sampleUsed", apart := false, narrowed := true }
def SampleUsedUptoSaid : Prop := sampleUsedUptoRow.holds Try.pinned (OpenSpec.upto sampleUsedSpec)

/-- 'ordinallaw46.SampleBits', WHERE WHAT IT READS IS OF BULK AT MOST 1048576: true; the input reads as it did. -/
def sampleBitsUptoRow : OpenClaim := { program := "ytamkbboijblooaa", sum := "d8de7e9c04a9360d9be30a4493d0ac93e657c90f4cc402a5ba70e798a56d0a7b", func := "ordinal/ordinallaw46.SampleBits", spec := "sampleBits", apart := false, narrowed := true }
def SampleBitsUptoSaid : Prop := sampleBitsUptoRow.holds Try.pinned (OpenSpec.upto sampleBitsSpec)

/-- 'ordinallaw46.SampleLarge', WHERE WHAT IT READS IS OF BULK AT MOST 1048576: true; the input reads as it did. -/
def sampleLargeUptoRow : OpenClaim := { program := "ytamkbboijblooaa", sum := "d8de7e9c04a9360d9be30a4493d0ac93e657c90f4cc402a5ba70e798a56d0a7b", func := "ordinal/ordinallaw46.SampleLarge", spec := "sampleLarge", apart := false, narrowed := true }
def SampleLargeUptoSaid : Prop := sampleLargeUptoRow.holds Try.pinned (OpenSpec.upto sampleLargeSpec)

/-- 'ordinallaw46.SamplePermutes', WHERE WHAT IT READS IS OF BULK AT MOST 1048576: true; the input reads as it did. -/
def samplePermutesUptoRow : OpenClaim := { program := "ytamkbboijblooaa", sum := "d8de7e9c04a9360d9be30a4493d0ac93e657c90f4cc402a5ba70e798a56d0a7b", func := "ordinal/ordinallaw46.SamplePermutes", spec := "samplePermutes", apart := false, narrowed := true }
def SamplePermutesUptoSaid : Prop := samplePermutesUptoRow.holds Try.pinned (OpenSpec.upto samplePermutesSpec)

/-- 'ordinallaw45.QuantilePages', WHERE WHAT IT READS IS OF BULK AT MOST 1048576: true; the input reads as it did. -/
def quantilePagesUptoRow : OpenClaim := { program := "ytamkbboijblooaa", sum := "d8de7e9c04a9360d9be30a4493d0ac93e657c90f4cc402a5ba70e798a56d0a7b", func := "ordinal/ordinallaw45.QuantilePages", spec := "quantilePages", unfollowed := true, recurses := true, apart := false, narrowed := true }
def QuantilePagesUptoSaid : Prop := quantilePagesUptoRow.holds Try.pinned (OpenSpec.upto quantilePagesSpec)

/-- 'ordinallaw45.QuantileCuts', WHERE WHAT IT READS IS OF BULK AT MOST 1048576: true; the input reads as it did. -/
def quantileCutsUptoRow : OpenClaim := { program := "ytamkbboijblooaa", sum := "d8de7e9c04a9360d9be30a4493d0ac93e657c90f4cc402a5ba70e798a56d0a7b", func := "ordinal/ordinallaw45.QuantileCuts", spec := "quantileCuts", unfollowed := true, recurses := true, apart := false, narrowed := true }
def QuantileCutsUptoSaid : Prop := quantileCutsUptoRow.holds Try.pinned (OpenSpec.upto quantileCutsSpec)

/-- 'ordinallaw45.QuantilePositions', WHERE WHAT IT READS IS OF BULK AT MOST 1048576: true; the input reads as it did. -/
def quantilePositionsUptoRow : OpenClaim := { program := "ytamkbboijblooaa", sum := "d8de7e9c04a9360d9be30a4493d0ac93e657c90f4cc402a5ba70e798a56d0a7b", func := "ordinal/ordinallaw45.QuantilePositions", spec := "quantilePositions", unfollowed := true, recurses := true, apart := false, narrowed := true }
def QuantilePositionsUptoSaid : Prop := quantilePositionsUptoRow.holds Try.pinned (OpenSpec.upto quantilePositionsSpec)

/-- 'ordinallaw45.QuantileRises', WHERE WHAT IT READS IS OF BULK AT MOST 1048576: true; the input reads as it did. -/
def quantileRisesUptoRow : OpenClaim := { program := "ytamkbboijblooaa", sum := "d8de7e9c04a9360d9be30a4493d0ac93e657c90f4cc402a5ba70e798a56d0a7b", func := "ordinal/ordinallaw45.QuantileRises", spec := "quantileRises", unfollowed := true, recurses := true, apart := false, narrowed := true }
def QuantileRisesUptoSaid : Prop := quantileRisesUptoRow.holds Try.pinned (OpenSpec.upto quantileRisesSpec)

/-- 'ordinallaw45.QuantileLarge', WHERE WHAT IT READS IS OF BULK AT MOST 1048576: true; the input reads as it did. -/
def quantileLargeUptoRow : OpenClaim := { program := "ytamkbboijblooaa", sum := "d8de7e9c04a9360d9be30a4493d0ac93e657c90f4cc402a5ba70e798a56d0a7b", func := "ordinal/ordinallaw45.QuantileLarge", spec := "quantileLarge", unfollowed := true, recurses := true, apart := false, narrowed := true }
def QuantileLargeUptoSaid : Prop := quantileLargeUptoRow.holds Try.pinned (OpenSpec.upto quantileLargeSpec)

/-- 'ordinallaw45.QuantileHalves', WHERE WHAT IT READS IS OF BULK AT MOST 1048576: true; the input reads as it did. -/
def quantileHalvesUptoRow : OpenClaim := { program := "ytamkbboijblooaa", sum := "d8de7e9c04a9360d9be30a4493d0ac93e657c90f4cc402a5ba70e798a56d0a7b", func := "ordinal/ordinallaw45.QuantileHalves", spec := "quantileHalves", unfollowed := true, recurses := true, apart := false, narrowed := true }
def QuantileHalvesUptoSaid : Prop := quantileHalvesUptoRow.holds Try.pinned (OpenSpec.upto quantileHalvesSpec)

/-- 'ordinallaw46.SampleSets', WHERE WHAT IT READS IS OF BULK AT MOST 1048576: true; the input reads as it did. -/
def sampleSetsUptoRow : OpenClaim := { program := "ytamkbboijblooaa", sum := "d8de7e9c04a9360d9be30a4493d0ac93e657c90f4cc402a5ba70e798a56d0a7b", func := "ordinal/ordinallaw46.SampleSets", spec := "sampleSets", inPlace := ["slices.overlaps[ordinal/nat.Nat]"], unfollowed := true, recurses := true, apart := false, narrowed := true }
def SampleSetsUptoSaid : Prop := sampleSetsUptoRow.holds Try.pinned (OpenSpec.upto sampleSetsSpec)

/-- 'ordinallaw46.SampleExact', WHERE WHAT IT READS IS OF BULK AT MOST 1048576: true; the input reads as it did. -/
def sampleExactUptoRow : OpenClaim := { program := "ytamkbboijblooaa", sum := "d8de7e9c04a9360d9be30a4493d0ac93e657c90f4cc402a5ba70e798a56d0a7b", func := "ordinal/ordinallaw46.SampleExact", spec := "sampleExact", inPlace := ["slices.overlaps[ordinal/nat.Nat]"], unfollowed := true, recurses := true, apart := false, narrowed := true }
def SampleExactUptoSaid : Prop := sampleExactUptoRow.holds Try.pinned (OpenSpec.upto sampleExactSpec)

end Rows
end Go.Proofs.Ytamkbboijblooaa
