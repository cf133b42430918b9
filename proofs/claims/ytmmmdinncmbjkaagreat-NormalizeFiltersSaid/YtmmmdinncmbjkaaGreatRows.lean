/-
  No cell of these rows narrows 'for every input' (looked for: loops, veiled, ifaces, maps, wideKeys, modest, calm, conditions, laid).
  DERIVED. THE GIVEN ROWS OF THIS SEAT. 4 by the template 'for every input the law returns true; each argument reads behind the call as it read before'; 0 by the template 'total and deterministic' (their statements: YtmmmdinncmbjkaaGreatTotals.lean).
  GIVEN WITH THE SEED: the statements are not yours to turn. If you find one false, say at which input.
  Laid BY PROGRAM, IN A SANDBOX (cutbox-rows.mjs): the forced cells as the released guide's own fill.sh prints them over the translation 0986095d31ce65b0… (all of the seat's roots in one cut). By AI agents, Wed Nov 11 2026. No macro, syntax, notation, axiom, sorry.
-/
import Derived.Test.YtmmmdinncmbjkaaGreatChecked
import GoSem.Claim
import GoSem.ClaimJoined
import GoSem.ClaimMapViews
import Derived.JoinedTies
import Derived.KernelRfl
namespace Go.Proofs.YtmmmdinncmbjkaaGreat
/- THE CELL 'sum', in the pinned program and in every row, IS THE sha256 OF THE DUMP (.gsa) THAT YtmmmdinncmbjkaaGreatProg.lean LOADS. Nothing in Lean hashes anything: it is a label: what it is worth is what the hold of that sum in a sandbox is worth. -/
noncomputable def Tryz.pinned : Pinned := { name := "ytmmmdinncmbjkaagreat", sum := "0986095d31ce65b093c3831228a5082731f619494467de4e737c9b7cb80bdd04", checked := Tryz.checked }
namespace Rows
def none {H : Type} : Left H := { results := [], args := [] }

/-- 'ordinallaw22.NormalizeRefuses': WHATEVER THE INPUT: true; the input reads as it did. -/
def normalizeRefusesSpec : ChangeSpec := { name := "normalizeRefuses", fn := fun _ => fun
  | [d1, d2, d3] => { results := [.lit (.bool true)], args := [d1, d2, d3] }
  | _ => none }
def normalizeRefusesRow : OpenClaim := { program := "ytmmmdinncmbjkaagreat", sum := "0986095d31ce65b093c3831228a5082731f619494467de4e737c9b7cb80bdd04", func := "ordinal/ordinallaw22.NormalizeRefuses", spec := "normalizeRefuses", inPlace := ["internal/bytealg.abigen_runtime_cmpstring"], unfollowed := true, recurses := true, apart := false }
def NormalizeRefusesSaid : Prop := normalizeRefusesRow.holds Tryz.pinned (OpenSpec.ofChange normalizeRefusesSpec)

/-- ITS FALSE NEIGHBOUR: 'it returns false'. Refute it at one input. -/
def normalizeRefusesWrong : ChangeSpec := { name := "normalizeRefuses", fn := fun _ => fun
  | [d1, d2, d3] => { results := [.lit (.bool false)], args := [d1, d2, d3] }
  | _ => none }
def NormalizeRefusesWrongFalsely : Prop := normalizeRefusesRow.holds Tryz.pinned (OpenSpec.ofChange normalizeRefusesWrong)

/-- 'ordinallaw22.NormalizeLoads': WHATEVER THE INPUT: true; the input reads as it did. -/
def normalizeLoadsSpec : ChangeSpec := { name := "normalizeLoads", fn := fun _ => fun
  | [d1, d2, d3] => { results := [.lit (.bool true)], args := [d1, d2, d3] }
  | _ => none }
def normalizeLoadsRow : OpenClaim := { program := "ytmmmdinncmbjkaagreat", sum := "0986095d31ce65b093c3831228a5082731f619494467de4e737c9b7cb80bdd04", func := "ordinal/ordinallaw22.NormalizeLoads", spec := "normalizeLoads", inPlace := ["maps.clone", "internal/bytealg.abigen_runtime_cmpstring"], unfollowed := true, recurses := true, apart := false }
def NormalizeLoadsSaid : Prop := normalizeLoadsRow.holds Tryz.pinned (OpenSpec.ofChange normalizeLoadsSpec)

/-- ITS FALSE NEIGHBOUR: 'it returns false'. Refute it at one input. -/
def normalizeLoadsWrong : ChangeSpec := { name := "normalizeLoads", fn := fun _ => fun
  | [d1, d2, d3] => { results := [.lit (.bool false)], args := [d1, d2, d3] }
  | _ => none }
def NormalizeLoadsWrongFalsely : Prop := normalizeLoadsRow.holds Tryz.pinned (OpenSpec.ofChange normalizeLoadsWrong)

/-- 'ordinallaw22.NormalizeMeans': WHATEVER THE INPUT: true; the input reads as it did. -/
def normalizeMeansSpec : ChangeSpec := { name := "normalizeMeans", fn := fun _ => fun
  | [d1, d2, d3] => { results := [.lit (.bool true)], args := [d1, d2, d3] }
  | _ => none }
def normalizeMeansRow : OpenClaim := { program := "ytmmmdinncmbjkaagreat", sum := "0986095d31ce65b093c3831228a5082731f619494467de4e737c9b7cb80bdd04", func := "ordinal/ordinallaw22.NormalizeMeans", spec := "normalizeMeans", inPlace := ["maps.clone", "internal/bytealg.abigen_runtime_cmpstring"], unfollowed := true, recurses := true, apart := false }
def NormalizeMeansSaid : Prop := normalizeMeansRow.holds Tryz.pinned (OpenSpec.ofChange normalizeMeansSpec)

/-- ITS FALSE NEIGHBOUR: 'it returns false'. Refute it at one input. -/
def normalizeMeansWrong : ChangeSpec := { name := "normalizeMeans", fn := fun _ => fun
  | [d1, d2, d3] => { results := [.lit (.bool false)], args := [d1, d2, d3] }
  | _ => none }
def NormalizeMeansWrongFalsely : Prop := normalizeMeansRow.holds Tryz.pinned (OpenSpec.ofChange normalizeMeansWrong)

/-- 'ordinallaw22.NormalizeFilters': WHATEVER THE INPUT: true; the input reads as it did. -/
def normalizeFiltersSpec : ChangeSpec := { name := "normalizeFilters", fn := fun _ => fun
  | [d1, d2, d3] => { results := [.lit (.bool true)], args := [d1, d2, d3] }
  | _ => none }
def normalizeFiltersRow : OpenClaim := { program := "ytmmmdinncmbjkaagreat", sum := "0986095d31ce65b093c3831228a5082731f619494467de4e737c9b7cb80bdd04", func := "ordinal/ordinallaw22.NormalizeFilters", spec := "normalizeFilters", inPlace := ["maps.clone", "internal/bytealg.abigen_runtime_cmpstring"], unfollowed := true, recurses := true, apart := false }
def NormalizeFiltersSaid : Prop := normalizeFiltersRow.holds Tryz.pinned (OpenSpec.ofChange normalizeFiltersSpec)

/-- ITS FALSE NEIGHBOUR: 'it returns false'. Refute it at one input. -/
def normalizeFiltersWrong : ChangeSpec := { name := "normalizeFilters", fn := fun _ => fun
  | [d1, d2, d3] => { results := [.lit (.bool false)], args := [d1, d2, d3] }
  | _ => none }
def NormalizeFiltersWrongFalsely : Prop := normalizeFiltersRow.holds Tryz.pinned (OpenSpec.ofChange normalizeFiltersWrong)

/- THE SECOND FORM. 'bulk': how many values and letters a reading holds, each counted each time it is reached (what is shared counts as often as it is met; a slice's spare places count too). A statement '..UptoSaid' is the law's where the arguments, and the package variables that the reading takes, are together of bulk at most 1048576: NARROWER than '..Said'. Prove '..Said' where nothing that the law and all that it calls make is longer than what came in: it says more and counts as full. Else prove '..UptoSaid'. A law counts once. -/
mutual
def uptoBulk {H : Type} : DataW H → Nat
  | .lit (.string bytes) => bytes.length + 1
  | .lit _ => 1
  | .nil => 1
  | .ptr d => uptoBulk d + 1
  | .slice elems spare => uptoBulkAll elems + uptoBulkAll spare + 1
  | .agg parts => uptoBulkAll parts + 1
  | .iface _ d => uptoBulk d + 1
  | .map entries => uptoBulkEntries entries + 1
  | .held _ => 1
def uptoBulkAll {H : Type} : List (DataW H) → Nat
  | [] => 0
  | d :: r => uptoBulk d + uptoBulkAll r
def uptoBulkEntries {H : Type} : List (Lit × DataW H) → Nat
  | [] => 0
  | x :: r => uptoBulkEntry x + uptoBulkEntries r
def uptoBulkEntry {H : Type} : Lit × DataW H → Nat
  | (.string bytes, d) => bytes.length + uptoBulk d + 1
  | (_, d) => uptoBulk d + 1
 end
def uptoSmall : (H : Type) → List (DataW H) → Bool := fun _ ds => decide (uptoBulkAll ds ≤ 1048576)
def OpenSpec.upto (s : _root_.Go.ChangeSpec) : _root_.Go.OpenSpec := { _root_.Go.OpenSpec.ofChange s with cond := some uptoSmall }

/-- 'ordinallaw22.NormalizeRefuses', WHERE WHAT IT READS IS OF BULK AT MOST 1048576: true; the input reads as it did. -/
def normalizeRefusesUptoRow : OpenClaim := { program := "ytmmmdinncmbjkaagreat", sum := "0986095d31ce65b093c3831228a5082731f619494467de4e737c9b7cb80bdd04", func := "ordinal/ordinallaw22.NormalizeRefuses", spec := "normalizeRefuses", inPlace := ["internal/bytealg.abigen_runtime_cmpstring"], unfollowed := true, recurses := true, apart := false, narrowed := true }
def NormalizeRefusesUptoSaid : Prop := normalizeRefusesUptoRow.holds Tryz.pinned (OpenSpec.upto normalizeRefusesSpec)

/-- 'ordinallaw22.NormalizeLoads', WHERE WHAT IT READS IS OF BULK AT MOST 1048576: true; the input reads as it did. -/
def normalizeLoadsUptoRow : OpenClaim := { program := "ytmmmdinncmbjkaagreat", sum := "0986095d31ce65b093c3831228a5082731f619494467de4e737c9b7cb80bdd04", func := "ordinal/ordinallaw22.NormalizeLoads", spec := "normalizeLoads", inPlace := ["maps.clone", "internal/bytealg.abigen_runtime_cmpstring"], unfollowed := true, recurses := true, apart := false, narrowed := true }
def NormalizeLoadsUptoSaid : Prop := normalizeLoadsUptoRow.holds Tryz.pinned (OpenSpec.upto normalizeLoadsSpec)

/-- 'ordinallaw22.NormalizeMeans', WHERE WHAT IT READS IS OF BULK AT MOST 1048576: true; the input reads as it did. -/
def normalizeMeansUptoRow : OpenClaim := { program := "ytmmmdinncmbjkaagreat", sum := "0986095d31ce65b093c3831228a5082731f619494467de4e737c9b7cb80bdd04", func := "ordinal/ordinallaw22.NormalizeMeans", spec := "normalizeMeans", inPlace := ["maps.clone", "internal/bytealg.abigen_runtime_cmpstring"], unfollowed := true, recurses := true, apart := false, narrowed := true }
def NormalizeMeansUptoSaid : Prop := normalizeMeansUptoRow.holds Tryz.pinned (OpenSpec.upto normalizeMeansSpec)

/-- 'ordinallaw22.NormalizeFilters', WHERE WHAT IT READS IS OF BULK AT MOST 1048576: true; the input reads as it did. -/
def normalizeFiltersUptoRow : OpenClaim := { program := "ytmmmdinncmbjkaagreat", sum := "0986095d31ce65b093c3831228a5082731f619494467de4e737c9b7cb80bdd04", func := "ordinal/ordinallaw22.NormalizeFilters", spec := "normalizeFilters", inPlace := ["maps.clone", "internal/bytealg.abigen_runtime_cmpstring"], unfollowed := true, recurses := true, apart := false, narrowed := true }
def NormalizeFiltersUptoSaid : Prop := normalizeFiltersUptoRow.holds Tryz.pinned (OpenSpec.upto normalizeFiltersSpec)

end Rows
end Go.Proofs.YtmmmdinncmbjkaaGreat
