/-
  No cell of these rows narrows 'for every input' (looked for: loops, veiled, ifaces, maps, wideKeys, modest, calm, conditions, laid).
  DERIVED. THE GIVEN ROWS OF THIS SEAT. 3 by the template 'for every input the law returns true; each argument reads behind the call as it read before'; 0 by the template 'total and deterministic' (their statements: YtmmmdinncmbjkaaTotals.lean).
  GIVEN WITH THE SEED: the statements are not yours to turn. If you find one false, say at which input.
  Laid BY PROGRAM, IN A SANDBOX (cutbox-rows.mjs): the forced cells as the released guide's own fill.sh prints them over the translation f679b009b93c4a86… (all of the seat's roots in one cut). By AI agents, Wed Nov 11 2026. No macro, syntax, notation, axiom, sorry.
-/
import Derived.Test.YtmmmdinncmbjkaaChecked
import GoSem.Claim
import GoSem.ClaimJoined
import GoSem.ClaimMapViews
import Derived.JoinedTies
import Derived.KernelRfl
namespace Go.Proofs.Ytmmmdinncmbjkaa
/- THE CELL 'sum', in the pinned program and in every row, IS THE sha256 OF THE DUMP (.gsa) THAT YtmmmdinncmbjkaaProg.lean LOADS. Nothing in Lean hashes anything: it is a label: what it is worth is what the hold of that sum in a sandbox is worth. -/
noncomputable def Try.pinned : Pinned := { name := "ytmmmdinncmbjkaa", sum := "f679b009b93c4a86d1f8a48c1817c50dbea268845f1dcc5ba3c6e2bb6bad5505", checked := Try.checked }
namespace Rows
def none {H : Type} : Left H := { results := [], args := [] }

/-- 'ordinallaw22.NormalizeRules': WHATEVER THE INPUT: true; the input reads as it did. -/
def normalizeRulesSpec : ChangeSpec := { name := "normalizeRules", fn := fun _ => fun
  | [d1, d2, d3] => { results := [.lit (.bool true)], args := [d1, d2, d3] }
  | _ => none }
def normalizeRulesRow : OpenClaim := { program := "ytmmmdinncmbjkaa", sum := "f679b009b93c4a86d1f8a48c1817c50dbea268845f1dcc5ba3c6e2bb6bad5505", func := "ordinal/ordinallaw22.NormalizeRules", spec := "normalizeRules", unfollowed := true, recurses := true, apart := false }
def NormalizeRulesSaid : Prop := normalizeRulesRow.holds Try.pinned (OpenSpec.ofChange normalizeRulesSpec)

/-- ITS FALSE NEIGHBOUR: 'it returns false'. Refute it at one input. -/
def normalizeRulesWrong : ChangeSpec := { name := "normalizeRules", fn := fun _ => fun
  | [d1, d2, d3] => { results := [.lit (.bool false)], args := [d1, d2, d3] }
  | _ => none }
def NormalizeRulesWrongFalsely : Prop := normalizeRulesRow.holds Try.pinned (OpenSpec.ofChange normalizeRulesWrong)

/-- 'ordinallaw22.NormalizeTurns': WHATEVER THE INPUT: true; the input reads as it did. -/
def normalizeTurnsSpec : ChangeSpec := { name := "normalizeTurns", fn := fun _ => fun
  | [d1, d2] => { results := [.lit (.bool true)], args := [d1, d2] }
  | _ => none }
def normalizeTurnsRow : OpenClaim := { program := "ytmmmdinncmbjkaa", sum := "f679b009b93c4a86d1f8a48c1817c50dbea268845f1dcc5ba3c6e2bb6bad5505", func := "ordinal/ordinallaw22.NormalizeTurns", spec := "normalizeTurns", unfollowed := true, recurses := true, apart := false }
def NormalizeTurnsSaid : Prop := normalizeTurnsRow.holds Try.pinned (OpenSpec.ofChange normalizeTurnsSpec)

/-- ITS FALSE NEIGHBOUR: 'it returns false'. Refute it at one input. -/
def normalizeTurnsWrong : ChangeSpec := { name := "normalizeTurns", fn := fun _ => fun
  | [d1, d2] => { results := [.lit (.bool false)], args := [d1, d2] }
  | _ => none }
def NormalizeTurnsWrongFalsely : Prop := normalizeTurnsRow.holds Try.pinned (OpenSpec.ofChange normalizeTurnsWrong)

/-- 'ordinallaw22.NormalizeSets': WHATEVER THE INPUT: true; the input reads as it did. -/
def normalizeSetsSpec : ChangeSpec := { name := "normalizeSets", fn := fun _ => fun
  | [d1, d2] => { results := [.lit (.bool true)], args := [d1, d2] }
  | _ => none }
def normalizeSetsRow : OpenClaim := { program := "ytmmmdinncmbjkaa", sum := "f679b009b93c4a86d1f8a48c1817c50dbea268845f1dcc5ba3c6e2bb6bad5505", func := "ordinal/ordinallaw22.NormalizeSets", spec := "normalizeSets", unfollowed := true, recurses := true, apart := false }
def NormalizeSetsSaid : Prop := normalizeSetsRow.holds Try.pinned (OpenSpec.ofChange normalizeSetsSpec)

/-- ITS FALSE NEIGHBOUR: 'it returns false'. Refute it at one input. -/
def normalizeSetsWrong : ChangeSpec := { name := "normalizeSets", fn := fun _ => fun
  | [d1, d2] => { results := [.lit (.bool false)], args := [d1, d2] }
  | _ => none }
def NormalizeSetsWrongFalsely : Prop := normalizeSetsRow.holds Try.pinned (OpenSpec.ofChange normalizeSetsWrong)

/- THE SECOND FORM. 'bulk': how many values and letters a reading holds, each counted each time it is reached (what is shared counts as often as it is met; a slice's spare places count too). A statement '..UptoSaid' is the law's where the arguments, and the package variables that the reading takes, are together of bulk at most 1048576: NARROWER than '..Said'. Prove '..Said' where nothing that the law and all that it calls make is longer than what came in: it says more and counts as full. Else prove '..UptoSaid'. A law counts once. -/
mutual
def uptoBulk {H : Type} : DataW H → Nat
  | .lit (.string bytes) => bytes.length + 1
  | .lit _ => 1
  | .nil => 1
  | .ptr d => uptoBulk d + 1
  | .slice elems spare => uptoBulkAll elems + uptoBulkAll spare + 1
  | .agg parts => uptoBulkAll parts + 1
  | .iface _ d => uptoBulk d + 1
  | .map entries => uptoBulkEntries entries + 1
  | .held _ => 1
def uptoBulkAll {H : Type} : List (DataW H) → Nat
  | [] => 0
  | d :: r => uptoBulk d + uptoBulkAll r
def uptoBulkEntries {H : Type} : List (Lit × DataW H) → Nat
  | [] => 0
  | x :: r => uptoBulkEntry x + uptoBulkEntries r
def uptoBulkEntry {H : Type} : Lit × DataW H → Nat
  | (.string bytes, d) => bytes.length + uptoBulk d + 1
  | (_, d) => uptoBulk d + 1
 end
def uptoSmall : (H : Type) → List (DataW H) → Bool := fun _ ds => decide (uptoBulkAll ds ≤ 1048576)
def OpenSpec.upto (s : _root_.Go.ChangeSpec) : _root_.Go.OpenSpec := { _root_.Go.OpenSpec.ofChange s with cond := some uptoSmall }

/-- 'ordinallaw22.NormalizeRules', WHERE WHAT IT READS IS OF BULK AT MOST 1048576: true; the input reads as it did. -/
def normalizeRulesUptoRow : OpenClaim := { program := "ytmmmdinncmbjkaa", sum := "f679b009b93c4a86d1f8a48c1817c50dbea268845f1dcc5ba3c6e2bb6bad5505", func := "ordinal/ordinallaw22.NormalizeRules", spec := "normalizeRules", unfollowed := true, recurses := true, apart := false, narrowed := true }
def NormalizeRulesUptoSaid : Prop := normalizeRulesUptoRow.holds Try.pinned (OpenSpec.upto normalizeRulesSpec)

/-- 'ordinallaw22.NormalizeTurns', WHERE WHAT IT READS IS OF BULK AT MOST 1048576: true; the input reads as it did. -/
def normalizeTurnsUptoRow : OpenClaim := { program := "ytmmmdinncmbjkaa", sum := "f679b009b93c4a86d1f8a48c1817c50dbea268845f1dcc5ba3c6e2bb6bad5505", func := "ordinal/ordinallaw22.NormalizeTurns", spec := "normalizeTurns", unfollowed := true, recurses := true, apart := false, narrowed := true }
def NormalizeTurnsUptoSaid : Prop := normalizeTurnsUptoRow.holds Try.pinned (OpenSpec.upto normalizeTurnsSpec)

/-- 'ordinallaw22.NormalizeSets', WHERE WHAT IT READS IS OF BULK AT MOST 1048576: true; the input reads as it did. -/
def normalizeSetsUptoRow : OpenClaim := { program := "ytmmmdinncmbjkaa", sum := "f679b009b93c4a86d1f8a48c1817c50dbea268845f1dcc5ba3c6e2bb6bad5505", func := "ordinal/ordinallaw22.NormalizeSets", spec := "normalizeSets", unfollowed := true, recurses := true, apart := false, narrowed := true }
def NormalizeSetsUptoSaid : Prop := normalizeSetsUptoRow.holds Try.pinned (OpenSpec.upto normalizeSetsSpec)

end Rows
end Go.Proofs.Ytmmmdinncmbjkaa
