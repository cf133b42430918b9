/-
  NARROWER THAN 'FOR EVERY INPUT', by the rows' own cells (each row's printed sentence says how): ModelMonotone: laid · ModelReorders: laid · ModelMultiplies: laid · ModelGroups: laid · ModelCounts: laid · HomomorphismContains: laid · MinimizeAnswers: laid.
  DERIVED. THE GIVEN ROWS OF THIS SEAT. 7 by the template 'for every input the law returns true; each argument reads behind the call as it read before'; 0 by the template 'total and deterministic' (their statements: YtplldnnnhgnbjaaGreatDoorTotals.lean).
  GIVEN WITH THE SEED: the statements are not yours to turn. If you find one false, say at which input.
  Laid BY PROGRAM, IN A SANDBOX (cutbox-rows.mjs): the forced cells as the released guide's own fill.sh prints them over the translation e623d61d0bdf105d… (all of the seat's roots in one cut). By AI agents, Wed Nov 11 2026. No macro, syntax, notation, axiom, sorry.
-/
import Derived.Test.YtplldnnnhgnbjaaGreatDoorChecked
import GoSem.Claim
import GoSem.ClaimJoined
import GoSem.ClaimMapViews
import Derived.JoinedTies
import Derived.KernelRfl
namespace Go.Proofs.YtplldnnnhgnbjaaGreatDoor
/- THE CELL 'sum', in the pinned program and in every row, IS THE sha256 OF THE DUMP (.gsa) THAT YtplldnnnhgnbjaaGreatDoorProg.lean LOADS. Nothing in Lean hashes anything: it is a label: what it is worth is what the hold of that sum in a sandbox is worth. -/
noncomputable def Tryz.pinned : Pinned := { name := "ytplldnnnhgnbjaagreatdoor", sum := "e623d61d0bdf105d971fe906723153bea9adfc70461fb0a2f9bacb67d001f8d2", checked := Tryz.checked }
namespace Rows
def none {H : Type} : Left H := { results := [], args := [] }

/- WHAT THE LISTED PACKAGE-LEVEL VARIABLES READ AS WHEN THE CALL BEGINS. Each datum BY PROGRAM (the guide's laid-datum.mjs) off the statement by which the dump's own 'gosem.cut.vars' lays the variable. In a bare row this is a premise. The card (YtplldnnnhgnbjaaGreatDoorCards.lean) ties it to the program's text. -/
def laid_math_bits_deBruijn32tab {H : Type} : DataW H := .agg [.lit (.int .u8 0), .lit (.int .u8 1), .lit (.int .u8 28), .lit (.int .u8 2), .lit (.int .u8 29), .lit (.int .u8 14), .lit (.int .u8 24), .lit (.int .u8 3), .lit (.int .u8 30), .lit (.int .u8 22), .lit (.int .u8 20), .lit (.int .u8 15), .lit (.int .u8 25), .lit (.int .u8 17), .lit (.int .u8 4), .lit (.int .u8 8), .lit (.int .u8 31), .lit (.int .u8 27), .lit (.int .u8 13), .lit (.int .u8 23), .lit (.int .u8 21), .lit (.int .u8 19), .lit (.int .u8 16), .lit (.int .u8 7), .lit (.int .u8 26), .lit (.int .u8 12), .lit (.int .u8 18), .lit (.int .u8 6), .lit (.int .u8 11), .lit (.int .u8 5), .lit (.int .u8 10), .lit (.int .u8 9)]
def laid_math_bits_deBruijn64tab {H : Type} : DataW H := .agg [.lit (.int .u8 0), .lit (.int .u8 1), .lit (.int .u8 56), .lit (.int .u8 2), .lit (.int .u8 57), .lit (.int .u8 49), .lit (.int .u8 28), .lit (.int .u8 3), .lit (.int .u8 61), .lit (.int .u8 58), .lit (.int .u8 42), .lit (.int .u8 50), .lit (.int .u8 38), .lit (.int .u8 29), .lit (.int .u8 17), .lit (.int .u8 4), .lit (.int .u8 62), .lit (.int .u8 47), .lit (.int .u8 59), .lit (.int .u8 36), .lit (.int .u8 45), .lit (.int .u8 43), .lit (.int .u8 51), .lit (.int .u8 22), .lit (.int .u8 53), .lit (.int .u8 39), .lit (.int .u8 33), .lit (.int .u8 30), .lit (.int .u8 24), .lit (.int .u8 18), .lit (.int .u8 12), .lit (.int .u8 5), .lit (.int .u8 63), .lit (.int .u8 55), .lit (.int .u8 48), .lit (.int .u8 27), .lit (.int .u8 60), .lit (.int .u8 41), .lit (.int .u8 37), .lit (.int .u8 16), .lit (.int .u8 46), .lit (.int .u8 35), .lit (.int .u8 44), .lit (.int .u8 21), .lit (.int .u8 52), .lit (.int .u8 32), .lit (.int .u8 23), .lit (.int .u8 11), .lit (.int .u8 54), .lit (.int .u8 26), .lit (.int .u8 40), .lit (.int .u8 15), .lit (.int .u8 34), .lit (.int .u8 20), .lit (.int .u8 31), .lit (.int .u8 10), .lit (.int .u8 25), .lit (.int .u8 14), .lit (.int .u8 19), .lit (.int .u8 9), .lit (.int .u8 13), .lit (.int .u8 8), .lit (.int .u8 7), .lit (.int .u8 6)]
def laid_internal_strconv_uint64pow10 {H : Type} : DataW H := .agg [.lit (.int .u64 1), .lit (.int .u64 10), .lit (.int .u64 100), .lit (.int .u64 1000), .lit (.int .u64 10000), .lit (.int .u64 100000), .lit (.int .u64 1000000), .lit (.int .u64 10000000), .lit (.int .u64 100000000), .lit (.int .u64 1000000000), .lit (.int .u64 10000000000), .lit (.int .u64 100000000000), .lit (.int .u64 1000000000000), .lit (.int .u64 10000000000000), .lit (.int .u64 100000000000000), .lit (.int .u64 1000000000000000), .lit (.int .u64 10000000000000000), .lit (.int .u64 100000000000000000), .lit (.int .u64 1000000000000000000), .lit (.int .u64 10000000000000000000)]

/-- 'ordinallaw23.ModelMonotone': WHATEVER THE INPUT: true; the input reads as it did. -/
def modelMonotoneSpec : ChangeSpec := { name := "modelMonotone", fn := fun _ => fun
  | [d1, d2, d3] => { results := [.lit (.bool true)], args := [d1, d2, d3] }
  | _ => none }
def modelMonotoneRow : OpenClaim := { program := "ytplldnnnhgnbjaagreatdoor", sum := "e623d61d0bdf105d971fe906723153bea9adfc70461fb0a2f9bacb67d001f8d2", func := "ordinal/ordinallaw23.ModelMonotone", spec := "modelMonotone", inPlace := ["maps.clone", "internal/bytealg.abigen_runtime_cmpstring"], unfollowed := true, recurses := true, named := ["internal/strconv.uint64pow10", "math/bits.deBruijn32tab", "math/bits.deBruijn64tab"], apart := false, laid := [("math/bits.deBruijn32tab", laid_math_bits_deBruijn32tab), ("math/bits.deBruijn64tab", laid_math_bits_deBruijn64tab), ("internal/strconv.uint64pow10", laid_internal_strconv_uint64pow10)] }
def ModelMonotoneSaid : Prop := modelMonotoneRow.holds Tryz.pinned (OpenSpec.ofChange modelMonotoneSpec)

/-- ITS FALSE NEIGHBOUR: 'it returns false'. Refute it at one input. -/
def modelMonotoneWrong : ChangeSpec := { name := "modelMonotone", fn := fun _ => fun
  | [d1, d2, d3] => { results := [.lit (.bool false)], args := [d1, d2, d3] }
  | _ => none }
def ModelMonotoneWrongFalsely : Prop := modelMonotoneRow.holds Tryz.pinned (OpenSpec.ofChange modelMonotoneWrong)

/-- 'ordinallaw23.ModelReorders': WHATEVER THE INPUT: true; the input reads as it did. -/
def modelReordersSpec : ChangeSpec := { name := "modelReorders", fn := fun _ => fun
  | [d1, d2, d3] => { results := [.lit (.bool true)], args := [d1, d2, d3] }
  | _ => none }
def modelReordersRow : OpenClaim := { program := "ytplldnnnhgnbjaagreatdoor", sum := "e623d61d0bdf105d971fe906723153bea9adfc70461fb0a2f9bacb67d001f8d2", func := "ordinal/ordinallaw23.ModelReorders", spec := "modelReorders", inPlace := ["maps.clone", "internal/bytealg.abigen_runtime_cmpstring"], unfollowed := true, recurses := true, named := ["internal/strconv.uint64pow10", "math/bits.deBruijn32tab", "math/bits.deBruijn64tab"], apart := false, laid := [("math/bits.deBruijn32tab", laid_math_bits_deBruijn32tab), ("math/bits.deBruijn64tab", laid_math_bits_deBruijn64tab), ("internal/strconv.uint64pow10", laid_internal_strconv_uint64pow10)] }
def ModelReordersSaid : Prop := modelReordersRow.holds Tryz.pinned (OpenSpec.ofChange modelReordersSpec)

/-- ITS FALSE NEIGHBOUR: 'it returns false'. Refute it at one input. -/
def modelReordersWrong : ChangeSpec := { name := "modelReorders", fn := fun _ => fun
  | [d1, d2, d3] => { results := [.lit (.bool false)], args := [d1, d2, d3] }
  | _ => none }
def ModelReordersWrongFalsely : Prop := modelReordersRow.holds Tryz.pinned (OpenSpec.ofChange modelReordersWrong)

/-- 'ordinallaw23.ModelMultiplies': WHATEVER THE INPUT: true; the input reads as it did. -/
def modelMultipliesSpec : ChangeSpec := { name := "modelMultiplies", fn := fun _ => fun
  | [d1, d2, d3] => { results := [.lit (.bool true)], args := [d1, d2, d3] }
  | _ => none }
def modelMultipliesRow : OpenClaim := { program := "ytplldnnnhgnbjaagreatdoor", sum := "e623d61d0bdf105d971fe906723153bea9adfc70461fb0a2f9bacb67d001f8d2", func := "ordinal/ordinallaw23.ModelMultiplies", spec := "modelMultiplies", inPlace := ["maps.clone", "internal/bytealg.abigen_runtime_cmpstring"], unfollowed := true, recurses := true, named := ["internal/strconv.uint64pow10", "math/bits.deBruijn32tab", "math/bits.deBruijn64tab"], apart := false, laid := [("math/bits.deBruijn32tab", laid_math_bits_deBruijn32tab), ("math/bits.deBruijn64tab", laid_math_bits_deBruijn64tab), ("internal/strconv.uint64pow10", laid_internal_strconv_uint64pow10)] }
def ModelMultipliesSaid : Prop := modelMultipliesRow.holds Tryz.pinned (OpenSpec.ofChange modelMultipliesSpec)

/-- ITS FALSE NEIGHBOUR: 'it returns false'. Refute it at one input. -/
def modelMultipliesWrong : ChangeSpec := { name := "modelMultiplies", fn := fun _ => fun
  | [d1, d2, d3] => { results := [.lit (.bool false)], args := [d1, d2, d3] }
  | _ => none }
def ModelMultipliesWrongFalsely : Prop := modelMultipliesRow.holds Tryz.pinned (OpenSpec.ofChange modelMultipliesWrong)

/-- 'ordinallaw23.ModelGroups': WHATEVER THE INPUT: true; the input reads as it did. -/
def modelGroupsSpec : ChangeSpec := { name := "modelGroups", fn := fun _ => fun
  | [d1, d2, d3] => { results := [.lit (.bool true)], args := [d1, d2, d3] }
  | _ => none }
def modelGroupsRow : OpenClaim := { program := "ytplldnnnhgnbjaagreatdoor", sum := "e623d61d0bdf105d971fe906723153bea9adfc70461fb0a2f9bacb67d001f8d2", func := "ordinal/ordinallaw23.ModelGroups", spec := "modelGroups", inPlace := ["maps.clone", "internal/bytealg.abigen_runtime_cmpstring", "math/bits.Add64"], unfollowed := true, recurses := true, named := ["internal/strconv.uint64pow10", "math/bits.deBruijn32tab", "math/bits.deBruijn64tab"], apart := false, laid := [("math/bits.deBruijn32tab", laid_math_bits_deBruijn32tab), ("math/bits.deBruijn64tab", laid_math_bits_deBruijn64tab), ("internal/strconv.uint64pow10", laid_internal_strconv_uint64pow10)] }
def ModelGroupsSaid : Prop := modelGroupsRow.holds Tryz.pinned (OpenSpec.ofChange modelGroupsSpec)

/-- ITS FALSE NEIGHBOUR: 'it returns false'. Refute it at one input. -/
def modelGroupsWrong : ChangeSpec := { name := "modelGroups", fn := fun _ => fun
  | [d1, d2, d3] => { results := [.lit (.bool false)], args := [d1, d2, d3] }
  | _ => none }
def ModelGroupsWrongFalsely : Prop := modelGroupsRow.holds Tryz.pinned (OpenSpec.ofChange modelGroupsWrong)

/-- 'ordinallaw23.ModelCounts': WHATEVER THE INPUT: true; the input reads as it did. -/
def modelCountsSpec : ChangeSpec := { name := "modelCounts", fn := fun _ => fun
  | [d1, d2, d3] => { results := [.lit (.bool true)], args := [d1, d2, d3] }
  | _ => none }
def modelCountsRow : OpenClaim := { program := "ytplldnnnhgnbjaagreatdoor", sum := "e623d61d0bdf105d971fe906723153bea9adfc70461fb0a2f9bacb67d001f8d2", func := "ordinal/ordinallaw23.ModelCounts", spec := "modelCounts", inPlace := ["maps.clone", "internal/bytealg.abigen_runtime_cmpstring", "math/bits.Add64"], unfollowed := true, recurses := true, named := ["internal/strconv.uint64pow10", "math/bits.deBruijn32tab", "math/bits.deBruijn64tab"], apart := false, laid := [("math/bits.deBruijn32tab", laid_math_bits_deBruijn32tab), ("math/bits.deBruijn64tab", laid_math_bits_deBruijn64tab), ("internal/strconv.uint64pow10", laid_internal_strconv_uint64pow10)] }
def ModelCountsSaid : Prop := modelCountsRow.holds Tryz.pinned (OpenSpec.ofChange modelCountsSpec)

/-- ITS FALSE NEIGHBOUR: 'it returns false'. Refute it at one input. -/
def modelCountsWrong : ChangeSpec := { name := "modelCounts", fn := fun _ => fun
  | [d1, d2, d3] => { results := [.lit (.bool false)], args := [d1, d2, d3] }
  | _ => none }
def ModelCountsWrongFalsely : Prop := modelCountsRow.holds Tryz.pinned (OpenSpec.ofChange modelCountsWrong)

/-- 'ordinallaw24.HomomorphismContains': WHATEVER THE INPUT: true; the input reads as it did. -/
def homomorphismContainsSpec : ChangeSpec := { name := "homomorphismContains", fn := fun _ => fun
  | [d1, d2, d3] => { results := [.lit (.bool true)], args := [d1, d2, d3] }
  | _ => none }
def homomorphismContainsRow : OpenClaim := { program := "ytplldnnnhgnbjaagreatdoor", sum := "e623d61d0bdf105d971fe906723153bea9adfc70461fb0a2f9bacb67d001f8d2", func := "ordinal/ordinallaw24.HomomorphismContains", spec := "homomorphismContains", inPlace := ["maps.clone", "internal/bytealg.abigen_runtime_cmpstring"], unfollowed := true, recurses := true, named := ["internal/strconv.uint64pow10", "math/bits.deBruijn32tab", "math/bits.deBruijn64tab"], apart := false, laid := [("math/bits.deBruijn32tab", laid_math_bits_deBruijn32tab), ("math/bits.deBruijn64tab", laid_math_bits_deBruijn64tab), ("internal/strconv.uint64pow10", laid_internal_strconv_uint64pow10)] }
def HomomorphismContainsSaid : Prop := homomorphismContainsRow.holds Tryz.pinned (OpenSpec.ofChange homomorphismContainsSpec)

/-- ITS FALSE NEIGHBOUR: 'it returns false'. Refute it at one input. -/
def homomorphismContainsWrong : ChangeSpec := { name := "homomorphismContains", fn := fun _ => fun
  | [d1, d2, d3] => { results := [.lit (.bool false)], args := [d1, d2, d3] }
  | _ => none }
def HomomorphismContainsWrongFalsely : Prop := homomorphismContainsRow.holds Tryz.pinned (OpenSpec.ofChange homomorphismContainsWrong)

/-- 'ordinallaw25.MinimizeAnswers': WHATEVER THE INPUT: true; the input reads as it did. -/
def minimizeAnswersSpec : ChangeSpec := { name := "minimizeAnswers", fn := fun _ => fun
  | [d1, d2, d3] => { results := [.lit (.bool true)], args := [d1, d2, d3] }
  | _ => none }
def minimizeAnswersRow : OpenClaim := { program := "ytplldnnnhgnbjaagreatdoor", sum := "e623d61d0bdf105d971fe906723153bea9adfc70461fb0a2f9bacb67d001f8d2", func := "ordinal/ordinallaw25.MinimizeAnswers", spec := "minimizeAnswers", inPlace := ["internal/abi.NoEscape", "internal/bytealg.MakeNoZero", "maps.clone", "internal/bytealg.abigen_runtime_cmpstring"], unfollowed := true, recurses := true, named := ["internal/strconv.uint64pow10", "math/bits.deBruijn32tab", "math/bits.deBruijn64tab"], apart := false, laid := [("math/bits.deBruijn32tab", laid_math_bits_deBruijn32tab), ("math/bits.deBruijn64tab", laid_math_bits_deBruijn64tab), ("internal/strconv.uint64pow10", laid_internal_strconv_uint64pow10)] }
def MinimizeAnswersSaid : Prop := minimizeAnswersRow.holds Tryz.pinned (OpenSpec.ofChange minimizeAnswersSpec)

/-- ITS FALSE NEIGHBOUR: 'it returns false'. Refute it at one input. -/
def minimizeAnswersWrong : ChangeSpec := { name := "minimizeAnswers", fn := fun _ => fun
  | [d1, d2, d3] => { results := [.lit (.bool false)], args := [d1, d2, d3] }
  | _ => none }
def MinimizeAnswersWrongFalsely : Prop := minimizeAnswersRow.holds Tryz.pinned (OpenSpec.ofChange minimizeAnswersWrong)

/- THE SECOND FORM. 'bulk': how many values and letters a reading holds, each counted each time it is reached (what is shared counts as often as it is met; a slice's spare places count too). A statement '..UptoSaid' is the law's where the arguments, and the package variables that the reading takes, are together of bulk at most 1048576: NARROWER than '..Said'. Prove '..Said' where nothing that the law and all that it calls make is longer than what came in: it says more and counts as full. Else prove '..UptoSaid'. A law counts once. -/
mutual
def uptoBulk {H : Type} : DataW H → Nat
  | .lit (.string bytes) => bytes.length + 1
  | .lit _ => 1
  | .nil => 1
  | .ptr d => uptoBulk d + 1
  | .slice elems spare => uptoBulkAll elems + uptoBulkAll spare + 1
  | .agg parts => uptoBulkAll parts + 1
  | .iface _ d => uptoBulk d + 1
  | .map entries => uptoBulkEntries entries + 1
  | .held _ => 1
def uptoBulkAll {H : Type} : List (DataW H) → Nat
  | [] => 0
  | d :: r => uptoBulk d + uptoBulkAll r
def uptoBulkEntries {H : Type} : List (Lit × DataW H) → Nat
  | [] => 0
  | x :: r => uptoBulkEntry x + uptoBulkEntries r
def uptoBulkEntry {H : Type} : Lit × DataW H → Nat
  | (.string bytes, d) => bytes.length + uptoBulk d + 1
  | (_, d) => uptoBulk d + 1
 end
def uptoSmall : (H : Type) → List (DataW H) → Bool := fun _ ds => decide (uptoBulkAll ds ≤ 1048576)
def OpenSpec.upto (s : _root_.Go.ChangeSpec) : _root_.Go.OpenSpec := { _root_.Go.OpenSpec.ofChange s with cond := some uptoSmall }

/-- 'ordinallaw23.ModelMonotone', WHERE WHAT IT READS IS OF BULK AT MOST 1048576: true; the input reads as it did. -/
def modelMonotoneUptoRow : OpenClaim := { program := "ytplldnnnhgnbjaagreatdoor", sum := "e623d61d0bdf105d971fe906723153bea9adfc70461fb0a2f9bacb67d001f8d2", func := "ordinal/ordinallaw23.ModelMonotone", spec := "modelMonotone", inPlace := ["maps.clone", "internal/bytealg.abigen_runtime_cmpstring"], unfollowed := true, recurses := true, named := ["internal/strconv.uint64pow10", "math/bits.deBruijn32tab", "math/bits.deBruijn64tab"], apart := false, laid := [("math/bits.deBruijn32tab", laid_math_bits_deBruijn32tab), ("math/bits.deBruijn64tab", laid_math_bits_deBruijn64tab), ("internal/strconv.uint64pow10", laid_internal_strconv_uint64pow10)], narrowed := true }
def ModelMonotoneUptoSaid : Prop := modelMonotoneUptoRow.holds Tryz.pinned (OpenSpec.upto modelMonotoneSpec)

/-- 'ordinallaw23.ModelReorders', WHERE WHAT IT READS IS OF BULK AT MOST 1048576: true; the input reads as it did. -/
def modelReordersUptoRow : OpenClaim := { program := "ytplldnnnhgnbjaagreatdoor", sum := "e623d61d0bdf105d971fe906723153bea9adfc70461fb0a2f9bacb67d001f8d2", func := "ordinal/ordinallaw23.ModelReorders", spec := "modelReorders", inPlace := ["maps.clone", "internal/bytealg.abigen_runtime_cmpstring"], unfollowed := true, recurses := true, named := ["internal/strconv.uint64pow10", "math/bits.deBruijn32tab", "math/bits.deBruijn64tab"], apart := false, laid := [("math/bits.deBruijn32tab", laid_math_bits_deBruijn32tab), ("math/bits.deBruijn64tab", laid_math_bits_deBruijn64tab), ("internal/strconv.uint64pow10", laid_internal_strconv_uint64pow10)], narrowed := true }
def ModelReordersUptoSaid : Prop := modelReordersUptoRow.holds Tryz.pinned (OpenSpec.upto modelReordersSpec)

/-- 'ordinallaw23.ModelMultiplies', WHERE WHAT IT READS IS OF BULK AT MOST 1048576: true; the input reads as it did. -/
def modelMultipliesUptoRow : OpenClaim := { program := "ytplldnnnhgnbjaagreatdoor", sum := "e623d61d0bdf105d971fe906723153bea9adfc70461fb0a2f9bacb67d001f8d2", func := "ordinal/ordinallaw23.ModelMultiplies", spec := "modelMultiplies", inPlace := ["maps.clone", "internal/bytealg.abigen_runtime_cmpstring"], unfollowed := true, recurses := true, named := ["internal/strconv.uint64pow10", "math/bits.deBruijn32tab", "math/bits.deBruijn64tab"], apart := false, laid := [("math/bits.deBruijn32tab", laid_math_bits_deBruijn32tab), ("math/bits.deBruijn64tab", laid_math_bits_deBruijn64tab), ("internal/strconv.uint64pow10", laid_internal_strconv_uint64pow10)], narrowed := true }
def ModelMultipliesUptoSaid : Prop := modelMultipliesUptoRow.holds Tryz.pinned (OpenSpec.upto modelMultipliesSpec)

/-- 'ordinallaw23.ModelGroups', WHERE WHAT IT READS IS OF BULK AT MOST 1048576: true; the input reads as it did. -/
def modelGroupsUptoRow : OpenClaim := { program := "ytplldnnnhgnbjaagreatdoor", sum := "e623d61d0bdf105d971fe906723153bea9adfc70461fb0a2f9bacb67d001f8d2", func := "ordinal/ordinallaw23.ModelGroups", spec := "modelGroups", inPlace := ["maps.clone", "internal/bytealg.abigen_runtime_cmpstring", "math/bits.Add64"], unfollowed := true, recurses := true, named := ["internal/strconv.uint64pow10", "math/bits.deBruijn32tab", "math/bits.deBruijn64tab"], apart := false, laid := [("math/bits.deBruijn32tab", laid_math_bits_deBruijn32tab), ("math/bits.deBruijn64tab", laid_math_bits_deBruijn64tab), ("internal/strconv.uint64pow10", laid_internal_strconv_uint64pow10)], narrowed := true }
def ModelGroupsUptoSaid : Prop := modelGroupsUptoRow.holds Tryz.pinned (OpenSpec.upto modelGroupsSpec)

/-- 'ordinallaw23.ModelCounts', WHERE WHAT IT READS IS OF BULK AT MOST 1048576: true; the input reads as it did. -/
def modelCountsUptoRow : OpenClaim := { program := "ytplldnnnhgnbjaagreatdoor", sum := "e623d61d0bdf105d971fe906723153bea9adfc70461fb0a2f9bacb67d001f8d2", func := "ordinal/ordinallaw23.ModelCounts", spec := "modelCounts", inPlace := ["maps.clone", "internal/bytealg.abigen_runtime_cmpstring", "math/bits.Add64"], unfollowed := true, recurses := true, named := ["internal/strconv.uint64pow10", "math/bits.deBruijn32tab", "math/bits.deBruijn64tab"], apart := false, laid := [("math/bits.deBruijn32tab", laid_math_bits_deBruijn32tab), ("math/bits.deBruijn64tab", laid_math_bits_deBruijn64tab), ("internal/strconv.uint64pow10", laid_internal_strconv_uint64pow10)], narrowed := true }
def ModelCountsUptoSaid : Prop := modelCountsUptoRow.holds Tryz.pinned (OpenSpec.upto modelCountsSpec)

/-- 'ordinallaw24.HomomorphismContains', WHERE WHAT IT READS IS OF BULK AT MOST 1048576: true; the input reads as it did. -/
def homomorphismContainsUptoRow : OpenClaim := { program := "ytplldnnnhgnbjaagreatdoor", sum := "e623d61d0bdf105d971fe906723153bea9adfc70461fb0a2f9bacb67d001f8d2", func := "ordinal/ordinallaw24.HomomorphismContains", spec := "homomorphismContains", inPlace := ["maps.clone", "internal/bytealg.abigen_runtime_cmpstring"], unfollowed := true, recurses := true, named := ["internal/strconv.uint64pow10", "math/bits.deBruijn32tab", "math/bits.deBruijn64tab"], apart := false, laid := [("math/bits.deBruijn32tab", laid_math_bits_deBruijn32tab), ("math/bits.deBruijn64tab", laid_math_bits_deBruijn64tab), ("internal/strconv.uint64pow10", laid_internal_strconv_uint64pow10)], narrowed := true }
def HomomorphismContainsUptoSaid : Prop := homomorphismContainsUptoRow.holds Tryz.pinned (OpenSpec.upto homomorphismContainsSpec)

/-- 'ordinallaw25.MinimizeAnswers', WHERE WHAT IT READS IS OF BULK AT MOST 1048576: true; the input reads as it did. -/
def minimizeAnswersUptoRow : OpenClaim := { program := "ytplldnnnhgnbjaagreatdoor", sum := "e623d61d0bdf105d971fe906723153bea9adfc70461fb0a2f9bacb67d001f8d2", func := "ordinal/ordinallaw25.MinimizeAnswers", spec := "minimizeAnswers", inPlace := ["internal/abi.NoEscape", "internal/bytealg.MakeNoZero", "maps.clone", "internal/bytealg.abigen_runtime_cmpstring"], unfollowed := true, recurses := true, named := ["internal/strconv.uint64pow10", "math/bits.deBruijn32tab", "math/bits.deBruijn64tab"], apart := false, laid := [("math/bits.deBruijn32tab", laid_math_bits_deBruijn32tab), ("math/bits.deBruijn64tab", laid_math_bits_deBruijn64tab), ("internal/strconv.uint64pow10", laid_internal_strconv_uint64pow10)], narrowed := true }
def MinimizeAnswersUptoSaid : Prop := minimizeAnswersUptoRow.holds Tryz.pinned (OpenSpec.upto minimizeAnswersSpec)

end Rows
end Go.Proofs.YtplldnnnhgnbjaaGreatDoor
