/-
  DERIVED. GIVEN WITH THE SEED: THE CARDS: each row of YtplldnnnhgnbjaaGreatDoorRows.lean that lists a variable, with what it lists TIED to the program's text (the seventh form; the later family's looks); each row that meets fmt, with fmt's text TOLD by the authors' own Lean function (tested against real Go, not proved from fmt's source: count such statements apart). THE CARD IS WHAT COUNTS. Prove the row's statement (the work); the ties are given (YtplldnnnhgnbjaaGreatDoorTie.lean); close each card by the builder's one call (the guide's Derived/Test/ToyasCard.lean, 'card_holds'). Laid BY PROGRAM, IN A SANDBOX (cutbox-door.mjs). By AI agents, Wed Nov 11 2026. No macro, syntax, notation, axiom, sorry.
-/
import Derived.Test.YtplldnnnhgnbjaaGreatDoorRows
import GoSem.ClaimSeven
namespace Go.Proofs.YtplldnnnhgnbjaaGreatDoor
namespace Rows

/-- THE TIED CARD OF 'ordinallaw23.ModelMonotone'. -/
def modelMonotoneCard : Claim7 := { stood := { row := modelMonotoneRow, standIns := [], harness := (true, "778844a92e60c5a694558ba305900e6a829a0cd68951e93e8c82b36c754d87c8"), looks := true }, kinds := [], alts := [], laidByText := true, laidKinds := [.data, .data, .data], laidTests := true, laidLooks := .later }
def ModelMonotoneCardSaid : Prop := Claim7.holds Tryz.pinned (.plain (OpenSpec.ofChange modelMonotoneSpec)) modelMonotoneCard

/-- THE TIED CARD OF 'ordinallaw23.ModelReorders'. -/
def modelReordersCard : Claim7 := { stood := { row := modelReordersRow, standIns := [], harness := (true, "778844a92e60c5a694558ba305900e6a829a0cd68951e93e8c82b36c754d87c8"), looks := true }, kinds := [], alts := [], laidByText := true, laidKinds := [.data, .data, .data], laidTests := true, laidLooks := .later }
def ModelReordersCardSaid : Prop := Claim7.holds Tryz.pinned (.plain (OpenSpec.ofChange modelReordersSpec)) modelReordersCard

/-- THE TIED CARD OF 'ordinallaw23.ModelMultiplies'. -/
def modelMultipliesCard : Claim7 := { stood := { row := modelMultipliesRow, standIns := [], harness := (true, "778844a92e60c5a694558ba305900e6a829a0cd68951e93e8c82b36c754d87c8"), looks := true }, kinds := [], alts := [], laidByText := true, laidKinds := [.data, .data, .data], laidTests := true, laidLooks := .later }
def ModelMultipliesCardSaid : Prop := Claim7.holds Tryz.pinned (.plain (OpenSpec.ofChange modelMultipliesSpec)) modelMultipliesCard

/-- THE TIED CARD OF 'ordinallaw23.ModelGroups'. -/
def modelGroupsCard : Claim7 := { stood := { row := modelGroupsRow, standIns := [], harness := (true, "778844a92e60c5a694558ba305900e6a829a0cd68951e93e8c82b36c754d87c8"), looks := true }, kinds := [], alts := [], laidByText := true, laidKinds := [.data, .data, .data], laidTests := true, laidLooks := .later }
def ModelGroupsCardSaid : Prop := Claim7.holds Tryz.pinned (.plain (OpenSpec.ofChange modelGroupsSpec)) modelGroupsCard

/-- THE TIED CARD OF 'ordinallaw23.ModelCounts'. -/
def modelCountsCard : Claim7 := { stood := { row := modelCountsRow, standIns := [], harness := (true, "778844a92e60c5a694558ba305900e6a829a0cd68951e93e8c82b36c754d87c8"), looks := true }, kinds := [], alts := [], laidByText := true, laidKinds := [.data, .data, .data], laidTests := true, laidLooks := .later }
def ModelCountsCardSaid : Prop := Claim7.holds Tryz.pinned (.plain (OpenSpec.ofChange modelCountsSpec)) modelCountsCard

/-- THE TIED CARD OF 'ordinallaw24.HomomorphismContains'. -/
def homomorphismContainsCard : Claim7 := { stood := { row := homomorphismContainsRow, standIns := [], harness := (true, "778844a92e60c5a694558ba305900e6a829a0cd68951e93e8c82b36c754d87c8"), looks := true }, kinds := [], alts := [], laidByText := true, laidKinds := [.data, .data, .data], laidTests := true, laidLooks := .later }
def HomomorphismContainsCardSaid : Prop := Claim7.holds Tryz.pinned (.plain (OpenSpec.ofChange homomorphismContainsSpec)) homomorphismContainsCard

/-- THE TIED CARD OF 'ordinallaw25.MinimizeAnswers'. -/
def minimizeAnswersCard : Claim7 := { stood := { row := minimizeAnswersRow, standIns := [], harness := (true, "778844a92e60c5a694558ba305900e6a829a0cd68951e93e8c82b36c754d87c8"), looks := true }, kinds := [], alts := [], laidByText := true, laidKinds := [.data, .data, .data], laidTests := true, laidLooks := .later }
def MinimizeAnswersCardSaid : Prop := Claim7.holds Tryz.pinned (.plain (OpenSpec.ofChange minimizeAnswersSpec)) minimizeAnswersCard

/-- THE SECOND FORM's CARD OF 'ordinallaw23.ModelMonotone'. -/
def modelMonotoneUptoCard : Claim7 := { stood := { row := modelMonotoneUptoRow, standIns := [], harness := (true, "778844a92e60c5a694558ba305900e6a829a0cd68951e93e8c82b36c754d87c8"), looks := true }, kinds := [], alts := [], laidByText := true, laidKinds := [.data, .data, .data], laidTests := true, laidLooks := .later }
def ModelMonotoneUptoCardSaid : Prop := Claim7.holds Tryz.pinned (.plain (OpenSpec.upto modelMonotoneSpec)) modelMonotoneUptoCard

/-- THE SECOND FORM's CARD OF 'ordinallaw23.ModelReorders'. -/
def modelReordersUptoCard : Claim7 := { stood := { row := modelReordersUptoRow, standIns := [], harness := (true, "778844a92e60c5a694558ba305900e6a829a0cd68951e93e8c82b36c754d87c8"), looks := true }, kinds := [], alts := [], laidByText := true, laidKinds := [.data, .data, .data], laidTests := true, laidLooks := .later }
def ModelReordersUptoCardSaid : Prop := Claim7.holds Tryz.pinned (.plain (OpenSpec.upto modelReordersSpec)) modelReordersUptoCard

/-- THE SECOND FORM's CARD OF 'ordinallaw23.ModelMultiplies'. -/
def modelMultipliesUptoCard : Claim7 := { stood := { row := modelMultipliesUptoRow, standIns := [], harness := (true, "778844a92e60c5a694558ba305900e6a829a0cd68951e93e8c82b36c754d87c8"), looks := true }, kinds := [], alts := [], laidByText := true, laidKinds := [.data, .data, .data], laidTests := true, laidLooks := .later }
def ModelMultipliesUptoCardSaid : Prop := Claim7.holds Tryz.pinned (.plain (OpenSpec.upto modelMultipliesSpec)) modelMultipliesUptoCard

/-- THE SECOND FORM's CARD OF 'ordinallaw23.ModelGroups'. -/
def modelGroupsUptoCard : Claim7 := { stood := { row := modelGroupsUptoRow, standIns := [], harness := (true, "778844a92e60c5a694558ba305900e6a829a0cd68951e93e8c82b36c754d87c8"), looks := true }, kinds := [], alts := [], laidByText := true, laidKinds := [.data, .data, .data], laidTests := true, laidLooks := .later }
def ModelGroupsUptoCardSaid : Prop := Claim7.holds Tryz.pinned (.plain (OpenSpec.upto modelGroupsSpec)) modelGroupsUptoCard

/-- THE SECOND FORM's CARD OF 'ordinallaw23.ModelCounts'. -/
def modelCountsUptoCard : Claim7 := { stood := { row := modelCountsUptoRow, standIns := [], harness := (true, "778844a92e60c5a694558ba305900e6a829a0cd68951e93e8c82b36c754d87c8"), looks := true }, kinds := [], alts := [], laidByText := true, laidKinds := [.data, .data, .data], laidTests := true, laidLooks := .later }
def ModelCountsUptoCardSaid : Prop := Claim7.holds Tryz.pinned (.plain (OpenSpec.upto modelCountsSpec)) modelCountsUptoCard

/-- THE SECOND FORM's CARD OF 'ordinallaw24.HomomorphismContains'. -/
def homomorphismContainsUptoCard : Claim7 := { stood := { row := homomorphismContainsUptoRow, standIns := [], harness := (true, "778844a92e60c5a694558ba305900e6a829a0cd68951e93e8c82b36c754d87c8"), looks := true }, kinds := [], alts := [], laidByText := true, laidKinds := [.data, .data, .data], laidTests := true, laidLooks := .later }
def HomomorphismContainsUptoCardSaid : Prop := Claim7.holds Tryz.pinned (.plain (OpenSpec.upto homomorphismContainsSpec)) homomorphismContainsUptoCard

/-- THE SECOND FORM's CARD OF 'ordinallaw25.MinimizeAnswers'. -/
def minimizeAnswersUptoCard : Claim7 := { stood := { row := minimizeAnswersUptoRow, standIns := [], harness := (true, "778844a92e60c5a694558ba305900e6a829a0cd68951e93e8c82b36c754d87c8"), looks := true }, kinds := [], alts := [], laidByText := true, laidKinds := [.data, .data, .data], laidTests := true, laidLooks := .later }
def MinimizeAnswersUptoCardSaid : Prop := Claim7.holds Tryz.pinned (.plain (OpenSpec.upto minimizeAnswersSpec)) minimizeAnswersUptoCard
end Rows
end Go.Proofs.YtplldnnnhgnbjaaGreatDoor
