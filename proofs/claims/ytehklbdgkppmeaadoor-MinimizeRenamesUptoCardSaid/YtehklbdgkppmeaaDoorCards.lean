/-
  DERIVED. GIVEN WITH THE SEED: THE CARDS: each row of YtehklbdgkppmeaaDoorRows.lean that lists a variable, with what it lists TIED to the program's text (the seventh form; the later family's looks); each row that meets fmt, with fmt's text TOLD by the authors' own Lean function (tested against real Go, not proved from fmt's source: count such statements apart). THE CARD IS WHAT COUNTS. Prove the row's statement (the work); the ties are given (YtehklbdgkppmeaaDoorTie.lean); close each card by the builder's one call (the guide's Derived/Test/ToyasCard.lean, 'card_holds'). Laid BY PROGRAM, IN A SANDBOX (cutbox-door.mjs). By AI agents, Wed Nov 11 2026. No macro, syntax, notation, axiom, sorry.
-/
import Derived.Test.YtehklbdgkppmeaaDoorRows
import GoSem.ClaimSeven
namespace Go.Proofs.YtehklbdgkppmeaaDoor
namespace Rows

/-- THE TIED CARD OF 'ordinallaw25.MinimizeCores'. -/
def minimizeCoresCard : Claim7 := { stood := { row := minimizeCoresRow, standIns := [], harness := (true, "79f0aad10718d5066d4568c3038295e164271a2011de555b0ad8474550034de4"), looks := false }, kinds := [], alts := [], laidByText := true, laidKinds := [.data, .data, .data], laidTests := true, laidLooks := .later }
def MinimizeCoresCardSaid : Prop := Claim7.holds Tryd.pinned (.plain (OpenSpec.ofChange minimizeCoresSpec)) minimizeCoresCard

/-- THE TIED CARD OF 'ordinallaw25.MinimizeLeast'. -/
def minimizeLeastCard : Claim7 := { stood := { row := minimizeLeastRow, standIns := [], harness := (true, "79f0aad10718d5066d4568c3038295e164271a2011de555b0ad8474550034de4"), looks := false }, kinds := [], alts := [], laidByText := true, laidKinds := [.data, .data, .data], laidTests := true, laidLooks := .later }
def MinimizeLeastCardSaid : Prop := Claim7.holds Tryd.pinned (.plain (OpenSpec.ofChange minimizeLeastSpec)) minimizeLeastCard

/-- THE TIED CARD OF 'ordinallaw25.MinimizeOrders'. -/
def minimizeOrdersCard : Claim7 := { stood := { row := minimizeOrdersRow, standIns := [], harness := (true, "79f0aad10718d5066d4568c3038295e164271a2011de555b0ad8474550034de4"), looks := false }, kinds := [], alts := [], laidByText := true, laidKinds := [.data, .data, .data], laidTests := true, laidLooks := .later }
def MinimizeOrdersCardSaid : Prop := Claim7.holds Tryd.pinned (.plain (OpenSpec.ofChange minimizeOrdersSpec)) minimizeOrdersCard

/-- THE TIED CARD OF 'ordinallaw25.MinimizeContains'. -/
def minimizeContainsCard : Claim7 := { stood := { row := minimizeContainsRow, standIns := [], harness := (true, "79f0aad10718d5066d4568c3038295e164271a2011de555b0ad8474550034de4"), looks := false }, kinds := [], alts := [], laidByText := true, laidKinds := [.data, .data, .data], laidTests := true, laidLooks := .later }
def MinimizeContainsCardSaid : Prop := Claim7.holds Tryd.pinned (.plain (OpenSpec.ofChange minimizeContainsSpec)) minimizeContainsCard

/-- THE TIED CARD OF 'ordinallaw25.MinimizeMinimal'. -/
def minimizeMinimalCard : Claim7 := { stood := { row := minimizeMinimalRow, standIns := [], harness := (true, "79f0aad10718d5066d4568c3038295e164271a2011de555b0ad8474550034de4"), looks := false }, kinds := [], alts := [], laidByText := true, laidKinds := [.data, .data, .data], laidTests := true, laidLooks := .later }
def MinimizeMinimalCardSaid : Prop := Claim7.holds Tryd.pinned (.plain (OpenSpec.ofChange minimizeMinimalSpec)) minimizeMinimalCard

/-- THE TIED CARD OF 'ordinallaw25.MinimizeRenames'. -/
def minimizeRenamesCard : Claim7 := { stood := { row := minimizeRenamesRow, standIns := [], harness := (true, "79f0aad10718d5066d4568c3038295e164271a2011de555b0ad8474550034de4"), looks := false }, kinds := [], alts := [], laidByText := true, laidKinds := [.data, .data, .data], laidTests := true, laidLooks := .later }
def MinimizeRenamesCardSaid : Prop := Claim7.holds Tryd.pinned (.plain (OpenSpec.ofChange minimizeRenamesSpec)) minimizeRenamesCard

/-- THE SECOND FORM's CARD OF 'ordinallaw25.MinimizeCores'. -/
def minimizeCoresUptoCard : Claim7 := { stood := { row := minimizeCoresUptoRow, standIns := [], harness := (true, "79f0aad10718d5066d4568c3038295e164271a2011de555b0ad8474550034de4"), looks := false }, kinds := [], alts := [], laidByText := true, laidKinds := [.data, .data, .data], laidTests := true, laidLooks := .later }
def MinimizeCoresUptoCardSaid : Prop := Claim7.holds Tryd.pinned (.plain (OpenSpec.upto minimizeCoresSpec)) minimizeCoresUptoCard

/-- THE SECOND FORM's CARD OF 'ordinallaw25.MinimizeLeast'. -/
def minimizeLeastUptoCard : Claim7 := { stood := { row := minimizeLeastUptoRow, standIns := [], harness := (true, "79f0aad10718d5066d4568c3038295e164271a2011de555b0ad8474550034de4"), looks := false }, kinds := [], alts := [], laidByText := true, laidKinds := [.data, .data, .data], laidTests := true, laidLooks := .later }
def MinimizeLeastUptoCardSaid : Prop := Claim7.holds Tryd.pinned (.plain (OpenSpec.upto minimizeLeastSpec)) minimizeLeastUptoCard

/-- THE SECOND FORM's CARD OF 'ordinallaw25.MinimizeOrders'. -/
def minimizeOrdersUptoCard : Claim7 := { stood := { row := minimizeOrdersUptoRow, standIns := [], harness := (true, "79f0aad10718d5066d4568c3038295e164271a2011de555b0ad8474550034de4"), looks := false }, kinds := [], alts := [], laidByText := true, laidKinds := [.data, .data, .data], laidTests := true, laidLooks := .later }
def MinimizeOrdersUptoCardSaid : Prop := Claim7.holds Tryd.pinned (.plain (OpenSpec.upto minimizeOrdersSpec)) minimizeOrdersUptoCard

/-- THE SECOND FORM's CARD OF 'ordinallaw25.MinimizeContains'. -/
def minimizeContainsUptoCard : Claim7 := { stood := { row := minimizeContainsUptoRow, standIns := [], harness := (true, "79f0aad10718d5066d4568c3038295e164271a2011de555b0ad8474550034de4"), looks := false }, kinds := [], alts := [], laidByText := true, laidKinds := [.data, .data, .data], laidTests := true, laidLooks := .later }
def MinimizeContainsUptoCardSaid : Prop := Claim7.holds Tryd.pinned (.plain (OpenSpec.upto minimizeContainsSpec)) minimizeContainsUptoCard

/-- THE SECOND FORM's CARD OF 'ordinallaw25.MinimizeMinimal'. -/
def minimizeMinimalUptoCard : Claim7 := { stood := { row := minimizeMinimalUptoRow, standIns := [], harness := (true, "79f0aad10718d5066d4568c3038295e164271a2011de555b0ad8474550034de4"), looks := false }, kinds := [], alts := [], laidByText := true, laidKinds := [.data, .data, .data], laidTests := true, laidLooks := .later }
def MinimizeMinimalUptoCardSaid : Prop := Claim7.holds Tryd.pinned (.plain (OpenSpec.upto minimizeMinimalSpec)) minimizeMinimalUptoCard

/-- THE SECOND FORM's CARD OF 'ordinallaw25.MinimizeRenames'. -/
def minimizeRenamesUptoCard : Claim7 := { stood := { row := minimizeRenamesUptoRow, standIns := [], harness := (true, "79f0aad10718d5066d4568c3038295e164271a2011de555b0ad8474550034de4"), looks := false }, kinds := [], alts := [], laidByText := true, laidKinds := [.data, .data, .data], laidTests := true, laidLooks := .later }
def MinimizeRenamesUptoCardSaid : Prop := Claim7.holds Tryd.pinned (.plain (OpenSpec.upto minimizeRenamesSpec)) minimizeRenamesUptoCard
end Rows
end Go.Proofs.YtehklbdgkppmeaaDoor
