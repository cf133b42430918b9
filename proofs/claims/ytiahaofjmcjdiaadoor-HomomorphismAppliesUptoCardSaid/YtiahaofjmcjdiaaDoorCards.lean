/-
  DERIVED. GIVEN WITH THE SEED: THE CARDS: each row of YtiahaofjmcjdiaaDoorRows.lean that lists a variable, with what it lists TIED to the program's text (the seventh form; the later family's looks); each row that meets fmt, with fmt's text TOLD by the authors' own Lean function (tested against real Go, not proved from fmt's source: count such statements apart). THE CARD IS WHAT COUNTS. Prove the row's statement (the work); the ties are given (YtiahaofjmcjdiaaDoorTie.lean); close each card by the builder's one call (the guide's Derived/Test/ToyasCard.lean, 'card_holds'). Laid BY PROGRAM, IN A SANDBOX (cutbox-door.mjs). By AI agents, Wed Nov 11 2026. No macro, syntax, notation, axiom, sorry.
-/
import Derived.Test.YtiahaofjmcjdiaaDoorRows
import GoSem.ClaimSeven
namespace Go.Proofs.YtiahaofjmcjdiaaDoor
namespace Rows

/-- THE TIED CARD OF 'ordinallaw24.HomomorphismFinds'. -/
def homomorphismFindsCard : Claim7 := { stood := { row := homomorphismFindsRow, standIns := [], harness := (true, "ddb7278a9260b088fdb732f1327e6eceb13ceb3b2c82267f5ea9ed8f9774b264"), looks := false }, kinds := [], alts := [], laidByText := true, laidKinds := [.data, .data, .data], laidTests := true, laidLooks := .later }
def HomomorphismFindsCardSaid : Prop := Claim7.holds Tryd.pinned (.plain (OpenSpec.ofChange homomorphismFindsSpec)) homomorphismFindsCard

/-- THE TIED CARD OF 'ordinallaw24.HomomorphismChecks'. -/
def homomorphismChecksCard : Claim7 := { stood := { row := homomorphismChecksRow, standIns := [], harness := (true, "ddb7278a9260b088fdb732f1327e6eceb13ceb3b2c82267f5ea9ed8f9774b264"), looks := false }, kinds := [], alts := [], laidByText := true, laidKinds := [.data, .data, .data], laidTests := true, laidLooks := .later }
def HomomorphismChecksCardSaid : Prop := Claim7.holds Tryd.pinned (.plain (OpenSpec.ofChange homomorphismChecksSpec)) homomorphismChecksCard

/-- THE TIED CARD OF 'ordinallaw24.HomomorphismComposes'. -/
def homomorphismComposesCard : Claim7 := { stood := { row := homomorphismComposesRow, standIns := [], harness := (true, "ddb7278a9260b088fdb732f1327e6eceb13ceb3b2c82267f5ea9ed8f9774b264"), looks := false }, kinds := [], alts := [], laidByText := true, laidKinds := [.data, .data, .data], laidTests := true, laidLooks := .later }
def HomomorphismComposesCardSaid : Prop := Claim7.holds Tryd.pinned (.plain (OpenSpec.ofChange homomorphismComposesSpec)) homomorphismComposesCard

/-- THE TIED CARD OF 'ordinallaw24.HomomorphismApplies'. -/
def homomorphismAppliesCard : Claim7 := { stood := { row := homomorphismAppliesRow, standIns := [], harness := (true, "ddb7278a9260b088fdb732f1327e6eceb13ceb3b2c82267f5ea9ed8f9774b264"), looks := false }, kinds := [], alts := [], laidByText := true, laidKinds := [.data, .data, .data], laidTests := true, laidLooks := .later }
def HomomorphismAppliesCardSaid : Prop := Claim7.holds Tryd.pinned (.plain (OpenSpec.ofChange homomorphismAppliesSpec)) homomorphismAppliesCard

/-- THE SECOND FORM's CARD OF 'ordinallaw24.HomomorphismFinds'. -/
def homomorphismFindsUptoCard : Claim7 := { stood := { row := homomorphismFindsUptoRow, standIns := [], harness := (true, "ddb7278a9260b088fdb732f1327e6eceb13ceb3b2c82267f5ea9ed8f9774b264"), looks := false }, kinds := [], alts := [], laidByText := true, laidKinds := [.data, .data, .data], laidTests := true, laidLooks := .later }
def HomomorphismFindsUptoCardSaid : Prop := Claim7.holds Tryd.pinned (.plain (OpenSpec.upto homomorphismFindsSpec)) homomorphismFindsUptoCard

/-- THE SECOND FORM's CARD OF 'ordinallaw24.HomomorphismChecks'. -/
def homomorphismChecksUptoCard : Claim7 := { stood := { row := homomorphismChecksUptoRow, standIns := [], harness := (true, "ddb7278a9260b088fdb732f1327e6eceb13ceb3b2c82267f5ea9ed8f9774b264"), looks := false }, kinds := [], alts := [], laidByText := true, laidKinds := [.data, .data, .data], laidTests := true, laidLooks := .later }
def HomomorphismChecksUptoCardSaid : Prop := Claim7.holds Tryd.pinned (.plain (OpenSpec.upto homomorphismChecksSpec)) homomorphismChecksUptoCard

/-- THE SECOND FORM's CARD OF 'ordinallaw24.HomomorphismComposes'. -/
def homomorphismComposesUptoCard : Claim7 := { stood := { row := homomorphismComposesUptoRow, standIns := [], harness := (true, "ddb7278a9260b088fdb732f1327e6eceb13ceb3b2c82267f5ea9ed8f9774b264"), looks := false }, kinds := [], alts := [], laidByText := true, laidKinds := [.data, .data, .data], laidTests := true, laidLooks := .later }
def HomomorphismComposesUptoCardSaid : Prop := Claim7.holds Tryd.pinned (.plain (OpenSpec.upto homomorphismComposesSpec)) homomorphismComposesUptoCard

/-- THE SECOND FORM's CARD OF 'ordinallaw24.HomomorphismApplies'. -/
def homomorphismAppliesUptoCard : Claim7 := { stood := { row := homomorphismAppliesUptoRow, standIns := [], harness := (true, "ddb7278a9260b088fdb732f1327e6eceb13ceb3b2c82267f5ea9ed8f9774b264"), looks := false }, kinds := [], alts := [], laidByText := true, laidKinds := [.data, .data, .data], laidTests := true, laidLooks := .later }
def HomomorphismAppliesUptoCardSaid : Prop := Claim7.holds Tryd.pinned (.plain (OpenSpec.upto homomorphismAppliesSpec)) homomorphismAppliesUptoCard
end Rows
end Go.Proofs.YtiahaofjmcjdiaaDoor
