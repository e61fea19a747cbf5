/-
  DERIVED. GIVEN WITH THE SEED: THE CARDS: each row of YtcdfljgpddafoaaDoorRows.lean that lists a variable, with what it lists TIED to the program's text (the seventh form; the later family's looks); each row that meets fmt, with fmt's text TOLD by the authors' own Lean function (tested against real Go, not proved from fmt's source: count such statements apart). THE CARD IS WHAT COUNTS. Prove the row's statement (the work); the ties are given (YtcdfljgpddafoaaDoorTie.lean); close each card by the builder's one call (the guide's Derived/Test/ToyasCard.lean, 'card_holds'). Laid BY PROGRAM, IN A SANDBOX (cutbox-door.mjs). By AI agents, Wed Nov 11 2026. No macro, syntax, notation, axiom, sorry.
-/
import Derived.Test.YtcdfljgpddafoaaDoorRows
import GoSem.ClaimSeven
namespace Go.Proofs.YtcdfljgpddafoaaDoor
namespace Rows

/-- THE TIED CARD OF 'radiolinklaw03.CheckExact'. -/
def checkExactCard : Claim7 := { stood := { row := checkExactRow, standIns := [], harness := (true, "719a025905c45f98d331322b8e66e63780606334a5249ad464ff5a9ecbb835d6"), looks := false }, kinds := [], alts := [], laidByText := true, laidKinds := [.mapped], laidTests := true, laidLooks := .later }
def CheckExactCardSaid : Prop := Claim7.holds Tryd.pinned (.plain (OpenSpec.ofChange checkExactSpec)) checkExactCard

/-- THE TIED CARD OF 'radiolinklaw03.CheckGoesOn'. -/
def checkGoesOnCard : Claim7 := { stood := { row := checkGoesOnRow, standIns := [], harness := (true, "719a025905c45f98d331322b8e66e63780606334a5249ad464ff5a9ecbb835d6"), looks := false }, kinds := [], alts := [], laidByText := true, laidKinds := [.mapped], laidTests := true, laidLooks := .later }
def CheckGoesOnCardSaid : Prop := Claim7.holds Tryd.pinned (.plain (OpenSpec.ofChange checkGoesOnSpec)) checkGoesOnCard

/-- THE TIED CARD OF 'radiolinklaw03.CheckLinear'. -/
def checkLinearCard : Claim7 := { stood := { row := checkLinearRow, standIns := [], harness := (true, "719a025905c45f98d331322b8e66e63780606334a5249ad464ff5a9ecbb835d6"), looks := false }, kinds := [], alts := [], laidByText := true, laidKinds := [.mapped], laidTests := true, laidLooks := .later }
def CheckLinearCardSaid : Prop := Claim7.holds Tryd.pinned (.plain (OpenSpec.ofChange checkLinearSpec)) checkLinearCard

/-- THE TIED CARD OF 'radiolinklaw03.CheckBursts'. -/
def checkBurstsCard : Claim7 := { stood := { row := checkBurstsRow, standIns := [], harness := (true, "719a025905c45f98d331322b8e66e63780606334a5249ad464ff5a9ecbb835d6"), looks := false }, kinds := [], alts := [], laidByText := true, laidKinds := [.mapped], laidTests := true, laidLooks := .later }
def CheckBurstsCardSaid : Prop := Claim7.holds Tryd.pinned (.plain (OpenSpec.ofChange checkBurstsSpec)) checkBurstsCard

/-- THE TIED CARD OF 'radiolinklaw03.CheckZero'. -/
def checkZeroCard : Claim7 := { stood := { row := checkZeroRow, standIns := [], harness := (true, "719a025905c45f98d331322b8e66e63780606334a5249ad464ff5a9ecbb835d6"), looks := false }, kinds := [], alts := [], laidByText := true, laidKinds := [.mapped], laidTests := true, laidLooks := .later }
def CheckZeroCardSaid : Prop := Claim7.holds Tryd.pinned (.plain (OpenSpec.ofChange checkZeroSpec)) checkZeroCard

/-- THE SECOND FORM's CARD OF 'radiolinklaw03.CheckExact'. -/
def checkExactUptoCard : Claim7 := { stood := { row := checkExactUptoRow, standIns := [], harness := (true, "719a025905c45f98d331322b8e66e63780606334a5249ad464ff5a9ecbb835d6"), looks := false }, kinds := [], alts := [], laidByText := true, laidKinds := [.mapped], laidTests := true, laidLooks := .later }
def CheckExactUptoCardSaid : Prop := Claim7.holds Tryd.pinned (.plain (OpenSpec.upto checkExactSpec)) checkExactUptoCard

/-- THE SECOND FORM's CARD OF 'radiolinklaw03.CheckGoesOn'. -/
def checkGoesOnUptoCard : Claim7 := { stood := { row := checkGoesOnUptoRow, standIns := [], harness := (true, "719a025905c45f98d331322b8e66e63780606334a5249ad464ff5a9ecbb835d6"), looks := false }, kinds := [], alts := [], laidByText := true, laidKinds := [.mapped], laidTests := true, laidLooks := .later }
def CheckGoesOnUptoCardSaid : Prop := Claim7.holds Tryd.pinned (.plain (OpenSpec.upto checkGoesOnSpec)) checkGoesOnUptoCard

/-- THE SECOND FORM's CARD OF 'radiolinklaw03.CheckLinear'. -/
def checkLinearUptoCard : Claim7 := { stood := { row := checkLinearUptoRow, standIns := [], harness := (true, "719a025905c45f98d331322b8e66e63780606334a5249ad464ff5a9ecbb835d6"), looks := false }, kinds := [], alts := [], laidByText := true, laidKinds := [.mapped], laidTests := true, laidLooks := .later }
def CheckLinearUptoCardSaid : Prop := Claim7.holds Tryd.pinned (.plain (OpenSpec.upto checkLinearSpec)) checkLinearUptoCard

/-- THE SECOND FORM's CARD OF 'radiolinklaw03.CheckBursts'. -/
def checkBurstsUptoCard : Claim7 := { stood := { row := checkBurstsUptoRow, standIns := [], harness := (true, "719a025905c45f98d331322b8e66e63780606334a5249ad464ff5a9ecbb835d6"), looks := false }, kinds := [], alts := [], laidByText := true, laidKinds := [.mapped], laidTests := true, laidLooks := .later }
def CheckBurstsUptoCardSaid : Prop := Claim7.holds Tryd.pinned (.plain (OpenSpec.upto checkBurstsSpec)) checkBurstsUptoCard

/-- THE SECOND FORM's CARD OF 'radiolinklaw03.CheckZero'. -/
def checkZeroUptoCard : Claim7 := { stood := { row := checkZeroUptoRow, standIns := [], harness := (true, "719a025905c45f98d331322b8e66e63780606334a5249ad464ff5a9ecbb835d6"), looks := false }, kinds := [], alts := [], laidByText := true, laidKinds := [.mapped], laidTests := true, laidLooks := .later }
def CheckZeroUptoCardSaid : Prop := Claim7.holds Tryd.pinned (.plain (OpenSpec.upto checkZeroSpec)) checkZeroUptoCard
end Rows
end Go.Proofs.YtcdfljgpddafoaaDoor
