/-
  DERIVED. GIVEN WITH THE SEED: THE CARDS: each row of YtlnkofpcidngoaaDoorRows.lean that lists a variable, with what it lists TIED to the program's text (the seventh form; the later family's looks); each row that meets fmt, with fmt's text TOLD by the authors' own Lean function (tested against real Go, not proved from fmt's source: count such statements apart). THE CARD IS WHAT COUNTS. Prove the row's statement (the work); the ties are given (YtlnkofpcidngoaaDoorTie.lean); close each card by the builder's one call (the guide's Derived/Test/ToyasCard.lean, 'card_holds'). Laid BY PROGRAM, IN A SANDBOX (cutbox-door.mjs). By AI agents, Wed Nov 11 2026. No macro, syntax, notation, axiom, sorry.
-/
import Derived.Test.YtlnkofpcidngoaaDoorRows
import GoSem.ClaimSeven
namespace Go.Proofs.YtlnkofpcidngoaaDoor
namespace Rows

/-- THE TIED CARD OF 'radiolinklaw11.FeedbackApplies'. -/
def feedbackAppliesCard : Claim7 := { stood := { row := feedbackAppliesRow, standIns := [], harness := (true, "9a351e7e96acbb7f7d1bf19d2c68743af034a6766af7882328261d067af0f29e"), looks := false }, kinds := [], alts := [], laidByText := true, laidKinds := [.mapped], laidTests := true, laidLooks := .later }
def FeedbackAppliesCardSaid : Prop := Claim7.holds Tryd.pinned (.plain (OpenSpec.ofChange feedbackAppliesSpec)) feedbackAppliesCard

/-- THE TIED CARD OF 'radiolinklaw11.FeedbackKeeps'. -/
def feedbackKeepsCard : Claim7 := { stood := { row := feedbackKeepsRow, standIns := [], harness := (true, "9a351e7e96acbb7f7d1bf19d2c68743af034a6766af7882328261d067af0f29e"), looks := false }, kinds := [], alts := [], laidByText := true, laidKinds := [.mapped], laidTests := true, laidLooks := .later }
def FeedbackKeepsCardSaid : Prop := Claim7.holds Tryd.pinned (.plain (OpenSpec.ofChange feedbackKeepsSpec)) feedbackKeepsCard

/-- THE TIED CARD OF 'radiolinklaw11.FeedbackBytes'. -/
def feedbackBytesCard : Claim7 := { stood := { row := feedbackBytesRow, standIns := [], harness := (true, "9a351e7e96acbb7f7d1bf19d2c68743af034a6766af7882328261d067af0f29e"), looks := false }, kinds := [], alts := [], laidByText := true, laidKinds := [.mapped], laidTests := true, laidLooks := .later }
def FeedbackBytesCardSaid : Prop := Claim7.holds Tryd.pinned (.plain (OpenSpec.ofChange feedbackBytesSpec)) feedbackBytesCard

/-- THE TIED CARD OF 'radiolinklaw11.FeedbackReturns'. -/
def feedbackReturnsCard : Claim7 := { stood := { row := feedbackReturnsRow, standIns := [], harness := (true, "9a351e7e96acbb7f7d1bf19d2c68743af034a6766af7882328261d067af0f29e"), looks := false }, kinds := [], alts := [], laidByText := true, laidKinds := [.mapped], laidTests := true, laidLooks := .later }
def FeedbackReturnsCardSaid : Prop := Claim7.holds Tryd.pinned (.plain (OpenSpec.ofChange feedbackReturnsSpec)) feedbackReturnsCard

/-- THE SECOND FORM's CARD OF 'radiolinklaw11.FeedbackApplies'. -/
def feedbackAppliesUptoCard : Claim7 := { stood := { row := feedbackAppliesUptoRow, standIns := [], harness := (true, "9a351e7e96acbb7f7d1bf19d2c68743af034a6766af7882328261d067af0f29e"), looks := false }, kinds := [], alts := [], laidByText := true, laidKinds := [.mapped], laidTests := true, laidLooks := .later }
def FeedbackAppliesUptoCardSaid : Prop := Claim7.holds Tryd.pinned (.plain (OpenSpec.upto feedbackAppliesSpec)) feedbackAppliesUptoCard

/-- THE SECOND FORM's CARD OF 'radiolinklaw11.FeedbackKeeps'. -/
def feedbackKeepsUptoCard : Claim7 := { stood := { row := feedbackKeepsUptoRow, standIns := [], harness := (true, "9a351e7e96acbb7f7d1bf19d2c68743af034a6766af7882328261d067af0f29e"), looks := false }, kinds := [], alts := [], laidByText := true, laidKinds := [.mapped], laidTests := true, laidLooks := .later }
def FeedbackKeepsUptoCardSaid : Prop := Claim7.holds Tryd.pinned (.plain (OpenSpec.upto feedbackKeepsSpec)) feedbackKeepsUptoCard

/-- THE SECOND FORM's CARD OF 'radiolinklaw11.FeedbackBytes'. -/
def feedbackBytesUptoCard : Claim7 := { stood := { row := feedbackBytesUptoRow, standIns := [], harness := (true, "9a351e7e96acbb7f7d1bf19d2c68743af034a6766af7882328261d067af0f29e"), looks := false }, kinds := [], alts := [], laidByText := true, laidKinds := [.mapped], laidTests := true, laidLooks := .later }
def FeedbackBytesUptoCardSaid : Prop := Claim7.holds Tryd.pinned (.plain (OpenSpec.upto feedbackBytesSpec)) feedbackBytesUptoCard

/-- THE SECOND FORM's CARD OF 'radiolinklaw11.FeedbackReturns'. -/
def feedbackReturnsUptoCard : Claim7 := { stood := { row := feedbackReturnsUptoRow, standIns := [], harness := (true, "9a351e7e96acbb7f7d1bf19d2c68743af034a6766af7882328261d067af0f29e"), looks := false }, kinds := [], alts := [], laidByText := true, laidKinds := [.mapped], laidTests := true, laidLooks := .later }
def FeedbackReturnsUptoCardSaid : Prop := Claim7.holds Tryd.pinned (.plain (OpenSpec.upto feedbackReturnsSpec)) feedbackReturnsUptoCard
end Rows
end Go.Proofs.YtlnkofpcidngoaaDoor
