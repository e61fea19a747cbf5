/-
  DERIVED. GIVEN WITH THE SEED: THE CARDS: each row of YtcleegibdcphiaaDoorRows.lean that lists a variable, with what it lists TIED to the program's text (the seventh form; the later family's looks); each row that meets fmt, with fmt's text TOLD by the authors' own Lean function (tested against real Go, not proved from fmt's source: count such statements apart). THE CARD IS WHAT COUNTS. Prove the row's statement (the work); the ties are given (YtcleegibdcphiaaDoorTie.lean); close each card by the builder's one call (the guide's Derived/Test/ToyasCard.lean, 'card_holds'). Laid BY PROGRAM, IN A SANDBOX (cutbox-door.mjs). By AI agents, Wed Nov 11 2026. No macro, syntax, notation, axiom, sorry.
-/
import Derived.Test.YtcleegibdcphiaaDoorRows
import GoSem.ClaimSeven
namespace Go.Proofs.YtcleegibdcphiaaDoor
namespace Rows

/-- THE TIED CARD OF 'radiolinklaw29.HarqRaw'. -/
def harqRawCard : Claim7 := { stood := { row := harqRawRow, standIns := [], harness := (true, "8a35cf06d0ed2ccbd63281c898e52522ede0cdc0aea55f65f260547a3fc6f602"), looks := false }, kinds := [], alts := [], laidByText := true, laidKinds := [.mapped], laidTests := true, laidLooks := .later }
def HarqRawCardSaid : Prop := Claim7.holds Tryd.pinned (.plain (OpenSpec.ofChange harqRawSpec)) harqRawCard

/-- THE TIED CARD OF 'radiolinklaw29.HarqRuns'. -/
def harqRunsCard : Claim7 := { stood := { row := harqRunsRow, standIns := [], harness := (true, "8a35cf06d0ed2ccbd63281c898e52522ede0cdc0aea55f65f260547a3fc6f602"), looks := false }, kinds := [], alts := [], laidByText := true, laidKinds := [.mapped], laidTests := true, laidLooks := .later }
def HarqRunsCardSaid : Prop := Claim7.holds Tryd.pinned (.plain (OpenSpec.ofChange harqRunsSpec)) harqRunsCard

/-- THE TIED CARD OF 'radiolinklaw29.HarqArrives'. -/
def harqArrivesCard : Claim7 := { stood := { row := harqArrivesRow, standIns := [], harness := (true, "8a35cf06d0ed2ccbd63281c898e52522ede0cdc0aea55f65f260547a3fc6f602"), looks := false }, kinds := [], alts := [], laidByText := true, laidKinds := [.mapped], laidTests := true, laidLooks := .later }
def HarqArrivesCardSaid : Prop := Claim7.holds Tryd.pinned (.plain (OpenSpec.ofChange harqArrivesSpec)) harqArrivesCard

/-- THE TIED CARD OF 'radiolinklaw29.HarqCombines'. -/
def harqCombinesCard : Claim7 := { stood := { row := harqCombinesRow, standIns := [], harness := (true, "8a35cf06d0ed2ccbd63281c898e52522ede0cdc0aea55f65f260547a3fc6f602"), looks := false }, kinds := [], alts := [], laidByText := true, laidKinds := [.mapped], laidTests := true, laidLooks := .later }
def HarqCombinesCardSaid : Prop := Claim7.holds Tryd.pinned (.plain (OpenSpec.ofChange harqCombinesSpec)) harqCombinesCard

/-- THE TIED CARD OF 'radiolinklaw29.HarqSilence'. -/
def harqSilenceCard : Claim7 := { stood := { row := harqSilenceRow, standIns := [], harness := (true, "8a35cf06d0ed2ccbd63281c898e52522ede0cdc0aea55f65f260547a3fc6f602"), looks := false }, kinds := [], alts := [], laidByText := true, laidKinds := [.mapped], laidTests := true, laidLooks := .later }
def HarqSilenceCardSaid : Prop := Claim7.holds Tryd.pinned (.plain (OpenSpec.ofChange harqSilenceSpec)) harqSilenceCard

/-- THE TIED CARD OF 'radiolinklaw29.HarqEnds'. -/
def harqEndsCard : Claim7 := { stood := { row := harqEndsRow, standIns := [], harness := (true, "8a35cf06d0ed2ccbd63281c898e52522ede0cdc0aea55f65f260547a3fc6f602"), looks := false }, kinds := [], alts := [], laidByText := true, laidKinds := [.mapped], laidTests := true, laidLooks := .later }
def HarqEndsCardSaid : Prop := Claim7.holds Tryd.pinned (.plain (OpenSpec.ofChange harqEndsSpec)) harqEndsCard

/-- THE TIED CARD OF 'radiolinklaw29.HarqVersions'. -/
def harqVersionsCard : Claim7 := { stood := { row := harqVersionsRow, standIns := [], harness := (true, "8a35cf06d0ed2ccbd63281c898e52522ede0cdc0aea55f65f260547a3fc6f602"), looks := false }, kinds := [], alts := [], laidByText := true, laidKinds := [.mapped], laidTests := true, laidLooks := .later }
def HarqVersionsCardSaid : Prop := Claim7.holds Tryd.pinned (.plain (OpenSpec.ofChange harqVersionsSpec)) harqVersionsCard

/-- THE SECOND FORM's CARD OF 'radiolinklaw29.HarqRaw'. -/
def harqRawUptoCard : Claim7 := { stood := { row := harqRawUptoRow, standIns := [], harness := (true, "8a35cf06d0ed2ccbd63281c898e52522ede0cdc0aea55f65f260547a3fc6f602"), looks := false }, kinds := [], alts := [], laidByText := true, laidKinds := [.mapped], laidTests := true, laidLooks := .later }
def HarqRawUptoCardSaid : Prop := Claim7.holds Tryd.pinned (.plain (OpenSpec.upto harqRawSpec)) harqRawUptoCard

/-- THE SECOND FORM's CARD OF 'radiolinklaw29.HarqRuns'. -/
def harqRunsUptoCard : Claim7 := { stood := { row := harqRunsUptoRow, standIns := [], harness := (true, "8a35cf06d0ed2ccbd63281c898e52522ede0cdc0aea55f65f260547a3fc6f602"), looks := false }, kinds := [], alts := [], laidByText := true, laidKinds := [.mapped], laidTests := true, laidLooks := .later }
def HarqRunsUptoCardSaid : Prop := Claim7.holds Tryd.pinned (.plain (OpenSpec.upto harqRunsSpec)) harqRunsUptoCard

/-- THE SECOND FORM's CARD OF 'radiolinklaw29.HarqArrives'. -/
def harqArrivesUptoCard : Claim7 := { stood := { row := harqArrivesUptoRow, standIns := [], harness := (true, "8a35cf06d0ed2ccbd63281c898e52522ede0cdc0aea55f65f260547a3fc6f602"), looks := false }, kinds := [], alts := [], laidByText := true, laidKinds := [.mapped], laidTests := true, laidLooks := .later }
def HarqArrivesUptoCardSaid : Prop := Claim7.holds Tryd.pinned (.plain (OpenSpec.upto harqArrivesSpec)) harqArrivesUptoCard

/-- THE SECOND FORM's CARD OF 'radiolinklaw29.HarqCombines'. -/
def harqCombinesUptoCard : Claim7 := { stood := { row := harqCombinesUptoRow, standIns := [], harness := (true, "8a35cf06d0ed2ccbd63281c898e52522ede0cdc0aea55f65f260547a3fc6f602"), looks := false }, kinds := [], alts := [], laidByText := true, laidKinds := [.mapped], laidTests := true, laidLooks := .later }
def HarqCombinesUptoCardSaid : Prop := Claim7.holds Tryd.pinned (.plain (OpenSpec.upto harqCombinesSpec)) harqCombinesUptoCard

/-- THE SECOND FORM's CARD OF 'radiolinklaw29.HarqSilence'. -/
def harqSilenceUptoCard : Claim7 := { stood := { row := harqSilenceUptoRow, standIns := [], harness := (true, "8a35cf06d0ed2ccbd63281c898e52522ede0cdc0aea55f65f260547a3fc6f602"), looks := false }, kinds := [], alts := [], laidByText := true, laidKinds := [.mapped], laidTests := true, laidLooks := .later }
def HarqSilenceUptoCardSaid : Prop := Claim7.holds Tryd.pinned (.plain (OpenSpec.upto harqSilenceSpec)) harqSilenceUptoCard

/-- THE SECOND FORM's CARD OF 'radiolinklaw29.HarqEnds'. -/
def harqEndsUptoCard : Claim7 := { stood := { row := harqEndsUptoRow, standIns := [], harness := (true, "8a35cf06d0ed2ccbd63281c898e52522ede0cdc0aea55f65f260547a3fc6f602"), looks := false }, kinds := [], alts := [], laidByText := true, laidKinds := [.mapped], laidTests := true, laidLooks := .later }
def HarqEndsUptoCardSaid : Prop := Claim7.holds Tryd.pinned (.plain (OpenSpec.upto harqEndsSpec)) harqEndsUptoCard

/-- THE SECOND FORM's CARD OF 'radiolinklaw29.HarqVersions'. -/
def harqVersionsUptoCard : Claim7 := { stood := { row := harqVersionsUptoRow, standIns := [], harness := (true, "8a35cf06d0ed2ccbd63281c898e52522ede0cdc0aea55f65f260547a3fc6f602"), looks := false }, kinds := [], alts := [], laidByText := true, laidKinds := [.mapped], laidTests := true, laidLooks := .later }
def HarqVersionsUptoCardSaid : Prop := Claim7.holds Tryd.pinned (.plain (OpenSpec.upto harqVersionsSpec)) harqVersionsUptoCard
end Rows
end Go.Proofs.YtcleegibdcphiaaDoor
