/-
  DERIVED. GIVEN WITH THE SEED: THE CARDS: each row of YtgghhbjaokgeeaaDoorRows.lean that lists a variable, with what it lists TIED to the program's text (the seventh form; the later family's looks); each row that meets fmt, with fmt's text TOLD by the authors' own Lean function (tested against real Go, not proved from fmt's source: count such statements apart). THE CARD IS WHAT COUNTS. Prove the row's statement (the work); the ties are given (YtgghhbjaokgeeaaDoorTie.lean); close each card by the builder's one call (the guide's Derived/Test/ToyasCard.lean, 'card_holds'). Laid BY PROGRAM, IN A SANDBOX (cutbox-door.mjs). By AI agents, Wed Nov 11 2026. No macro, syntax, notation, axiom, sorry.
-/
import Derived.Test.YtgghhbjaokgeeaaDoorRows
import GoSem.ClaimSeven
namespace Go.Proofs.YtgghhbjaokgeeaaDoor
namespace Rows

/-- THE TIED CARD OF 'rabbetlaw02.RelPairs'. -/
def relPairsCard : Claim7 := { stood := { row := relPairsRow, standIns := [], harness := (true, "bcf87ae5fdc78fbee4d60ce4498cd993fe4d9cfdb9ef7018ba94fb79abe703a7"), looks := false }, kinds := [], alts := [], laidByText := true, laidKinds := [.data], laidTests := true, laidLooks := .later }
def RelPairsCardSaid : Prop := Claim7.holds Tryd.pinned (.plain (OpenSpec.ofChange relPairsSpec)) relPairsCard

/-- THE TIED CARD OF 'rabbetlaw02.RelUnions'. -/
def relUnionsCard : Claim7 := { stood := { row := relUnionsRow, standIns := [], harness := (true, "bcf87ae5fdc78fbee4d60ce4498cd993fe4d9cfdb9ef7018ba94fb79abe703a7"), looks := false }, kinds := [], alts := [], laidByText := true, laidKinds := [.data], laidTests := true, laidLooks := .later }
def RelUnionsCardSaid : Prop := Claim7.holds Tryd.pinned (.plain (OpenSpec.ofChange relUnionsSpec)) relUnionsCard

/-- THE TIED CARD OF 'rabbetlaw02.RelThens'. -/
def relThensCard : Claim7 := { stood := { row := relThensRow, standIns := [], harness := (true, "bcf87ae5fdc78fbee4d60ce4498cd993fe4d9cfdb9ef7018ba94fb79abe703a7"), looks := false }, kinds := [], alts := [], laidByText := true, laidKinds := [.data], laidTests := true, laidLooks := .later }
def RelThensCardSaid : Prop := Claim7.holds Tryd.pinned (.plain (OpenSpec.ofChange relThensSpec)) relThensCard

/-- THE TIED CARD OF 'rabbetlaw02.RelAcyclics'. -/
def relAcyclicsCard : Claim7 := { stood := { row := relAcyclicsRow, standIns := [], harness := (true, "bcf87ae5fdc78fbee4d60ce4498cd993fe4d9cfdb9ef7018ba94fb79abe703a7"), looks := false }, kinds := [], alts := [], laidByText := true, laidKinds := [.data], laidTests := true, laidLooks := .later }
def RelAcyclicsCardSaid : Prop := Claim7.holds Tryd.pinned (.plain (OpenSpec.ofChange relAcyclicsSpec)) relAcyclicsCard

/-- THE TIED CARD OF 'rabbetlaw02.RelLines'. -/
def relLinesCard : Claim7 := { stood := { row := relLinesRow, standIns := [], harness := (true, "bcf87ae5fdc78fbee4d60ce4498cd993fe4d9cfdb9ef7018ba94fb79abe703a7"), looks := false }, kinds := [], alts := [], laidByText := true, laidKinds := [.data], laidTests := true, laidLooks := .later }
def RelLinesCardSaid : Prop := Claim7.holds Tryd.pinned (.plain (OpenSpec.ofChange relLinesSpec)) relLinesCard

/-- THE TIED CARD OF 'rabbetlaw02.RelParts'. -/
def relPartsCard : Claim7 := { stood := { row := relPartsRow, standIns := [], harness := (true, "bcf87ae5fdc78fbee4d60ce4498cd993fe4d9cfdb9ef7018ba94fb79abe703a7"), looks := false }, kinds := [], alts := [], laidByText := true, laidKinds := [.data], laidTests := true, laidLooks := .later }
def RelPartsCardSaid : Prop := Claim7.holds Tryd.pinned (.plain (OpenSpec.ofChange relPartsSpec)) relPartsCard

/-- THE TIED CARD OF 'rabbetlaw02.RelTurned'. -/
def relTurnedCard : Claim7 := { stood := { row := relTurnedRow, standIns := [], harness := (true, "bcf87ae5fdc78fbee4d60ce4498cd993fe4d9cfdb9ef7018ba94fb79abe703a7"), looks := false }, kinds := [], alts := [], laidByText := true, laidKinds := [.data], laidTests := true, laidLooks := .later }
def RelTurnedCardSaid : Prop := Claim7.holds Tryd.pinned (.plain (OpenSpec.ofChange relTurnedSpec)) relTurnedCard

/-- THE TIED CARD OF 'rabbetlaw02.RelGrows'. -/
def relGrowsCard : Claim7 := { stood := { row := relGrowsRow, standIns := [], harness := (true, "bcf87ae5fdc78fbee4d60ce4498cd993fe4d9cfdb9ef7018ba94fb79abe703a7"), looks := false }, kinds := [], alts := [], laidByText := true, laidKinds := [.data], laidTests := true, laidLooks := .later }
def RelGrowsCardSaid : Prop := Claim7.holds Tryd.pinned (.plain (OpenSpec.ofChange relGrowsSpec)) relGrowsCard

/-- THE SECOND FORM's CARD OF 'rabbetlaw02.RelPairs'. -/
def relPairsUptoCard : Claim7 := { stood := { row := relPairsUptoRow, standIns := [], harness := (true, "bcf87ae5fdc78fbee4d60ce4498cd993fe4d9cfdb9ef7018ba94fb79abe703a7"), looks := false }, kinds := [], alts := [], laidByText := true, laidKinds := [.data], laidTests := true, laidLooks := .later }
def RelPairsUptoCardSaid : Prop := Claim7.holds Tryd.pinned (.plain (OpenSpec.upto relPairsSpec)) relPairsUptoCard

/-- THE SECOND FORM's CARD OF 'rabbetlaw02.RelUnions'. -/
def relUnionsUptoCard : Claim7 := { stood := { row := relUnionsUptoRow, standIns := [], harness := (true, "bcf87ae5fdc78fbee4d60ce4498cd993fe4d9cfdb9ef7018ba94fb79abe703a7"), looks := false }, kinds := [], alts := [], laidByText := true, laidKinds := [.data], laidTests := true, laidLooks := .later }
def RelUnionsUptoCardSaid : Prop := Claim7.holds Tryd.pinned (.plain (OpenSpec.upto relUnionsSpec)) relUnionsUptoCard

/-- THE SECOND FORM's CARD OF 'rabbetlaw02.RelThens'. -/
def relThensUptoCard : Claim7 := { stood := { row := relThensUptoRow, standIns := [], harness := (true, "bcf87ae5fdc78fbee4d60ce4498cd993fe4d9cfdb9ef7018ba94fb79abe703a7"), looks := false }, kinds := [], alts := [], laidByText := true, laidKinds := [.data], laidTests := true, laidLooks := .later }
def RelThensUptoCardSaid : Prop := Claim7.holds Tryd.pinned (.plain (OpenSpec.upto relThensSpec)) relThensUptoCard

/-- THE SECOND FORM's CARD OF 'rabbetlaw02.RelAcyclics'. -/
def relAcyclicsUptoCard : Claim7 := { stood := { row := relAcyclicsUptoRow, standIns := [], harness := (true, "bcf87ae5fdc78fbee4d60ce4498cd993fe4d9cfdb9ef7018ba94fb79abe703a7"), looks := false }, kinds := [], alts := [], laidByText := true, laidKinds := [.data], laidTests := true, laidLooks := .later }
def RelAcyclicsUptoCardSaid : Prop := Claim7.holds Tryd.pinned (.plain (OpenSpec.upto relAcyclicsSpec)) relAcyclicsUptoCard

/-- THE SECOND FORM's CARD OF 'rabbetlaw02.RelLines'. -/
def relLinesUptoCard : Claim7 := { stood := { row := relLinesUptoRow, standIns := [], harness := (true, "bcf87ae5fdc78fbee4d60ce4498cd993fe4d9cfdb9ef7018ba94fb79abe703a7"), looks := false }, kinds := [], alts := [], laidByText := true, laidKinds := [.data], laidTests := true, laidLooks := .later }
def RelLinesUptoCardSaid : Prop := Claim7.holds Tryd.pinned (.plain (OpenSpec.upto relLinesSpec)) relLinesUptoCard

/-- THE SECOND FORM's CARD OF 'rabbetlaw02.RelParts'. -/
def relPartsUptoCard : Claim7 := { stood := { row := relPartsUptoRow, standIns := [], harness := (true, "bcf87ae5fdc78fbee4d60ce4498cd993fe4d9cfdb9ef7018ba94fb79abe703a7"), looks := false }, kinds := [], alts := [], laidByText := true, laidKinds := [.data], laidTests := true, laidLooks := .later }
def RelPartsUptoCardSaid : Prop := Claim7.holds Tryd.pinned (.plain (OpenSpec.upto relPartsSpec)) relPartsUptoCard

/-- THE SECOND FORM's CARD OF 'rabbetlaw02.RelTurned'. -/
def relTurnedUptoCard : Claim7 := { stood := { row := relTurnedUptoRow, standIns := [], harness := (true, "bcf87ae5fdc78fbee4d60ce4498cd993fe4d9cfdb9ef7018ba94fb79abe703a7"), looks := false }, kinds := [], alts := [], laidByText := true, laidKinds := [.data], laidTests := true, laidLooks := .later }
def RelTurnedUptoCardSaid : Prop := Claim7.holds Tryd.pinned (.plain (OpenSpec.upto relTurnedSpec)) relTurnedUptoCard

/-- THE SECOND FORM's CARD OF 'rabbetlaw02.RelGrows'. -/
def relGrowsUptoCard : Claim7 := { stood := { row := relGrowsUptoRow, standIns := [], harness := (true, "bcf87ae5fdc78fbee4d60ce4498cd993fe4d9cfdb9ef7018ba94fb79abe703a7"), looks := false }, kinds := [], alts := [], laidByText := true, laidKinds := [.data], laidTests := true, laidLooks := .later }
def RelGrowsUptoCardSaid : Prop := Claim7.holds Tryd.pinned (.plain (OpenSpec.upto relGrowsSpec)) relGrowsUptoCard
end Rows
end Go.Proofs.YtgghhbjaokgeeaaDoor
