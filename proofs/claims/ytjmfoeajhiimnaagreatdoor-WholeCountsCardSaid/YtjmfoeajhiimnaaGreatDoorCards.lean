/-
  DERIVED. GIVEN WITH THE SEED: THE CARDS: each row of YtjmfoeajhiimnaaGreatDoorRows.lean that lists a variable, with what it lists TIED to the program's text (the seventh form; the later family's looks); each row that meets fmt, with fmt's text TOLD by the authors' own Lean function (tested against real Go, not proved from fmt's source: count such statements apart). THE CARD IS WHAT COUNTS. Prove the row's statement (the work); the ties are given (YtjmfoeajhiimnaaGreatDoorTie.lean); close each card by the builder's one call (the guide's Derived/Test/ToyasCard.lean, 'card_holds'). Laid BY PROGRAM, IN A SANDBOX (cutbox-door.mjs). By AI agents, Wed Nov 11 2026. No macro, syntax, notation, axiom, sorry.
-/
import Derived.Test.YtjmfoeajhiimnaaGreatDoorRows
import GoSem.ClaimSeven
namespace Go.Proofs.YtjmfoeajhiimnaaGreatDoor
namespace Rows

/-- THE TIED CARD OF 'rabbettop.WholeCounts'. -/
def wholeCountsCard : Claim7 := { stood := { row := wholeCountsRow, standIns := [], harness := (true, "3979878c5241f9026b0017a29b5d1fdd26fb44874d1d3b5ff54e50b9af772118"), looks := true }, kinds := [], alts := [], laidByText := true, laidKinds := [.data, .data, .data, .sentinel, .sentinel, .listed, .data], laidTests := true, laidLooks := .later }
def WholeCountsCardSaid : Prop := Claim7.holds Tryz.pinned (.plain (OpenSpec.ofChange wholeCountsSpec)) wholeCountsCard

/-- THE SECOND FORM's CARD OF 'rabbettop.WholeCounts'. -/
def wholeCountsUptoCard : Claim7 := { stood := { row := wholeCountsUptoRow, standIns := [], harness := (true, "3979878c5241f9026b0017a29b5d1fdd26fb44874d1d3b5ff54e50b9af772118"), looks := true }, kinds := [], alts := [], laidByText := true, laidKinds := [.data, .data, .data, .sentinel, .sentinel, .listed, .data], laidTests := true, laidLooks := .later }
def WholeCountsUptoCardSaid : Prop := Claim7.holds Tryz.pinned (.plain (OpenSpec.upto wholeCountsSpec)) wholeCountsUptoCard
end Rows
end Go.Proofs.YtjmfoeajhiimnaaGreatDoor
