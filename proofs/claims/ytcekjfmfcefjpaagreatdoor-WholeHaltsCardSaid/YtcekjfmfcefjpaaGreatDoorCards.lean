/-
  DERIVED. GIVEN WITH THE SEED: THE CARDS: each row of YtcekjfmfcefjpaaGreatDoorRows.lean that lists a variable, with what it lists TIED to the program's text (the seventh form; the later family's looks); each row that meets fmt, with fmt's text TOLD by the authors' own Lean function (tested against real Go, not proved from fmt's source: count such statements apart). THE CARD IS WHAT COUNTS. Prove the row's statement (the work); the ties are given (YtcekjfmfcefjpaaGreatDoorTie.lean); close each card by the builder's one call (the guide's Derived/Test/ToyasCard.lean, 'card_holds'). Laid BY PROGRAM, IN A SANDBOX (cutbox-door.mjs). By AI agents, Wed Nov 11 2026. No macro, syntax, notation, axiom, sorry.
-/
import Derived.Test.YtcekjfmfcefjpaaGreatDoorRows
import GoSem.ClaimSeven
namespace Go.Proofs.YtcekjfmfcefjpaaGreatDoor
namespace Rows

/-- THE TIED CARD OF 'rabbettop.WholeHalts'. -/
def wholeHaltsCard : Claim7 := { stood := { row := wholeHaltsRow, standIns := [], harness := (true, "ab8888e2a1c751a51c729f4d1b94512fd04e5d4915ad713a9b00f42e7282cd8b"), looks := true }, kinds := [], alts := [], laidByText := true, laidKinds := [.data, .data, .data, .sentinel, .sentinel, .listed, .data], laidTests := true, laidLooks := .later }
def WholeHaltsCardSaid : Prop := Claim7.holds Tryz.pinned (.plain (OpenSpec.ofChange wholeHaltsSpec)) wholeHaltsCard

/-- THE SECOND FORM's CARD OF 'rabbettop.WholeHalts'. -/
def wholeHaltsUptoCard : Claim7 := { stood := { row := wholeHaltsUptoRow, standIns := [], harness := (true, "ab8888e2a1c751a51c729f4d1b94512fd04e5d4915ad713a9b00f42e7282cd8b"), looks := true }, kinds := [], alts := [], laidByText := true, laidKinds := [.data, .data, .data, .sentinel, .sentinel, .listed, .data], laidTests := true, laidLooks := .later }
def WholeHaltsUptoCardSaid : Prop := Claim7.holds Tryz.pinned (.plain (OpenSpec.upto wholeHaltsSpec)) wholeHaltsUptoCard
end Rows
end Go.Proofs.YtcekjfmfcefjpaaGreatDoor
