/-
  DERIVED. GIVEN WITH THE SEED: THE CARDS: each row of YtomoecbcgacncaaGreatDoorRows.lean that lists a variable, with what it lists TIED to the program's text (the seventh form; the later family's looks); each row that meets fmt, with fmt's text TOLD by the authors' own Lean function (tested against real Go, not proved from fmt's source: count such statements apart). THE CARD IS WHAT COUNTS. Prove the row's statement (the work); the ties are given (YtomoecbcgacncaaGreatDoorTie.lean); close each card by the builder's one call (the guide's Derived/Test/ToyasCard.lean, 'card_holds'). Laid BY PROGRAM, IN A SANDBOX (cutbox-door.mjs). By AI agents, Wed Nov 11 2026. No macro, syntax, notation, axiom, sorry.
-/
import Derived.Test.YtomoecbcgacncaaGreatDoorRows
import GoSem.ClaimSeven
namespace Go.Proofs.YtomoecbcgacncaaGreatDoor
namespace Rows

/-- THE TIED CARD OF 'dataenclavelaw04.SourceBegins'. -/
def sourceBeginsCard : Claim7 := { stood := { row := sourceBeginsRow, standIns := [], harness := (true, "e47872e19a5375ee79ae47e91a3e8ccc19e140bcad24e0c9e56b5b6ebe0278a8"), looks := false }, kinds := [], alts := [], laidByText := true, laidKinds := [.data, .data, .data], laidTests := true, laidLooks := .later }
def SourceBeginsCardSaid : Prop := Claim7.holds Tryz.pinned (.plain (OpenSpec.ofChange sourceBeginsSpec)) sourceBeginsCard

/-- THE SECOND FORM's CARD OF 'dataenclavelaw04.SourceBegins'. -/
def sourceBeginsUptoCard : Claim7 := { stood := { row := sourceBeginsUptoRow, standIns := [], harness := (true, "e47872e19a5375ee79ae47e91a3e8ccc19e140bcad24e0c9e56b5b6ebe0278a8"), looks := false }, kinds := [], alts := [], laidByText := true, laidKinds := [.data, .data, .data], laidTests := true, laidLooks := .later }
def SourceBeginsUptoCardSaid : Prop := Claim7.holds Tryz.pinned (.plain (OpenSpec.upto sourceBeginsSpec)) sourceBeginsUptoCard
end Rows
end Go.Proofs.YtomoecbcgacncaaGreatDoor
