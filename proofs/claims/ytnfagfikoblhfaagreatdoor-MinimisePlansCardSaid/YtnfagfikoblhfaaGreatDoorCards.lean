/-
  DERIVED. GIVEN WITH THE SEED: THE CARDS: each row of YtnfagfikoblhfaaGreatDoorRows.lean that lists a variable, with what it lists TIED to the program's text (the seventh form; the later family's looks); each row that meets fmt, with fmt's text TOLD by the authors' own Lean function (tested against real Go, not proved from fmt's source: count such statements apart). THE CARD IS WHAT COUNTS. Prove the row's statement (the work); the ties are given (YtnfagfikoblhfaaGreatDoorTie.lean); close each card by the builder's one call (the guide's Derived/Test/ToyasCard.lean, 'card_holds'). Laid BY PROGRAM, IN A SANDBOX (cutbox-door.mjs). By AI agents, Wed Nov 11 2026. No macro, syntax, notation, axiom, sorry.
-/
import Derived.Test.YtnfagfikoblhfaaGreatDoorRows
import GoSem.ClaimSeven
namespace Go.Proofs.YtnfagfikoblhfaaGreatDoor
namespace Rows

/-- THE TIED CARD OF 'dataenclavelaw10.MinimisePlans'. -/
def minimisePlansCard : Claim7 := { stood := { row := minimisePlansRow, standIns := [], harness := (true, "7c6b2bff40a5b7d7596854fb9f26d5962e931b365a74562acde39868c5849341"), looks := false }, kinds := [], alts := [], laidByText := true, laidKinds := [.data, .data, .data], laidTests := true, laidLooks := .later }
def MinimisePlansCardSaid : Prop := Claim7.holds Tryz.pinned (.plain (OpenSpec.ofChange minimisePlansSpec)) minimisePlansCard

/-- THE TIED CARD OF 'dataenclavelaw10.MinimiseShows'. -/
def minimiseShowsCard : Claim7 := { stood := { row := minimiseShowsRow, standIns := [], harness := (true, "7c6b2bff40a5b7d7596854fb9f26d5962e931b365a74562acde39868c5849341"), looks := false }, kinds := [], alts := [], laidByText := true, laidKinds := [.data, .data, .data], laidTests := true, laidLooks := .later }
def MinimiseShowsCardSaid : Prop := Claim7.holds Tryz.pinned (.plain (OpenSpec.ofChange minimiseShowsSpec)) minimiseShowsCard

/-- THE TIED CARD OF 'dataenclavelaw13.ExtractBuilds'. -/
def extractBuildsCard : Claim7 := { stood := { row := extractBuildsRow, standIns := [], harness := (true, "7c6b2bff40a5b7d7596854fb9f26d5962e931b365a74562acde39868c5849341"), looks := false }, kinds := [], alts := [], laidByText := true, laidKinds := [.data, .data, .data], laidTests := true, laidLooks := .later }
def ExtractBuildsCardSaid : Prop := Claim7.holds Tryz.pinned (.plain (OpenSpec.ofChange extractBuildsSpec)) extractBuildsCard

/-- THE TIED CARD OF 'dataenclavelaw13.ExtractReads'. -/
def extractReadsCard : Claim7 := { stood := { row := extractReadsRow, standIns := [], harness := (true, "7c6b2bff40a5b7d7596854fb9f26d5962e931b365a74562acde39868c5849341"), looks := false }, kinds := [], alts := [], laidByText := true, laidKinds := [.data, .data, .data], laidTests := true, laidLooks := .later }
def ExtractReadsCardSaid : Prop := Claim7.holds Tryz.pinned (.plain (OpenSpec.ofChange extractReadsSpec)) extractReadsCard

/-- THE TIED CARD OF 'dataenclavelaw13.ExtractHides'. -/
def extractHidesCard : Claim7 := { stood := { row := extractHidesRow, standIns := [], harness := (true, "7c6b2bff40a5b7d7596854fb9f26d5962e931b365a74562acde39868c5849341"), looks := false }, kinds := [], alts := [], laidByText := true, laidKinds := [.data, .data, .data], laidTests := true, laidLooks := .later }
def ExtractHidesCardSaid : Prop := Claim7.holds Tryz.pinned (.plain (OpenSpec.ofChange extractHidesSpec)) extractHidesCard

/-- THE TIED CARD OF 'dataenclavelaw13.ExtractAnswers'. -/
def extractAnswersCard : Claim7 := { stood := { row := extractAnswersRow, standIns := [], harness := (true, "7c6b2bff40a5b7d7596854fb9f26d5962e931b365a74562acde39868c5849341"), looks := false }, kinds := [], alts := [], laidByText := true, laidKinds := [.data, .data, .data], laidTests := true, laidLooks := .later }
def ExtractAnswersCardSaid : Prop := Claim7.holds Tryz.pinned (.plain (OpenSpec.ofChange extractAnswersSpec)) extractAnswersCard

/-- THE SECOND FORM's CARD OF 'dataenclavelaw10.MinimisePlans'. -/
def minimisePlansUptoCard : Claim7 := { stood := { row := minimisePlansUptoRow, standIns := [], harness := (true, "7c6b2bff40a5b7d7596854fb9f26d5962e931b365a74562acde39868c5849341"), looks := false }, kinds := [], alts := [], laidByText := true, laidKinds := [.data, .data, .data], laidTests := true, laidLooks := .later }
def MinimisePlansUptoCardSaid : Prop := Claim7.holds Tryz.pinned (.plain (OpenSpec.upto minimisePlansSpec)) minimisePlansUptoCard

/-- THE SECOND FORM's CARD OF 'dataenclavelaw10.MinimiseShows'. -/
def minimiseShowsUptoCard : Claim7 := { stood := { row := minimiseShowsUptoRow, standIns := [], harness := (true, "7c6b2bff40a5b7d7596854fb9f26d5962e931b365a74562acde39868c5849341"), looks := false }, kinds := [], alts := [], laidByText := true, laidKinds := [.data, .data, .data], laidTests := true, laidLooks := .later }
def MinimiseShowsUptoCardSaid : Prop := Claim7.holds Tryz.pinned (.plain (OpenSpec.upto minimiseShowsSpec)) minimiseShowsUptoCard

/-- THE SECOND FORM's CARD OF 'dataenclavelaw13.ExtractBuilds'. -/
def extractBuildsUptoCard : Claim7 := { stood := { row := extractBuildsUptoRow, standIns := [], harness := (true, "7c6b2bff40a5b7d7596854fb9f26d5962e931b365a74562acde39868c5849341"), looks := false }, kinds := [], alts := [], laidByText := true, laidKinds := [.data, .data, .data], laidTests := true, laidLooks := .later }
def ExtractBuildsUptoCardSaid : Prop := Claim7.holds Tryz.pinned (.plain (OpenSpec.upto extractBuildsSpec)) extractBuildsUptoCard

/-- THE SECOND FORM's CARD OF 'dataenclavelaw13.ExtractReads'. -/
def extractReadsUptoCard : Claim7 := { stood := { row := extractReadsUptoRow, standIns := [], harness := (true, "7c6b2bff40a5b7d7596854fb9f26d5962e931b365a74562acde39868c5849341"), looks := false }, kinds := [], alts := [], laidByText := true, laidKinds := [.data, .data, .data], laidTests := true, laidLooks := .later }
def ExtractReadsUptoCardSaid : Prop := Claim7.holds Tryz.pinned (.plain (OpenSpec.upto extractReadsSpec)) extractReadsUptoCard

/-- THE SECOND FORM's CARD OF 'dataenclavelaw13.ExtractHides'. -/
def extractHidesUptoCard : Claim7 := { stood := { row := extractHidesUptoRow, standIns := [], harness := (true, "7c6b2bff40a5b7d7596854fb9f26d5962e931b365a74562acde39868c5849341"), looks := false }, kinds := [], alts := [], laidByText := true, laidKinds := [.data, .data, .data], laidTests := true, laidLooks := .later }
def ExtractHidesUptoCardSaid : Prop := Claim7.holds Tryz.pinned (.plain (OpenSpec.upto extractHidesSpec)) extractHidesUptoCard

/-- THE SECOND FORM's CARD OF 'dataenclavelaw13.ExtractAnswers'. -/
def extractAnswersUptoCard : Claim7 := { stood := { row := extractAnswersUptoRow, standIns := [], harness := (true, "7c6b2bff40a5b7d7596854fb9f26d5962e931b365a74562acde39868c5849341"), looks := false }, kinds := [], alts := [], laidByText := true, laidKinds := [.data, .data, .data], laidTests := true, laidLooks := .later }
def ExtractAnswersUptoCardSaid : Prop := Claim7.holds Tryz.pinned (.plain (OpenSpec.upto extractAnswersSpec)) extractAnswersUptoCard
end Rows
end Go.Proofs.YtnfagfikoblhfaaGreatDoor
