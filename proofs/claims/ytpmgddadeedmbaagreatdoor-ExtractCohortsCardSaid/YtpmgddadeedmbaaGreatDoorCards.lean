/-
  DERIVED. GIVEN WITH THE SEED: THE CARDS: each row of YtpmgddadeedmbaaGreatDoorRows.lean that lists a variable, with what it lists TIED to the program's text (the seventh form; the later family's looks); each row that meets fmt, with fmt's text TOLD by the authors' own Lean function (tested against real Go, not proved from fmt's source: count such statements apart). THE CARD IS WHAT COUNTS. Prove the row's statement (the work); the ties are given (YtpmgddadeedmbaaGreatDoorTie.lean); close each card by the builder's one call (the guide's Derived/Test/ToyasCard.lean, 'card_holds'). Laid BY PROGRAM, IN A SANDBOX (cutbox-door.mjs). By AI agents, Wed Nov 11 2026. No macro, syntax, notation, axiom, sorry.
-/
import Derived.Test.YtpmgddadeedmbaaGreatDoorRows
import GoSem.ClaimSeven
namespace Go.Proofs.YtpmgddadeedmbaaGreatDoor
namespace Rows

/-- THE TIED CARD OF 'dataenclavelaw10.MinimisePlans'. -/
def minimisePlansCard : Claim7 := { stood := { row := minimisePlansRow, standIns := [], harness := (true, "e3b2dead9a49b0ca703f358ff146251756c18dba4800720a2c02da29f3b13e33"), looks := false }, kinds := [], alts := [], laidByText := true, laidKinds := [.data, .data, .data], laidTests := true, laidLooks := .later }
def MinimisePlansCardSaid : Prop := Claim7.holds Tryz.pinned (.plain (OpenSpec.ofChange minimisePlansSpec)) minimisePlansCard

/-- THE TIED CARD OF 'dataenclavelaw10.MinimiseShows'. -/
def minimiseShowsCard : Claim7 := { stood := { row := minimiseShowsRow, standIns := [], harness := (true, "e3b2dead9a49b0ca703f358ff146251756c18dba4800720a2c02da29f3b13e33"), looks := false }, kinds := [], alts := [], laidByText := true, laidKinds := [.data, .data, .data], laidTests := true, laidLooks := .later }
def MinimiseShowsCardSaid : Prop := Claim7.holds Tryz.pinned (.plain (OpenSpec.ofChange minimiseShowsSpec)) minimiseShowsCard

/-- THE TIED CARD OF 'dataenclavelaw10.MinimiseLeast'. -/
def minimiseLeastCard : Claim7 := { stood := { row := minimiseLeastRow, standIns := [], harness := (true, "e3b2dead9a49b0ca703f358ff146251756c18dba4800720a2c02da29f3b13e33"), looks := false }, kinds := [], alts := [], laidByText := true, laidKinds := [.data, .data, .data], laidTests := true, laidLooks := .later }
def MinimiseLeastCardSaid : Prop := Claim7.holds Tryz.pinned (.plain (OpenSpec.ofChange minimiseLeastSpec)) minimiseLeastCard

/-- THE TIED CARD OF 'dataenclavelaw10.MinimiseGrows'. -/
def minimiseGrowsCard : Claim7 := { stood := { row := minimiseGrowsRow, standIns := [], harness := (true, "e3b2dead9a49b0ca703f358ff146251756c18dba4800720a2c02da29f3b13e33"), looks := false }, kinds := [], alts := [], laidByText := true, laidKinds := [.data, .data, .data], laidTests := true, laidLooks := .later }
def MinimiseGrowsCardSaid : Prop := Claim7.holds Tryz.pinned (.plain (OpenSpec.ofChange minimiseGrowsSpec)) minimiseGrowsCard

/-- THE TIED CARD OF 'dataenclavelaw13.ExtractBuilds'. -/
def extractBuildsCard : Claim7 := { stood := { row := extractBuildsRow, standIns := [], harness := (true, "e3b2dead9a49b0ca703f358ff146251756c18dba4800720a2c02da29f3b13e33"), looks := false }, kinds := [], alts := [], laidByText := true, laidKinds := [.data, .data, .data], laidTests := true, laidLooks := .later }
def ExtractBuildsCardSaid : Prop := Claim7.holds Tryz.pinned (.plain (OpenSpec.ofChange extractBuildsSpec)) extractBuildsCard

/-- THE TIED CARD OF 'dataenclavelaw13.ExtractReads'. -/
def extractReadsCard : Claim7 := { stood := { row := extractReadsRow, standIns := [], harness := (true, "e3b2dead9a49b0ca703f358ff146251756c18dba4800720a2c02da29f3b13e33"), looks := false }, kinds := [], alts := [], laidByText := true, laidKinds := [.data, .data, .data], laidTests := true, laidLooks := .later }
def ExtractReadsCardSaid : Prop := Claim7.holds Tryz.pinned (.plain (OpenSpec.ofChange extractReadsSpec)) extractReadsCard

/-- THE TIED CARD OF 'dataenclavelaw13.ExtractSays'. -/
def extractSaysCard : Claim7 := { stood := { row := extractSaysRow, standIns := [], harness := (true, "e3b2dead9a49b0ca703f358ff146251756c18dba4800720a2c02da29f3b13e33"), looks := false }, kinds := [], alts := [], laidByText := true, laidKinds := [.data, .data, .data], laidTests := true, laidLooks := .later }
def ExtractSaysCardSaid : Prop := Claim7.holds Tryz.pinned (.plain (OpenSpec.ofChange extractSaysSpec)) extractSaysCard

/-- THE TIED CARD OF 'dataenclavelaw13.ExtractHides'. -/
def extractHidesCard : Claim7 := { stood := { row := extractHidesRow, standIns := [], harness := (true, "e3b2dead9a49b0ca703f358ff146251756c18dba4800720a2c02da29f3b13e33"), looks := false }, kinds := [], alts := [], laidByText := true, laidKinds := [.data, .data, .data], laidTests := true, laidLooks := .later }
def ExtractHidesCardSaid : Prop := Claim7.holds Tryz.pinned (.plain (OpenSpec.ofChange extractHidesSpec)) extractHidesCard

/-- THE TIED CARD OF 'dataenclavelaw13.ExtractAnswers'. -/
def extractAnswersCard : Claim7 := { stood := { row := extractAnswersRow, standIns := [], harness := (true, "e3b2dead9a49b0ca703f358ff146251756c18dba4800720a2c02da29f3b13e33"), looks := false }, kinds := [], alts := [], laidByText := true, laidKinds := [.data, .data, .data], laidTests := true, laidLooks := .later }
def ExtractAnswersCardSaid : Prop := Claim7.holds Tryz.pinned (.plain (OpenSpec.ofChange extractAnswersSpec)) extractAnswersCard

/-- THE TIED CARD OF 'dataenclavelaw13.ExtractCohorts'. -/
def extractCohortsCard : Claim7 := { stood := { row := extractCohortsRow, standIns := [], harness := (true, "e3b2dead9a49b0ca703f358ff146251756c18dba4800720a2c02da29f3b13e33"), looks := false }, kinds := [], alts := [], laidByText := true, laidKinds := [.data, .data, .data], laidTests := true, laidLooks := .later }
def ExtractCohortsCardSaid : Prop := Claim7.holds Tryz.pinned (.plain (OpenSpec.ofChange extractCohortsSpec)) extractCohortsCard

/-- THE SECOND FORM's CARD OF 'dataenclavelaw10.MinimisePlans'. -/
def minimisePlansUptoCard : Claim7 := { stood := { row := minimisePlansUptoRow, standIns := [], harness := (true, "e3b2dead9a49b0ca703f358ff146251756c18dba4800720a2c02da29f3b13e33"), looks := false }, kinds := [], alts := [], laidByText := true, laidKinds := [.data, .data, .data], laidTests := true, laidLooks := .later }
def MinimisePlansUptoCardSaid : Prop := Claim7.holds Tryz.pinned (.plain (OpenSpec.upto minimisePlansSpec)) minimisePlansUptoCard

/-- THE SECOND FORM's CARD OF 'dataenclavelaw10.MinimiseShows'. -/
def minimiseShowsUptoCard : Claim7 := { stood := { row := minimiseShowsUptoRow, standIns := [], harness := (true, "e3b2dead9a49b0ca703f358ff146251756c18dba4800720a2c02da29f3b13e33"), looks := false }, kinds := [], alts := [], laidByText := true, laidKinds := [.data, .data, .data], laidTests := true, laidLooks := .later }
def MinimiseShowsUptoCardSaid : Prop := Claim7.holds Tryz.pinned (.plain (OpenSpec.upto minimiseShowsSpec)) minimiseShowsUptoCard

/-- THE SECOND FORM's CARD OF 'dataenclavelaw10.MinimiseLeast'. -/
def minimiseLeastUptoCard : Claim7 := { stood := { row := minimiseLeastUptoRow, standIns := [], harness := (true, "e3b2dead9a49b0ca703f358ff146251756c18dba4800720a2c02da29f3b13e33"), looks := false }, kinds := [], alts := [], laidByText := true, laidKinds := [.data, .data, .data], laidTests := true, laidLooks := .later }
def MinimiseLeastUptoCardSaid : Prop := Claim7.holds Tryz.pinned (.plain (OpenSpec.upto minimiseLeastSpec)) minimiseLeastUptoCard

/-- THE SECOND FORM's CARD OF 'dataenclavelaw10.MinimiseGrows'. -/
def minimiseGrowsUptoCard : Claim7 := { stood := { row := minimiseGrowsUptoRow, standIns := [], harness := (true, "e3b2dead9a49b0ca703f358ff146251756c18dba4800720a2c02da29f3b13e33"), looks := false }, kinds := [], alts := [], laidByText := true, laidKinds := [.data, .data, .data], laidTests := true, laidLooks := .later }
def MinimiseGrowsUptoCardSaid : Prop := Claim7.holds Tryz.pinned (.plain (OpenSpec.upto minimiseGrowsSpec)) minimiseGrowsUptoCard

/-- THE SECOND FORM's CARD OF 'dataenclavelaw13.ExtractBuilds'. -/
def extractBuildsUptoCard : Claim7 := { stood := { row := extractBuildsUptoRow, standIns := [], harness := (true, "e3b2dead9a49b0ca703f358ff146251756c18dba4800720a2c02da29f3b13e33"), looks := false }, kinds := [], alts := [], laidByText := true, laidKinds := [.data, .data, .data], laidTests := true, laidLooks := .later }
def ExtractBuildsUptoCardSaid : Prop := Claim7.holds Tryz.pinned (.plain (OpenSpec.upto extractBuildsSpec)) extractBuildsUptoCard

/-- THE SECOND FORM's CARD OF 'dataenclavelaw13.ExtractReads'. -/
def extractReadsUptoCard : Claim7 := { stood := { row := extractReadsUptoRow, standIns := [], harness := (true, "e3b2dead9a49b0ca703f358ff146251756c18dba4800720a2c02da29f3b13e33"), looks := false }, kinds := [], alts := [], laidByText := true, laidKinds := [.data, .data, .data], laidTests := true, laidLooks := .later }
def ExtractReadsUptoCardSaid : Prop := Claim7.holds Tryz.pinned (.plain (OpenSpec.upto extractReadsSpec)) extractReadsUptoCard

/-- THE SECOND FORM's CARD OF 'dataenclavelaw13.ExtractSays'. -/
def extractSaysUptoCard : Claim7 := { stood := { row := extractSaysUptoRow, standIns := [], harness := (true, "e3b2dead9a49b0ca703f358ff146251756c18dba4800720a2c02da29f3b13e33"), looks := false }, kinds := [], alts := [], laidByText := true, laidKinds := [.data, .data, .data], laidTests := true, laidLooks := .later }
def ExtractSaysUptoCardSaid : Prop := Claim7.holds Tryz.pinned (.plain (OpenSpec.upto extractSaysSpec)) extractSaysUptoCard

/-- THE SECOND FORM's CARD OF 'dataenclavelaw13.ExtractHides'. -/
def extractHidesUptoCard : Claim7 := { stood := { row := extractHidesUptoRow, standIns := [], harness := (true, "e3b2dead9a49b0ca703f358ff146251756c18dba4800720a2c02da29f3b13e33"), looks := false }, kinds := [], alts := [], laidByText := true, laidKinds := [.data, .data, .data], laidTests := true, laidLooks := .later }
def ExtractHidesUptoCardSaid : Prop := Claim7.holds Tryz.pinned (.plain (OpenSpec.upto extractHidesSpec)) extractHidesUptoCard

/-- THE SECOND FORM's CARD OF 'dataenclavelaw13.ExtractAnswers'. -/
def extractAnswersUptoCard : Claim7 := { stood := { row := extractAnswersUptoRow, standIns := [], harness := (true, "e3b2dead9a49b0ca703f358ff146251756c18dba4800720a2c02da29f3b13e33"), looks := false }, kinds := [], alts := [], laidByText := true, laidKinds := [.data, .data, .data], laidTests := true, laidLooks := .later }
def ExtractAnswersUptoCardSaid : Prop := Claim7.holds Tryz.pinned (.plain (OpenSpec.upto extractAnswersSpec)) extractAnswersUptoCard

/-- THE SECOND FORM's CARD OF 'dataenclavelaw13.ExtractCohorts'. -/
def extractCohortsUptoCard : Claim7 := { stood := { row := extractCohortsUptoRow, standIns := [], harness := (true, "e3b2dead9a49b0ca703f358ff146251756c18dba4800720a2c02da29f3b13e33"), looks := false }, kinds := [], alts := [], laidByText := true, laidKinds := [.data, .data, .data], laidTests := true, laidLooks := .later }
def ExtractCohortsUptoCardSaid : Prop := Claim7.holds Tryz.pinned (.plain (OpenSpec.upto extractCohortsSpec)) extractCohortsUptoCard
end Rows
end Go.Proofs.YtpmgddadeedmbaaGreatDoor
