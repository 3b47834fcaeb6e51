/-
  DERIVED. GIVEN WITH THE SEED: THE CARDS: each row of YtiddpnhnaooohaaGreatDoorRows.lean that lists a variable, with what it lists TIED to the program's text (the seventh form; the later family's looks); each row that meets fmt, with fmt's text TOLD by the authors' own Lean function (tested against real Go, not proved from fmt's source: count such statements apart). THE CARD IS WHAT COUNTS. Prove the row's statement (the work); the ties are given (YtiddpnhnaooohaaGreatDoorTie.lean); close each card by the builder's one call (the guide's Derived/Test/ToyasCard.lean, 'card_holds'). Laid BY PROGRAM, IN A SANDBOX (cutbox-door.mjs). By AI agents, Wed Nov 11 2026. No macro, syntax, notation, axiom, sorry.
-/
import Derived.Test.YtiddpnhnaooohaaGreatDoorRows
import GoSem.ClaimSeven
namespace Go.Proofs.YtiddpnhnaooohaaGreatDoor
namespace Rows

/-- THE TIED CARD OF 'dataenclavelaw09.QuestionsTell'. -/
def questionsTellCard : Claim7 := { stood := { row := questionsTellRow, standIns := [], harness := (true, "a7cb0c53be16e9a02ea10d9fa0b66139c8ff977b7d610ea2319a66bd2ec09bf0"), looks := false }, kinds := [], alts := [], laidByText := true, laidKinds := [.data, .data, .data], laidTests := true, laidLooks := .later }
def QuestionsTellCardSaid : Prop := Claim7.holds Tryz.pinned (.plain (OpenSpec.ofChange questionsTellSpec)) questionsTellCard

/-- THE TIED CARD OF 'dataenclavelaw09.QuestionsNeed'. -/
def questionsNeedCard : Claim7 := { stood := { row := questionsNeedRow, standIns := [], harness := (true, "a7cb0c53be16e9a02ea10d9fa0b66139c8ff977b7d610ea2319a66bd2ec09bf0"), looks := false }, kinds := [], alts := [], laidByText := true, laidKinds := [.data, .data, .data], laidTests := true, laidLooks := .later }
def QuestionsNeedCardSaid : Prop := Claim7.holds Tryz.pinned (.plain (OpenSpec.ofChange questionsNeedSpec)) questionsNeedCard

/-- THE TIED CARD OF 'dataenclavelaw09.QuestionsKnow'. -/
def questionsKnowCard : Claim7 := { stood := { row := questionsKnowRow, standIns := [], harness := (true, "a7cb0c53be16e9a02ea10d9fa0b66139c8ff977b7d610ea2319a66bd2ec09bf0"), looks := false }, kinds := [], alts := [], laidByText := true, laidKinds := [.data, .data, .data], laidTests := true, laidLooks := .later }
def QuestionsKnowCardSaid : Prop := Claim7.holds Tryz.pinned (.plain (OpenSpec.ofChange questionsKnowSpec)) questionsKnowCard

/-- THE TIED CARD OF 'dataenclavelaw09.QuestionsLeast'. -/
def questionsLeastCard : Claim7 := { stood := { row := questionsLeastRow, standIns := [], harness := (true, "a7cb0c53be16e9a02ea10d9fa0b66139c8ff977b7d610ea2319a66bd2ec09bf0"), looks := false }, kinds := [], alts := [], laidByText := true, laidKinds := [.data, .data, .data], laidTests := true, laidLooks := .later }
def QuestionsLeastCardSaid : Prop := Claim7.holds Tryz.pinned (.plain (OpenSpec.ofChange questionsLeastSpec)) questionsLeastCard

/-- THE TIED CARD OF 'dataenclavelaw09.QuestionsJoin'. -/
def questionsJoinCard : Claim7 := { stood := { row := questionsJoinRow, standIns := [], harness := (true, "a7cb0c53be16e9a02ea10d9fa0b66139c8ff977b7d610ea2319a66bd2ec09bf0"), looks := false }, kinds := [], alts := [], laidByText := true, laidKinds := [.data, .data, .data], laidTests := true, laidLooks := .later }
def QuestionsJoinCardSaid : Prop := Claim7.holds Tryz.pinned (.plain (OpenSpec.ofChange questionsJoinSpec)) questionsJoinCard

/-- THE SECOND FORM's CARD OF 'dataenclavelaw09.QuestionsTell'. -/
def questionsTellUptoCard : Claim7 := { stood := { row := questionsTellUptoRow, standIns := [], harness := (true, "a7cb0c53be16e9a02ea10d9fa0b66139c8ff977b7d610ea2319a66bd2ec09bf0"), looks := false }, kinds := [], alts := [], laidByText := true, laidKinds := [.data, .data, .data], laidTests := true, laidLooks := .later }
def QuestionsTellUptoCardSaid : Prop := Claim7.holds Tryz.pinned (.plain (OpenSpec.upto questionsTellSpec)) questionsTellUptoCard

/-- THE SECOND FORM's CARD OF 'dataenclavelaw09.QuestionsNeed'. -/
def questionsNeedUptoCard : Claim7 := { stood := { row := questionsNeedUptoRow, standIns := [], harness := (true, "a7cb0c53be16e9a02ea10d9fa0b66139c8ff977b7d610ea2319a66bd2ec09bf0"), looks := false }, kinds := [], alts := [], laidByText := true, laidKinds := [.data, .data, .data], laidTests := true, laidLooks := .later }
def QuestionsNeedUptoCardSaid : Prop := Claim7.holds Tryz.pinned (.plain (OpenSpec.upto questionsNeedSpec)) questionsNeedUptoCard

/-- THE SECOND FORM's CARD OF 'dataenclavelaw09.QuestionsKnow'. -/
def questionsKnowUptoCard : Claim7 := { stood := { row := questionsKnowUptoRow, standIns := [], harness := (true, "a7cb0c53be16e9a02ea10d9fa0b66139c8ff977b7d610ea2319a66bd2ec09bf0"), looks := false }, kinds := [], alts := [], laidByText := true, laidKinds := [.data, .data, .data], laidTests := true, laidLooks := .later }
def QuestionsKnowUptoCardSaid : Prop := Claim7.holds Tryz.pinned (.plain (OpenSpec.upto questionsKnowSpec)) questionsKnowUptoCard

/-- THE SECOND FORM's CARD OF 'dataenclavelaw09.QuestionsLeast'. -/
def questionsLeastUptoCard : Claim7 := { stood := { row := questionsLeastUptoRow, standIns := [], harness := (true, "a7cb0c53be16e9a02ea10d9fa0b66139c8ff977b7d610ea2319a66bd2ec09bf0"), looks := false }, kinds := [], alts := [], laidByText := true, laidKinds := [.data, .data, .data], laidTests := true, laidLooks := .later }
def QuestionsLeastUptoCardSaid : Prop := Claim7.holds Tryz.pinned (.plain (OpenSpec.upto questionsLeastSpec)) questionsLeastUptoCard

/-- THE SECOND FORM's CARD OF 'dataenclavelaw09.QuestionsJoin'. -/
def questionsJoinUptoCard : Claim7 := { stood := { row := questionsJoinUptoRow, standIns := [], harness := (true, "a7cb0c53be16e9a02ea10d9fa0b66139c8ff977b7d610ea2319a66bd2ec09bf0"), looks := false }, kinds := [], alts := [], laidByText := true, laidKinds := [.data, .data, .data], laidTests := true, laidLooks := .later }
def QuestionsJoinUptoCardSaid : Prop := Claim7.holds Tryz.pinned (.plain (OpenSpec.upto questionsJoinSpec)) questionsJoinUptoCard
end Rows
end Go.Proofs.YtiddpnhnaooohaaGreatDoor
