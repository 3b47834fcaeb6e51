/-
  DERIVED. GIVEN WITH THE SEED: THE CARDS: each row of YtgdfndldfmjfhaaDoorRows.lean that lists a variable, with what it lists TIED to the program's text (the seventh form; the later family's looks); each row that meets fmt, with fmt's text TOLD by the authors' own Lean function (tested against real Go, not proved from fmt's source: count such statements apart). THE CARD IS WHAT COUNTS. Prove the row's statement (the work); the ties are given (YtgdfndldfmjfhaaDoorTie.lean); close each card by the builder's one call (the guide's Derived/Test/ToyasCard.lean, 'card_holds'). Laid BY PROGRAM, IN A SANDBOX (cutbox-door.mjs). By AI agents, Wed Nov 11 2026. No macro, syntax, notation, axiom, sorry.
-/
import Derived.Test.YtgdfndldfmjfhaaDoorRows
import GoSem.ClaimSeven
namespace Go.Proofs.YtgdfndldfmjfhaaDoor
namespace Rows

/-- THE TIED CARD OF 'dataenclavelaw29.EquationsAnswers'. -/
def equationsAnswersCard : Claim7 := { stood := { row := equationsAnswersRow, standIns := [], harness := (true, "34964487c059ea77e890f04a8d5b5efc898152da8e8eb25077c498e110209ba5"), looks := false }, kinds := [], alts := [], laidByText := true, laidKinds := [.data, .data, .data], laidTests := true, laidLooks := .later }
def EquationsAnswersCardSaid : Prop := Claim7.holds Tryd.pinned (.plain (OpenSpec.ofChange equationsAnswersSpec)) equationsAnswersCard

/-- THE TIED CARD OF 'dataenclavelaw29.EquationsLess'. -/
def equationsLessCard : Claim7 := { stood := { row := equationsLessRow, standIns := [], harness := (true, "34964487c059ea77e890f04a8d5b5efc898152da8e8eb25077c498e110209ba5"), looks := false }, kinds := [], alts := [], laidByText := true, laidKinds := [.data, .data, .data], laidTests := true, laidLooks := .later }
def EquationsLessCardSaid : Prop := Claim7.holds Tryd.pinned (.plain (OpenSpec.ofChange equationsLessSpec)) equationsLessCard

/-- THE SECOND FORM's CARD OF 'dataenclavelaw29.EquationsAnswers'. -/
def equationsAnswersUptoCard : Claim7 := { stood := { row := equationsAnswersUptoRow, standIns := [], harness := (true, "34964487c059ea77e890f04a8d5b5efc898152da8e8eb25077c498e110209ba5"), looks := false }, kinds := [], alts := [], laidByText := true, laidKinds := [.data, .data, .data], laidTests := true, laidLooks := .later }
def EquationsAnswersUptoCardSaid : Prop := Claim7.holds Tryd.pinned (.plain (OpenSpec.upto equationsAnswersSpec)) equationsAnswersUptoCard

/-- THE SECOND FORM's CARD OF 'dataenclavelaw29.EquationsLess'. -/
def equationsLessUptoCard : Claim7 := { stood := { row := equationsLessUptoRow, standIns := [], harness := (true, "34964487c059ea77e890f04a8d5b5efc898152da8e8eb25077c498e110209ba5"), looks := false }, kinds := [], alts := [], laidByText := true, laidKinds := [.data, .data, .data], laidTests := true, laidLooks := .later }
def EquationsLessUptoCardSaid : Prop := Claim7.holds Tryd.pinned (.plain (OpenSpec.upto equationsLessSpec)) equationsLessUptoCard
end Rows
end Go.Proofs.YtgdfndldfmjfhaaDoor
