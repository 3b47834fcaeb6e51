/-
  DERIVED. GIVEN WITH THE SEED: THE CARDS: each row of YtjckmmphmhafjaaGreatDoorRows.lean that lists a variable, with what it lists TIED to the program's text (the seventh form; the later family's looks); each row that meets fmt, with fmt's text TOLD by the authors' own Lean function (tested against real Go, not proved from fmt's source: count such statements apart). THE CARD IS WHAT COUNTS. Prove the row's statement (the work); the ties are given (YtjckmmphmhafjaaGreatDoorTie.lean); close each card by the builder's one call (the guide's Derived/Test/ToyasCard.lean, 'card_holds'). Laid BY PROGRAM, IN A SANDBOX (cutbox-door.mjs). By AI agents, Wed Nov 11 2026. No macro, syntax, notation, axiom, sorry.
-/
import Derived.Test.YtjckmmphmhafjaaGreatDoorRows
import GoSem.ClaimSeven
namespace Go.Proofs.YtjckmmphmhafjaaGreatDoor
namespace Rows

/-- THE TIED CARD OF 'dataenclavelaw14.RefreshDiffs'. -/
def refreshDiffsCard : Claim7 := { stood := { row := refreshDiffsRow, standIns := [], harness := (true, "4ec16ab5e8a30a77ac9897a75cf61cc4ecadad4dbe6d86ff63f9770b836e6a03"), looks := false }, kinds := [], alts := [], laidByText := true, laidKinds := [.data, .data, .data], laidTests := true, laidLooks := .later }
def RefreshDiffsCardSaid : Prop := Claim7.holds Tryz.pinned (.plain (OpenSpec.ofChange refreshDiffsSpec)) refreshDiffsCard

/-- THE TIED CARD OF 'dataenclavelaw14.RefreshBack'. -/
def refreshBackCard : Claim7 := { stood := { row := refreshBackRow, standIns := [], harness := (true, "4ec16ab5e8a30a77ac9897a75cf61cc4ecadad4dbe6d86ff63f9770b836e6a03"), looks := false }, kinds := [], alts := [], laidByText := true, laidKinds := [.data, .data, .data], laidTests := true, laidLooks := .later }
def RefreshBackCardSaid : Prop := Claim7.holds Tryz.pinned (.plain (OpenSpec.ofChange refreshBackSpec)) refreshBackCard

/-- THE TIED CARD OF 'dataenclavelaw14.RefreshSteps'. -/
def refreshStepsCard : Claim7 := { stood := { row := refreshStepsRow, standIns := [], harness := (true, "4ec16ab5e8a30a77ac9897a75cf61cc4ecadad4dbe6d86ff63f9770b836e6a03"), looks := false }, kinds := [], alts := [], laidByText := true, laidKinds := [.data, .data, .data], laidTests := true, laidLooks := .later }
def RefreshStepsCardSaid : Prop := Claim7.holds Tryz.pinned (.plain (OpenSpec.ofChange refreshStepsSpec)) refreshStepsCard

/-- THE TIED CARD OF 'dataenclavelaw14.RefreshNothing'. -/
def refreshNothingCard : Claim7 := { stood := { row := refreshNothingRow, standIns := [], harness := (true, "4ec16ab5e8a30a77ac9897a75cf61cc4ecadad4dbe6d86ff63f9770b836e6a03"), looks := false }, kinds := [], alts := [], laidByText := true, laidKinds := [.data, .data, .data], laidTests := true, laidLooks := .later }
def RefreshNothingCardSaid : Prop := Claim7.holds Tryz.pinned (.plain (OpenSpec.ofChange refreshNothingSpec)) refreshNothingCard

/-- THE TIED CARD OF 'dataenclavelaw14.RefreshKeys'. -/
def refreshKeysCard : Claim7 := { stood := { row := refreshKeysRow, standIns := [], harness := (true, "4ec16ab5e8a30a77ac9897a75cf61cc4ecadad4dbe6d86ff63f9770b836e6a03"), looks := false }, kinds := [], alts := [], laidByText := true, laidKinds := [.data, .data, .data], laidTests := true, laidLooks := .later }
def RefreshKeysCardSaid : Prop := Claim7.holds Tryz.pinned (.plain (OpenSpec.ofChange refreshKeysSpec)) refreshKeysCard

/-- THE TIED CARD OF 'dataenclavelaw14.RefreshTouches'. -/
def refreshTouchesCard : Claim7 := { stood := { row := refreshTouchesRow, standIns := [], harness := (true, "4ec16ab5e8a30a77ac9897a75cf61cc4ecadad4dbe6d86ff63f9770b836e6a03"), looks := false }, kinds := [], alts := [], laidByText := true, laidKinds := [.data, .data, .data], laidTests := true, laidLooks := .later }
def RefreshTouchesCardSaid : Prop := Claim7.holds Tryz.pinned (.plain (OpenSpec.ofChange refreshTouchesSpec)) refreshTouchesCard

/-- THE SECOND FORM's CARD OF 'dataenclavelaw14.RefreshDiffs'. -/
def refreshDiffsUptoCard : Claim7 := { stood := { row := refreshDiffsUptoRow, standIns := [], harness := (true, "4ec16ab5e8a30a77ac9897a75cf61cc4ecadad4dbe6d86ff63f9770b836e6a03"), looks := false }, kinds := [], alts := [], laidByText := true, laidKinds := [.data, .data, .data], laidTests := true, laidLooks := .later }
def RefreshDiffsUptoCardSaid : Prop := Claim7.holds Tryz.pinned (.plain (OpenSpec.upto refreshDiffsSpec)) refreshDiffsUptoCard

/-- THE SECOND FORM's CARD OF 'dataenclavelaw14.RefreshBack'. -/
def refreshBackUptoCard : Claim7 := { stood := { row := refreshBackUptoRow, standIns := [], harness := (true, "4ec16ab5e8a30a77ac9897a75cf61cc4ecadad4dbe6d86ff63f9770b836e6a03"), looks := false }, kinds := [], alts := [], laidByText := true, laidKinds := [.data, .data, .data], laidTests := true, laidLooks := .later }
def RefreshBackUptoCardSaid : Prop := Claim7.holds Tryz.pinned (.plain (OpenSpec.upto refreshBackSpec)) refreshBackUptoCard

/-- THE SECOND FORM's CARD OF 'dataenclavelaw14.RefreshSteps'. -/
def refreshStepsUptoCard : Claim7 := { stood := { row := refreshStepsUptoRow, standIns := [], harness := (true, "4ec16ab5e8a30a77ac9897a75cf61cc4ecadad4dbe6d86ff63f9770b836e6a03"), looks := false }, kinds := [], alts := [], laidByText := true, laidKinds := [.data, .data, .data], laidTests := true, laidLooks := .later }
def RefreshStepsUptoCardSaid : Prop := Claim7.holds Tryz.pinned (.plain (OpenSpec.upto refreshStepsSpec)) refreshStepsUptoCard

/-- THE SECOND FORM's CARD OF 'dataenclavelaw14.RefreshNothing'. -/
def refreshNothingUptoCard : Claim7 := { stood := { row := refreshNothingUptoRow, standIns := [], harness := (true, "4ec16ab5e8a30a77ac9897a75cf61cc4ecadad4dbe6d86ff63f9770b836e6a03"), looks := false }, kinds := [], alts := [], laidByText := true, laidKinds := [.data, .data, .data], laidTests := true, laidLooks := .later }
def RefreshNothingUptoCardSaid : Prop := Claim7.holds Tryz.pinned (.plain (OpenSpec.upto refreshNothingSpec)) refreshNothingUptoCard

/-- THE SECOND FORM's CARD OF 'dataenclavelaw14.RefreshKeys'. -/
def refreshKeysUptoCard : Claim7 := { stood := { row := refreshKeysUptoRow, standIns := [], harness := (true, "4ec16ab5e8a30a77ac9897a75cf61cc4ecadad4dbe6d86ff63f9770b836e6a03"), looks := false }, kinds := [], alts := [], laidByText := true, laidKinds := [.data, .data, .data], laidTests := true, laidLooks := .later }
def RefreshKeysUptoCardSaid : Prop := Claim7.holds Tryz.pinned (.plain (OpenSpec.upto refreshKeysSpec)) refreshKeysUptoCard

/-- THE SECOND FORM's CARD OF 'dataenclavelaw14.RefreshTouches'. -/
def refreshTouchesUptoCard : Claim7 := { stood := { row := refreshTouchesUptoRow, standIns := [], harness := (true, "4ec16ab5e8a30a77ac9897a75cf61cc4ecadad4dbe6d86ff63f9770b836e6a03"), looks := false }, kinds := [], alts := [], laidByText := true, laidKinds := [.data, .data, .data], laidTests := true, laidLooks := .later }
def RefreshTouchesUptoCardSaid : Prop := Claim7.holds Tryz.pinned (.plain (OpenSpec.upto refreshTouchesSpec)) refreshTouchesUptoCard
end Rows
end Go.Proofs.YtjckmmphmhafjaaGreatDoor
