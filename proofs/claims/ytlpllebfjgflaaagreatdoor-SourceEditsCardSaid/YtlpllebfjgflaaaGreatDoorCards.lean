/-
  DERIVED. GIVEN WITH THE SEED: THE CARDS: each row of YtlpllebfjgflaaaGreatDoorRows.lean that lists a variable, with what it lists TIED to the program's text (the seventh form; the later family's looks); each row that meets fmt, with fmt's text TOLD by the authors' own Lean function (tested against real Go, not proved from fmt's source: count such statements apart). THE CARD IS WHAT COUNTS. Prove the row's statement (the work); the ties are given (YtlpllebfjgflaaaGreatDoorTie.lean); close each card by the builder's one call (the guide's Derived/Test/ToyasCard.lean, 'card_holds'). Laid BY PROGRAM, IN A SANDBOX (cutbox-door.mjs). By AI agents, Wed Nov 11 2026. No macro, syntax, notation, axiom, sorry.
-/
import Derived.Test.YtlpllebfjgflaaaGreatDoorRows
import GoSem.ClaimSeven
namespace Go.Proofs.YtlpllebfjgflaaaGreatDoor
namespace Rows

/-- THE TIED CARD OF 'dataenclavelaw04.SourceBegins'. -/
def sourceBeginsCard : Claim7 := { stood := { row := sourceBeginsRow, standIns := [], harness := (true, "75d4791a0ac1f334aa2d35288a566e16dabaa382bc9c38d4f606c5fcfe7d6ac7"), looks := false }, kinds := [], alts := [], laidByText := true, laidKinds := [.data, .data, .data], laidTests := true, laidLooks := .later }
def SourceBeginsCardSaid : Prop := Claim7.holds Tryz.pinned (.plain (OpenSpec.ofChange sourceBeginsSpec)) sourceBeginsCard

/-- THE TIED CARD OF 'dataenclavelaw04.SourceEdits'. -/
def sourceEditsCard : Claim7 := { stood := { row := sourceEditsRow, standIns := [], harness := (true, "75d4791a0ac1f334aa2d35288a566e16dabaa382bc9c38d4f606c5fcfe7d6ac7"), looks := false }, kinds := [], alts := [], laidByText := true, laidKinds := [.data, .data, .data], laidTests := true, laidLooks := .later }
def SourceEditsCardSaid : Prop := Claim7.holds Tryz.pinned (.plain (OpenSpec.ofChange sourceEditsSpec)) sourceEditsCard

/-- THE TIED CARD OF 'dataenclavelaw04.SourceWithdraws'. -/
def sourceWithdrawsCard : Claim7 := { stood := { row := sourceWithdrawsRow, standIns := [], harness := (true, "75d4791a0ac1f334aa2d35288a566e16dabaa382bc9c38d4f606c5fcfe7d6ac7"), looks := false }, kinds := [], alts := [], laidByText := true, laidKinds := [.data, .data, .data], laidTests := true, laidLooks := .later }
def SourceWithdrawsCardSaid : Prop := Claim7.holds Tryz.pinned (.plain (OpenSpec.ofChange sourceWithdrawsSpec)) sourceWithdrawsCard

/-- THE TIED CARD OF 'dataenclavelaw04.SourceSorts'. -/
def sourceSortsCard : Claim7 := { stood := { row := sourceSortsRow, standIns := [], harness := (true, "75d4791a0ac1f334aa2d35288a566e16dabaa382bc9c38d4f606c5fcfe7d6ac7"), looks := false }, kinds := [], alts := [], laidByText := true, laidKinds := [.data, .data, .data], laidTests := true, laidLooks := .later }
def SourceSortsCardSaid : Prop := Claim7.holds Tryz.pinned (.plain (OpenSpec.ofChange sourceSortsSpec)) sourceSortsCard

/-- THE TIED CARD OF 'dataenclavelaw04.SourceVersions'. -/
def sourceVersionsCard : Claim7 := { stood := { row := sourceVersionsRow, standIns := [], harness := (true, "75d4791a0ac1f334aa2d35288a566e16dabaa382bc9c38d4f606c5fcfe7d6ac7"), looks := false }, kinds := [], alts := [], laidByText := true, laidKinds := [.data, .data, .data], laidTests := true, laidLooks := .later }
def SourceVersionsCardSaid : Prop := Claim7.holds Tryz.pinned (.plain (OpenSpec.ofChange sourceVersionsSpec)) sourceVersionsCard

/-- THE TIED CARD OF 'dataenclavelaw04.SourceTouches'. -/
def sourceTouchesCard : Claim7 := { stood := { row := sourceTouchesRow, standIns := [], harness := (true, "75d4791a0ac1f334aa2d35288a566e16dabaa382bc9c38d4f606c5fcfe7d6ac7"), looks := false }, kinds := [], alts := [], laidByText := true, laidKinds := [.data, .data, .data], laidTests := true, laidLooks := .later }
def SourceTouchesCardSaid : Prop := Claim7.holds Tryz.pinned (.plain (OpenSpec.ofChange sourceTouchesSpec)) sourceTouchesCard

/-- THE SECOND FORM's CARD OF 'dataenclavelaw04.SourceBegins'. -/
def sourceBeginsUptoCard : Claim7 := { stood := { row := sourceBeginsUptoRow, standIns := [], harness := (true, "75d4791a0ac1f334aa2d35288a566e16dabaa382bc9c38d4f606c5fcfe7d6ac7"), looks := false }, kinds := [], alts := [], laidByText := true, laidKinds := [.data, .data, .data], laidTests := true, laidLooks := .later }
def SourceBeginsUptoCardSaid : Prop := Claim7.holds Tryz.pinned (.plain (OpenSpec.upto sourceBeginsSpec)) sourceBeginsUptoCard

/-- THE SECOND FORM's CARD OF 'dataenclavelaw04.SourceEdits'. -/
def sourceEditsUptoCard : Claim7 := { stood := { row := sourceEditsUptoRow, standIns := [], harness := (true, "75d4791a0ac1f334aa2d35288a566e16dabaa382bc9c38d4f606c5fcfe7d6ac7"), looks := false }, kinds := [], alts := [], laidByText := true, laidKinds := [.data, .data, .data], laidTests := true, laidLooks := .later }
def SourceEditsUptoCardSaid : Prop := Claim7.holds Tryz.pinned (.plain (OpenSpec.upto sourceEditsSpec)) sourceEditsUptoCard

/-- THE SECOND FORM's CARD OF 'dataenclavelaw04.SourceWithdraws'. -/
def sourceWithdrawsUptoCard : Claim7 := { stood := { row := sourceWithdrawsUptoRow, standIns := [], harness := (true, "75d4791a0ac1f334aa2d35288a566e16dabaa382bc9c38d4f606c5fcfe7d6ac7"), looks := false }, kinds := [], alts := [], laidByText := true, laidKinds := [.data, .data, .data], laidTests := true, laidLooks := .later }
def SourceWithdrawsUptoCardSaid : Prop := Claim7.holds Tryz.pinned (.plain (OpenSpec.upto sourceWithdrawsSpec)) sourceWithdrawsUptoCard

/-- THE SECOND FORM's CARD OF 'dataenclavelaw04.SourceSorts'. -/
def sourceSortsUptoCard : Claim7 := { stood := { row := sourceSortsUptoRow, standIns := [], harness := (true, "75d4791a0ac1f334aa2d35288a566e16dabaa382bc9c38d4f606c5fcfe7d6ac7"), looks := false }, kinds := [], alts := [], laidByText := true, laidKinds := [.data, .data, .data], laidTests := true, laidLooks := .later }
def SourceSortsUptoCardSaid : Prop := Claim7.holds Tryz.pinned (.plain (OpenSpec.upto sourceSortsSpec)) sourceSortsUptoCard

/-- THE SECOND FORM's CARD OF 'dataenclavelaw04.SourceVersions'. -/
def sourceVersionsUptoCard : Claim7 := { stood := { row := sourceVersionsUptoRow, standIns := [], harness := (true, "75d4791a0ac1f334aa2d35288a566e16dabaa382bc9c38d4f606c5fcfe7d6ac7"), looks := false }, kinds := [], alts := [], laidByText := true, laidKinds := [.data, .data, .data], laidTests := true, laidLooks := .later }
def SourceVersionsUptoCardSaid : Prop := Claim7.holds Tryz.pinned (.plain (OpenSpec.upto sourceVersionsSpec)) sourceVersionsUptoCard

/-- THE SECOND FORM's CARD OF 'dataenclavelaw04.SourceTouches'. -/
def sourceTouchesUptoCard : Claim7 := { stood := { row := sourceTouchesUptoRow, standIns := [], harness := (true, "75d4791a0ac1f334aa2d35288a566e16dabaa382bc9c38d4f606c5fcfe7d6ac7"), looks := false }, kinds := [], alts := [], laidByText := true, laidKinds := [.data, .data, .data], laidTests := true, laidLooks := .later }
def SourceTouchesUptoCardSaid : Prop := Claim7.holds Tryz.pinned (.plain (OpenSpec.upto sourceTouchesSpec)) sourceTouchesUptoCard
end Rows
end Go.Proofs.YtlpllebfjgflaaaGreatDoor
