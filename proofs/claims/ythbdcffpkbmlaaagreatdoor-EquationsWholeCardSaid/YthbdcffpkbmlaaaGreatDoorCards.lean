/-
  DERIVED. GIVEN WITH THE SEED: THE CARDS: each row of YthbdcffpkbmlaaaGreatDoorRows.lean that lists a variable, with what it lists TIED to the program's text (the seventh form; the later family's looks); each row that meets fmt, with fmt's text TOLD by the authors' own Lean function (tested against real Go, not proved from fmt's source: count such statements apart). THE CARD IS WHAT COUNTS. Prove the row's statement (the work); the ties are given (YthbdcffpkbmlaaaGreatDoorTie.lean); close each card by the builder's one call (the guide's Derived/Test/ToyasCard.lean, 'card_holds'). Laid BY PROGRAM, IN A SANDBOX (cutbox-door.mjs). By AI agents, Wed Nov 11 2026. No macro, syntax, notation, axiom, sorry.
-/
import Derived.Test.YthbdcffpkbmlaaaGreatDoorRows
import GoSem.ClaimSeven
namespace Go.Proofs.YthbdcffpkbmlaaaGreatDoor
namespace Rows

/-- THE TIED CARD OF 'dataenclavelaw29.EquationsTables'. -/
def equationsTablesCard : Claim7 := { stood := { row := equationsTablesRow, standIns := [], harness := (true, "0bc3346d88332da9f0b1c5c1263129c2abf0e67c2601892844e2125a6a0e6f32"), looks := false }, kinds := [], alts := [], laidByText := true, laidKinds := [.data, .data, .data], laidTests := true, laidLooks := .later }
def EquationsTablesCardSaid : Prop := Claim7.holds Tryz.pinned (.plain (OpenSpec.ofChange equationsTablesSpec)) equationsTablesCard

/-- THE TIED CARD OF 'dataenclavelaw29.EquationsWhole'. -/
def equationsWholeCard : Claim7 := { stood := { row := equationsWholeRow, standIns := [], harness := (true, "0bc3346d88332da9f0b1c5c1263129c2abf0e67c2601892844e2125a6a0e6f32"), looks := false }, kinds := [], alts := [], laidByText := true, laidKinds := [.data, .data, .data], laidTests := true, laidLooks := .later }
def EquationsWholeCardSaid : Prop := Claim7.holds Tryz.pinned (.plain (OpenSpec.ofChange equationsWholeSpec)) equationsWholeCard

/-- THE SECOND FORM's CARD OF 'dataenclavelaw29.EquationsTables'. -/
def equationsTablesUptoCard : Claim7 := { stood := { row := equationsTablesUptoRow, standIns := [], harness := (true, "0bc3346d88332da9f0b1c5c1263129c2abf0e67c2601892844e2125a6a0e6f32"), looks := false }, kinds := [], alts := [], laidByText := true, laidKinds := [.data, .data, .data], laidTests := true, laidLooks := .later }
def EquationsTablesUptoCardSaid : Prop := Claim7.holds Tryz.pinned (.plain (OpenSpec.upto equationsTablesSpec)) equationsTablesUptoCard

/-- THE SECOND FORM's CARD OF 'dataenclavelaw29.EquationsWhole'. -/
def equationsWholeUptoCard : Claim7 := { stood := { row := equationsWholeUptoRow, standIns := [], harness := (true, "0bc3346d88332da9f0b1c5c1263129c2abf0e67c2601892844e2125a6a0e6f32"), looks := false }, kinds := [], alts := [], laidByText := true, laidKinds := [.data, .data, .data], laidTests := true, laidLooks := .later }
def EquationsWholeUptoCardSaid : Prop := Claim7.holds Tryz.pinned (.plain (OpenSpec.upto equationsWholeSpec)) equationsWholeUptoCard
end Rows
end Go.Proofs.YthbdcffpkbmlaaaGreatDoor
