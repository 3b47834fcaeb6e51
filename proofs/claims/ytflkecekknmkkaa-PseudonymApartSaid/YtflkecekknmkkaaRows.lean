/-
  No cell of these rows narrows 'for every input' (looked for: loops, veiled, ifaces, maps, wideKeys, modest, calm, conditions, laid).
  DERIVED. THE GIVEN ROWS OF THIS SEAT. 5 by the template 'for every input the law returns true; each argument reads behind the call as it read before'; 0 by the template 'total and deterministic' (their statements: YtflkecekknmkkaaTotals.lean).
  GIVEN WITH THE SEED: the statements are not yours to turn. If you find one false, say at which input.
  Laid BY PROGRAM, IN A SANDBOX (cutbox-rows.mjs): the forced cells as the released guide's own fill.sh prints them over the translation e0efe86f0ed4ee3e… (all of the seat's roots in one cut). By AI agents, Wed Nov 11 2026. No macro, syntax, notation, axiom, sorry.
-/
import Derived.Test.YtflkecekknmkkaaChecked
import GoSem.Claim
import GoSem.ClaimJoined
import GoSem.ClaimMapViews
import Derived.JoinedTies
import Derived.KernelRfl
namespace Go.Proofs.Ytflkecekknmkkaa
/- THE CELL 'sum', in the pinned program and in every row, IS THE sha256 OF THE DUMP (.gsa) THAT YtflkecekknmkkaaProg.lean LOADS. Nothing in Lean hashes anything: it is a label: what it is worth is what the hold of that sum in a sandbox is worth. -/
noncomputable def Try.pinned : Pinned := { name := "ytflkecekknmkkaa", sum := "e0efe86f0ed4ee3eef76786f33d478ed909d19a56990f1839a12761285b72736", checked := Try.checked }
namespace Rows
def none {H : Type} : Left H := { results := [], args := [] }

/-- 'dataenclavelaw12.PseudonymBack': WHATEVER THE INPUT: true; the input reads as it did. -/
def pseudonymBackSpec : ChangeSpec := { name := "pseudonymBack", fn := fun _ => fun
  | [d1, d2] => { results := [.lit (.bool true)], args := [d1, d2] }
  | _ => none }
def pseudonymBackRow : OpenClaim := { program := "ytflkecekknmkkaa", sum := "e0efe86f0ed4ee3eef76786f33d478ed909d19a56990f1839a12761285b72736", func := "dataenclave/dataenclavelaw12.PseudonymBack", spec := "pseudonymBack", apart := false }
def PseudonymBackSaid : Prop := pseudonymBackRow.holds Try.pinned (OpenSpec.ofChange pseudonymBackSpec)

/-- ITS FALSE NEIGHBOUR: 'it returns false'. Refute it at one input. -/
def pseudonymBackWrong : ChangeSpec := { name := "pseudonymBack", fn := fun _ => fun
  | [d1, d2] => { results := [.lit (.bool false)], args := [d1, d2] }
  | _ => none }
def PseudonymBackWrongFalsely : Prop := pseudonymBackRow.holds Try.pinned (OpenSpec.ofChange pseudonymBackWrong)

/-- 'dataenclavelaw12.PseudonymApart': WHATEVER THE INPUT: true; the input reads as it did. -/
def pseudonymApartSpec : ChangeSpec := { name := "pseudonymApart", fn := fun _ => fun
  | [d1, d2, d3] => { results := [.lit (.bool true)], args := [d1, d2, d3] }
  | _ => none }
def pseudonymApartRow : OpenClaim := { program := "ytflkecekknmkkaa", sum := "e0efe86f0ed4ee3eef76786f33d478ed909d19a56990f1839a12761285b72736", func := "dataenclave/dataenclavelaw12.PseudonymApart", spec := "pseudonymApart", apart := false }
def PseudonymApartSaid : Prop := pseudonymApartRow.holds Try.pinned (OpenSpec.ofChange pseudonymApartSpec)

/-- ITS FALSE NEIGHBOUR: 'it returns false'. Refute it at one input. -/
def pseudonymApartWrong : ChangeSpec := { name := "pseudonymApart", fn := fun _ => fun
  | [d1, d2, d3] => { results := [.lit (.bool false)], args := [d1, d2, d3] }
  | _ => none }
def PseudonymApartWrongFalsely : Prop := pseudonymApartRow.holds Try.pinned (OpenSpec.ofChange pseudonymApartWrong)

/-- 'dataenclavelaw12.PseudonymWalks': WHATEVER THE INPUT: true; the input reads as it did. -/
def pseudonymWalksSpec : ChangeSpec := { name := "pseudonymWalks", fn := fun _ => fun
  | [d1, d2, d3] => { results := [.lit (.bool true)], args := [d1, d2, d3] }
  | _ => none }
def pseudonymWalksRow : OpenClaim := { program := "ytflkecekknmkkaa", sum := "e0efe86f0ed4ee3eef76786f33d478ed909d19a56990f1839a12761285b72736", func := "dataenclave/dataenclavelaw12.PseudonymWalks", spec := "pseudonymWalks", apart := false }
def PseudonymWalksSaid : Prop := pseudonymWalksRow.holds Try.pinned (OpenSpec.ofChange pseudonymWalksSpec)

/-- ITS FALSE NEIGHBOUR: 'it returns false'. Refute it at one input. -/
def pseudonymWalksWrong : ChangeSpec := { name := "pseudonymWalks", fn := fun _ => fun
  | [d1, d2, d3] => { results := [.lit (.bool false)], args := [d1, d2, d3] }
  | _ => none }
def PseudonymWalksWrongFalsely : Prop := pseudonymWalksRow.holds Try.pinned (OpenSpec.ofChange pseudonymWalksWrong)

/-- 'dataenclavelaw12.PseudonymKeys': WHATEVER THE INPUT: true; the input reads as it did. -/
def pseudonymKeysSpec : ChangeSpec := { name := "pseudonymKeys", fn := fun _ => fun
  | [d1, d2, d3, d4, d5] => { results := [.lit (.bool true)], args := [d1, d2, d3, d4, d5] }
  | _ => none }
def pseudonymKeysRow : OpenClaim := { program := "ytflkecekknmkkaa", sum := "e0efe86f0ed4ee3eef76786f33d478ed909d19a56990f1839a12761285b72736", func := "dataenclave/dataenclavelaw12.PseudonymKeys", spec := "pseudonymKeys", apart := false }
def PseudonymKeysSaid : Prop := pseudonymKeysRow.holds Try.pinned (OpenSpec.ofChange pseudonymKeysSpec)

/-- ITS FALSE NEIGHBOUR: 'it returns false'. Refute it at one input. -/
def pseudonymKeysWrong : ChangeSpec := { name := "pseudonymKeys", fn := fun _ => fun
  | [d1, d2, d3, d4, d5] => { results := [.lit (.bool false)], args := [d1, d2, d3, d4, d5] }
  | _ => none }
def PseudonymKeysWrongFalsely : Prop := pseudonymKeysRow.holds Try.pinned (OpenSpec.ofChange pseudonymKeysWrong)

/-- 'dataenclavelaw12.PseudonymRounds': WHATEVER THE INPUT: true; the input reads as it did. -/
def pseudonymRoundsSpec : ChangeSpec := { name := "pseudonymRounds", fn := fun _ => fun
  | [d1, d2] => { results := [.lit (.bool true)], args := [d1, d2] }
  | _ => none }
def pseudonymRoundsRow : OpenClaim := { program := "ytflkecekknmkkaa", sum := "e0efe86f0ed4ee3eef76786f33d478ed909d19a56990f1839a12761285b72736", func := "dataenclave/dataenclavelaw12.PseudonymRounds", spec := "pseudonymRounds", apart := false }
def PseudonymRoundsSaid : Prop := pseudonymRoundsRow.holds Try.pinned (OpenSpec.ofChange pseudonymRoundsSpec)

/-- ITS FALSE NEIGHBOUR: 'it returns false'. Refute it at one input. -/
def pseudonymRoundsWrong : ChangeSpec := { name := "pseudonymRounds", fn := fun _ => fun
  | [d1, d2] => { results := [.lit (.bool false)], args := [d1, d2] }
  | _ => none }
def PseudonymRoundsWrongFalsely : Prop := pseudonymRoundsRow.holds Try.pinned (OpenSpec.ofChange pseudonymRoundsWrong)

/- THE SECOND FORM. 'bulk': how many values and letters a reading holds, each counted each time it is reached (what is shared counts as often as it is met; a slice's spare places count too). A statement '..UptoSaid' is the law's where the arguments, and the package variables that the reading takes, are together of bulk at most 1048576: NARROWER than '..Said'. Prove '..Said' where nothing that the law and all that it calls make is longer than what came in: it says more and counts as full. Else prove '..UptoSaid'. A law counts once. -/
mutual
def uptoBulk {H : Type} : DataW H → Nat
  | .lit (.string bytes) => bytes.length + 1
  | .lit _ => 1
  | .nil => 1
  | .ptr d => uptoBulk d + 1
  | .slice elems spare => uptoBulkAll elems + uptoBulkAll spare + 1
  | .agg parts => uptoBulkAll parts + 1
  | .iface _ d => uptoBulk d + 1
  | .map entries => uptoBulkEntries entries + 1
  | .held _ => 1
def uptoBulkAll {H : Type} : List (DataW H) → Nat
  | [] => 0
  | d :: r => uptoBulk d + uptoBulkAll r
def uptoBulkEntries {H : Type} : List (Lit × DataW H) → Nat
  | [] => 0
  | x :: r => uptoBulkEntry x + uptoBulkEntries r
def uptoBulkEntry {H : Type} : Lit × DataW H → Nat
  | (.string bytes, d) => bytes.length + uptoBulk d + 1
  | (_, d) => uptoBulk d + 1
 end
def uptoSmall : (H : Type) → List (DataW H) → Bool := fun _ ds => decide (uptoBulkAll ds ≤ 1048576)
def OpenSpec.upto (s : _root_.Go.ChangeSpec) : _root_.Go.OpenSpec := { _root_.Go.OpenSpec.ofChange s with cond := some uptoSmall }

/-- 'dataenclavelaw12.PseudonymBack', WHERE WHAT IT READS IS OF BULK AT MOST 1048576: true; the input reads as it did. -/
def pseudonymBackUptoRow : OpenClaim := { program := "ytflkecekknmkkaa", sum := "e0efe86f0ed4ee3eef76786f33d478ed909d19a56990f1839a12761285b72736", func := "dataenclave/dataenclavelaw12.PseudonymBack", spec := "pseudonymBack", apart := false, narrowed := true }
def PseudonymBackUptoSaid : Prop := pseudonymBackUptoRow.holds Try.pinned (OpenSpec.upto pseudonymBackSpec)

/-- 'dataenclavelaw12.PseudonymApart', WHERE WHAT IT READS IS OF BULK AT MOST 1048576: true; the input reads as it did. -/
def pseudonymApartUptoRow : OpenClaim := { program := "ytflkecekknmkkaa", sum := "e0efe86f0ed4ee3eef76786f33d478ed909d19a56990f1839a12761285b72736", func := "dataenclave/dataenclavelaw12.PseudonymApart", spec := "pseudonymApart", apart := false, narrowed := true }
def PseudonymApartUptoSaid : Prop := pseudonymApartUptoRow.holds Try.pinned (OpenSpec.upto pseudonymApartSpec)

/-- 'dataenclavelaw12.PseudonymWalks', WHERE WHAT IT READS IS OF BULK AT MOST 1048576: true; the input reads as it did. -/
def pseudonymWalksUptoRow : OpenClaim := { program := "ytflkecekknmkkaa", sum := "e0efe86f0ed4ee3eef76786f33d478ed909d19a56990f1839a12761285b72736", func := "dataenclave/dataenclavelaw12.PseudonymWalks", spec := "pseudonymWalks", apart := false, narrowed := true }
def PseudonymWalksUptoSaid : Prop := pseudonymWalksUptoRow.holds Try.pinned (OpenSpec.upto pseudonymWalksSpec)

/-- 'dataenclavelaw12.PseudonymKeys', WHERE WHAT IT READS IS OF BULK AT MOST 1048576: true; the input reads as it did. -/
def pseudonymKeysUptoRow : OpenClaim := { program := "ytflkecekknmkkaa", sum := "e0efe86f0ed4ee3eef76786f33d478ed909d19a56990f1839a12761285b72736", func := "dataenclave/dataenclavelaw12.PseudonymKeys", spec := "pseudonymKeys", apart := false, narrowed := true }
def PseudonymKeysUptoSaid : Prop := pseudonymKeysUptoRow.holds Try.pinned (OpenSpec.upto pseudonymKeysSpec)

/-- 'dataenclavelaw12.PseudonymRounds', WHERE WHAT IT READS IS OF BULK AT MOST 1048576: true; the input reads as it did. -/
def pseudonymRoundsUptoRow : OpenClaim := { program := "ytflkecekknmkkaa", sum := "e0efe86f0ed4ee3eef76786f33d478ed909d19a56990f1839a12761285b72736", func := "dataenclave/dataenclavelaw12.PseudonymRounds", spec := "pseudonymRounds", apart := false, narrowed := true }
def PseudonymRoundsUptoSaid : Prop := pseudonymRoundsUptoRow.holds Try.pinned (OpenSpec.upto pseudonymRoundsSpec)

end Rows
end Go.Proofs.Ytflkecekknmkkaa
