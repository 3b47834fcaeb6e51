/-
  No cell of these rows narrows 'for every input' (looked for: loops, veiled, ifaces, maps, wideKeys, modest, calm, conditions, laid).
  DERIVED. THE GIVEN ROWS OF THIS SEAT. 2 by the template 'for every input the law returns true; each argument reads behind the call as it read before'; 0 by the template 'total and deterministic' (their statements: YtckkagikeoimhaaTotals.lean).
  GIVEN WITH THE SEED: the statements are not yours to turn. If you find one false, say at which input.
  Laid BY PROGRAM, IN A SANDBOX (cutbox-rows.mjs): the forced cells as the released guide's own fill.sh prints them over the translation b108cde99bf58b72… (all of the seat's roots in one cut). By AI agents, Wed Nov 11 2026. No macro, syntax, notation, axiom, sorry.
-/
import Derived.Test.YtckkagikeoimhaaChecked
import GoSem.Claim
import GoSem.ClaimJoined
import GoSem.ClaimMapViews
import Derived.JoinedTies
import Derived.KernelRfl
namespace Go.Proofs.Ytckkagikeoimhaa
/- THE CELL 'sum', in the pinned program and in every row, IS THE sha256 OF THE DUMP (.gsa) THAT YtckkagikeoimhaaProg.lean LOADS. Nothing in Lean hashes anything: it is a label: what it is worth is what the hold of that sum in a sandbox is worth. -/
noncomputable def Try.pinned : Pinned := { name := "ytckkagikeoimhaa", sum := "b108cde99bf58b722a33240b42624aec6e36d62dc82710b794c85c665e681f0a", checked := Try.checked }
namespace Rows
def none {H : Type} : Left H := { results := [], args := [] }

/-- 'dataenclavelaw29.EquationsParts': WHATEVER THE INPUT: true; the input reads as it did. -/
def equationsPartsSpec : ChangeSpec := { name := "equationsParts", fn := fun _ => fun
  | [d] => { results := [.lit (.bool true)], args := [d] }
  | _ => none }
def equationsPartsRow : OpenClaim := { program := "ytckkagikeoimhaa", sum := "b108cde99bf58b722a33240b42624aec6e36d62dc82710b794c85c665e681f0a", func := "dataenclave/dataenclavelaw29.EquationsParts", spec := "equationsParts", unfollowed := true, recurses := true, apart := false }
def EquationsPartsSaid : Prop := equationsPartsRow.holds Try.pinned (OpenSpec.ofChange equationsPartsSpec)

/-- ITS FALSE NEIGHBOUR: 'it returns false'. Refute it at one input. -/
def equationsPartsWrong : ChangeSpec := { name := "equationsParts", fn := fun _ => fun
  | [d] => { results := [.lit (.bool false)], args := [d] }
  | _ => none }
def EquationsPartsWrongFalsely : Prop := equationsPartsRow.holds Try.pinned (OpenSpec.ofChange equationsPartsWrong)

/-- 'dataenclavelaw29.EquationsTrue': WHATEVER THE INPUT: true; the input reads as it did. -/
def equationsTrueSpec : ChangeSpec := { name := "equationsTrue", fn := fun _ => fun
  | [d] => { results := [.lit (.bool true)], args := [d] }
  | _ => none }
def equationsTrueRow : OpenClaim := { program := "ytckkagikeoimhaa", sum := "b108cde99bf58b722a33240b42624aec6e36d62dc82710b794c85c665e681f0a", func := "dataenclave/dataenclavelaw29.EquationsTrue", spec := "equationsTrue", unfollowed := true, recurses := true, apart := false }
def EquationsTrueSaid : Prop := equationsTrueRow.holds Try.pinned (OpenSpec.ofChange equationsTrueSpec)

/-- ITS FALSE NEIGHBOUR: 'it returns false'. Refute it at one input. -/
def equationsTrueWrong : ChangeSpec := { name := "equationsTrue", fn := fun _ => fun
  | [d] => { results := [.lit (.bool false)], args := [d] }
  | _ => none }
def EquationsTrueWrongFalsely : Prop := equationsTrueRow.holds Try.pinned (OpenSpec.ofChange equationsTrueWrong)

/- THE SECOND FORM. 'bulk': how many values and letters a reading holds, each counted each time it is reached (what is shared counts as often as it is met; a slice's spare places count too). A statement '..UptoSaid' is the law's where the arguments, and the package variables that the reading takes, are together of bulk at most 1048576: NARROWER than '..Said'. Prove '..Said' where nothing that the law and all that it calls make is longer than what came in: it says more and counts as full. Else prove '..UptoSaid'. A law counts once. -/
mutual
def uptoBulk {H : Type} : DataW H → Nat
  | .lit (.string bytes) => bytes.length + 1
  | .lit _ => 1
  | .nil => 1
  | .ptr d => uptoBulk d + 1
  | .slice elems spare => uptoBulkAll elems + uptoBulkAll spare + 1
  | .agg parts => uptoBulkAll parts + 1
  | .iface _ d => uptoBulk d + 1
  | .map entries => uptoBulkEntries entries + 1
  | .held _ => 1
def uptoBulkAll {H : Type} : List (DataW H) → Nat
  | [] => 0
  | d :: r => uptoBulk d + uptoBulkAll r
def uptoBulkEntries {H : Type} : List (Lit × DataW H) → Nat
  | [] => 0
  | x :: r => uptoBulkEntry x + uptoBulkEntries r
def uptoBulkEntry {H : Type} : Lit × DataW H → Nat
  | (.string bytes, d) => bytes.length + uptoBulk d + 1
  | (_, d) => uptoBulk d + 1
 end
def uptoSmall : (H : Type) → List (DataW H) → Bool := fun _ ds => decide (uptoBulkAll ds ≤ 1048576)
def OpenSpec.upto (s : _root_.Go.ChangeSpec) : _root_.Go.OpenSpec := { _root_.Go.OpenSpec.ofChange s with cond := some uptoSmall }

/-- 'dataenclavelaw29.EquationsParts', WHERE WHAT IT READS IS OF BULK AT MOST 1048576: true; the input reads as it did. -/
def equationsPartsUptoRow : OpenClaim := { program := "ytckkagikeoimhaa", sum := "b108cde99bf58b722a33240b42624aec6e36d62dc82710b794c85c665e681f0a", func := "dataenclave/dataenclavelaw29.EquationsParts", spec := "equationsParts", unfollowed := true, recurses := true, apart := false, narrowed := true }
def EquationsPartsUptoSaid : Prop := equationsPartsUptoRow.holds Try.pinned (OpenSpec.upto equationsPartsSpec)

/-- 'dataenclavelaw29.EquationsTrue', WHERE WHAT IT READS IS OF BULK AT MOST 1048576: true; the input reads as it did. -/
def equationsTrueUptoRow : OpenClaim := { program := "ytckkagikeoimhaa", sum := "b108cde99bf58b722a33240b42624aec6e36d62dc82710b794c85c665e681f0a", func := "dataenclave/dataenclavelaw29.EquationsTrue", spec := "equationsTrue", unfollowed := true, recurses := true, apart := false, narrowed := true }
def EquationsTrueUptoSaid : Prop := equationsTrueUptoRow.holds Try.pinned (OpenSpec.upto equationsTrueSpec)

end Rows
end Go.Proofs.Ytckkagikeoimhaa
