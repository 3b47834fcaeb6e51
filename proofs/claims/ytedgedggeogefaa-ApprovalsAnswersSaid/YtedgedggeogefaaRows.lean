/-
  No cell of these rows narrows 'for every input' (looked for: loops, veiled, ifaces, maps, wideKeys, modest, calm, conditions, laid).
  DERIVED. THE GIVEN ROWS OF THIS SEAT. 3 by the template 'for every input the law returns true; each argument reads behind the call as it read before'; 0 by the template 'total and deterministic' (their statements: YtedgedggeogefaaTotals.lean).
  GIVEN WITH THE SEED: the statements are not yours to turn. If you find one false, say at which input.
  Laid BY PROGRAM, IN A SANDBOX (cutbox-rows.mjs): the forced cells as the released guide's own fill.sh prints them over the translation 42209393b3857156… (all of the seat's roots in one cut). By AI agents, Wed Nov 11 2026. No macro, syntax, notation, axiom, sorry.
-/
import Derived.Test.YtedgedggeogefaaChecked
import GoSem.Claim
import GoSem.ClaimJoined
import GoSem.ClaimMapViews
import Derived.JoinedTies
import Derived.KernelRfl
namespace Go.Proofs.Ytedgedggeogefaa
/- THE CELL 'sum', in the pinned program and in every row, IS THE sha256 OF THE DUMP (.gsa) THAT YtedgedggeogefaaProg.lean LOADS. Nothing in Lean hashes anything: it is a label: what it is worth is what the hold of that sum in a sandbox is worth. -/
noncomputable def Try.pinned : Pinned := { name := "ytedgedggeogefaa", sum := "42209393b3857156d16f360d312c14522e6f226b3136a7736e038841d71660b2", checked := Try.checked }
namespace Rows
def none {H : Type} : Left H := { results := [], args := [] }

/-- 'dataenclavelaw39.ApprovalsEnd': WHATEVER THE INPUT: true; the input reads as it did. -/
def approvalsEndSpec : ChangeSpec := { name := "approvalsEnd", fn := fun _ => fun
  | [d1, d2] => { results := [.lit (.bool true)], args := [d1, d2] }
  | _ => none }
def approvalsEndRow : OpenClaim := { program := "ytedgedggeogefaa", sum := "42209393b3857156d16f360d312c14522e6f226b3136a7736e038841d71660b2", func := "dataenclave/dataenclavelaw39.ApprovalsEnd", spec := "approvalsEnd", inPlace := ["slices.overlaps[dataenclave/api.Approval]"], unfollowed := true, recurses := true, apart := false }
def ApprovalsEndSaid : Prop := approvalsEndRow.holds Try.pinned (OpenSpec.ofChange approvalsEndSpec)

/-- ITS FALSE NEIGHBOUR: 'it returns false'. Refute it at one input. -/
def approvalsEndWrong : ChangeSpec := { name := "approvalsEnd", fn := fun _ => fun
  | [d1, d2] => { results := [.lit (.bool false)], args := [d1, d2] }
  | _ => none }
def ApprovalsEndWrongFalsely : Prop := approvalsEndRow.holds Try.pinned (OpenSpec.ofChange approvalsEndWrong)

/-- 'dataenclavelaw39.ApprovalsOrder': WHATEVER THE INPUT: true; the input reads as it did. -/
def approvalsOrderSpec : ChangeSpec := { name := "approvalsOrder", fn := fun _ => fun
  | [d] => { results := [.lit (.bool true)], args := [d] }
  | _ => none }
def approvalsOrderRow : OpenClaim := { program := "ytedgedggeogefaa", sum := "42209393b3857156d16f360d312c14522e6f226b3136a7736e038841d71660b2", func := "dataenclave/dataenclavelaw39.ApprovalsOrder", spec := "approvalsOrder", inPlace := ["slices.overlaps[dataenclave/api.Approval]"], unfollowed := true, recurses := true, apart := false }
def ApprovalsOrderSaid : Prop := approvalsOrderRow.holds Try.pinned (OpenSpec.ofChange approvalsOrderSpec)

/-- ITS FALSE NEIGHBOUR: 'it returns false'. Refute it at one input. -/
def approvalsOrderWrong : ChangeSpec := { name := "approvalsOrder", fn := fun _ => fun
  | [d] => { results := [.lit (.bool false)], args := [d] }
  | _ => none }
def ApprovalsOrderWrongFalsely : Prop := approvalsOrderRow.holds Try.pinned (OpenSpec.ofChange approvalsOrderWrong)

/-- 'dataenclavelaw39.ApprovalsAnswers': WHATEVER THE INPUT: true; the input reads as it did. -/
def approvalsAnswersSpec : ChangeSpec := { name := "approvalsAnswers", fn := fun _ => fun
  | [d1, d2, d3, d4, d5, d6, d7] => { results := [.lit (.bool true)], args := [d1, d2, d3, d4, d5, d6, d7] }
  | _ => none }
def approvalsAnswersRow : OpenClaim := { program := "ytedgedggeogefaa", sum := "42209393b3857156d16f360d312c14522e6f226b3136a7736e038841d71660b2", func := "dataenclave/dataenclavelaw39.ApprovalsAnswers", spec := "approvalsAnswers", inPlace := ["slices.overlaps[dataenclave/api.Approval]"], unfollowed := true, recurses := true, apart := false }
def ApprovalsAnswersSaid : Prop := approvalsAnswersRow.holds Try.pinned (OpenSpec.ofChange approvalsAnswersSpec)

/-- ITS FALSE NEIGHBOUR: 'it returns false'. Refute it at one input. -/
def approvalsAnswersWrong : ChangeSpec := { name := "approvalsAnswers", fn := fun _ => fun
  | [d1, d2, d3, d4, d5, d6, d7] => { results := [.lit (.bool false)], args := [d1, d2, d3, d4, d5, d6, d7] }
  | _ => none }
def ApprovalsAnswersWrongFalsely : Prop := approvalsAnswersRow.holds Try.pinned (OpenSpec.ofChange approvalsAnswersWrong)

/- THE SECOND FORM. 'bulk': how many values and letters a reading holds, each counted each time it is reached (what is shared counts as often as it is met; a slice's spare places count too). A statement '..UptoSaid' is the law's where the arguments, and the package variables that the reading takes, are together of bulk at most 1048576: NARROWER than '..Said'. Prove '..Said' where nothing that the law and all that it calls make is longer than what came in: it says more and counts as full. Else prove '..UptoSaid'. A law counts once. -/
mutual
def uptoBulk {H : Type} : DataW H → Nat
  | .lit (.string bytes) => bytes.length + 1
  | .lit _ => 1
  | .nil => 1
  | .ptr d => uptoBulk d + 1
  | .slice elems spare => uptoBulkAll elems + uptoBulkAll spare + 1
  | .agg parts => uptoBulkAll parts + 1
  | .iface _ d => uptoBulk d + 1
  | .map entries => uptoBulkEntries entries + 1
  | .held _ => 1
def uptoBulkAll {H : Type} : List (DataW H) → Nat
  | [] => 0
  | d :: r => uptoBulk d + uptoBulkAll r
def uptoBulkEntries {H : Type} : List (Lit × DataW H) → Nat
  | [] => 0
  | x :: r => uptoBulkEntry x + uptoBulkEntries r
def uptoBulkEntry {H : Type} : Lit × DataW H → Nat
  | (.string bytes, d) => bytes.length + uptoBulk d + 1
  | (_, d) => uptoBulk d + 1
 end
def uptoSmall : (H : Type) → List (DataW H) → Bool := fun _ ds => decide (uptoBulkAll ds ≤ 1048576)
def OpenSpec.upto (s : _root_.Go.ChangeSpec) : _root_.Go.OpenSpec := { _root_.Go.OpenSpec.ofChange s with cond := some uptoSmall }

/-- 'dataenclavelaw39.ApprovalsEnd', WHERE WHAT IT READS IS OF BULK AT MOST 1048576: true; the input reads as it did. -/
def approvalsEndUptoRow : OpenClaim := { program := "ytedgedggeogefaa", sum := "42209393b3857156d16f360d312c14522e6f226b3136a7736e038841d71660b2", func := "dataenclave/dataenclavelaw39.ApprovalsEnd", spec := "approvalsEnd", inPlace := ["slices.overlaps[dataenclave/api.Approval]"], unfollowed := true, recurses := true, apart := false, narrowed := true }
def ApprovalsEndUptoSaid : Prop := approvalsEndUptoRow.holds Try.pinned (OpenSpec.upto approvalsEndSpec)

/-- 'dataenclavelaw39.ApprovalsOrder', WHERE WHAT IT READS IS OF BULK AT MOST 1048576: true; the input reads as it did. -/
def approvalsOrderUptoRow : OpenClaim := { program := "ytedgedggeogefaa", sum := "42209393b3857156d16f360d312c14522e6f226b3136a7736e038841d71660b2", func := "dataenclave/dataenclavelaw39.ApprovalsOrder", spec := "approvalsOrder", inPlace := ["slices.overlaps[dataenclave/api.Approval]"], unfollowed := true, recurses := true, apart := false, narrowed := true }
def ApprovalsOrderUptoSaid : Prop := approvalsOrderUptoRow.holds Try.pinned (OpenSpec.upto approvalsOrderSpec)

/-- 'dataenclavelaw39.ApprovalsAnswers', WHERE WHAT IT READS IS OF BULK AT MOST 1048576: true; the input reads as it did. -/
def approvalsAnswersUptoRow : OpenClaim := { program := "ytedgedggeogefaa", sum := "42209393b3857156d16f360d312c14522e6f226b3136a7736e038841d71660b2", func := "dataenclave/dataenclavelaw39.ApprovalsAnswers", spec := "approvalsAnswers", inPlace := ["slices.overlaps[dataenclave/api.Approval]"], unfollowed := true, recurses := true, apart := false, narrowed := true }
def ApprovalsAnswersUptoSaid : Prop := approvalsAnswersUptoRow.holds Try.pinned (OpenSpec.upto approvalsAnswersSpec)

end Rows
end Go.Proofs.Ytedgedggeogefaa
