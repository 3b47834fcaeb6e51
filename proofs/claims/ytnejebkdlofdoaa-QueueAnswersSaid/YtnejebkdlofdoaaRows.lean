/-
  No cell of these rows narrows 'for every input' (looked for: loops, veiled, ifaces, maps, wideKeys, modest, calm, conditions, laid).
  DERIVED. THE GIVEN ROWS OF THIS SEAT. 4 by the template 'for every input the law returns true; each argument reads behind the call as it read before'; 0 by the template 'total and deterministic' (their statements: YtnejebkdlofdoaaTotals.lean).
  GIVEN WITH THE SEED: the statements are not yours to turn. If you find one false, say at which input.
  Laid BY PROGRAM, IN A SANDBOX (cutbox-rows.mjs): the forced cells as the released guide's own fill.sh prints them over the translation c678be57818a22e6… (all of the seat's roots in one cut). By AI agents, Wed Nov 11 2026. No macro, syntax, notation, axiom, sorry.
-/
import Derived.Test.YtnejebkdlofdoaaChecked
import GoSem.Claim
import GoSem.ClaimJoined
import GoSem.ClaimMapViews
import Derived.JoinedTies
import Derived.KernelRfl
namespace Go.Proofs.Ytnejebkdlofdoaa
/- THE CELL 'sum', in the pinned program and in every row, IS THE sha256 OF THE DUMP (.gsa) THAT YtnejebkdlofdoaaProg.lean LOADS. Nothing in Lean hashes anything: it is a label: what it is worth is what the hold of that sum in a sandbox is worth. -/
noncomputable def Try.pinned : Pinned := { name := "ytnejebkdlofdoaa", sum := "c678be57818a22e6ed9437d79b76dc64294a6bd39e36f7887d18d3f592ffd0eb", checked := Try.checked }
namespace Rows
def none {H : Type} : Left H := { results := [], args := [] }

/-- 'dataenclavelaw35.QueueAnswers': WHATEVER THE INPUT: true; the input reads as it did. -/
def queueAnswersSpec : ChangeSpec := { name := "queueAnswers", fn := fun _ => fun
  | [d1, d2, d3, d4, d5] => { results := [.lit (.bool true)], args := [d1, d2, d3, d4, d5] }
  | _ => none }
def queueAnswersRow : OpenClaim := { program := "ytnejebkdlofdoaa", sum := "c678be57818a22e6ed9437d79b76dc64294a6bd39e36f7887d18d3f592ffd0eb", func := "dataenclave/dataenclavelaw35.QueueAnswers", spec := "queueAnswers", unfollowed := true, recurses := true, apart := false }
def QueueAnswersSaid : Prop := queueAnswersRow.holds Try.pinned (OpenSpec.ofChange queueAnswersSpec)

/-- ITS FALSE NEIGHBOUR: 'it returns false'. Refute it at one input. -/
def queueAnswersWrong : ChangeSpec := { name := "queueAnswers", fn := fun _ => fun
  | [d1, d2, d3, d4, d5] => { results := [.lit (.bool false)], args := [d1, d2, d3, d4, d5] }
  | _ => none }
def QueueAnswersWrongFalsely : Prop := queueAnswersRow.holds Try.pinned (OpenSpec.ofChange queueAnswersWrong)

/-- 'dataenclavelaw35.QueueBack': WHATEVER THE INPUT: true; the input reads as it did. -/
def queueBackSpec : ChangeSpec := { name := "queueBack", fn := fun _ => fun
  | [d1, d2] => { results := [.lit (.bool true)], args := [d1, d2] }
  | _ => none }
def queueBackRow : OpenClaim := { program := "ytnejebkdlofdoaa", sum := "c678be57818a22e6ed9437d79b76dc64294a6bd39e36f7887d18d3f592ffd0eb", func := "dataenclave/dataenclavelaw35.QueueBack", spec := "queueBack", unfollowed := true, recurses := true, apart := false }
def QueueBackSaid : Prop := queueBackRow.holds Try.pinned (OpenSpec.ofChange queueBackSpec)

/-- ITS FALSE NEIGHBOUR: 'it returns false'. Refute it at one input. -/
def queueBackWrong : ChangeSpec := { name := "queueBack", fn := fun _ => fun
  | [d1, d2] => { results := [.lit (.bool false)], args := [d1, d2] }
  | _ => none }
def QueueBackWrongFalsely : Prop := queueBackRow.holds Try.pinned (OpenSpec.ofChange queueBackWrong)

/-- 'dataenclavelaw35.QueueKeeps': WHATEVER THE INPUT: true; the input reads as it did. -/
def queueKeepsSpec : ChangeSpec := { name := "queueKeeps", fn := fun _ => fun
  | [d1, d2] => { results := [.lit (.bool true)], args := [d1, d2] }
  | _ => none }
def queueKeepsRow : OpenClaim := { program := "ytnejebkdlofdoaa", sum := "c678be57818a22e6ed9437d79b76dc64294a6bd39e36f7887d18d3f592ffd0eb", func := "dataenclave/dataenclavelaw35.QueueKeeps", spec := "queueKeeps", unfollowed := true, recurses := true, apart := false }
def QueueKeepsSaid : Prop := queueKeepsRow.holds Try.pinned (OpenSpec.ofChange queueKeepsSpec)

/-- ITS FALSE NEIGHBOUR: 'it returns false'. Refute it at one input. -/
def queueKeepsWrong : ChangeSpec := { name := "queueKeeps", fn := fun _ => fun
  | [d1, d2] => { results := [.lit (.bool false)], args := [d1, d2] }
  | _ => none }
def QueueKeepsWrongFalsely : Prop := queueKeepsRow.holds Try.pinned (OpenSpec.ofChange queueKeepsWrong)

/-- 'dataenclavelaw35.QueueNumbers': WHATEVER THE INPUT: true; the input reads as it did. -/
def queueNumbersSpec : ChangeSpec := { name := "queueNumbers", fn := fun _ => fun
  | [d1, d2] => { results := [.lit (.bool true)], args := [d1, d2] }
  | _ => none }
def queueNumbersRow : OpenClaim := { program := "ytnejebkdlofdoaa", sum := "c678be57818a22e6ed9437d79b76dc64294a6bd39e36f7887d18d3f592ffd0eb", func := "dataenclave/dataenclavelaw35.QueueNumbers", spec := "queueNumbers", unfollowed := true, recurses := true, apart := false }
def QueueNumbersSaid : Prop := queueNumbersRow.holds Try.pinned (OpenSpec.ofChange queueNumbersSpec)

/-- ITS FALSE NEIGHBOUR: 'it returns false'. Refute it at one input. -/
def queueNumbersWrong : ChangeSpec := { name := "queueNumbers", fn := fun _ => fun
  | [d1, d2] => { results := [.lit (.bool false)], args := [d1, d2] }
  | _ => none }
def QueueNumbersWrongFalsely : Prop := queueNumbersRow.holds Try.pinned (OpenSpec.ofChange queueNumbersWrong)

/- THE SECOND FORM. 'bulk': how many values and letters a reading holds, each counted each time it is reached (what is shared counts as often as it is met; a slice's spare places count too). A statement '..UptoSaid' is the law's where the arguments, and the package variables that the reading takes, are together of bulk at most 1048576: NARROWER than '..Said'. Prove '..Said' where nothing that the law and all that it calls make is longer than what came in: it says more and counts as full. Else prove '..UptoSaid'. A law counts once. -/
mutual
def uptoBulk {H : Type} : DataW H → Nat
  | .lit (.string bytes) => bytes.length + 1
  | .lit _ => 1
  | .nil => 1
  | .ptr d => uptoBulk d + 1
  | .slice elems spare => uptoBulkAll elems + uptoBulkAll spare + 1
  | .agg parts => uptoBulkAll parts + 1
  | .iface _ d => uptoBulk d + 1
  | .map entries => uptoBulkEntries entries + 1
  | .held _ => 1
def uptoBulkAll {H : Type} : List (DataW H) → Nat
  | [] => 0
  | d :: r => uptoBulk d + uptoBulkAll r
def uptoBulkEntries {H : Type} : List (Lit × DataW H) → Nat
  | [] => 0
  | x :: r => uptoBulkEntry x + uptoBulkEntries r
def uptoBulkEntry {H : Type} : Lit × DataW H → Nat
  | (.string bytes, d) => bytes.length + uptoBulk d + 1
  | (_, d) => uptoBulk d + 1
 end
def uptoSmall : (H : Type) → List (DataW H) → Bool := fun _ ds => decide (uptoBulkAll ds ≤ 1048576)
def OpenSpec.upto (s : _root_.Go.ChangeSpec) : _root_.Go.OpenSpec := { _root_.Go.OpenSpec.ofChange s with cond := some uptoSmall }

/-- 'dataenclavelaw35.QueueAnswers', WHERE WHAT IT READS IS OF BULK AT MOST 1048576: true; the input reads as it did. -/
def queueAnswersUptoRow : OpenClaim := { program := "ytnejebkdlofdoaa", sum := "c678be57818a22e6ed9437d79b76dc64294a6bd39e36f7887d18d3f592ffd0eb", func := "dataenclave/dataenclavelaw35.QueueAnswers", spec := "queueAnswers", unfollowed := true, recurses := true, apart := false, narrowed := true }
def QueueAnswersUptoSaid : Prop := queueAnswersUptoRow.holds Try.pinned (OpenSpec.upto queueAnswersSpec)

/-- 'dataenclavelaw35.QueueBack', WHERE WHAT IT READS IS OF BULK AT MOST 1048576: true; the input reads as it did. -/
def queueBackUptoRow : OpenClaim := { program := "ytnejebkdlofdoaa", sum := "c678be57818a22e6ed9437d79b76dc64294a6bd39e36f7887d18d3f592ffd0eb", func := "dataenclave/dataenclavelaw35.QueueBack", spec := "queueBack", unfollowed := true, recurses := true, apart := false, narrowed := true }
def QueueBackUptoSaid : Prop := queueBackUptoRow.holds Try.pinned (OpenSpec.upto queueBackSpec)

/-- 'dataenclavelaw35.QueueKeeps', WHERE WHAT IT READS IS OF BULK AT MOST 1048576: true; the input reads as it did. -/
def queueKeepsUptoRow : OpenClaim := { program := "ytnejebkdlofdoaa", sum := "c678be57818a22e6ed9437d79b76dc64294a6bd39e36f7887d18d3f592ffd0eb", func := "dataenclave/dataenclavelaw35.QueueKeeps", spec := "queueKeeps", unfollowed := true, recurses := true, apart := false, narrowed := true }
def QueueKeepsUptoSaid : Prop := queueKeepsUptoRow.holds Try.pinned (OpenSpec.upto queueKeepsSpec)

/-- 'dataenclavelaw35.QueueNumbers', WHERE WHAT IT READS IS OF BULK AT MOST 1048576: true; the input reads as it did. -/
def queueNumbersUptoRow : OpenClaim := { program := "ytnejebkdlofdoaa", sum := "c678be57818a22e6ed9437d79b76dc64294a6bd39e36f7887d18d3f592ffd0eb", func := "dataenclave/dataenclavelaw35.QueueNumbers", spec := "queueNumbers", unfollowed := true, recurses := true, apart := false, narrowed := true }
def QueueNumbersUptoSaid : Prop := queueNumbersUptoRow.holds Try.pinned (OpenSpec.upto queueNumbersSpec)

end Rows
end Go.Proofs.Ytnejebkdlofdoaa
