/-
  No cell of these rows narrows 'for every input' (looked for: loops, veiled, ifaces, maps, wideKeys, modest, calm, conditions, laid).
  DERIVED. THE GIVEN ROWS OF THIS SEAT. 5 by the template 'for every input the law returns true; each argument reads behind the call as it read before'; 0 by the template 'total and deterministic' (their statements: YtmlpadmppocbkaaTotals.lean).
  GIVEN WITH THE SEED: the statements are not yours to turn. If you find one false, say at which input.
  Laid BY PROGRAM, IN A SANDBOX (cutbox-rows.mjs): the forced cells as the released guide's own fill.sh prints them over the translation b5a1e9ef989bca8b… (all of the seat's roots in one cut). By AI agents, Wed Nov 11 2026. No macro, syntax, notation, axiom, sorry.
-/
import Derived.Test.YtmlpadmppocbkaaChecked
import GoSem.Claim
import GoSem.ClaimJoined
import GoSem.ClaimMapViews
import Derived.JoinedTies
import Derived.KernelRfl
namespace Go.Proofs.Ytmlpadmppocbkaa
/- THE CELL 'sum', in the pinned program and in every row, IS THE sha256 OF THE DUMP (.gsa) THAT YtmlpadmppocbkaaProg.lean LOADS. Nothing in Lean hashes anything: it is a label: what it is worth is what the hold of that sum in a sandbox is worth. -/
noncomputable def Try.pinned : Pinned := { name := "ytmlpadmppocbkaa", sum := "b5a1e9ef989bca8bc3ae8f2c0400489b047422a4546642207f8001175441f6e5", checked := Try.checked }
namespace Rows
def none {H : Type} : Left H := { results := [], args := [] }

/-- 'dataenclavelaw23.JournalTears': WHATEVER THE INPUT: true; the input reads as it did. -/
def journalTearsSpec : ChangeSpec := { name := "journalTears", fn := fun _ => fun
  | [d1, d2, d3] => { results := [.lit (.bool true)], args := [d1, d2, d3] }
  | _ => none }
def journalTearsRow : OpenClaim := { program := "ytmlpadmppocbkaa", sum := "b5a1e9ef989bca8bc3ae8f2c0400489b047422a4546642207f8001175441f6e5", func := "dataenclave/dataenclavelaw23.JournalTears", spec := "journalTears", apart := false }
def JournalTearsSaid : Prop := journalTearsRow.holds Try.pinned (OpenSpec.ofChange journalTearsSpec)

/-- ITS FALSE NEIGHBOUR: 'it returns false'. Refute it at one input. -/
def journalTearsWrong : ChangeSpec := { name := "journalTears", fn := fun _ => fun
  | [d1, d2, d3] => { results := [.lit (.bool false)], args := [d1, d2, d3] }
  | _ => none }
def JournalTearsWrongFalsely : Prop := journalTearsRow.holds Try.pinned (OpenSpec.ofChange journalTearsWrong)

/-- 'dataenclavelaw23.JournalLimits': WHATEVER THE INPUT: true; the input reads as it did. -/
def journalLimitsSpec : ChangeSpec := { name := "journalLimits", fn := fun _ => fun
  | [d] => { results := [.lit (.bool true)], args := [d] }
  | _ => none }
def journalLimitsRow : OpenClaim := { program := "ytmlpadmppocbkaa", sum := "b5a1e9ef989bca8bc3ae8f2c0400489b047422a4546642207f8001175441f6e5", func := "dataenclave/dataenclavelaw23.JournalLimits", spec := "journalLimits", apart := false }
def JournalLimitsSaid : Prop := journalLimitsRow.holds Try.pinned (OpenSpec.ofChange journalLimitsSpec)

/-- ITS FALSE NEIGHBOUR: 'it returns false'. Refute it at one input. -/
def journalLimitsWrong : ChangeSpec := { name := "journalLimits", fn := fun _ => fun
  | [d] => { results := [.lit (.bool false)], args := [d] }
  | _ => none }
def JournalLimitsWrongFalsely : Prop := journalLimitsRow.holds Try.pinned (OpenSpec.ofChange journalLimitsWrong)

/-- 'dataenclavelaw23.JournalAnswers': WHATEVER THE INPUT: true; the input reads as it did. -/
def journalAnswersSpec : ChangeSpec := { name := "journalAnswers", fn := fun _ => fun
  | [d1, d2, d3, d4] => { results := [.lit (.bool true)], args := [d1, d2, d3, d4] }
  | _ => none }
def journalAnswersRow : OpenClaim := { program := "ytmlpadmppocbkaa", sum := "b5a1e9ef989bca8bc3ae8f2c0400489b047422a4546642207f8001175441f6e5", func := "dataenclave/dataenclavelaw23.JournalAnswers", spec := "journalAnswers", apart := false }
def JournalAnswersSaid : Prop := journalAnswersRow.holds Try.pinned (OpenSpec.ofChange journalAnswersSpec)

/-- ITS FALSE NEIGHBOUR: 'it returns false'. Refute it at one input. -/
def journalAnswersWrong : ChangeSpec := { name := "journalAnswers", fn := fun _ => fun
  | [d1, d2, d3, d4] => { results := [.lit (.bool false)], args := [d1, d2, d3, d4] }
  | _ => none }
def JournalAnswersWrongFalsely : Prop := journalAnswersRow.holds Try.pinned (OpenSpec.ofChange journalAnswersWrong)

/-- 'dataenclavelaw23.JournalKeeps': WHATEVER THE INPUT: true; the input reads as it did. -/
def journalKeepsSpec : ChangeSpec := { name := "journalKeeps", fn := fun _ => fun
  | [d1, d2, d3] => { results := [.lit (.bool true)], args := [d1, d2, d3] }
  | _ => none }
def journalKeepsRow : OpenClaim := { program := "ytmlpadmppocbkaa", sum := "b5a1e9ef989bca8bc3ae8f2c0400489b047422a4546642207f8001175441f6e5", func := "dataenclave/dataenclavelaw23.JournalKeeps", spec := "journalKeeps", apart := false }
def JournalKeepsSaid : Prop := journalKeepsRow.holds Try.pinned (OpenSpec.ofChange journalKeepsSpec)

/-- ITS FALSE NEIGHBOUR: 'it returns false'. Refute it at one input. -/
def journalKeepsWrong : ChangeSpec := { name := "journalKeeps", fn := fun _ => fun
  | [d1, d2, d3] => { results := [.lit (.bool false)], args := [d1, d2, d3] }
  | _ => none }
def JournalKeepsWrongFalsely : Prop := journalKeepsRow.holds Try.pinned (OpenSpec.ofChange journalKeepsWrong)

/-- 'dataenclavelaw23.JournalGoes': WHATEVER THE INPUT: true; the input reads as it did. -/
def journalGoesSpec : ChangeSpec := { name := "journalGoes", fn := fun _ => fun
  | [d1, d2, d3] => { results := [.lit (.bool true)], args := [d1, d2, d3] }
  | _ => none }
def journalGoesRow : OpenClaim := { program := "ytmlpadmppocbkaa", sum := "b5a1e9ef989bca8bc3ae8f2c0400489b047422a4546642207f8001175441f6e5", func := "dataenclave/dataenclavelaw23.JournalGoes", spec := "journalGoes", apart := false }
def JournalGoesSaid : Prop := journalGoesRow.holds Try.pinned (OpenSpec.ofChange journalGoesSpec)

/-- ITS FALSE NEIGHBOUR: 'it returns false'. Refute it at one input. -/
def journalGoesWrong : ChangeSpec := { name := "journalGoes", fn := fun _ => fun
  | [d1, d2, d3] => { results := [.lit (.bool false)], args := [d1, d2, d3] }
  | _ => none }
def JournalGoesWrongFalsely : Prop := journalGoesRow.holds Try.pinned (OpenSpec.ofChange journalGoesWrong)

/- THE SECOND FORM. 'bulk': how many values and letters a reading holds, each counted each time it is reached (what is shared counts as often as it is met; a slice's spare places count too). A statement '..UptoSaid' is the law's where the arguments, and the package variables that the reading takes, are together of bulk at most 1048576: NARROWER than '..Said'. Prove '..Said' where nothing that the law and all that it calls make is longer than what came in: it says more and counts as full. Else prove '..UptoSaid'. A law counts once. -/
mutual
def uptoBulk {H : Type} : DataW H → Nat
  | .lit (.string bytes) => bytes.length + 1
  | .lit _ => 1
  | .nil => 1
  | .ptr d => uptoBulk d + 1
  | .slice elems spare => uptoBulkAll elems + uptoBulkAll spare + 1
  | .agg parts => uptoBulkAll parts + 1
  | .iface _ d => uptoBulk d + 1
  | .map entries => uptoBulkEntries entries + 1
  | .held _ => 1
def uptoBulkAll {H : Type} : List (DataW H) → Nat
  | [] => 0
  | d :: r => uptoBulk d + uptoBulkAll r
def uptoBulkEntries {H : Type} : List (Lit × DataW H) → Nat
  | [] => 0
  | x :: r => uptoBulkEntry x + uptoBulkEntries r
def uptoBulkEntry {H : Type} : Lit × DataW H → Nat
  | (.string bytes, d) => bytes.length + uptoBulk d + 1
  | (_, d) => uptoBulk d + 1
 end
def uptoSmall : (H : Type) → List (DataW H) → Bool := fun _ ds => decide (uptoBulkAll ds ≤ 1048576)
def OpenSpec.upto (s : _root_.Go.ChangeSpec) : _root_.Go.OpenSpec := { _root_.Go.OpenSpec.ofChange s with cond := some uptoSmall }

/-- 'dataenclavelaw23.JournalTears', WHERE WHAT IT READS IS OF BULK AT MOST 1048576: true; the input reads as it did. -/
def journalTearsUptoRow : OpenClaim := { program := "ytmlpadmppocbkaa", sum := "b5a1e9ef989bca8bc3ae8f2c0400489b047422a4546642207f8001175441f6e5", func := "dataenclave/dataenclavelaw23.JournalTears", spec := "journalTears", apart := false, narrowed := true }
def JournalTearsUptoSaid : Prop := journalTearsUptoRow.holds Try.pinned (OpenSpec.upto journalTearsSpec)

/-- 'dataenclavelaw23.JournalLimits', WHERE WHAT IT READS IS OF BULK AT MOST 1048576: true; the input reads as it did. -/
def journalLimitsUptoRow : OpenClaim := { program := "ytmlpadmppocbkaa", sum := "b5a1e9ef989bca8bc3ae8f2c0400489b047422a4546642207f8001175441f6e5", func := "dataenclave/dataenclavelaw23.JournalLimits", spec := "journalLimits", apart := false, narrowed := true }
def JournalLimitsUptoSaid : Prop := journalLimitsUptoRow.holds Try.pinned (OpenSpec.upto journalLimitsSpec)

/-- 'dataenclavelaw23.JournalAnswers', WHERE WHAT IT READS IS OF BULK AT MOST 1048576: true; the input reads as it did. -/
def journalAnswersUptoRow : OpenClaim := { program := "ytmlpadmppocbkaa", sum := "b5a1e9ef989bca8bc3ae8f2c0400489b047422a4546642207f8001175441f6e5", func := "dataenclave/dataenclavelaw23.JournalAnswers", spec := "journalAnswers", apart := false, narrowed := true }
def JournalAnswersUptoSaid : Prop := journalAnswersUptoRow.holds Try.pinned (OpenSpec.upto journalAnswersSpec)

/-- 'dataenclavelaw23.JournalKeeps', WHERE WHAT IT READS IS OF BULK AT MOST 1048576: true; the input reads as it did. -/
def journalKeepsUptoRow : OpenClaim := { program := "ytmlpadmppocbkaa", sum := "b5a1e9ef989bca8bc3ae8f2c0400489b047422a4546642207f8001175441f6e5", func := "dataenclave/dataenclavelaw23.JournalKeeps", spec := "journalKeeps", apart := false, narrowed := true }
def JournalKeepsUptoSaid : Prop := journalKeepsUptoRow.holds Try.pinned (OpenSpec.upto journalKeepsSpec)

/-- 'dataenclavelaw23.JournalGoes', WHERE WHAT IT READS IS OF BULK AT MOST 1048576: true; the input reads as it did. -/
def journalGoesUptoRow : OpenClaim := { program := "ytmlpadmppocbkaa", sum := "b5a1e9ef989bca8bc3ae8f2c0400489b047422a4546642207f8001175441f6e5", func := "dataenclave/dataenclavelaw23.JournalGoes", spec := "journalGoes", apart := false, narrowed := true }
def JournalGoesUptoSaid : Prop := journalGoesUptoRow.holds Try.pinned (OpenSpec.upto journalGoesSpec)

end Rows
end Go.Proofs.Ytmlpadmppocbkaa
