/-
  No cell of these rows narrows 'for every input' (looked for: loops, veiled, ifaces, maps, wideKeys, modest, calm, conditions, laid).
  DERIVED. THE GIVEN ROWS OF THIS SEAT. 5 by the template 'for every input the law returns true; each argument reads behind the call as it read before'; 0 by the template 'total and deterministic' (their statements: YtnhhmfplebpipaaTotals.lean).
  GIVEN WITH THE SEED: the statements are not yours to turn. If you find one false, say at which input.
  Laid BY PROGRAM, IN A SANDBOX (cutbox-rows.mjs): the forced cells as the released guide's own fill.sh prints them over the translation e037714a217cc579… (all of the seat's roots in one cut). By AI agents, Wed Nov 11 2026. No macro, syntax, notation, axiom, sorry.
-/
import Derived.Test.YtnhhmfplebpipaaChecked
import GoSem.Claim
import GoSem.ClaimJoined
import GoSem.ClaimMapViews
import Derived.JoinedTies
import Derived.KernelRfl
namespace Go.Proofs.Ytnhhmfplebpipaa
/- THE CELL 'sum', in the pinned program and in every row, IS THE sha256 OF THE DUMP (.gsa) THAT YtnhhmfplebpipaaProg.lean LOADS. Nothing in Lean hashes anything: it is a label: what it is worth is what the hold of that sum in a sandbox is worth. -/
noncomputable def Try.pinned : Pinned := { name := "ytnhhmfplebpipaa", sum := "e037714a217cc579b20b434230aba7ddf4ecb757419bc67b5b24a73cabb67d95", checked := Try.checked }
namespace Rows
def none {H : Type} : Left H := { results := [], args := [] }

/-- 'dataenclavelaw34.RoundingFits': WHATEVER THE INPUT: true; the input reads as it did. -/
def roundingFitsSpec : ChangeSpec := { name := "roundingFits", fn := fun _ => fun
  | [d] => { results := [.lit (.bool true)], args := [d] }
  | _ => none }
def roundingFitsRow : OpenClaim := { program := "ytnhhmfplebpipaa", sum := "e037714a217cc579b20b434230aba7ddf4ecb757419bc67b5b24a73cabb67d95", func := "dataenclave/dataenclavelaw34.RoundingFits", spec := "roundingFits", unfollowed := true, recurses := true, apart := false }
def RoundingFitsSaid : Prop := roundingFitsRow.holds Try.pinned (OpenSpec.ofChange roundingFitsSpec)

/-- ITS FALSE NEIGHBOUR: 'it returns false'. Refute it at one input. -/
def roundingFitsWrong : ChangeSpec := { name := "roundingFits", fn := fun _ => fun
  | [d] => { results := [.lit (.bool false)], args := [d] }
  | _ => none }
def RoundingFitsWrongFalsely : Prop := roundingFitsRow.holds Try.pinned (OpenSpec.ofChange roundingFitsWrong)

/-- 'dataenclavelaw34.RoundingStays': WHATEVER THE INPUT: true; the input reads as it did. -/
def roundingStaysSpec : ChangeSpec := { name := "roundingStays", fn := fun _ => fun
  | [d] => { results := [.lit (.bool true)], args := [d] }
  | _ => none }
def roundingStaysRow : OpenClaim := { program := "ytnhhmfplebpipaa", sum := "e037714a217cc579b20b434230aba7ddf4ecb757419bc67b5b24a73cabb67d95", func := "dataenclave/dataenclavelaw34.RoundingStays", spec := "roundingStays", unfollowed := true, recurses := true, apart := false }
def RoundingStaysSaid : Prop := roundingStaysRow.holds Try.pinned (OpenSpec.ofChange roundingStaysSpec)

/-- ITS FALSE NEIGHBOUR: 'it returns false'. Refute it at one input. -/
def roundingStaysWrong : ChangeSpec := { name := "roundingStays", fn := fun _ => fun
  | [d] => { results := [.lit (.bool false)], args := [d] }
  | _ => none }
def RoundingStaysWrongFalsely : Prop := roundingStaysRow.holds Try.pinned (OpenSpec.ofChange roundingStaysWrong)

/-- 'dataenclavelaw34.RoundingScales': WHATEVER THE INPUT: true; the input reads as it did. -/
def roundingScalesSpec : ChangeSpec := { name := "roundingScales", fn := fun _ => fun
  | [d1, d2] => { results := [.lit (.bool true)], args := [d1, d2] }
  | _ => none }
def roundingScalesRow : OpenClaim := { program := "ytnhhmfplebpipaa", sum := "e037714a217cc579b20b434230aba7ddf4ecb757419bc67b5b24a73cabb67d95", func := "dataenclave/dataenclavelaw34.RoundingScales", spec := "roundingScales", unfollowed := true, recurses := true, apart := false }
def RoundingScalesSaid : Prop := roundingScalesRow.holds Try.pinned (OpenSpec.ofChange roundingScalesSpec)

/-- ITS FALSE NEIGHBOUR: 'it returns false'. Refute it at one input. -/
def roundingScalesWrong : ChangeSpec := { name := "roundingScales", fn := fun _ => fun
  | [d1, d2] => { results := [.lit (.bool false)], args := [d1, d2] }
  | _ => none }
def RoundingScalesWrongFalsely : Prop := roundingScalesRow.holds Try.pinned (OpenSpec.ofChange roundingScalesWrong)

/-- 'dataenclavelaw34.RoundingAnswers': WHATEVER THE INPUT: true; the input reads as it did. -/
def roundingAnswersSpec : ChangeSpec := { name := "roundingAnswers", fn := fun _ => fun
  | [d1, d2, d3, d4, d5, d6] => { results := [.lit (.bool true)], args := [d1, d2, d3, d4, d5, d6] }
  | _ => none }
def roundingAnswersRow : OpenClaim := { program := "ytnhhmfplebpipaa", sum := "e037714a217cc579b20b434230aba7ddf4ecb757419bc67b5b24a73cabb67d95", func := "dataenclave/dataenclavelaw34.RoundingAnswers", spec := "roundingAnswers", unfollowed := true, recurses := true, apart := false }
def RoundingAnswersSaid : Prop := roundingAnswersRow.holds Try.pinned (OpenSpec.ofChange roundingAnswersSpec)

/-- ITS FALSE NEIGHBOUR: 'it returns false'. Refute it at one input. -/
def roundingAnswersWrong : ChangeSpec := { name := "roundingAnswers", fn := fun _ => fun
  | [d1, d2, d3, d4, d5, d6] => { results := [.lit (.bool false)], args := [d1, d2, d3, d4, d5, d6] }
  | _ => none }
def RoundingAnswersWrongFalsely : Prop := roundingAnswersRow.holds Try.pinned (OpenSpec.ofChange roundingAnswersWrong)

/-- 'dataenclavelaw34.RoundingTurns': WHATEVER THE INPUT: true; the input reads as it did. -/
def roundingTurnsSpec : ChangeSpec := { name := "roundingTurns", fn := fun _ => fun
  | [d] => { results := [.lit (.bool true)], args := [d] }
  | _ => none }
def roundingTurnsRow : OpenClaim := { program := "ytnhhmfplebpipaa", sum := "e037714a217cc579b20b434230aba7ddf4ecb757419bc67b5b24a73cabb67d95", func := "dataenclave/dataenclavelaw34.RoundingTurns", spec := "roundingTurns", unfollowed := true, recurses := true, apart := false }
def RoundingTurnsSaid : Prop := roundingTurnsRow.holds Try.pinned (OpenSpec.ofChange roundingTurnsSpec)

/-- ITS FALSE NEIGHBOUR: 'it returns false'. Refute it at one input. -/
def roundingTurnsWrong : ChangeSpec := { name := "roundingTurns", fn := fun _ => fun
  | [d] => { results := [.lit (.bool false)], args := [d] }
  | _ => none }
def RoundingTurnsWrongFalsely : Prop := roundingTurnsRow.holds Try.pinned (OpenSpec.ofChange roundingTurnsWrong)

/- THE SECOND FORM. 'bulk': how many values and letters a reading holds, each counted each time it is reached (what is shared counts as often as it is met; a slice's spare places count too). A statement '..UptoSaid' is the law's where the arguments, and the package variables that the reading takes, are together of bulk at most 1048576: NARROWER than '..Said'. Prove '..Said' where nothing that the law and all that it calls make is longer than what came in: it says more and counts as full. Else prove '..UptoSaid'. A law counts once. -/
mutual
def uptoBulk {H : Type} : DataW H → Nat
  | .lit (.string bytes) => bytes.length + 1
  | .lit _ => 1
  | .nil => 1
  | .ptr d => uptoBulk d + 1
  | .slice elems spare => uptoBulkAll elems + uptoBulkAll spare + 1
  | .agg parts => uptoBulkAll parts + 1
  | .iface _ d => uptoBulk d + 1
  | .map entries => uptoBulkEntries entries + 1
  | .held _ => 1
def uptoBulkAll {H : Type} : List (DataW H) → Nat
  | [] => 0
  | d :: r => uptoBulk d + uptoBulkAll r
def uptoBulkEntries {H : Type} : List (Lit × DataW H) → Nat
  | [] => 0
  | x :: r => uptoBulkEntry x + uptoBulkEntries r
def uptoBulkEntry {H : Type} : Lit × DataW H → Nat
  | (.string bytes, d) => bytes.length + uptoBulk d + 1
  | (_, d) => uptoBulk d + 1
 end
def uptoSmall : (H : Type) → List (DataW H) → Bool := fun _ ds => decide (uptoBulkAll ds ≤ 1048576)
def OpenSpec.upto (s : _root_.Go.ChangeSpec) : _root_.Go.OpenSpec := { _root_.Go.OpenSpec.ofChange s with cond := some uptoSmall }

/-- 'dataenclavelaw34.RoundingFits', WHERE WHAT IT READS IS OF BULK AT MOST 1048576: true; the input reads as it did. -/
def roundingFitsUptoRow : OpenClaim := { program := "ytnhhmfplebpipaa", sum := "e037714a217cc579b20b434230aba7ddf4ecb757419bc67b5b24a73cabb67d95", func := "dataenclave/dataenclavelaw34.RoundingFits", spec := "roundingFits", unfollowed := true, recurses := true, apart := false, narrowed := true }
def RoundingFitsUptoSaid : Prop := roundingFitsUptoRow.holds Try.pinned (OpenSpec.upto roundingFitsSpec)

/-- 'dataenclavelaw34.RoundingStays', WHERE WHAT IT READS IS OF BULK AT MOST 1048576: true; the input reads as it did. -/
def roundingStaysUptoRow : OpenClaim := { program := "ytnhhmfplebpipaa", sum := "e037714a217cc579b20b434230aba7ddf4ecb757419bc67b5b24a73cabb67d95", func := "dataenclave/dataenclavelaw34.RoundingStays", spec := "roundingStays", unfollowed := true, recurses := true, apart := false, narrowed := true }
def RoundingStaysUptoSaid : Prop := roundingStaysUptoRow.holds Try.pinned (OpenSpec.upto roundingStaysSpec)

/-- 'dataenclavelaw34.RoundingScales', WHERE WHAT IT READS IS OF BULK AT MOST 1048576: true; the input reads as it did. -/
def roundingScalesUptoRow : OpenClaim := { program := "ytnhhmfplebpipaa", sum := "e037714a217cc579b20b434230aba7ddf4ecb757419bc67b5b24a73cabb67d95", func := "dataenclave/dataenclavelaw34.RoundingScales", spec := "roundingScales", unfollowed := true, recurses := true, apart := false, narrowed := true }
def RoundingScalesUptoSaid : Prop := roundingScalesUptoRow.holds Try.pinned (OpenSpec.upto roundingScalesSpec)

/-- 'dataenclavelaw34.RoundingAnswers', WHERE WHAT IT READS IS OF BULK AT MOST 1048576: true; the input reads as it did. -/
def roundingAnswersUptoRow : OpenClaim := { program := "ytnhhmfplebpipaa", sum := "e037714a217cc579b20b434230aba7ddf4ecb757419bc67b5b24a73cabb67d95", func := "dataenclave/dataenclavelaw34.RoundingAnswers", spec := "roundingAnswers", unfollowed := true, recurses := true, apart := false, narrowed := true }
def RoundingAnswersUptoSaid : Prop := roundingAnswersUptoRow.holds Try.pinned (OpenSpec.upto roundingAnswersSpec)

/-- 'dataenclavelaw34.RoundingTurns', WHERE WHAT IT READS IS OF BULK AT MOST 1048576: true; the input reads as it did. -/
def roundingTurnsUptoRow : OpenClaim := { program := "ytnhhmfplebpipaa", sum := "e037714a217cc579b20b434230aba7ddf4ecb757419bc67b5b24a73cabb67d95", func := "dataenclave/dataenclavelaw34.RoundingTurns", spec := "roundingTurns", unfollowed := true, recurses := true, apart := false, narrowed := true }
def RoundingTurnsUptoSaid : Prop := roundingTurnsUptoRow.holds Try.pinned (OpenSpec.upto roundingTurnsSpec)

end Rows
end Go.Proofs.Ytnhhmfplebpipaa
