/-
  No cell of these rows narrows 'for every input' (looked for: loops, veiled, ifaces, maps, wideKeys, modest, calm, conditions, laid).
  DERIVED. THE GIVEN ROWS OF THIS SEAT. 5 by the template 'for every input the law returns true; each argument reads behind the call as it read before'; 0 by the template 'total and deterministic' (their statements: YtoamapbbjffldaaTotals.lean).
  GIVEN WITH THE SEED: the statements are not yours to turn. If you find one false, say at which input.
  Laid BY PROGRAM, IN A SANDBOX (cutbox-rows.mjs): the forced cells as the released guide's own fill.sh prints them over the translation 87a264a1ff085f37… (all of the seat's roots in one cut). By AI agents, Wed Nov 11 2026. No macro, syntax, notation, axiom, sorry.
-/
import Derived.Test.YtoamapbbjffldaaChecked
import GoSem.Claim
import GoSem.ClaimJoined
import GoSem.ClaimMapViews
import Derived.JoinedTies
import Derived.KernelRfl
namespace Go.Proofs.Ytoamapbbjffldaa
/- THE CELL 'sum', in the pinned program and in every row, IS THE sha256 OF THE DUMP (.gsa) THAT YtoamapbbjffldaaProg.lean LOADS. Nothing in Lean hashes anything: it is a label: what it is worth is what the hold of that sum in a sandbox is worth. -/
noncomputable def Try.pinned : Pinned := { name := "ytoamapbbjffldaa", sum := "87a264a1ff085f373d1d9edc4f0b7a4a174da6a6624e98af2f93e3c17e4015fd", checked := Try.checked }
namespace Rows
def none {H : Type} : Left H := { results := [], args := [] }

/-- 'dataenclavelaw38.RegisterChain': WHATEVER THE INPUT: true; the input reads as it did. -/
def registerChainSpec : ChangeSpec := { name := "registerChain", fn := fun _ => fun
  | [d1, d2, d3] => { results := [.lit (.bool true)], args := [d1, d2, d3] }
  | _ => none }
def registerChainRow : OpenClaim := { program := "ytoamapbbjffldaa", sum := "87a264a1ff085f373d1d9edc4f0b7a4a174da6a6624e98af2f93e3c17e4015fd", func := "dataenclave/dataenclavelaw38.RegisterChain", spec := "registerChain", unfollowed := true, recurses := true, apart := false }
def RegisterChainSaid : Prop := registerChainRow.holds Try.pinned (OpenSpec.ofChange registerChainSpec)

/-- ITS FALSE NEIGHBOUR: 'it returns false'. Refute it at one input. -/
def registerChainWrong : ChangeSpec := { name := "registerChain", fn := fun _ => fun
  | [d1, d2, d3] => { results := [.lit (.bool false)], args := [d1, d2, d3] }
  | _ => none }
def RegisterChainWrongFalsely : Prop := registerChainRow.holds Try.pinned (OpenSpec.ofChange registerChainWrong)

/-- 'dataenclavelaw38.RegisterLine': WHATEVER THE INPUT: true; the input reads as it did. -/
def registerLineSpec : ChangeSpec := { name := "registerLine", fn := fun _ => fun
  | [d] => { results := [.lit (.bool true)], args := [d] }
  | _ => none }
def registerLineRow : OpenClaim := { program := "ytoamapbbjffldaa", sum := "87a264a1ff085f373d1d9edc4f0b7a4a174da6a6624e98af2f93e3c17e4015fd", func := "dataenclave/dataenclavelaw38.RegisterLine", spec := "registerLine", unfollowed := true, recurses := true, apart := false }
def RegisterLineSaid : Prop := registerLineRow.holds Try.pinned (OpenSpec.ofChange registerLineSpec)

/-- ITS FALSE NEIGHBOUR: 'it returns false'. Refute it at one input. -/
def registerLineWrong : ChangeSpec := { name := "registerLine", fn := fun _ => fun
  | [d] => { results := [.lit (.bool false)], args := [d] }
  | _ => none }
def RegisterLineWrongFalsely : Prop := registerLineRow.holds Try.pinned (OpenSpec.ofChange registerLineWrong)

/-- 'dataenclavelaw38.RegisterAnswers': WHATEVER THE INPUT: true; the input reads as it did. -/
def registerAnswersSpec : ChangeSpec := { name := "registerAnswers", fn := fun _ => fun
  | [d1, d2, d3, d4, d5, d6, d7, d8, d9] => { results := [.lit (.bool true)], args := [d1, d2, d3, d4, d5, d6, d7, d8, d9] }
  | _ => none }
def registerAnswersRow : OpenClaim := { program := "ytoamapbbjffldaa", sum := "87a264a1ff085f373d1d9edc4f0b7a4a174da6a6624e98af2f93e3c17e4015fd", func := "dataenclave/dataenclavelaw38.RegisterAnswers", spec := "registerAnswers", unfollowed := true, recurses := true, apart := false }
def RegisterAnswersSaid : Prop := registerAnswersRow.holds Try.pinned (OpenSpec.ofChange registerAnswersSpec)

/-- ITS FALSE NEIGHBOUR: 'it returns false'. Refute it at one input. -/
def registerAnswersWrong : ChangeSpec := { name := "registerAnswers", fn := fun _ => fun
  | [d1, d2, d3, d4, d5, d6, d7, d8, d9] => { results := [.lit (.bool false)], args := [d1, d2, d3, d4, d5, d6, d7, d8, d9] }
  | _ => none }
def RegisterAnswersWrongFalsely : Prop := registerAnswersRow.holds Try.pinned (OpenSpec.ofChange registerAnswersWrong)

/-- 'dataenclavelaw38.RegisterForce': WHATEVER THE INPUT: true; the input reads as it did. -/
def registerForceSpec : ChangeSpec := { name := "registerForce", fn := fun _ => fun
  | [d] => { results := [.lit (.bool true)], args := [d] }
  | _ => none }
def registerForceRow : OpenClaim := { program := "ytoamapbbjffldaa", sum := "87a264a1ff085f373d1d9edc4f0b7a4a174da6a6624e98af2f93e3c17e4015fd", func := "dataenclave/dataenclavelaw38.RegisterForce", spec := "registerForce", unfollowed := true, recurses := true, apart := false }
def RegisterForceSaid : Prop := registerForceRow.holds Try.pinned (OpenSpec.ofChange registerForceSpec)

/-- ITS FALSE NEIGHBOUR: 'it returns false'. Refute it at one input. -/
def registerForceWrong : ChangeSpec := { name := "registerForce", fn := fun _ => fun
  | [d] => { results := [.lit (.bool false)], args := [d] }
  | _ => none }
def RegisterForceWrongFalsely : Prop := registerForceRow.holds Try.pinned (OpenSpec.ofChange registerForceWrong)

/-- 'dataenclavelaw38.RegisterRefuses': WHATEVER THE INPUT: true; the input reads as it did. -/
def registerRefusesSpec : ChangeSpec := { name := "registerRefuses", fn := fun _ => fun
  | [d1, d2, d3] => { results := [.lit (.bool true)], args := [d1, d2, d3] }
  | _ => none }
def registerRefusesRow : OpenClaim := { program := "ytoamapbbjffldaa", sum := "87a264a1ff085f373d1d9edc4f0b7a4a174da6a6624e98af2f93e3c17e4015fd", func := "dataenclave/dataenclavelaw38.RegisterRefuses", spec := "registerRefuses", unfollowed := true, recurses := true, apart := false }
def RegisterRefusesSaid : Prop := registerRefusesRow.holds Try.pinned (OpenSpec.ofChange registerRefusesSpec)

/-- ITS FALSE NEIGHBOUR: 'it returns false'. Refute it at one input. -/
def registerRefusesWrong : ChangeSpec := { name := "registerRefuses", fn := fun _ => fun
  | [d1, d2, d3] => { results := [.lit (.bool false)], args := [d1, d2, d3] }
  | _ => none }
def RegisterRefusesWrongFalsely : Prop := registerRefusesRow.holds Try.pinned (OpenSpec.ofChange registerRefusesWrong)

/- THE SECOND FORM. 'bulk': how many values and letters a reading holds, each counted each time it is reached (what is shared counts as often as it is met; a slice's spare places count too). A statement '..UptoSaid' is the law's where the arguments, and the package variables that the reading takes, are together of bulk at most 1048576: NARROWER than '..Said'. Prove '..Said' where nothing that the law and all that it calls make is longer than what came in: it says more and counts as full. Else prove '..UptoSaid'. A law counts once. -/
mutual
def uptoBulk {H : Type} : DataW H → Nat
  | .lit (.string bytes) => bytes.length + 1
  | .lit _ => 1
  | .nil => 1
  | .ptr d => uptoBulk d + 1
  | .slice elems spare => uptoBulkAll elems + uptoBulkAll spare + 1
  | .agg parts => uptoBulkAll parts + 1
  | .iface _ d => uptoBulk d + 1
  | .map entries => uptoBulkEntries entries + 1
  | .held _ => 1
def uptoBulkAll {H : Type} : List (DataW H) → Nat
  | [] => 0
  | d :: r => uptoBulk d + uptoBulkAll r
def uptoBulkEntries {H : Type} : List (Lit × DataW H) → Nat
  | [] => 0
  | x :: r => uptoBulkEntry x + uptoBulkEntries r
def uptoBulkEntry {H : Type} : Lit × DataW H → Nat
  | (.string bytes, d) => bytes.length + uptoBulk d + 1
  | (_, d) => uptoBulk d + 1
 end
def uptoSmall : (H : Type) → List (DataW H) → Bool := fun _ ds => decide (uptoBulkAll ds ≤ 1048576)
def OpenSpec.upto (s : _root_.Go.ChangeSpec) : _root_.Go.OpenSpec := { _root_.Go.OpenSpec.ofChange s with cond := some uptoSmall }

/-- 'dataenclavelaw38.RegisterChain', WHERE WHAT IT READS IS OF BULK AT MOST 1048576: true; the input reads as it did. -/
def registerChainUptoRow : OpenClaim := { program := "ytoamapbbjffldaa", sum := "87a264a1ff085f373d1d9edc4f0b7a4a174da6a6624e98af2f93e3c17e4015fd", func := "dataenclave/dataenclavelaw38.RegisterChain", spec := "registerChain", unfollowed := true, recurses := true, apart := false, narrowed := true }
def RegisterChainUptoSaid : Prop := registerChainUptoRow.holds Try.pinned (OpenSpec.upto registerChainSpec)

/-- 'dataenclavelaw38.RegisterLine', WHERE WHAT IT READS IS OF BULK AT MOST 1048576: true; the input reads as it did. -/
def registerLineUptoRow : OpenClaim := { program := "ytoamapbbjffldaa", sum := "87a264a1ff085f373d1d9edc4f0b7a4a174da6a6624e98af2f93e3c17e4015fd", func := "dataenclave/dataenclavelaw38.RegisterLine", spec := "registerLine", unfollowed := true, recurses := true, apart := false, narrowed := true }
def RegisterLineUptoSaid : Prop := registerLineUptoRow.holds Try.pinned (OpenSpec.upto registerLineSpec)

/-- 'dataenclavelaw38.RegisterAnswers', WHERE WHAT IT READS IS OF BULK AT MOST 1048576: true; the input reads as it did. -/
def registerAnswersUptoRow : OpenClaim := { program := "ytoamapbbjffldaa", sum := "87a264a1ff085f373d1d9edc4f0b7a4a174da6a6624e98af2f93e3c17e4015fd", func := "dataenclave/dataenclavelaw38.RegisterAnswers", spec := "registerAnswers", unfollowed := true, recurses := true, apart := false, narrowed := true }
def RegisterAnswersUptoSaid : Prop := registerAnswersUptoRow.holds Try.pinned (OpenSpec.upto registerAnswersSpec)

/-- 'dataenclavelaw38.RegisterForce', WHERE WHAT IT READS IS OF BULK AT MOST 1048576: true; the input reads as it did. -/
def registerForceUptoRow : OpenClaim := { program := "ytoamapbbjffldaa", sum := "87a264a1ff085f373d1d9edc4f0b7a4a174da6a6624e98af2f93e3c17e4015fd", func := "dataenclave/dataenclavelaw38.RegisterForce", spec := "registerForce", unfollowed := true, recurses := true, apart := false, narrowed := true }
def RegisterForceUptoSaid : Prop := registerForceUptoRow.holds Try.pinned (OpenSpec.upto registerForceSpec)

/-- 'dataenclavelaw38.RegisterRefuses', WHERE WHAT IT READS IS OF BULK AT MOST 1048576: true; the input reads as it did. -/
def registerRefusesUptoRow : OpenClaim := { program := "ytoamapbbjffldaa", sum := "87a264a1ff085f373d1d9edc4f0b7a4a174da6a6624e98af2f93e3c17e4015fd", func := "dataenclave/dataenclavelaw38.RegisterRefuses", spec := "registerRefuses", unfollowed := true, recurses := true, apart := false, narrowed := true }
def RegisterRefusesUptoSaid : Prop := registerRefusesUptoRow.holds Try.pinned (OpenSpec.upto registerRefusesSpec)

end Rows
end Go.Proofs.Ytoamapbbjffldaa
