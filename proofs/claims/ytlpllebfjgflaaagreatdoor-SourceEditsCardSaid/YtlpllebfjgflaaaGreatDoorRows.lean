/-
  NARROWER THAN 'FOR EVERY INPUT', by the rows' own cells (each row's printed sentence says how): SourceBegins: laid · SourceEdits: laid · SourceWithdraws: laid · SourceSorts: laid · SourceVersions: laid · SourceTouches: laid.
  DERIVED. THE GIVEN ROWS OF THIS SEAT. 6 by the template 'for every input the law returns true; each argument reads behind the call as it read before'; 0 by the template 'total and deterministic' (their statements: YtlpllebfjgflaaaGreatDoorTotals.lean).
  GIVEN WITH THE SEED: the statements are not yours to turn. If you find one false, say at which input.
  Laid BY PROGRAM, IN A SANDBOX (cutbox-rows.mjs): the forced cells as the released guide's own fill.sh prints them over the translation 875b0a928190953d… (all of the seat's roots in one cut). By AI agents, Wed Nov 11 2026. No macro, syntax, notation, axiom, sorry.
-/
import Derived.Test.YtlpllebfjgflaaaGreatDoorChecked
import GoSem.Claim
import GoSem.ClaimJoined
import GoSem.ClaimMapViews
import Derived.JoinedTies
import Derived.KernelRfl
namespace Go.Proofs.YtlpllebfjgflaaaGreatDoor
/- THE CELL 'sum', in the pinned program and in every row, IS THE sha256 OF THE DUMP (.gsa) THAT YtlpllebfjgflaaaGreatDoorProg.lean LOADS. Nothing in Lean hashes anything: it is a label: what it is worth is what the hold of that sum in a sandbox is worth. -/
noncomputable def Tryz.pinned : Pinned := { name := "ytlpllebfjgflaaagreatdoor", sum := "875b0a928190953dfcccf110b54c7b869573e7b7ecbf1db7f0c89958802f36b4", checked := Tryz.checked }
namespace Rows
def none {H : Type} : Left H := { results := [], args := [] }

/- WHAT THE LISTED PACKAGE-LEVEL VARIABLES READ AS WHEN THE CALL BEGINS. Each datum BY PROGRAM (the guide's laid-datum.mjs) off the statement by which the dump's own 'gosem.cut.vars' lays the variable. In a bare row this is a premise. The card (YtlpllebfjgflaaaGreatDoorCards.lean) ties it to the program's text. -/
def laid_math_bits_deBruijn32tab {H : Type} : DataW H := .agg [.lit (.int .u8 0), .lit (.int .u8 1), .lit (.int .u8 28), .lit (.int .u8 2), .lit (.int .u8 29), .lit (.int .u8 14), .lit (.int .u8 24), .lit (.int .u8 3), .lit (.int .u8 30), .lit (.int .u8 22), .lit (.int .u8 20), .lit (.int .u8 15), .lit (.int .u8 25), .lit (.int .u8 17), .lit (.int .u8 4), .lit (.int .u8 8), .lit (.int .u8 31), .lit (.int .u8 27), .lit (.int .u8 13), .lit (.int .u8 23), .lit (.int .u8 21), .lit (.int .u8 19), .lit (.int .u8 16), .lit (.int .u8 7), .lit (.int .u8 26), .lit (.int .u8 12), .lit (.int .u8 18), .lit (.int .u8 6), .lit (.int .u8 11), .lit (.int .u8 5), .lit (.int .u8 10), .lit (.int .u8 9)]
def laid_math_bits_deBruijn64tab {H : Type} : DataW H := .agg [.lit (.int .u8 0), .lit (.int .u8 1), .lit (.int .u8 56), .lit (.int .u8 2), .lit (.int .u8 57), .lit (.int .u8 49), .lit (.int .u8 28), .lit (.int .u8 3), .lit (.int .u8 61), .lit (.int .u8 58), .lit (.int .u8 42), .lit (.int .u8 50), .lit (.int .u8 38), .lit (.int .u8 29), .lit (.int .u8 17), .lit (.int .u8 4), .lit (.int .u8 62), .lit (.int .u8 47), .lit (.int .u8 59), .lit (.int .u8 36), .lit (.int .u8 45), .lit (.int .u8 43), .lit (.int .u8 51), .lit (.int .u8 22), .lit (.int .u8 53), .lit (.int .u8 39), .lit (.int .u8 33), .lit (.int .u8 30), .lit (.int .u8 24), .lit (.int .u8 18), .lit (.int .u8 12), .lit (.int .u8 5), .lit (.int .u8 63), .lit (.int .u8 55), .lit (.int .u8 48), .lit (.int .u8 27), .lit (.int .u8 60), .lit (.int .u8 41), .lit (.int .u8 37), .lit (.int .u8 16), .lit (.int .u8 46), .lit (.int .u8 35), .lit (.int .u8 44), .lit (.int .u8 21), .lit (.int .u8 52), .lit (.int .u8 32), .lit (.int .u8 23), .lit (.int .u8 11), .lit (.int .u8 54), .lit (.int .u8 26), .lit (.int .u8 40), .lit (.int .u8 15), .lit (.int .u8 34), .lit (.int .u8 20), .lit (.int .u8 31), .lit (.int .u8 10), .lit (.int .u8 25), .lit (.int .u8 14), .lit (.int .u8 19), .lit (.int .u8 9), .lit (.int .u8 13), .lit (.int .u8 8), .lit (.int .u8 7), .lit (.int .u8 6)]
def laid_internal_strconv_uint64pow10 {H : Type} : DataW H := .agg [.lit (.int .u64 1), .lit (.int .u64 10), .lit (.int .u64 100), .lit (.int .u64 1000), .lit (.int .u64 10000), .lit (.int .u64 100000), .lit (.int .u64 1000000), .lit (.int .u64 10000000), .lit (.int .u64 100000000), .lit (.int .u64 1000000000), .lit (.int .u64 10000000000), .lit (.int .u64 100000000000), .lit (.int .u64 1000000000000), .lit (.int .u64 10000000000000), .lit (.int .u64 100000000000000), .lit (.int .u64 1000000000000000), .lit (.int .u64 10000000000000000), .lit (.int .u64 100000000000000000), .lit (.int .u64 1000000000000000000), .lit (.int .u64 10000000000000000000)]

/-- 'dataenclavelaw04.SourceBegins': WHATEVER THE INPUT: true; the input reads as it did. -/
def sourceBeginsSpec : ChangeSpec := { name := "sourceBegins", fn := fun _ => fun
  | [d1, d2, d3, d4] => { results := [.lit (.bool true)], args := [d1, d2, d3, d4] }
  | _ => none }
def sourceBeginsRow : OpenClaim := { program := "ytlpllebfjgflaaagreatdoor", sum := "875b0a928190953dfcccf110b54c7b869573e7b7ecbf1db7f0c89958802f36b4", func := "dataenclave/dataenclavelaw04.SourceBegins", spec := "sourceBegins", inPlace := ["slices.overlaps[[]int]", "slices.overlaps[int]"], unfollowed := true, recurses := true, named := ["internal/strconv.uint64pow10", "math/bits.deBruijn32tab", "math/bits.deBruijn64tab"], apart := false, laid := [("math/bits.deBruijn32tab", laid_math_bits_deBruijn32tab), ("math/bits.deBruijn64tab", laid_math_bits_deBruijn64tab), ("internal/strconv.uint64pow10", laid_internal_strconv_uint64pow10)] }
def SourceBeginsSaid : Prop := sourceBeginsRow.holds Tryz.pinned (OpenSpec.ofChange sourceBeginsSpec)

/-- ITS FALSE NEIGHBOUR: 'it returns false'. Refute it at one input. -/
def sourceBeginsWrong : ChangeSpec := { name := "sourceBegins", fn := fun _ => fun
  | [d1, d2, d3, d4] => { results := [.lit (.bool false)], args := [d1, d2, d3, d4] }
  | _ => none }
def SourceBeginsWrongFalsely : Prop := sourceBeginsRow.holds Tryz.pinned (OpenSpec.ofChange sourceBeginsWrong)

/-- 'dataenclavelaw04.SourceEdits': WHATEVER THE INPUT: true; the input reads as it did. -/
def sourceEditsSpec : ChangeSpec := { name := "sourceEdits", fn := fun _ => fun
  | [d1, d2, d3, d4] => { results := [.lit (.bool true)], args := [d1, d2, d3, d4] }
  | _ => none }
def sourceEditsRow : OpenClaim := { program := "ytlpllebfjgflaaagreatdoor", sum := "875b0a928190953dfcccf110b54c7b869573e7b7ecbf1db7f0c89958802f36b4", func := "dataenclave/dataenclavelaw04.SourceEdits", spec := "sourceEdits", inPlace := ["slices.overlaps[[]int]", "slices.overlaps[int]"], unfollowed := true, recurses := true, named := ["internal/strconv.uint64pow10", "math/bits.deBruijn32tab", "math/bits.deBruijn64tab"], apart := false, laid := [("math/bits.deBruijn32tab", laid_math_bits_deBruijn32tab), ("math/bits.deBruijn64tab", laid_math_bits_deBruijn64tab), ("internal/strconv.uint64pow10", laid_internal_strconv_uint64pow10)] }
def SourceEditsSaid : Prop := sourceEditsRow.holds Tryz.pinned (OpenSpec.ofChange sourceEditsSpec)

/-- ITS FALSE NEIGHBOUR: 'it returns false'. Refute it at one input. -/
def sourceEditsWrong : ChangeSpec := { name := "sourceEdits", fn := fun _ => fun
  | [d1, d2, d3, d4] => { results := [.lit (.bool false)], args := [d1, d2, d3, d4] }
  | _ => none }
def SourceEditsWrongFalsely : Prop := sourceEditsRow.holds Tryz.pinned (OpenSpec.ofChange sourceEditsWrong)

/-- 'dataenclavelaw04.SourceWithdraws': WHATEVER THE INPUT: true; the input reads as it did. -/
def sourceWithdrawsSpec : ChangeSpec := { name := "sourceWithdraws", fn := fun _ => fun
  | [d1, d2] => { results := [.lit (.bool true)], args := [d1, d2] }
  | _ => none }
def sourceWithdrawsRow : OpenClaim := { program := "ytlpllebfjgflaaagreatdoor", sum := "875b0a928190953dfcccf110b54c7b869573e7b7ecbf1db7f0c89958802f36b4", func := "dataenclave/dataenclavelaw04.SourceWithdraws", spec := "sourceWithdraws", inPlace := ["slices.overlaps[[]int]", "slices.overlaps[int]"], unfollowed := true, recurses := true, named := ["internal/strconv.uint64pow10", "math/bits.deBruijn32tab", "math/bits.deBruijn64tab"], apart := false, laid := [("math/bits.deBruijn32tab", laid_math_bits_deBruijn32tab), ("math/bits.deBruijn64tab", laid_math_bits_deBruijn64tab), ("internal/strconv.uint64pow10", laid_internal_strconv_uint64pow10)] }
def SourceWithdrawsSaid : Prop := sourceWithdrawsRow.holds Tryz.pinned (OpenSpec.ofChange sourceWithdrawsSpec)

/-- ITS FALSE NEIGHBOUR: 'it returns false'. Refute it at one input. -/
def sourceWithdrawsWrong : ChangeSpec := { name := "sourceWithdraws", fn := fun _ => fun
  | [d1, d2] => { results := [.lit (.bool false)], args := [d1, d2] }
  | _ => none }
def SourceWithdrawsWrongFalsely : Prop := sourceWithdrawsRow.holds Tryz.pinned (OpenSpec.ofChange sourceWithdrawsWrong)

/-- 'dataenclavelaw04.SourceSorts': WHATEVER THE INPUT: true; the input reads as it did. -/
def sourceSortsSpec : ChangeSpec := { name := "sourceSorts", fn := fun _ => fun
  | [d1, d2] => { results := [.lit (.bool true)], args := [d1, d2] }
  | _ => none }
def sourceSortsRow : OpenClaim := { program := "ytlpllebfjgflaaagreatdoor", sum := "875b0a928190953dfcccf110b54c7b869573e7b7ecbf1db7f0c89958802f36b4", func := "dataenclave/dataenclavelaw04.SourceSorts", spec := "sourceSorts", inPlace := ["slices.overlaps[[]int]", "slices.overlaps[int]"], unfollowed := true, recurses := true, named := ["internal/strconv.uint64pow10", "math/bits.deBruijn32tab", "math/bits.deBruijn64tab"], apart := false, laid := [("math/bits.deBruijn32tab", laid_math_bits_deBruijn32tab), ("math/bits.deBruijn64tab", laid_math_bits_deBruijn64tab), ("internal/strconv.uint64pow10", laid_internal_strconv_uint64pow10)] }
def SourceSortsSaid : Prop := sourceSortsRow.holds Tryz.pinned (OpenSpec.ofChange sourceSortsSpec)

/-- ITS FALSE NEIGHBOUR: 'it returns false'. Refute it at one input. -/
def sourceSortsWrong : ChangeSpec := { name := "sourceSorts", fn := fun _ => fun
  | [d1, d2] => { results := [.lit (.bool false)], args := [d1, d2] }
  | _ => none }
def SourceSortsWrongFalsely : Prop := sourceSortsRow.holds Tryz.pinned (OpenSpec.ofChange sourceSortsWrong)

/-- 'dataenclavelaw04.SourceVersions': WHATEVER THE INPUT: true; the input reads as it did. -/
def sourceVersionsSpec : ChangeSpec := { name := "sourceVersions", fn := fun _ => fun
  | [d1, d2, d3, d4] => { results := [.lit (.bool true)], args := [d1, d2, d3, d4] }
  | _ => none }
def sourceVersionsRow : OpenClaim := { program := "ytlpllebfjgflaaagreatdoor", sum := "875b0a928190953dfcccf110b54c7b869573e7b7ecbf1db7f0c89958802f36b4", func := "dataenclave/dataenclavelaw04.SourceVersions", spec := "sourceVersions", inPlace := ["slices.overlaps[[]int]", "slices.overlaps[int]"], unfollowed := true, recurses := true, named := ["internal/strconv.uint64pow10", "math/bits.deBruijn32tab", "math/bits.deBruijn64tab"], apart := false, laid := [("math/bits.deBruijn32tab", laid_math_bits_deBruijn32tab), ("math/bits.deBruijn64tab", laid_math_bits_deBruijn64tab), ("internal/strconv.uint64pow10", laid_internal_strconv_uint64pow10)] }
def SourceVersionsSaid : Prop := sourceVersionsRow.holds Tryz.pinned (OpenSpec.ofChange sourceVersionsSpec)

/-- ITS FALSE NEIGHBOUR: 'it returns false'. Refute it at one input. -/
def sourceVersionsWrong : ChangeSpec := { name := "sourceVersions", fn := fun _ => fun
  | [d1, d2, d3, d4] => { results := [.lit (.bool false)], args := [d1, d2, d3, d4] }
  | _ => none }
def SourceVersionsWrongFalsely : Prop := sourceVersionsRow.holds Tryz.pinned (OpenSpec.ofChange sourceVersionsWrong)

/-- 'dataenclavelaw04.SourceTouches': WHATEVER THE INPUT: true; the input reads as it did. -/
def sourceTouchesSpec : ChangeSpec := { name := "sourceTouches", fn := fun _ => fun
  | [d1, d2, d3] => { results := [.lit (.bool true)], args := [d1, d2, d3] }
  | _ => none }
def sourceTouchesRow : OpenClaim := { program := "ytlpllebfjgflaaagreatdoor", sum := "875b0a928190953dfcccf110b54c7b869573e7b7ecbf1db7f0c89958802f36b4", func := "dataenclave/dataenclavelaw04.SourceTouches", spec := "sourceTouches", inPlace := ["slices.overlaps[[]int]", "slices.overlaps[int]"], unfollowed := true, recurses := true, named := ["internal/strconv.uint64pow10", "math/bits.deBruijn32tab", "math/bits.deBruijn64tab"], apart := false, laid := [("math/bits.deBruijn32tab", laid_math_bits_deBruijn32tab), ("math/bits.deBruijn64tab", laid_math_bits_deBruijn64tab), ("internal/strconv.uint64pow10", laid_internal_strconv_uint64pow10)] }
def SourceTouchesSaid : Prop := sourceTouchesRow.holds Tryz.pinned (OpenSpec.ofChange sourceTouchesSpec)

/-- ITS FALSE NEIGHBOUR: 'it returns false'. Refute it at one input. -/
def sourceTouchesWrong : ChangeSpec := { name := "sourceTouches", fn := fun _ => fun
  | [d1, d2, d3] => { results := [.lit (.bool false)], args := [d1, d2, d3] }
  | _ => none }
def SourceTouchesWrongFalsely : Prop := sourceTouchesRow.holds Tryz.pinned (OpenSpec.ofChange sourceTouchesWrong)

/- THE SECOND FORM. 'bulk': how many values and letters a reading holds, each counted each time it is reached (what is shared counts as often as it is met; a slice's spare places count too). A statement '..UptoSaid' is the law's where the arguments, and the package variables that the reading takes, are together of bulk at most 1048576: NARROWER than '..Said'. Prove '..Said' where nothing that the law and all that it calls make is longer than what came in: it says more and counts as full. Else prove '..UptoSaid'. A law counts once. -/
mutual
def uptoBulk {H : Type} : DataW H → Nat
  | .lit (.string bytes) => bytes.length + 1
  | .lit _ => 1
  | .nil => 1
  | .ptr d => uptoBulk d + 1
  | .slice elems spare => uptoBulkAll elems + uptoBulkAll spare + 1
  | .agg parts => uptoBulkAll parts + 1
  | .iface _ d => uptoBulk d + 1
  | .map entries => uptoBulkEntries entries + 1
  | .held _ => 1
def uptoBulkAll {H : Type} : List (DataW H) → Nat
  | [] => 0
  | d :: r => uptoBulk d + uptoBulkAll r
def uptoBulkEntries {H : Type} : List (Lit × DataW H) → Nat
  | [] => 0
  | x :: r => uptoBulkEntry x + uptoBulkEntries r
def uptoBulkEntry {H : Type} : Lit × DataW H → Nat
  | (.string bytes, d) => bytes.length + uptoBulk d + 1
  | (_, d) => uptoBulk d + 1
 end
def uptoSmall : (H : Type) → List (DataW H) → Bool := fun _ ds => decide (uptoBulkAll ds ≤ 1048576)
def OpenSpec.upto (s : _root_.Go.ChangeSpec) : _root_.Go.OpenSpec := { _root_.Go.OpenSpec.ofChange s with cond := some uptoSmall }

/-- 'dataenclavelaw04.SourceBegins', WHERE WHAT IT READS IS OF BULK AT MOST 1048576: true; the input reads as it did. -/
def sourceBeginsUptoRow : OpenClaim := { program := "ytlpllebfjgflaaagreatdoor", sum := "875b0a928190953dfcccf110b54c7b869573e7b7ecbf1db7f0c89958802f36b4", func := "dataenclave/dataenclavelaw04.SourceBegins", spec := "sourceBegins", inPlace := ["slices.overlaps[[]int]", "slices.overlaps[int]"], unfollowed := true, recurses := true, named := ["internal/strconv.uint64pow10", "math/bits.deBruijn32tab", "math/bits.deBruijn64tab"], apart := false, laid := [("math/bits.deBruijn32tab", laid_math_bits_deBruijn32tab), ("math/bits.deBruijn64tab", laid_math_bits_deBruijn64tab), ("internal/strconv.uint64pow10", laid_internal_strconv_uint64pow10)], narrowed := true }
def SourceBeginsUptoSaid : Prop := sourceBeginsUptoRow.holds Tryz.pinned (OpenSpec.upto sourceBeginsSpec)

/-- 'dataenclavelaw04.SourceEdits', WHERE WHAT IT READS IS OF BULK AT MOST 1048576: true; the input reads as it did. -/
def sourceEditsUptoRow : OpenClaim := { program := "ytlpllebfjgflaaagreatdoor", sum := "875b0a928190953dfcccf110b54c7b869573e7b7ecbf1db7f0c89958802f36b4", func := "dataenclave/dataenclavelaw04.SourceEdits", spec := "sourceEdits", inPlace := ["slices.overlaps[[]int]", "slices.overlaps[int]"], unfollowed := true, recurses := true, named := ["internal/strconv.uint64pow10", "math/bits.deBruijn32tab", "math/bits.deBruijn64tab"], apart := false, laid := [("math/bits.deBruijn32tab", laid_math_bits_deBruijn32tab), ("math/bits.deBruijn64tab", laid_math_bits_deBruijn64tab), ("internal/strconv.uint64pow10", laid_internal_strconv_uint64pow10)], narrowed := true }
def SourceEditsUptoSaid : Prop := sourceEditsUptoRow.holds Tryz.pinned (OpenSpec.upto sourceEditsSpec)

/-- 'dataenclavelaw04.SourceWithdraws', WHERE WHAT IT READS IS OF BULK AT MOST 1048576: true; the input reads as it did. -/
def sourceWithdrawsUptoRow : OpenClaim := { program := "ytlpllebfjgflaaagreatdoor", sum := "875b0a928190953dfcccf110b54c7b869573e7b7ecbf1db7f0c89958802f36b4", func := "dataenclave/dataenclavelaw04.SourceWithdraws", spec := "sourceWithdraws", inPlace := ["slices.overlaps[[]int]", "slices.overlaps[int]"], unfollowed := true, recurses := true, named := ["internal/strconv.uint64pow10", "math/bits.deBruijn32tab", "math/bits.deBruijn64tab"], apart := false, laid := [("math/bits.deBruijn32tab", laid_math_bits_deBruijn32tab), ("math/bits.deBruijn64tab", laid_math_bits_deBruijn64tab), ("internal/strconv.uint64pow10", laid_internal_strconv_uint64pow10)], narrowed := true }
def SourceWithdrawsUptoSaid : Prop := sourceWithdrawsUptoRow.holds Tryz.pinned (OpenSpec.upto sourceWithdrawsSpec)

/-- 'dataenclavelaw04.SourceSorts', WHERE WHAT IT READS IS OF BULK AT MOST 1048576: true; the input reads as it did. -/
def sourceSortsUptoRow : OpenClaim := { program := "ytlpllebfjgflaaagreatdoor", sum := "875b0a928190953dfcccf110b54c7b869573e7b7ecbf1db7f0c89958802f36b4", func := "dataenclave/dataenclavelaw04.SourceSorts", spec := "sourceSorts", inPlace := ["slices.overlaps[[]int]", "slices.overlaps[int]"], unfollowed := true, recurses := true, named := ["internal/strconv.uint64pow10", "math/bits.deBruijn32tab", "math/bits.deBruijn64tab"], apart := false, laid := [("math/bits.deBruijn32tab", laid_math_bits_deBruijn32tab), ("math/bits.deBruijn64tab", laid_math_bits_deBruijn64tab), ("internal/strconv.uint64pow10", laid_internal_strconv_uint64pow10)], narrowed := true }
def SourceSortsUptoSaid : Prop := sourceSortsUptoRow.holds Tryz.pinned (OpenSpec.upto sourceSortsSpec)

/-- 'dataenclavelaw04.SourceVersions', WHERE WHAT IT READS IS OF BULK AT MOST 1048576: true; the input reads as it did. -/
def sourceVersionsUptoRow : OpenClaim := { program := "ytlpllebfjgflaaagreatdoor", sum := "875b0a928190953dfcccf110b54c7b869573e7b7ecbf1db7f0c89958802f36b4", func := "dataenclave/dataenclavelaw04.SourceVersions", spec := "sourceVersions", inPlace := ["slices.overlaps[[]int]", "slices.overlaps[int]"], unfollowed := true, recurses := true, named := ["internal/strconv.uint64pow10", "math/bits.deBruijn32tab", "math/bits.deBruijn64tab"], apart := false, laid := [("math/bits.deBruijn32tab", laid_math_bits_deBruijn32tab), ("math/bits.deBruijn64tab", laid_math_bits_deBruijn64tab), ("internal/strconv.uint64pow10", laid_internal_strconv_uint64pow10)], narrowed := true }
def SourceVersionsUptoSaid : Prop := sourceVersionsUptoRow.holds Tryz.pinned (OpenSpec.upto sourceVersionsSpec)

/-- 'dataenclavelaw04.SourceTouches', WHERE WHAT IT READS IS OF BULK AT MOST 1048576: true; the input reads as it did. -/
def sourceTouchesUptoRow : OpenClaim := { program := "ytlpllebfjgflaaagreatdoor", sum := "875b0a928190953dfcccf110b54c7b869573e7b7ecbf1db7f0c89958802f36b4", func := "dataenclave/dataenclavelaw04.SourceTouches", spec := "sourceTouches", inPlace := ["slices.overlaps[[]int]", "slices.overlaps[int]"], unfollowed := true, recurses := true, named := ["internal/strconv.uint64pow10", "math/bits.deBruijn32tab", "math/bits.deBruijn64tab"], apart := false, laid := [("math/bits.deBruijn32tab", laid_math_bits_deBruijn32tab), ("math/bits.deBruijn64tab", laid_math_bits_deBruijn64tab), ("internal/strconv.uint64pow10", laid_internal_strconv_uint64pow10)], narrowed := true }
def SourceTouchesUptoSaid : Prop := sourceTouchesUptoRow.holds Tryz.pinned (OpenSpec.upto sourceTouchesSpec)

end Rows
end Go.Proofs.YtlpllebfjgflaaaGreatDoor
