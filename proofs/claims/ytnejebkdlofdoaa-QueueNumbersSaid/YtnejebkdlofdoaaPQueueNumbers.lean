/- PROVED HERE: for every input, the law dataenclavelaw35.QueueNumbers returns true, and its arguments read behind the call as they did before. No condition. -/
import Derived.Test.YtnejebkdlofdoaaRows
import Derived.Test.YtnejebkdlofdoaaQ35
import Derived.Test.YtnejebkdlofdoaaZzP
namespace Go.Proofs.Ytnejebkdlofdoaa.queueNumbers
open Go.RowKit Go.TL
set_option linter.unusedVariables false
theorem own : ownKnob Try.prog.godebug = none := by kernel_rfl
theorem shapes : shAll Try.prog Try.f6.params.toList = some [.sl 1 1 (.int .u8), .int .u8] := by kernel_rfl
theorem contract (tss : List (List T)) (h : FitsAll [.sl 1 1 (.int .u8), .int .u8] tss) : Spc Try.prog 6 (treesOf [.sl 1 1 (.int .u8), .int .u8] tss) [] (vB true) [] := by
  obtain ⟨t0, _, rfl, h0, h⟩ := fitsAll_cons h
  obtain ⟨t1, _, rfl, h1, h⟩ := fitsAll_cons h
  obtain rfl := fitsAll_nil h
  obtain ⟨l, rfl, hl⟩ := fits_bytes h0
  obtain ⟨k, rfl, hk⟩ := fits_int h1
  exact numbers_law l k (by have := wf_u8 hk; omega)
set_option maxRecDepth 100000 in
theorem lifted (os : Os) (started : os.Started) (H : Type) (enc : TypeId × Value → H) :
    ReturnsInHanded {} Try.checked os 6 .any (Rows.queueNumbersSpec.pre6 enc Try.prog Try.f6 Rows.queueNumbersRow.domain false) (Rows.queueNumbersSpec.post enc Try.prog Try.f6 false true false false) := by
  exact row_true (C := Try.checked) (tb := 4) started own (by kernel_rfl) Try.func6
    (ChangeSpec.witness6 (enc := enc) (C := Try.checked) false ⟨#[], #[.slice none 0 0, .int .u8 0], []⟩ 8 (by kernel_rfl) (by kernel_rfl) (by kernel_rfl) (by kernel_rfl))
    (by kernel_rfl) (by kernel_rfl) rfl Try.underlying4 rfl (fun ds hd => by match ds, hd with | [d1, d2], _ => rfl) shapes contract
theorem over : Rows.queueNumbersRow.holds Try.pinned (OpenSpec.ofChange Rows.queueNumbersSpec) :=
  OpenClaim.holds_of_wide 6 Try.f6 rfl rfl rfl rfl rfl rfl rfl ⟨rfl, rfl, rfl, rfl, rfl⟩ rfl rfl rfl rfl rfl (by kernel_rfl) Try.func6 (by kernel_rfl)
    (of_decide_eq_true (by kernel_rfl)) (by unfold Func.isWrapper; first | (rw [if_pos (by decide +kernel)]; kernel_rfl) | (rw [if_neg (by decide +kernel)]; exact ⟨rfl, rfl⟩))
    (fun os started H enc _ => lifted os started H enc)
theorem proved : Rows.QueueNumbersSaid := over
#print axioms proved
end Go.Proofs.Ytnejebkdlofdoaa.queueNumbers

