/- PROVED HERE: for every input, the law dataenclavelaw35.QueueKeeps returns true, and its arguments read behind the call as they did before. No condition. -/
import Derived.Test.YtnejebkdlofdoaaRows
import Derived.Test.YtnejebkdlofdoaaS35
import Derived.Test.YtnejebkdlofdoaaZzP
namespace Go.Proofs.Ytnejebkdlofdoaa.queueKeeps
open Go.RowKit Go.TL
set_option linter.unusedVariables false
theorem own : ownKnob Try.prog.godebug = none := by kernel_rfl
theorem shapes : shAll Try.prog Try.f5.params.toList = some [.sl 1 1 (.int .u8), .int .i64] := by kernel_rfl
theorem contract (tss : List (List T)) (h : FitsAll [.sl 1 1 (.int .u8), .int .i64] tss) : Spc Try.prog 5 (treesOf [.sl 1 1 (.int .u8), .int .i64] tss) [] (vB true) [] := by
  obtain ⟨t0, _, rfl, h0, h⟩ := fitsAll_cons h
  obtain ⟨t1, _, rfl, h1, h⟩ := fitsAll_cons h
  obtain rfl := fitsAll_nil h
  obtain ⟨l, rfl, hl⟩ := fits_bytes h0
  obtain ⟨k, rfl, hk⟩ := fits_int h1
  exact keeps_law l k
set_option maxRecDepth 100000 in
theorem lifted (os : Os) (started : os.Started) (H : Type) (enc : TypeId × Value → H) :
    ReturnsInHanded {} Try.checked os 5 .any (Rows.queueKeepsSpec.pre6 enc Try.prog Try.f5 Rows.queueKeepsRow.domain false) (Rows.queueKeepsSpec.post enc Try.prog Try.f5 false true false false) := by
  exact row_true (C := Try.checked) (tb := 4) started own (by kernel_rfl) Try.func5
    (ChangeSpec.witness6 (enc := enc) (C := Try.checked) false ⟨#[], #[.slice none 0 0, .int .i64 0], []⟩ 8 (by kernel_rfl) (by kernel_rfl) (by kernel_rfl) (by kernel_rfl))
    (by kernel_rfl) (by kernel_rfl) rfl Try.underlying4 rfl (fun ds hd => by match ds, hd with | [d1, d2], _ => rfl) shapes contract
theorem over : Rows.queueKeepsRow.holds Try.pinned (OpenSpec.ofChange Rows.queueKeepsSpec) :=
  OpenClaim.holds_of_wide 5 Try.f5 rfl rfl rfl rfl rfl rfl rfl ⟨rfl, rfl, rfl, rfl, rfl⟩ rfl rfl rfl rfl rfl (by kernel_rfl) Try.func5 (by kernel_rfl)
    (of_decide_eq_true (by kernel_rfl)) (by unfold Func.isWrapper; first | (rw [if_pos (by decide +kernel)]; kernel_rfl) | (rw [if_neg (by decide +kernel)]; exact ⟨rfl, rfl⟩))
    (fun os started H enc _ => lifted os started H enc)
theorem proved : Rows.QueueKeepsSaid := over
#print axioms proved
end Go.Proofs.Ytnejebkdlofdoaa.queueKeeps

