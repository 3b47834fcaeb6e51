/- PROVED HERE: for every input, the law dataenclavelaw39.ApprovalsOrder returns true, and its argument reads behind the call as it did before. No condition. -/
import Derived.Test.YtkhhhbjgpnhpgaaRows
import Derived.Test.YtkhhhbjgpnhpgaaL39
import Derived.Test.YtkhhhbjgpnhpgaaZzP
namespace Go.Proofs.Ytkhhhbjgpnhpgaa.approvalsOrder
open Go.RowKit Go.TL
set_option linter.unusedVariables false
theorem own : ownKnob Try.prog.godebug = none := by kernel_rfl
theorem shapes : shAll Try.prog Try.f4.params.toList = some [.sl 1 1 (.int .u8)] := by kernel_rfl
theorem contract (tss : List (List T)) (h : FitsAll [.sl 1 1 (.int .u8)] tss) : Spc Try.prog 4 (treesOf [.sl 1 1 (.int .u8)] tss) [] (vB true) [] := by
  obtain ⟨t0, _, rfl, h0, h⟩ := fitsAll_cons h
  obtain rfl := fitsAll_nil h
  obtain ⟨l, rfl, hl⟩ := fits_bytes h0
  exact c_ApprovalsOrder l
set_option maxRecDepth 100000 in
theorem lifted (os : Os) (started : os.Started) (H : Type) (enc : TypeId × Value → H) :
    ReturnsInHanded {} Try.checked os 4 .any (Rows.approvalsOrderSpec.pre6 enc Try.prog Try.f4 Rows.approvalsOrderRow.domain false) (Rows.approvalsOrderSpec.post enc Try.prog Try.f4 false true false false) := by
  exact row_true (C := Try.checked) (tb := 4) started own (by kernel_rfl) Try.func4
    (ChangeSpec.witness6 (enc := enc) (C := Try.checked) false ⟨#[], #[.slice none 0 0], []⟩ 8 (by kernel_rfl) (by kernel_rfl) (by kernel_rfl) (by kernel_rfl))
    (by kernel_rfl) (by kernel_rfl) rfl Try.underlying4 rfl (fun ds hd => by match ds, hd with | [d1], _ => rfl) shapes contract
theorem over : Rows.approvalsOrderRow.holds Try.pinned (OpenSpec.ofChange Rows.approvalsOrderSpec) :=
  OpenClaim.holds_of_wide 4 Try.f4 rfl rfl rfl rfl rfl rfl rfl ⟨rfl, rfl, rfl, rfl, rfl⟩ rfl rfl rfl rfl rfl (by kernel_rfl) Try.func4 (by kernel_rfl)
    (of_decide_eq_true (by kernel_rfl)) (by unfold Func.isWrapper; first | (rw [if_pos (by decide +kernel)]; kernel_rfl) | (rw [if_neg (by decide +kernel)]; exact ⟨rfl, rfl⟩))
    (fun os started H enc _ => lifted os started H enc)
theorem proved : Rows.ApprovalsOrderSaid := over
#print axioms proved
end Go.Proofs.Ytkhhhbjgpnhpgaa.approvalsOrder

