/- PROVED HERE: for every input, the law dataenclavelaw38.RegisterForce returns true, and each argument reads behind the call as it did before. No condition. -/
import Derived.Test.YtoamapbbjffldaaRows
import Derived.Test.YtoamapbbjffldaaP2
import Derived.Test.YtoamapbbjffldaaZzP
namespace Go.Proofs.Ytoamapbbjffldaa.registerForce
open Go.RowKit Go.TL
set_option linter.unusedVariables false
theorem own : ownKnob Try.prog.godebug = none := by kernel_rfl
theorem shapes : shAll Try.prog Try.f6.params.toList = some [.sl 1 1 (.int .u8)] := by kernel_rfl
theorem contract (tss : List (List T)) (h : FitsAll [.sl 1 1 (.int .u8)] tss) : Spc Try.prog 6 (treesOf [.sl 1 1 (.int .u8)] tss) [] (vB true) [] := by
  obtain ⟨t0, _, rfl, h0, h⟩ := fitsAll_cons h
  obtain rfl := fitsAll_nil h
  obtain ⟨l, rfl, hl⟩ := fits_bytes h0
  exact c_law38_RegisterForce l
set_option maxRecDepth 100000 in
theorem lifted (os : Os) (started : os.Started) (H : Type) (enc : TypeId × Value → H) :
    ReturnsInHanded {} Try.checked os 6 .any (Rows.registerForceSpec.pre6 enc Try.prog Try.f6 Rows.registerForceRow.domain false) (Rows.registerForceSpec.post enc Try.prog Try.f6 false true false false) := by
  exact row_true (C := Try.checked) (tb := 4) started own (by kernel_rfl) Try.func6
    (ChangeSpec.witness6 (enc := enc) (C := Try.checked) false ⟨#[], #[.slice none 0 0], []⟩ 8 (by kernel_rfl) (by kernel_rfl) (by kernel_rfl) (by kernel_rfl))
    (by kernel_rfl) (by kernel_rfl) rfl Try.underlying4 rfl (fun ds hd => by match ds, hd with | [d1], _ => rfl) shapes contract
theorem over : Rows.registerForceRow.holds Try.pinned (OpenSpec.ofChange Rows.registerForceSpec) :=
  OpenClaim.holds_of_wide 6 Try.f6 rfl rfl rfl rfl rfl rfl rfl ⟨rfl, rfl, rfl, rfl, rfl⟩ rfl rfl rfl rfl rfl (by kernel_rfl) Try.func6 (by kernel_rfl)
    (of_decide_eq_true (by kernel_rfl)) (by unfold Func.isWrapper; first | (rw [if_pos (by decide +kernel)]; kernel_rfl) | (rw [if_neg (by decide +kernel)]; exact ⟨rfl, rfl⟩))
    (fun os started H enc _ => lifted os started H enc)
theorem proved : Rows.RegisterForceSaid := over
#print axioms proved
end Go.Proofs.Ytoamapbbjffldaa.registerForce

