/- PROVED HERE: for every input, the law dataenclavelaw38.RegisterRefuses returns true, and each argument reads behind the call as it did before. No condition. -/
import Derived.Test.YtoamapbbjffldaaRows
import Derived.Test.YtoamapbbjffldaaP4
import Derived.Test.YtoamapbbjffldaaZzP
namespace Go.Proofs.Ytoamapbbjffldaa.registerRefuses
open Go.RowKit Go.TL
set_option linter.unusedVariables false
theorem own : ownKnob Try.prog.godebug = none := by kernel_rfl
theorem shapes : shAll Try.prog Try.f7.params.toList = some [.sl 1 1 (.int .u8), .int .u8, .int .u8] := by kernel_rfl
theorem contract (tss : List (List T)) (h : FitsAll [.sl 1 1 (.int .u8), .int .u8, .int .u8] tss) : Spc Try.prog 7 (treesOf [.sl 1 1 (.int .u8), .int .u8, .int .u8] tss) [] (vB true) [] := by
  obtain ⟨t0, _, rfl, h0, h⟩ := fitsAll_cons h
  obtain ⟨t1, _, rfl, h1, h⟩ := fitsAll_cons h
  obtain ⟨t2, _, rfl, h2, h⟩ := fitsAll_cons h
  obtain rfl := fitsAll_nil h
  obtain ⟨l, rfl, hl⟩ := fits_bytes h0
  obtain ⟨a, rfl, ha⟩ := fits_int h1
  obtain ⟨b, rfl, hb⟩ := fits_int h2
  have := wf_u8 ha
  have := wf_u8 hb
  exact c_law38_RegisterRefuses l a b (by omega) (by omega)
set_option maxRecDepth 100000 in
theorem lifted (os : Os) (started : os.Started) (H : Type) (enc : TypeId × Value → H) :
    ReturnsInHanded {} Try.checked os 7 .any (Rows.registerRefusesSpec.pre6 enc Try.prog Try.f7 Rows.registerRefusesRow.domain false) (Rows.registerRefusesSpec.post enc Try.prog Try.f7 false true false false) := by
  exact row_true (C := Try.checked) (tb := 4) started own (by kernel_rfl) Try.func7
    (ChangeSpec.witness6 (enc := enc) (C := Try.checked) false ⟨#[], #[.slice none 0 0, .int .u8 0, .int .u8 0], []⟩ 8 (by kernel_rfl) (by kernel_rfl) (by kernel_rfl) (by kernel_rfl))
    (by kernel_rfl) (by kernel_rfl) rfl Try.underlying4 rfl (fun ds hd => by match ds, hd with | [d1, d2, d3], _ => rfl) shapes contract
theorem over : Rows.registerRefusesRow.holds Try.pinned (OpenSpec.ofChange Rows.registerRefusesSpec) :=
  OpenClaim.holds_of_wide 7 Try.f7 rfl rfl rfl rfl rfl rfl rfl ⟨rfl, rfl, rfl, rfl, rfl⟩ rfl rfl rfl rfl rfl (by kernel_rfl) Try.func7 (by kernel_rfl)
    (of_decide_eq_true (by kernel_rfl)) (by unfold Func.isWrapper; first | (rw [if_pos (by decide +kernel)]; kernel_rfl) | (rw [if_neg (by decide +kernel)]; exact ⟨rfl, rfl⟩))
    (fun os started H enc _ => lifted os started H enc)
theorem proved : Rows.RegisterRefusesSaid := over
#print axioms proved
end Go.Proofs.Ytoamapbbjffldaa.registerRefuses

