/- PROVED HERE: for every input, the law dataenclavelaw38.RegisterChain returns true, and each argument reads behind the call as it did before. No condition. -/
import Derived.Test.YtoamapbbjffldaaRows
import Derived.Test.YtoamapbbjffldaaP1
import Derived.Test.YtoamapbbjffldaaZzP
namespace Go.Proofs.Ytoamapbbjffldaa.registerChain
open Go.RowKit Go.TL
set_option linter.unusedVariables false
theorem own : ownKnob Try.prog.godebug = none := by kernel_rfl
theorem shapes : shAll Try.prog Try.f3.params.toList = some [.sl 1 1 (.int .u8), .int .u8, .str] := by kernel_rfl
theorem contract (tss : List (List T)) (h : FitsAll [.sl 1 1 (.int .u8), .int .u8, .str] tss) : Spc Try.prog 3 (treesOf [.sl 1 1 (.int .u8), .int .u8, .str] tss) [] (vB true) [] := by
  obtain ⟨t0, _, rfl, h0, h⟩ := fitsAll_cons h
  obtain ⟨t1, _, rfl, h1, h⟩ := fitsAll_cons h
  obtain ⟨t2, _, rfl, h2, h⟩ := fitsAll_cons h
  obtain rfl := fitsAll_nil h
  obtain ⟨l, rfl, hl⟩ := fits_bytes h0
  obtain ⟨a, rfl, ha⟩ := fits_int h1
  obtain ⟨s, rfl, hs⟩ := fits_str h2
  have := wf_u8 ha
  exact c_law38_RegisterChain l a s (by omega)
set_option maxRecDepth 100000 in
theorem lifted (os : Os) (started : os.Started) (H : Type) (enc : TypeId × Value → H) :
    ReturnsInHanded {} Try.checked os 3 .any (Rows.registerChainSpec.pre6 enc Try.prog Try.f3 Rows.registerChainRow.domain false) (Rows.registerChainSpec.post enc Try.prog Try.f3 false true false false) := by
  exact row_true (C := Try.checked) (tb := 4) started own (by kernel_rfl) Try.func3
    (ChangeSpec.witness6 (enc := enc) (C := Try.checked) false ⟨#[], #[.slice none 0 0, .int .u8 0, .string ⟨#[]⟩], []⟩ 8 (by kernel_rfl) (by kernel_rfl) (by kernel_rfl) (by kernel_rfl))
    (by kernel_rfl) (by kernel_rfl) rfl Try.underlying4 rfl (fun ds hd => by match ds, hd with | [d1, d2, d3], _ => rfl) shapes contract
theorem over : Rows.registerChainRow.holds Try.pinned (OpenSpec.ofChange Rows.registerChainSpec) :=
  OpenClaim.holds_of_wide 3 Try.f3 rfl rfl rfl rfl rfl rfl rfl ⟨rfl, rfl, rfl, rfl, rfl⟩ rfl rfl rfl rfl rfl (by kernel_rfl) Try.func3 (by kernel_rfl)
    (of_decide_eq_true (by kernel_rfl)) (by unfold Func.isWrapper; first | (rw [if_pos (by decide +kernel)]; kernel_rfl) | (rw [if_neg (by decide +kernel)]; exact ⟨rfl, rfl⟩))
    (fun os started H enc _ => lifted os started H enc)
theorem proved : Rows.RegisterChainSaid := over
#print axioms proved
end Go.Proofs.Ytoamapbbjffldaa.registerChain

