/- PROVED HERE: for every input, the law dataenclavelaw34.RoundingAnswers returns true, and each argument reads behind the call as it did before. No condition. -/
import Derived.Test.YtnhhmfplebpipaaRows
import Derived.Test.YtnhhmfplebpipaaX
import Derived.Test.YtnhhmfplebpipaaZzP
namespace Go.Proofs.Ytnhhmfplebpipaa.roundingAnswers
open Go.RowKit Go.TL
set_option linter.unusedVariables false
theorem own : ownKnob Try.prog.godebug = none := by kernel_rfl
theorem shapes : shAll Try.prog Try.f6.params.toList = some [.int .i64, .int .i64, .sl 1 8 (.int .i64), .sl 1 8 (.int .i64), .int .i64, .sl 1 1 (.int .u8)] := by kernel_rfl
theorem contract (tss : List (List T)) (h : FitsAll [.int .i64, .int .i64, .sl 1 8 (.int .i64), .sl 1 8 (.int .i64), .int .i64, .sl 1 1 (.int .u8)] tss) : Spc Try.prog 6 (treesOf [.int .i64, .int .i64, .sl 1 8 (.int .i64), .sl 1 8 (.int .i64), .int .i64, .sl 1 1 (.int .u8)] tss) [] (vB true) [] := by
  obtain ⟨t0, _, rfl, h0, h⟩ := fitsAll_cons h
  obtain ⟨t1, _, rfl, h1, h⟩ := fitsAll_cons h
  obtain ⟨t2, _, rfl, h2, h⟩ := fitsAll_cons h
  obtain ⟨t3, _, rfl, h3, h⟩ := fitsAll_cons h
  obtain ⟨t4, _, rfl, h4, h⟩ := fitsAll_cons h
  obtain ⟨t5, _, rfl, h5, h⟩ := fitsAll_cons h
  obtain rfl := fitsAll_nil h
  obtain ⟨r, rfl, _⟩ := fits_int h0
  obtain ⟨c, rfl, _⟩ := fits_int h1
  obtain ⟨t, rfl, ht, _⟩ := fits_ints h2
  obtain ⟨x, rfl, hx, _⟩ := fits_ints h3
  obtain ⟨b, rfl, _⟩ := fits_int h4
  obtain ⟨l, rfl, hl⟩ := fits_bytes h5
  exact c6 r c t x b l (by omega) (by omega)
set_option maxRecDepth 100000 in
theorem lifted (os : Os) (started : os.Started) (H : Type) (enc : TypeId × Value → H) :
    ReturnsInHanded {} Try.checked os 6 .any (Rows.roundingAnswersSpec.pre6 enc Try.prog Try.f6 Rows.roundingAnswersRow.domain false) (Rows.roundingAnswersSpec.post enc Try.prog Try.f6 false true false false) := by
  exact row_true (C := Try.checked) (tb := 4) started own (by kernel_rfl) Try.func6
    (ChangeSpec.witness6 (enc := enc) (C := Try.checked) false ⟨#[], #[.int .i64 0, .int .i64 0, .slice none 0 0, .slice none 0 0, .int .i64 0, .slice none 0 0], []⟩ 8 (by kernel_rfl) (by kernel_rfl) (by kernel_rfl) (by kernel_rfl))
    (by kernel_rfl) (by kernel_rfl) rfl Try.underlying4 rfl (fun ds hd => by match ds, hd with | [d1, d2, d3, d4, d5, d6], _ => rfl) shapes contract
theorem over : Rows.roundingAnswersRow.holds Try.pinned (OpenSpec.ofChange Rows.roundingAnswersSpec) :=
  OpenClaim.holds_of_wide 6 Try.f6 rfl rfl rfl rfl rfl rfl rfl ⟨rfl, rfl, rfl, rfl, rfl⟩ rfl rfl rfl rfl rfl (by kernel_rfl) Try.func6 (by kernel_rfl)
    (of_decide_eq_true (by kernel_rfl)) (by unfold Func.isWrapper; first | (rw [if_pos (by decide +kernel)]; kernel_rfl) | (rw [if_neg (by decide +kernel)]; exact ⟨rfl, rfl⟩))
    (fun os started H enc _ => lifted os started H enc)
theorem proved : Rows.RoundingAnswersSaid := over
#print axioms proved
end Go.Proofs.Ytnhhmfplebpipaa.roundingAnswers

