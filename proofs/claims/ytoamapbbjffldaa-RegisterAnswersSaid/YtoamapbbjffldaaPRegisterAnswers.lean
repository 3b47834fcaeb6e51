/- PROVED HERE: for every input, the law dataenclavelaw38.RegisterAnswers returns true, and each argument reads behind the call as it did before. No condition. -/
import Derived.Test.YtoamapbbjffldaaRows
import Derived.Test.YtoamapbbjffldaaP5
import Derived.Test.YtoamapbbjffldaaZzP
namespace Go.Proofs.Ytoamapbbjffldaa.registerAnswers
open Go.RowKit Go.TL
set_option linter.unusedVariables false
theorem own : ownKnob Try.prog.godebug = none := by kernel_rfl
theorem shapes : shAll Try.prog Try.f5.params.toList = some [.sl 1 1 (.int .u8), .st (.fcons 1 (.int .i64) (.fcons 1 (.int .u64) (.fcons 1 (.int .i64) (.fcons 1 (.int .i64) (.fcons 1 (.int .i64) (.fcons 1 .str (.fcons 1 (.int .u64) .fnil))))))), .sl 7 64 (.st (.fcons 1 (.int .i64) (.fcons 1 (.int .u64) (.fcons 1 (.int .i64) (.fcons 1 (.int .i64) (.fcons 1 (.int .i64) (.fcons 1 .str (.fcons 1 (.int .u64) .fnil)))))))), .int .i64, .int .i64, .int .i64, .str, .sl 1 1 (.int .u8), .int .i64] := by kernel_rfl
theorem contract (tss : List (List T)) (h : FitsAll [.sl 1 1 (.int .u8), .st (.fcons 1 (.int .i64) (.fcons 1 (.int .u64) (.fcons 1 (.int .i64) (.fcons 1 (.int .i64) (.fcons 1 (.int .i64) (.fcons 1 .str (.fcons 1 (.int .u64) .fnil))))))), .sl 7 64 (.st (.fcons 1 (.int .i64) (.fcons 1 (.int .u64) (.fcons 1 (.int .i64) (.fcons 1 (.int .i64) (.fcons 1 (.int .i64) (.fcons 1 .str (.fcons 1 (.int .u64) .fnil)))))))), .int .i64, .int .i64, .int .i64, .str, .sl 1 1 (.int .u8), .int .i64] tss) : Spc Try.prog 5 (treesOf [.sl 1 1 (.int .u8), .st (.fcons 1 (.int .i64) (.fcons 1 (.int .u64) (.fcons 1 (.int .i64) (.fcons 1 (.int .i64) (.fcons 1 (.int .i64) (.fcons 1 .str (.fcons 1 (.int .u64) .fnil))))))), .sl 7 64 (.st (.fcons 1 (.int .i64) (.fcons 1 (.int .u64) (.fcons 1 (.int .i64) (.fcons 1 (.int .i64) (.fcons 1 (.int .i64) (.fcons 1 .str (.fcons 1 (.int .u64) .fnil)))))))), .int .i64, .int .i64, .int .i64, .str, .sl 1 1 (.int .u8), .int .i64] tss) [] (vB true) [] := by
  obtain ⟨t0, _, rfl, h0, h⟩ := fitsAll_cons h
  obtain ⟨t1, _, rfl, h1, h⟩ := fitsAll_cons h
  obtain ⟨t2, _, rfl, h2, h⟩ := fitsAll_cons h
  obtain ⟨t3, _, rfl, h3, h⟩ := fitsAll_cons h
  obtain ⟨t4, _, rfl, h4, h⟩ := fitsAll_cons h
  obtain ⟨t5, _, rfl, h5, h⟩ := fitsAll_cons h
  obtain ⟨t6, _, rfl, h6, h⟩ := fitsAll_cons h
  obtain ⟨t7, _, rfl, h7, h⟩ := fitsAll_cons h
  obtain ⟨t8, _, rfl, h8, h⟩ := fitsAll_cons h
  obtain rfl := fitsAll_nil h
  have hent : ∀ t, Fits (.st (.fcons 1 (.int .i64) (.fcons 1 (.int .u64) (.fcons 1 (.int .i64) (.fcons 1 (.int .i64) (.fcons 1 (.int .i64) (.fcons 1 .str (.fcons 1 (.int .u64) .fnil)))))))) t → ∃ x : Ent, ofCells (.st (.fcons 1 (.int .i64) (.fcons 1 (.int .u64) (.fcons 1 (.int .i64) (.fcons 1 (.int .i64) (.fcons 1 (.int .i64) (.fcons 1 .str (.fcons 1 (.int .u64) .fnil)))))))) t = entT x ∧ True := by
    rintro t ⟨_, _, rfl, _, ⟨a, rfl, _⟩, _, _, rfl, _, ⟨b, rfl, _⟩, _, _, rfl, _, ⟨c, rfl, _⟩, _, _, rfl, _, ⟨d, rfl, _⟩, _, _, rfl, _, ⟨f, rfl, _⟩, _, _, rfl, _, ⟨s, rfl, _⟩, _, _, rfl, _, ⟨g, rfl, _⟩, rfl⟩
    exact ⟨⟨a, b, c, d, f, s, g⟩, rfl, trivial⟩
  obtain ⟨b, rfl, hb⟩ := fits_bytes h0
  obtain ⟨x, hx, _⟩ := hent _ h1
  obtain ⟨raw, rfl, _, _⟩ := fits_list entT (fun _ => True) hent h2
  obtain ⟨kind, rfl, _⟩ := fits_int h3
  obtain ⟨of_, rfl, _⟩ := fits_int h4
  obtain ⟨out, rfl, _⟩ := fits_int h5
  obtain ⟨s, rfl, _⟩ := fits_str h6
  obtain ⟨l, rfl, hl⟩ := fits_bytes h7
  obtain ⟨what, rfl, _⟩ := fits_int h8
  have := c_law38_RegisterAnswers b x raw kind of_ out s l what
  rw [← hx] at this
  exact this
set_option maxRecDepth 100000 in
theorem lifted (os : Os) (started : os.Started) (H : Type) (enc : TypeId × Value → H) :
    ReturnsInHanded {} Try.checked os 5 .any (Rows.registerAnswersSpec.pre6 enc Try.prog Try.f5 Rows.registerAnswersRow.domain false) (Rows.registerAnswersSpec.post enc Try.prog Try.f5 false true false false) := by
  exact row_true (C := Try.checked) (tb := 4) started own (by kernel_rfl) Try.func5
    (ChangeSpec.witness6 (enc := enc) (C := Try.checked) false ⟨#[], #[.slice none 0 0, .agg #[.int .i64 0, .int .u64 0, .int .i64 0, .int .i64 0, .int .i64 0, .string ⟨#[]⟩, .int .u64 0], .slice none 0 0, .int .i64 0, .int .i64 0, .int .i64 0, .string ⟨#[]⟩, .slice none 0 0, .int .i64 0], []⟩ 8 (by kernel_rfl) (by kernel_rfl) (by kernel_rfl) (by kernel_rfl))
    (by kernel_rfl) (by kernel_rfl) rfl Try.underlying4 rfl (fun ds hd => by match ds, hd with | [d1, d2, d3, d4, d5, d6, d7, d8, d9], _ => rfl) shapes contract
theorem over : Rows.registerAnswersRow.holds Try.pinned (OpenSpec.ofChange Rows.registerAnswersSpec) :=
  OpenClaim.holds_of_wide 5 Try.f5 rfl rfl rfl rfl rfl rfl rfl ⟨rfl, rfl, rfl, rfl, rfl⟩ rfl rfl rfl rfl rfl (by kernel_rfl) Try.func5 (by kernel_rfl)
    (of_decide_eq_true (by kernel_rfl)) (by unfold Func.isWrapper; first | (rw [if_pos (by decide +kernel)]; kernel_rfl) | (rw [if_neg (by decide +kernel)]; exact ⟨rfl, rfl⟩))
    (fun os started H enc _ => lifted os started H enc)
theorem proved : Rows.RegisterAnswersSaid := over
#print axioms proved
end Go.Proofs.Ytoamapbbjffldaa.registerAnswers

