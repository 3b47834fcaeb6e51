/- PROVED HERE: for every input, the law dataenclavelaw35.QueueAnswers returns true, and its arguments read behind the call as they did before. No condition. -/
import Derived.Test.YtnejebkdlofdoaaRows
import Derived.Test.YtnejebkdlofdoaaT35
import Derived.Test.YtnejebkdlofdoaaZzP
namespace Go.Proofs.Ytnejebkdlofdoaa.queueAnswers
open Go.RowKit Go.TL
set_option linter.unusedVariables false
theorem own : ownKnob Try.prog.godebug = none := by kernel_rfl
theorem shapes : shAll Try.prog Try.f3.params.toList = some [.st (.fcons 1 (.int .i64) (.fcons 1 .str (.fcons 1 .str (.fcons 1 (.int .i64) (.fcons 1 .str (.fcons 1 (.int .i64) (.fcons 1 (.sl 2 24 (.st (.fcons 1 .str (.fcons 1 (.int .i64) .fnil)))) .fnil))))))), .sl 1 1 (.int .u8), .st (.fcons 1 (.sl 1 1 (.int .u8)) (.fcons 1 (.sl 1 1 (.int .u8)) .fnil)), .sl 1 1 (.int .u8), .int .i64] := by kernel_rfl
theorem contract (tss : List (List T)) (h : FitsAll [.st (.fcons 1 (.int .i64) (.fcons 1 .str (.fcons 1 .str (.fcons 1 (.int .i64) (.fcons 1 .str (.fcons 1 (.int .i64) (.fcons 1 (.sl 2 24 (.st (.fcons 1 .str (.fcons 1 (.int .i64) .fnil)))) .fnil))))))), .sl 1 1 (.int .u8), .st (.fcons 1 (.sl 1 1 (.int .u8)) (.fcons 1 (.sl 1 1 (.int .u8)) .fnil)), .sl 1 1 (.int .u8), .int .i64] tss) : Spc Try.prog 3 (treesOf [.st (.fcons 1 (.int .i64) (.fcons 1 .str (.fcons 1 .str (.fcons 1 (.int .i64) (.fcons 1 .str (.fcons 1 (.int .i64) (.fcons 1 (.sl 2 24 (.st (.fcons 1 .str (.fcons 1 (.int .i64) .fnil)))) .fnil))))))), .sl 1 1 (.int .u8), .st (.fcons 1 (.sl 1 1 (.int .u8)) (.fcons 1 (.sl 1 1 (.int .u8)) .fnil)), .sl 1 1 (.int .u8), .int .i64] tss) [] (vB true) [] := by
  obtain ⟨t0, _, rfl, h0, h⟩ := fitsAll_cons h
  obtain ⟨t1, _, rfl, h1, h⟩ := fitsAll_cons h
  obtain ⟨t2, _, rfl, h2, h⟩ := fitsAll_cons h
  obtain ⟨t3, _, rfl, h3, h⟩ := fitsAll_cons h
  obtain ⟨t4, _, rfl, h4, h⟩ := fitsAll_cons h
  obtain rfl := fitsAll_nil h
  have hsig : ∀ t, Fits (.st (.fcons 1 .str (.fcons 1 (.int .i64) .fnil))) t → ∃ s : Sig, ofCells (.st (.fcons 1 .str (.fcons 1 (.int .i64) .fnil))) t = sigT s ∧ True := by
    rintro t ⟨_, _, rfl, _, ⟨a, rfl, _⟩, _, _, rfl, _, ⟨b, rfl, _⟩, rfl⟩
    exact ⟨⟨a, b⟩, rfl, trivial⟩
  obtain ⟨_, _, rfl, _, ⟨x0, rfl, _⟩, _, _, rfl, _, ⟨x1, rfl, _⟩, _, _, rfl, _, ⟨x2, rfl, _⟩, _, _, rfl, _, ⟨x3, rfl, _⟩, _, _, rfl, _, ⟨x4, rfl, hx4⟩, _, _, rfl, _, ⟨x5, rfl, _⟩, _, _, rfl, _, hs6, rfl⟩ := h0
  obtain ⟨L, rfl, hL, _⟩ := fits_list sigT (fun _ => True) hsig hs6
  obtain ⟨b, rfl, hb⟩ := fits_bytes h1
  obtain ⟨_, _, rfl, _, hd1, _, _, rfl, _, hd2, rfl⟩ := h2
  obtain ⟨a, rfl, ha⟩ := fits_bytes hd1
  obtain ⟨p, rfl, hp⟩ := fits_bytes hd2
  obtain ⟨l, rfl, hl⟩ := fits_bytes h3
  obtain ⟨k, rfl, _⟩ := fits_int h4
  exact answers_law ⟨x0, x1, x2, x3, x4, x5, L⟩ b a p l k (by show L.length < _; omega) (by omega) (by omega) (by omega) (by show x4.size < _; omega)
set_option maxRecDepth 100000 in
theorem lifted (os : Os) (started : os.Started) (H : Type) (enc : TypeId × Value → H) :
    ReturnsInHanded {} Try.checked os 3 .any (Rows.queueAnswersSpec.pre6 enc Try.prog Try.f3 Rows.queueAnswersRow.domain false) (Rows.queueAnswersSpec.post enc Try.prog Try.f3 false true false false) := by
  exact row_true (C := Try.checked) (tb := 4) started own (by kernel_rfl) Try.func3
    (ChangeSpec.witness6 (enc := enc) (C := Try.checked) false ⟨#[], #[.agg #[.int .i64 0, .string ⟨#[]⟩, .string ⟨#[]⟩, .int .i64 0, .string ⟨#[]⟩, .int .i64 0, .slice none 0 0], .slice none 0 0, .agg #[.slice none 0 0, .slice none 0 0], .slice none 0 0, .int .i64 0], []⟩ 8 (by kernel_rfl) (by kernel_rfl) (by kernel_rfl) (by kernel_rfl))
    (by kernel_rfl) (by kernel_rfl) rfl Try.underlying4 rfl (fun ds hd => by match ds, hd with | [d1, d2, d3, d4, d5], _ => rfl) shapes contract
theorem over : Rows.queueAnswersRow.holds Try.pinned (OpenSpec.ofChange Rows.queueAnswersSpec) :=
  OpenClaim.holds_of_wide 3 Try.f3 rfl rfl rfl rfl rfl rfl rfl ⟨rfl, rfl, rfl, rfl, rfl⟩ rfl rfl rfl rfl rfl (by kernel_rfl) Try.func3 (by kernel_rfl)
    (of_decide_eq_true (by kernel_rfl)) (by unfold Func.isWrapper; first | (rw [if_pos (by decide +kernel)]; kernel_rfl) | (rw [if_neg (by decide +kernel)]; exact ⟨rfl, rfl⟩))
    (fun os started H enc _ => lifted os started H enc)
theorem proved : Rows.QueueAnswersSaid := over
#print axioms proved
end Go.Proofs.Ytnejebkdlofdoaa.queueAnswers

