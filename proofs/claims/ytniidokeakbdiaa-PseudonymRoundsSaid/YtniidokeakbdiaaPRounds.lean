/- PROVED HERE: for every input, the law dataenclavelaw12.PseudonymRounds returns true, and each argument reads behind the call as it did before. No condition. -/
import Derived.Test.YtniidokeakbdiaaRows
import Derived.Test.YtniidokeakbdiaaR
import Derived.Test.YtniidokeakbdiaaZzC
namespace Go.Proofs.Ytniidokeakbdiaa.pseudonymRounds
open Go.RowKit Go.TL
set_option linter.unusedVariables false
theorem own : ownKnob Try.prog.godebug = none := by kernel_rfl
theorem shapes : shAll Try.prog Try.f7.params.toList = some [Sh.int .i64, Sh.int .u32] := by kernel_rfl
theorem contract (tss : List (List T)) (h : FitsAll [Sh.int .i64, Sh.int .u32] tss) : Spc Try.prog 7 (treesOf [Sh.int .i64, Sh.int .u32] tss) [] (vB true) [] := by
  obtain ⟨t0, _, rfl, h0, h⟩ := fitsAll_cons h
  obtain ⟨t1, _, rfl, h1, h⟩ := fitsAll_cons h
  obtain rfl := fitsAll_nil h
  obtain ⟨s, rfl, _⟩ := fits_int h0
  obtain ⟨n, rfl, hn⟩ := fits_int h1
  exact c7 s n (wf_u32 hn).1
set_option maxRecDepth 100000 in
theorem lifted (os : Os) (started : os.Started) (H : Type) (enc : TypeId × Value → H) :
    ReturnsInHanded {} Try.checked os 7 .any (Rows.pseudonymRoundsSpec.pre6 enc Try.prog Try.f7 Rows.pseudonymRoundsRow.domain false) (Rows.pseudonymRoundsSpec.post enc Try.prog Try.f7 false true false false) := by
  exact row_true (C := Try.checked) (tb := 4) started own (by kernel_rfl) Try.func7
    (ChangeSpec.witness6 (enc := enc) (C := Try.checked) false ⟨#[], #[.int .i64 0, .int .u32 0], []⟩ 8 (by kernel_rfl) (by kernel_rfl) (by kernel_rfl) (by kernel_rfl))
    (by kernel_rfl) (by kernel_rfl) rfl Try.underlying4 rfl (fun ds hd => by match ds, hd with | [d1, d2], _ => rfl) shapes contract
theorem over : Rows.pseudonymRoundsRow.holds Try.pinned (OpenSpec.ofChange Rows.pseudonymRoundsSpec) :=
  OpenClaim.holds_of_wide 7 Try.f7 rfl rfl rfl rfl rfl rfl rfl ⟨rfl, rfl, rfl, rfl, rfl⟩ rfl rfl rfl rfl rfl (by kernel_rfl) Try.func7 (by kernel_rfl)
    (of_decide_eq_true (by kernel_rfl)) (by unfold Func.isWrapper; first | (rw [if_pos (by decide +kernel)]; kernel_rfl) | (rw [if_neg (by decide +kernel)]; exact ⟨rfl, rfl⟩))
    (fun os started H enc _ => lifted os started H enc)
theorem proved : Rows.PseudonymRoundsSaid := over
#print axioms proved
end Go.Proofs.Ytniidokeakbdiaa.pseudonymRounds
