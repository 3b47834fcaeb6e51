/- PROVED HERE: for every input, the law dataenclavelaw12.PseudonymKeys returns true, and each argument reads behind the call as it did before. No condition. -/
import Derived.Test.YtniidokeakbdiaaRows
import Derived.Test.YtniidokeakbdiaaK
import Derived.Test.YtniidokeakbdiaaZzC
namespace Go.Proofs.Ytniidokeakbdiaa.pseudonymKeys
open Go.RowKit Go.TL
set_option linter.unusedVariables false
theorem own : ownKnob Try.prog.godebug = none := by kernel_rfl
theorem shapes : shAll Try.prog Try.f6.params.toList = some [Sh.int .i64, Sh.int .i64, Sh.int .u32, Sh.int .i64, Sh.int .i64] := by kernel_rfl
theorem contract (tss : List (List T)) (h : FitsAll [Sh.int .i64, Sh.int .i64, Sh.int .u32, Sh.int .i64, Sh.int .i64] tss) : Spc Try.prog 6 (treesOf [Sh.int .i64, Sh.int .i64, Sh.int .u32, Sh.int .i64, Sh.int .i64] tss) [] (vB true) [] := by
  obtain ⟨t0, _, rfl, h0, h⟩ := fitsAll_cons h
  obtain ⟨t1, _, rfl, h1, h⟩ := fitsAll_cons h
  obtain ⟨t2, _, rfl, h2, h⟩ := fitsAll_cons h
  obtain ⟨t3, _, rfl, h3, h⟩ := fitsAll_cons h
  obtain ⟨t4, _, rfl, h4, h⟩ := fitsAll_cons h
  obtain rfl := fitsAll_nil h
  obtain ⟨s, rfl, _⟩ := fits_int h0
  obtain ⟨n, rfl, _⟩ := fits_int h1
  obtain ⟨i, rfl, _⟩ := fits_int h2
  obtain ⟨r, rfl, _⟩ := fits_int h3
  obtain ⟨x, rfl, _⟩ := fits_int h4
  exact c6 s n i r x
set_option maxRecDepth 100000 in
theorem lifted (os : Os) (started : os.Started) (H : Type) (enc : TypeId × Value → H) :
    ReturnsInHanded {} Try.checked os 6 .any (Rows.pseudonymKeysSpec.pre6 enc Try.prog Try.f6 Rows.pseudonymKeysRow.domain false) (Rows.pseudonymKeysSpec.post enc Try.prog Try.f6 false true false false) := by
  exact row_true (C := Try.checked) (tb := 4) started own (by kernel_rfl) Try.func6
    (ChangeSpec.witness6 (enc := enc) (C := Try.checked) false ⟨#[], #[.int .i64 0, .int .i64 0, .int .u32 0, .int .i64 0, .int .i64 0], []⟩ 8 (by kernel_rfl) (by kernel_rfl) (by kernel_rfl) (by kernel_rfl))
    (by kernel_rfl) (by kernel_rfl) rfl Try.underlying4 rfl (fun ds hd => by match ds, hd with | [d1, d2, d3, d4, d5], _ => rfl) shapes contract
theorem over : Rows.pseudonymKeysRow.holds Try.pinned (OpenSpec.ofChange Rows.pseudonymKeysSpec) :=
  OpenClaim.holds_of_wide 6 Try.f6 rfl rfl rfl rfl rfl rfl rfl ⟨rfl, rfl, rfl, rfl, rfl⟩ rfl rfl rfl rfl rfl (by kernel_rfl) Try.func6 (by kernel_rfl)
    (of_decide_eq_true (by kernel_rfl)) (by unfold Func.isWrapper; first | (rw [if_pos (by decide +kernel)]; kernel_rfl) | (rw [if_neg (by decide +kernel)]; exact ⟨rfl, rfl⟩))
    (fun os started H enc _ => lifted os started H enc)
theorem proved : Rows.PseudonymKeysSaid := over
#print axioms proved
end Go.Proofs.Ytniidokeakbdiaa.pseudonymKeys
