/- PROVED HERE: for every input, the law dataenclavelaw39.ApprovalsAnswers returns true, and its arguments read behind the call as they did before. No condition. -/
import Derived.Test.YtedgedggeogefaaRows
import Derived.Test.YtedgedggeogefaaX39
import Derived.Test.YtedgedggeogefaaZzP
namespace Go.Proofs.Ytedgedggeogefaa.approvalsAnswers
open Go.RowKit Go.TL
set_option linter.unusedVariables false
theorem own:ownKnob Try.prog.godebug = none:=by kernel_rfl
theorem shapes:shAll Try.prog Try.f5.params.toList = some [.sl 4 48 (.st (.fcons 1 .str (.fcons 1 .str (.fcons 1 (.int .i64) (.fcons 1 (.int .i64) .fnil))))),.st (.fcons 1 .str (.fcons 1 .str (.fcons 1 (.int .i64) (.fcons 1 (.int .i64) .fnil)))),.str,.int .i64,.int .i64,.sl 1 1 (.int .u8),.int .i64]:=by kernel_rfl
theorem contract (tss:List (List T)) (h:FitsAll [.sl 4 48 (.st (.fcons 1 .str (.fcons 1 .str (.fcons 1 (.int .i64) (.fcons 1 (.int .i64) .fnil))))),.st (.fcons 1 .str (.fcons 1 .str (.fcons 1 (.int .i64) (.fcons 1 (.int .i64) .fnil)))),.str,.int .i64,.int .i64,.sl 1 1 (.int .u8),.int .i64] tss):Spc Try.prog 5 (treesOf [.sl 4 48 (.st (.fcons 1 .str (.fcons 1 .str (.fcons 1 (.int .i64) (.fcons 1 (.int .i64) .fnil))))),.st (.fcons 1 .str (.fcons 1 .str (.fcons 1 (.int .i64) (.fcons 1 (.int .i64) .fnil)))),.str,.int .i64,.int .i64,.sl 1 1 (.int .u8),.int .i64] tss) [] (vB true) []:=by
 obtain ⟨t0,_,rfl,h0,h⟩:=fitsAll_cons h
 obtain ⟨t1,_,rfl,h1,h⟩:=fitsAll_cons h
 obtain ⟨t2,_,rfl,h2,h⟩:=fitsAll_cons h
 obtain ⟨t3,_,rfl,h3,h⟩:=fitsAll_cons h
 obtain ⟨t4,_,rfl,h4,h⟩:=fitsAll_cons h
 obtain ⟨t5,_,rfl,h5,h⟩:=fitsAll_cons h
 obtain ⟨t6,_,rfl,h6,h⟩:=fitsAll_cons h
 obtain rfl:=fitsAll_nil h
 have happ:∀ t,Fits (.st (.fcons 1 .str (.fcons 1 .str (.fcons 1 (.int .i64) (.fcons 1 (.int .i64) .fnil))))) t→∃ s:App,ofCells (.st (.fcons 1 .str (.fcons 1 .str (.fcons 1 (.int .i64) (.fcons 1 (.int .i64) .fnil))))) t = appT s∧True:=by
  rintro t ⟨_,_,rfl,_,⟨a,rfl,_⟩,_,_,rfl,_,⟨b,rfl,_⟩,_,_,rfl,_,⟨c,rfl,_⟩,_,_,rfl,_,⟨d,rfl,_⟩,rfl⟩
  exact ⟨⟨a,b,c,d⟩,rfl,trivial⟩
 obtain ⟨raw,rfl,hraw,_⟩:=fits_list appT (fun _=>True) happ h0
 obtain ⟨_,_,rfl,_,⟨x0,rfl,_⟩,_,_,rfl,_,⟨x1,rfl,_⟩,_,_,rfl,_,⟨x2,rfl,_⟩,_,_,rfl,_,⟨x3,rfl,_⟩,rfl⟩:=h1
 obtain ⟨p,rfl,hp⟩:=fits_str h2
 obtain ⟨t,rfl,_⟩:=fits_int h3
 obtain ⟨u,rfl,_⟩:=fits_int h4
 obtain ⟨l,rfl,hl⟩:=fits_bytes h5
 obtain ⟨w,rfl,_⟩:=fits_int h6
 exact c_ApprovalsAnswers raw ⟨x0,x1,x2,x3⟩ p t u l w (by omega) (by omega)
set_option maxRecDepth 100000 in
theorem lifted (os:Os) (started:os.Started) (H:Type) (enc:TypeId×Value→H) :
 ReturnsInHanded {} Try.checked os 5 .any (Rows.approvalsAnswersSpec.pre6 enc Try.prog Try.f5 Rows.approvalsAnswersRow.domain false) (Rows.approvalsAnswersSpec.post enc Try.prog Try.f5 false true false false):=by
 exact row_true (C:=Try.checked) (tb:=4) started own (by kernel_rfl) Try.func5
  (ChangeSpec.witness6 (enc:=enc) (C:=Try.checked) false ⟨#[],#[.slice none 0 0,.agg #[.string ⟨#[]⟩,.string ⟨#[]⟩,.int .i64 0,.int .i64 0],.string ⟨#[]⟩,.int .i64 0,.int .i64 0,.slice none 0 0,.int .i64 0],[]⟩ 8 (by kernel_rfl) (by kernel_rfl) (by kernel_rfl) (by kernel_rfl))
  (by kernel_rfl) (by kernel_rfl) rfl Try.underlying4 rfl (fun ds hd=>by match ds,hd with | [d1,d2,d3,d4,d5,d6,d7],_=>rfl) shapes contract
theorem over:Rows.approvalsAnswersRow.holds Try.pinned (OpenSpec.ofChange Rows.approvalsAnswersSpec):=
 OpenClaim.holds_of_wide 5 Try.f5 rfl rfl rfl rfl rfl rfl rfl ⟨rfl,rfl,rfl,rfl,rfl⟩ rfl rfl rfl rfl rfl (by kernel_rfl) Try.func5 (by kernel_rfl)
  (of_decide_eq_true (by kernel_rfl)) (by unfold Func.isWrapper;first | (rw [if_pos (by decide +kernel)];kernel_rfl) | (rw [if_neg (by decide +kernel)];exact ⟨rfl,rfl⟩))
  (fun os started H enc _=>lifted os started H enc)
theorem proved:Rows.ApprovalsAnswersSaid:=over
#print axioms proved
end Go.Proofs.Ytedgedggeogefaa.approvalsAnswers
