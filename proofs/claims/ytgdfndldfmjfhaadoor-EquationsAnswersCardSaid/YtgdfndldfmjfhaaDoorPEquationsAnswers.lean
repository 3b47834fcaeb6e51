/- PROVED HERE: for every input, the law dataenclavelaw29.EquationsAnswers returns true, and its arguments read behind the call as they did before; the package-level variables that the row lists hold at the start what the program's text lays. -/
import Derived.Test.YtgdfndldfmjfhaaDoorRows
import Derived.Test.YtgdfndldfmjfhaaDoorTie
import Derived.Test.YtgdfndldfmjfhaaDoorCards
import Derived.Test.YtgdfndldfmjfhaaDoorZA29
import Derived.Test.YtgdfndldfmjfhaaDoorZzD
namespace Go.Proofs.YtgdfndldfmjfhaaDoor.equationsAnswers
open Go.RowKit Go.TL
set_option linter.unusedVariables false
theorem own:ownKnob Tryd.prog.godebug = none:=by kernel_rfl
theorem shapes:shAll Tryd.prog Tryd.f3.params.toList = some [.st (.fcons 1 (.sl 1 8 (.int .i64)) .fnil),.sl 3 56 (.st (.fcons 1 (.int .i64) (.fcons 1 (.st (.fcons 1 (.sl 1 24 (.sl 1 8 (.int .i64))) .fnil)) (.fcons 1 (.sl 1 8 (.int .i64)) .fnil)))),.sl 2 32 (.st (.fcons 1 (.sl 1 8 (.int .i64)) (.fcons 1 (.int .i64) .fnil))),.sl 1 8 (.int .i64),.int .i64,.sl 1 1 (.int .u8)]:=by kernel_rfl
theorem contract (tss:List (List T)) (h:FitsAll [.st (.fcons 1 (.sl 1 8 (.int .i64)) .fnil),.sl 3 56 (.st (.fcons 1 (.int .i64) (.fcons 1 (.st (.fcons 1 (.sl 1 24 (.sl 1 8 (.int .i64))) .fnil)) (.fcons 1 (.sl 1 8 (.int .i64)) .fnil)))),.sl 2 32 (.st (.fcons 1 (.sl 1 8 (.int .i64)) (.fcons 1 (.int .i64) .fnil))),.sl 1 8 (.int .i64),.int .i64,.sl 1 1 (.int .u8)] tss):Spc Tryd.prog 3 (treesOf [.st (.fcons 1 (.sl 1 8 (.int .i64)) .fnil),.sl 3 56 (.st (.fcons 1 (.int .i64) (.fcons 1 (.st (.fcons 1 (.sl 1 24 (.sl 1 8 (.int .i64))) .fnil)) (.fcons 1 (.sl 1 8 (.int .i64)) .fnil)))),.sl 2 32 (.st (.fcons 1 (.sl 1 8 (.int .i64)) (.fcons 1 (.int .i64) .fnil))),.sl 1 8 (.int .i64),.int .i64,.sl 1 1 (.int .u8)] tss) [] (vB true) []:=by
 obtain ⟨t0,_,rfl,h0,h⟩:=fitsAll_cons h
 obtain ⟨t1,_,rfl,h1,h⟩:=fitsAll_cons h
 obtain ⟨t2,_,rfl,h2,h⟩:=fitsAll_cons h
 obtain ⟨t3,_,rfl,h3,h⟩:=fitsAll_cons h
 obtain ⟨t4,_,rfl,h4,h⟩:=fitsAll_cons h
 obtain ⟨t5,_,rfl,h5,h⟩:=fitsAll_cons h
 obtain rfl:=fitsAll_nil h
 have hints:∀ t,Fits (.sl 1 8 (.int .i64)) t→∃ s:List Int,ofCells (.sl 1 8 (.int .i64)) t = vIs s∧s.length < 4611686018427387904:=by
  intro t ht
  obtain ⟨ns,rfl,hn,_⟩:=fits_ints ht
  exact ⟨ns,rfl,by omega⟩
 have hrls:∀ t,Fits (.st (.fcons 1 (.int .i64) (.fcons 1 (.st (.fcons 1 (.sl 1 24 (.sl 1 8 (.int .i64))) .fnil)) (.fcons 1 (.sl 1 8 (.int .i64)) .fnil)))) t→∃ s:Rls,ofCells (.st (.fcons 1 (.int .i64) (.fcons 1 (.st (.fcons 1 (.sl 1 24 (.sl 1 8 (.int .i64))) .fnil)) (.fcons 1 (.sl 1 8 (.int .i64)) .fnil)))) t = rlsT s∧(s.vals.length < 4611686018427387904∧s.gs.length < 4611686018427387904∧∀ g∈s.gs,g.length < 4611686018427387904):=by
  rintro t ⟨_,_,rfl,_,⟨a,rfl,_⟩,_,_,rfl,_,⟨_,_,rfl,_,hg,rfl⟩,_,_,rfl,_,hv,rfl⟩
  obtain ⟨gs,rfl,hgl,hgs⟩:=fits_list vIs (fun g=>g.length < 4611686018427387904) hints hg
  obtain ⟨vs,rfl,hvl,_⟩:=fits_ints hv
  exact ⟨⟨a,gs,vs⟩,rfl,by show vs.length < _;omega,by show gs.length < _;omega,hgs⟩
 have heq:∀ t,Fits (.st (.fcons 1 (.sl 1 8 (.int .i64)) (.fcons 1 (.int .i64) .fnil))) t→∃ s:Eqn,ofCells (.st (.fcons 1 (.sl 1 8 (.int .i64)) (.fcons 1 (.int .i64) .fnil))) t = eqnT s∧s.cells.length < 4611686018427387904:=by
  rintro t ⟨_,_,rfl,_,hc,_,_,rfl,_,⟨a,rfl,_⟩,rfl⟩
  obtain ⟨cs,rfl,hcl,_⟩:=fits_ints hc
  exact ⟨⟨cs,a⟩,rfl,by show cs.length < _;omega⟩
 obtain ⟨_,_,rfl,_,hs,rfl⟩:=h0
 obtain ⟨raw,rfl,hraw,_⟩:=fits_ints hs
 obtain ⟨list,rfl,hll,hlp⟩:=fits_list rlsT _ hrls h1
 obtain ⟨q,rfl,hql,hqp⟩:=fits_list eqnT _ heq h2
 obtain ⟨tb,rfl,htl,_⟩:=fits_ints h3
 obtain ⟨n,rfl,_⟩:=fits_int h4
 obtain ⟨l,rfl,hl⟩:=fits_bytes h5
 exact c_law29_EquationsAnswers raw list q tb n l (by omega) (by omega) hlp (by omega) hqp (by omega)
abbrev laid:List (String×DataW Unit):=Rows.equationsAnswersRow.laid
set_option maxRecDepth 100000 in
theorem met (os:Os) (args:Array Value):laidMetH Tryd.prog laid ((World.laidAll Tryd.prog os laid).forCall (fun _ _=>0) ⟨#[],args,[]⟩).memory:=by
 rw [Go.MakeChecks.laidMetH_plain Tryd.prog laid _ (by kernel_rfl)]
 exact laidMet_laidAll args (by kernel_rfl) (by kernel_rfl)
set_option maxRecDepth 100000 in
theorem lifted (os:Os) (started:os.Started) (H:Type) (enc:TypeId×Value→H) :
 ReturnsInHanded {} Tryd.checked os 3 .any (fun w args=>(Rows.equationsAnswersSpec.pre enc Tryd.prog Tryd.f3 Rows.equationsAnswersRow.domain false w args∧laidMetH Tryd.prog laid w)∧sizedMet enc Tryd.prog Tryd.f3 (OpenSpec.ofChange Rows.equationsAnswersSpec) false w args) (Rows.equationsAnswersSpec.post enc Tryd.prog Tryd.f3 false true false false):=by
 exact row_true_laid (C:=Tryd.checked) (tb:=4) started own (by kernel_rfl) Tryd.func3
  (ChangeSpec.witness_at (enc:=enc) (C:=Tryd.checked) (os:=os) (X:=fun w _=>laidMetH Tryd.prog laid w) false (World.laidAll Tryd.prog os laid) #[.agg #[.slice none 0 0],.slice none 0 0,.slice none 0 0,.slice none 0 0,.int .i64 0,.slice none 0 0] 8 (World.laidAll_os _ _ _) (by kernel_rfl) (by kernel_rfl) (by kernel_rfl) (by kernel_rfl) (by kernel_rfl) (met os _))
  (by kernel_rfl) (by kernel_rfl) rfl Tryd.underlying4 rfl (fun ds hd=>by match ds,hd with | [d1,d2,d3,d4,d5,d6],_=>rfl) shapes contract
theorem over:Rows.equationsAnswersRow.holds Tryd.pinned (OpenSpec.ofChange Rows.equationsAnswersSpec):=
 OpenClaim.holds_of_wide 3 Tryd.f3 rfl rfl rfl rfl rfl rfl rfl ⟨rfl,rfl,rfl,rfl,rfl⟩ rfl rfl rfl rfl rfl (by kernel_rfl) Tryd.func3 (by kernel_rfl)
  (of_decide_eq_true (by kernel_rfl)) (by unfold Func.isWrapper;first | (rw [if_pos (by decide +kernel)];kernel_rfl) | (rw [if_neg (by decide +kernel)];exact ⟨rfl,rfl⟩))
  (fun os started H enc _=>lifted os started H enc)
theorem noStand:∀ t∈Tryd.f3.params.toList,Tryd.prog.wantsStandIn t = false:=by
 have h:(Tryd.f3.params.toList.all fun t=>!(Tryd.prog.wantsStandIn t)) = true:=by kernel_rfl
 intro t ht
 have:=List.all_eq_true.1 h t ht
 simpa using this
theorem proved:Rows.EquationsAnswersCardSaid:=
 Claim7.holds_tied_plain_at .later [] [.data, .data, .data] true (true, "34964487c059ea77e890f04a8d5b5efc898152da8e8eb25077c498e110209ba5") false
  over (fun _ h=>by cases h) (by kernel_rfl) (fun _ h=>by cases h) equationsAnswers_row_tie rfl ⟨rfl,rfl⟩ (by kernel_rfl) rfl
  (fun f fn hf hfn=>by
    obtain rfl : f = 3 := Option.some.inj ((show Tryd.prog.funcNamed "dataenclave/dataenclavelaw29.EquationsAnswers" = some 3 by kernel_rfl).symm.trans hf) |>.symm
    obtain rfl:fn = Tryd.f3:=(Option.some.inj (Tryd.func3.symm.trans hfn)).symm
    exact ⟨by kernel_rfl,fun j t ht=>noStand t (by
     have:=Array.mem_of_getElem? ht
     simpa using this)⟩)
  (by kernel_rfl)
#print axioms proved
end Go.Proofs.YtgdfndldfmjfhaaDoor.equationsAnswers
