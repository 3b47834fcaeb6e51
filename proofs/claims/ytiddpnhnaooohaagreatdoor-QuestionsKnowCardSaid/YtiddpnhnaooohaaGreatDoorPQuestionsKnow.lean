/- PROVED HERE: for every input, the law dataenclavelaw09.QuestionsKnow returns true, and its arguments read behind the call as they did before; the package-level variables that the row lists hold at the start what the program's text lays. -/
import Derived.Test.YtiddpnhnaooohaaGreatDoorRows
import Derived.Test.YtiddpnhnaooohaaGreatDoorTie
import Derived.Test.YtiddpnhnaooohaaGreatDoorCards
import Derived.Test.YtiddpnhnaooohaaGreatDoorK23
namespace Go.Proofs.YtiddpnhnaooohaaGreatDoor.questionsKnow
open Go.RowKit Go.TL
set_option linter.unusedVariables false
theorem own:ownKnob Tryz.prog.godebug = none:=by kernel_rfl
theorem shapes:zE5 Tryz.prog Tryz.f5.params.toList = some [.sl 1 1 (.int .u8)]:=by kernel_rfl
theorem contract (tss:List (List T)) (h:qb5 [.sl 1 1 (.int .u8)] tss):Spc Tryz.prog 5 (WR [.sl 1 1 (.int .u8)] tss) [] (vB true) []:=by
 obtain ⟨t0,_,rfl,h0,h⟩:=zg7 h
 obtain rfl:=zn0 h
 obtain ⟨l,rfl,hl⟩:=zE7 h0
 exact Yy l
abbrev laid:List (String×DataW Unit):=Rows.questionsKnowRow.laid
set_option maxRecDepth 100000 in
theorem met (os:Os) (args:Array Value):laidMetH Tryz.prog laid ((World.laidAll Tryz.prog os laid).forCall (fun _ _=>0) ⟨#[],args,[]⟩).memory:=by
 rw [Go.MakeChecks.laidMetH_plain Tryz.prog laid _ (by kernel_rfl)]
 exact laidMet_laidAll args (by kernel_rfl) (by kernel_rfl)
set_option maxRecDepth 100000 in
theorem lifted (os:Os) (started:os.Started) (H:Type) (enc:TypeId×Value→H) :
 ReturnsInHanded {} Tryz.checked os 5 .any (fun w args=>(Rows.questionsKnowSpec.pre enc Tryz.prog Tryz.f5 Rows.questionsKnowRow.domain false w args∧laidMetH Tryz.prog laid w)∧sizedMet enc Tryz.prog Tryz.f5 (OpenSpec.ofChange Rows.questionsKnowSpec) false w args) (Rows.questionsKnowSpec.post enc Tryz.prog Tryz.f5 false true false false):=by
 exact qT7 (C:=Tryz.checked) (tb:=4) started own (by kernel_rfl) Tryz.func5
  (ChangeSpec.witness_at (enc:=enc) (C:=Tryz.checked) (os:=os) (X:=fun w _=>laidMetH Tryz.prog laid w) false (World.laidAll Tryz.prog os laid) #[.slice none 0 0] 8 (World.laidAll_os _ _ _) (by kernel_rfl) (by kernel_rfl) (by kernel_rfl) (by kernel_rfl) (by kernel_rfl) (met os _))
  (by kernel_rfl) (by kernel_rfl) rfl Tryz.underlying4 rfl (fun ds hd=>by match ds,hd with | [d1],_=>rfl) shapes contract
theorem over:Rows.questionsKnowRow.holds Tryz.pinned (OpenSpec.ofChange Rows.questionsKnowSpec):=
 OpenClaim.holds_of_wide 5 Tryz.f5 rfl rfl rfl rfl rfl rfl rfl ⟨rfl,rfl,rfl,rfl,rfl⟩ rfl rfl rfl rfl rfl (by kernel_rfl) Tryz.func5 (by kernel_rfl)
  (of_decide_eq_true (by kernel_rfl)) (by unfold Func.isWrapper;first | (rw [if_pos (by decide +kernel)];kernel_rfl) | (rw [if_neg (by decide +kernel)];exact ⟨rfl,rfl⟩))
  (fun os started H enc _=>lifted os started H enc)
theorem noStand:∀ t∈Tryz.f5.params.toList,Tryz.prog.wantsStandIn t = false:=by
 have h:(Tryz.f5.params.toList.all fun t=>!(Tryz.prog.wantsStandIn t)) = true:=by kernel_rfl
 intro t ht
 have:=List.all_eq_true.1 h t ht
 simpa using this
theorem proved:Rows.QuestionsKnowCardSaid:=
 Claim7.holds_tied_plain_at .later [] [.data, .data, .data] true (true, "a7cb0c53be16e9a02ea10d9fa0b66139c8ff977b7d610ea2319a66bd2ec09bf0") false
  over (fun _ h=>by cases h) (by kernel_rfl) (fun _ h=>by cases h) questionsKnow_row_tie rfl ⟨rfl,rfl⟩ (by kernel_rfl) rfl
  (fun f fn hf hfn=>by
    obtain rfl : f = 5 := Option.some.inj ((show Tryz.prog.funcNamed "dataenclave/dataenclavelaw09.QuestionsKnow" = some 5 by kernel_rfl).symm.trans hf) |>.symm
    obtain rfl:fn = Tryz.f5:=(Option.some.inj (Tryz.func5.symm.trans hfn)).symm
    exact ⟨by kernel_rfl,fun j t ht=>noStand t (by
     have:=Array.mem_of_getElem? ht
     simpa using this)⟩)
  (by kernel_rfl)
#print axioms proved
end Go.Proofs.YtiddpnhnaooohaaGreatDoor.questionsKnow
