/- PROVED HERE: for every input, the law dataenclavelaw09.QuestionsTell returns true, and its arguments read behind the call as they did before; the package-level variables that the row lists hold at the start what the program's text lays. -/
import Derived.Test.YtiddpnhnaooohaaGreatDoorRows
import Derived.Test.YtiddpnhnaooohaaGreatDoorTie
import Derived.Test.YtiddpnhnaooohaaGreatDoorCards
import Derived.Test.YtiddpnhnaooohaaGreatDoorK23
namespace Go.Proofs.YtiddpnhnaooohaaGreatDoor.questionsTell
open Go.RowKit Go.TL
set_option linter.unusedVariables false
theorem own:ownKnob Tryz.prog.godebug = none:=by kernel_rfl
theorem shapes:qN1 Tryz.prog 25 Tryz.f3.params.toList = some [.sl 1 1 (.int .u8),shQ,.int .i64,.int .i64,.int .i64]:=by kernel_rfl
theorem contract (tss:List (List T)) (h:Kj cndE [.sl 1 1 (.int .u8),shQ,.int .i64,.int .i64,.int .i64] tss):Spc Tryz.prog 3 (ZK [.sl 1 1 (.int .u8),shQ,.int .i64,.int .i64,.int .i64] tss) [] (vB true) []:=by
 obtain ⟨t0,_,rfl,h0,h⟩:=wM h
 obtain ⟨t1,_,rfl,h1,h⟩:=wM h
 obtain ⟨t2,_,rfl,h2,h⟩:=wM h
 obtain ⟨t3,_,rfl,h3,h⟩:=wM h
 obtain ⟨t4,_,rfl,h4,h⟩:=wM h
 obtain rfl:=zd1 h
 obtain ⟨l,rfl,hl⟩:=zj7 h0
 obtain ⟨q,hq⟩:=ja8 h1
 obtain ⟨k,rfl,_⟩:=h2
 obtain ⟨a,rfl,_⟩:=h3
 obtain ⟨b,rfl,_⟩:=h4
 have:=Yk l q k a b
 rw [← hq] at this
 exact this
abbrev laid:List (String×DataW Unit):=Rows.questionsTellRow.laid
set_option maxRecDepth 100000 in
theorem met (os:Os) (args:Array Value):laidMetH Tryz.prog laid ((World.laidAll Tryz.prog os laid).forCall (fun _ _=>0) ⟨#[],args,[]⟩).memory:=by
 rw [Go.MakeChecks.laidMetH_plain Tryz.prog laid _ (by kernel_rfl)]
 exact laidMet_laidAll args (by kernel_rfl) (by kernel_rfl)
set_option maxRecDepth 100000 in
theorem lifted (os:Os) (started:os.Started) (H:Type) (enc:TypeId×Value→H) :
 ReturnsInHanded {} Tryz.checked os 3 .any (fun w args=>(Rows.questionsTellSpec.pre enc Tryz.prog Tryz.f3 Rows.questionsTellRow.domain false w args∧laidMetH Tryz.prog laid w)∧sizedMet enc Tryz.prog Tryz.f3 (OpenSpec.ofChange Rows.questionsTellSpec) false w args) (Rows.questionsTellSpec.post enc Tryz.prog Tryz.f3 false true false false):=by
 exact qD8 (C:=Tryz.checked) (tb:=4) started (jm2 Tryz.underlying25 (by kernel_rfl) (by kernel_rfl)) own (by kernel_rfl) Tryz.func3
  (ChangeSpec.witness_at (enc:=enc) (C:=Tryz.checked) (os:=os) (X:=fun w _=>laidMetH Tryz.prog laid w) false (World.laidAll Tryz.prog os laid) #[.slice none 0 0,.agg #[.string ⟨#[]⟩,.int .i64 0,.int .i64 0,.int .i64 0,.int .i64 0,.int .i64 0,.int .i64 0,.slice none 0 0,.slice none 0 0,.int .i64 0,.slice none 0 0,.int .i64 0,.int .i64 0,.int .i64 0,.int .i64 0,.int .i64 0,.slice none 0 0],.int .i64 0,.int .i64 0,.int .i64 0] 8 (World.laidAll_os _ _ _) (by kernel_rfl) (by kernel_rfl) (by kernel_rfl) (by kernel_rfl) (by kernel_rfl) (met os _))
  (by kernel_rfl) (by kernel_rfl) rfl Tryz.underlying4 rfl (fun ds hd=>by match ds,hd with | [d1,d2,d3,d4,d5],_=>rfl) shapes contract
theorem over:Rows.questionsTellRow.holds Tryz.pinned (OpenSpec.ofChange Rows.questionsTellSpec):=
 OpenClaim.holds_of_wide 3 Tryz.f3 rfl rfl rfl rfl rfl rfl rfl ⟨rfl,rfl,rfl,rfl,rfl⟩ rfl rfl rfl rfl rfl (by kernel_rfl) Tryz.func3 (by kernel_rfl)
  (of_decide_eq_true (by kernel_rfl)) (by unfold Func.isWrapper;first | (rw [if_pos (by decide +kernel)];kernel_rfl) | (rw [if_neg (by decide +kernel)];exact ⟨rfl,rfl⟩))
  (fun os started H enc _=>lifted os started H enc)
theorem noStand:∀ t∈Tryz.f3.params.toList,Tryz.prog.wantsStandIn t = false:=by
 have h:(Tryz.f3.params.toList.all fun t=>!(Tryz.prog.wantsStandIn t)) = true:=by kernel_rfl
 intro t ht
 have:=List.all_eq_true.1 h t ht
 simpa using this
theorem proved:Rows.QuestionsTellCardSaid:=
 Claim7.holds_tied_plain_at .later [] [.data, .data, .data] true (true, "a7cb0c53be16e9a02ea10d9fa0b66139c8ff977b7d610ea2319a66bd2ec09bf0") false
  over (fun _ h=>by cases h) (by kernel_rfl) (fun _ h=>by cases h) questionsTell_row_tie rfl ⟨rfl,rfl⟩ (by kernel_rfl) rfl
  (fun f fn hf hfn=>by
    obtain rfl : f = 3 := Option.some.inj ((show Tryz.prog.funcNamed "dataenclave/dataenclavelaw09.QuestionsTell" = some 3 by kernel_rfl).symm.trans hf) |>.symm
    obtain rfl:fn = Tryz.f3:=(Option.some.inj (Tryz.func3.symm.trans hfn)).symm
    exact ⟨by kernel_rfl,fun j t ht=>noStand t (by
     have:=Array.mem_of_getElem? ht
     simpa using this)⟩)
  (by kernel_rfl)
#print axioms proved
end Go.Proofs.YtiddpnhnaooohaaGreatDoor.questionsTell
