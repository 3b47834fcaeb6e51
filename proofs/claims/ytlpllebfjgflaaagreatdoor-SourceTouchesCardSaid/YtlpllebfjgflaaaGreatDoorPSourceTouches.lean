/- PROVED HERE: for every input, the law dataenclavelaw04.SourceTouches returns true, and its arguments read behind the call as they did before; the package-level variables that the row lists hold at the start what the program's text lays. -/
import Derived.Test.YtlpllebfjgflaaaGreatDoorRows
import Derived.Test.YtlpllebfjgflaaaGreatDoorTie
import Derived.Test.YtlpllebfjgflaaaGreatDoorCards
import Derived.Test.YtlpllebfjgflaaaGreatDoorK22
namespace Go.Proofs.YtlpllebfjgflaaaGreatDoor.sourceTouches
open Go.RowKit Go.TL
set_option linter.unusedVariables false
theorem own:ownKnob Tryz.prog.godebug = none:=by kernel_rfl
theorem shapes:shAll Tryz.prog Tryz.f8.params.toList = some [.sl 1 1 (.int .u8),.int .i64,.int .i64]:=by kernel_rfl
theorem contract (tss:List (List T)) (h:FitsAll [.sl 1 1 (.int .u8),.int .i64,.int .i64] tss):Spc Tryz.prog 8 (treesOf [.sl 1 1 (.int .u8),.int .i64,.int .i64] tss) [] (vB true) []:=by
 obtain ⟨t0,_,rfl,h0,h⟩:=fitsAll_cons h
 obtain ⟨t1,_,rfl,h1,h⟩:=fitsAll_cons h
 obtain ⟨t2,_,rfl,h2,h⟩:=fitsAll_cons h
 obtain rfl:=fitsAll_nil h
 obtain ⟨l,rfl,hl⟩:=fits_bytes h0
 obtain ⟨n1,rfl,_⟩:=fits_int h1
 obtain ⟨n2,rfl,_⟩:=fits_int h2
 exact c_law04_SourceTouches l n1 n2
abbrev laid:List (String×DataW Unit):=Rows.sourceTouchesRow.laid
set_option maxRecDepth 100000 in
theorem met (os:Os) (args:Array Value):laidMetH Tryz.prog laid ((World.laidAll Tryz.prog os laid).forCall (fun _ _=>0) ⟨#[],args,[]⟩).memory:=by
 rw [Go.MakeChecks.laidMetH_plain Tryz.prog laid _ (by kernel_rfl)]
 exact laidMet_laidAll args (by kernel_rfl) (by kernel_rfl)
set_option maxRecDepth 100000 in
theorem lifted (os:Os) (started:os.Started) (H:Type) (enc:TypeId×Value→H) :
 ReturnsInHanded {} Tryz.checked os 8 .any (fun w args=>(Rows.sourceTouchesSpec.pre enc Tryz.prog Tryz.f8 Rows.sourceTouchesRow.domain false w args∧laidMetH Tryz.prog laid w)∧sizedMet enc Tryz.prog Tryz.f8 (OpenSpec.ofChange Rows.sourceTouchesSpec) false w args) (Rows.sourceTouchesSpec.post enc Tryz.prog Tryz.f8 false true false false):=by
 exact row_true_laid (C:=Tryz.checked) (tb:=4) started own (by kernel_rfl) Tryz.func8
  (ChangeSpec.witness_at (enc:=enc) (C:=Tryz.checked) (os:=os) (X:=fun w _=>laidMetH Tryz.prog laid w) false (World.laidAll Tryz.prog os laid) #[.slice none 0 0,.int .i64 0,.int .i64 0] 8 (World.laidAll_os _ _ _) (by kernel_rfl) (by kernel_rfl) (by kernel_rfl) (by kernel_rfl) (by kernel_rfl) (met os _))
  (by kernel_rfl) (by kernel_rfl) rfl Tryz.underlying4 rfl (fun ds hd=>by match ds,hd with | [d1,d2,d3],_=>rfl) shapes contract
theorem over:Rows.sourceTouchesRow.holds Tryz.pinned (OpenSpec.ofChange Rows.sourceTouchesSpec):=
 OpenClaim.holds_of_wide 8 Tryz.f8 rfl rfl rfl rfl rfl rfl rfl ⟨rfl,rfl,rfl,rfl,rfl⟩ rfl rfl rfl rfl rfl (by kernel_rfl) Tryz.func8 (by kernel_rfl)
  (of_decide_eq_true (by kernel_rfl)) (by unfold Func.isWrapper;first | (rw [if_pos (by decide +kernel)];kernel_rfl) | (rw [if_neg (by decide +kernel)];exact ⟨rfl,rfl⟩))
  (fun os started H enc _=>lifted os started H enc)
theorem noStand:∀ t∈Tryz.f8.params.toList,Tryz.prog.wantsStandIn t = false:=by
 have h:(Tryz.f8.params.toList.all fun t=>!(Tryz.prog.wantsStandIn t)) = true:=by kernel_rfl
 intro t ht
 have:=List.all_eq_true.1 h t ht
 simpa using this
theorem proved:Rows.SourceTouchesCardSaid:=
 Claim7.holds_tied_plain_at .later [] [.data, .data, .data] true (true, "75d4791a0ac1f334aa2d35288a566e16dabaa382bc9c38d4f606c5fcfe7d6ac7") false
  over (fun _ h=>by cases h) (by kernel_rfl) (fun _ h=>by cases h) sourceTouches_row_tie rfl ⟨rfl,rfl⟩ (by kernel_rfl) rfl
  (fun f fn hf hfn=>by
    obtain rfl : f = 8 := Option.some.inj ((show Tryz.prog.funcNamed "dataenclave/dataenclavelaw04.SourceTouches" = some 8 by kernel_rfl).symm.trans hf) |>.symm
    obtain rfl:fn = Tryz.f8:=(Option.some.inj (Tryz.func8.symm.trans hfn)).symm
    exact ⟨by kernel_rfl,fun j t ht=>noStand t (by
     have:=Array.mem_of_getElem? ht
     simpa using this)⟩)
  (by kernel_rfl)
#print axioms proved
end Go.Proofs.YtlpllebfjgflaaaGreatDoor.sourceTouches
