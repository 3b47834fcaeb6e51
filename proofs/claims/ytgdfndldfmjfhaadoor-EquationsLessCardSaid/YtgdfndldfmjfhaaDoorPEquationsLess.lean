/- PROVED HERE: for every input, the law dataenclavelaw29.EquationsLess returns true, and its argument reads behind the call as it did before; the package-level variables that the row lists hold at the start what the program's text lays. -/
import Derived.Test.YtgdfndldfmjfhaaDoorRows
import Derived.Test.YtgdfndldfmjfhaaDoorTie
import Derived.Test.YtgdfndldfmjfhaaDoorCards
import Derived.Test.YtgdfndldfmjfhaaDoorZ29
import Derived.Test.YtgdfndldfmjfhaaDoorZzD
namespace Go.Proofs.YtgdfndldfmjfhaaDoor.equationsLess
open Go.RowKit Go.TL
set_option linter.unusedVariables false
theorem own:ownKnob Tryd.prog.godebug = none:=by kernel_rfl
theorem shapes:shAll Tryd.prog Tryd.f4.params.toList = some [.sl 1 1 (.int .u8)]:=by kernel_rfl
theorem contract (tss:List (List T)) (h:FitsAll [.sl 1 1 (.int .u8)] tss):Spc Tryd.prog 4 (treesOf [.sl 1 1 (.int .u8)] tss) [] (vB true) []:=by
 obtain ⟨t0,_,rfl,h0,h⟩:=fitsAll_cons h
 obtain rfl:=fitsAll_nil h
 obtain ⟨l,rfl,hl⟩:=fits_bytes h0
 exact c_law29_EquationsLess l
abbrev laid:List (String×DataW Unit):=Rows.equationsLessRow.laid
set_option maxRecDepth 100000 in
theorem met (os:Os) (args:Array Value):laidMetH Tryd.prog laid ((World.laidAll Tryd.prog os laid).forCall (fun _ _=>0) ⟨#[],args,[]⟩).memory:=by
 rw [Go.MakeChecks.laidMetH_plain Tryd.prog laid _ (by kernel_rfl)]
 exact laidMet_laidAll args (by kernel_rfl) (by kernel_rfl)
set_option maxRecDepth 100000 in
theorem lifted (os:Os) (started:os.Started) (H:Type) (enc:TypeId×Value→H) :
 ReturnsInHanded {} Tryd.checked os 4 .any (fun w args=>(Rows.equationsLessSpec.pre enc Tryd.prog Tryd.f4 Rows.equationsLessRow.domain false w args∧laidMetH Tryd.prog laid w)∧sizedMet enc Tryd.prog Tryd.f4 (OpenSpec.ofChange Rows.equationsLessSpec) false w args) (Rows.equationsLessSpec.post enc Tryd.prog Tryd.f4 false true false false):=by
 exact row_true_laid (C:=Tryd.checked) (tb:=4) started own (by kernel_rfl) Tryd.func4
  (ChangeSpec.witness_at (enc:=enc) (C:=Tryd.checked) (os:=os) (X:=fun w _=>laidMetH Tryd.prog laid w) false (World.laidAll Tryd.prog os laid) #[.slice none 0 0] 8 (World.laidAll_os _ _ _) (by kernel_rfl) (by kernel_rfl) (by kernel_rfl) (by kernel_rfl) (by kernel_rfl) (met os _))
  (by kernel_rfl) (by kernel_rfl) rfl Tryd.underlying4 rfl (fun ds hd=>by match ds,hd with | [d1],_=>rfl) shapes contract
theorem over:Rows.equationsLessRow.holds Tryd.pinned (OpenSpec.ofChange Rows.equationsLessSpec):=
 OpenClaim.holds_of_wide 4 Tryd.f4 rfl rfl rfl rfl rfl rfl rfl ⟨rfl,rfl,rfl,rfl,rfl⟩ rfl rfl rfl rfl rfl (by kernel_rfl) Tryd.func4 (by kernel_rfl)
  (of_decide_eq_true (by kernel_rfl)) (by unfold Func.isWrapper;first | (rw [if_pos (by decide +kernel)];kernel_rfl) | (rw [if_neg (by decide +kernel)];exact ⟨rfl,rfl⟩))
  (fun os started H enc _=>lifted os started H enc)
theorem noStand:∀ t∈Tryd.f4.params.toList,Tryd.prog.wantsStandIn t = false:=by
 have h:(Tryd.f4.params.toList.all fun t=>!(Tryd.prog.wantsStandIn t)) = true:=by kernel_rfl
 intro t ht
 have:=List.all_eq_true.1 h t ht
 simpa using this
theorem proved:Rows.EquationsLessCardSaid:=
 Claim7.holds_tied_plain_at .later [] [.data, .data, .data] true (true, "34964487c059ea77e890f04a8d5b5efc898152da8e8eb25077c498e110209ba5") false
  over (fun _ h=>by cases h) (by kernel_rfl) (fun _ h=>by cases h) equationsLess_row_tie rfl ⟨rfl,rfl⟩ (by kernel_rfl) rfl
  (fun f fn hf hfn=>by
    obtain rfl : f = 4 := Option.some.inj ((show Tryd.prog.funcNamed "dataenclave/dataenclavelaw29.EquationsLess" = some 4 by kernel_rfl).symm.trans hf) |>.symm
    obtain rfl:fn = Tryd.f4:=(Option.some.inj (Tryd.func4.symm.trans hfn)).symm
    exact ⟨by kernel_rfl,fun j t ht=>noStand t (by
     have:=Array.mem_of_getElem? ht
     simpa using this)⟩)
  (by kernel_rfl)
#print axioms proved
end Go.Proofs.YtgdfndldfmjfhaaDoor.equationsLess
