/- PROVED HERE: for every input, the law dataenclavelaw04.SourceEdits returns true, and its arguments read behind the call as they did before; the package-level variables that the row lists hold at the start what the program's text lays. -/
import Derived.Test.YtlpllebfjgflaaaGreatDoorRows
import Derived.Test.YtlpllebfjgflaaaGreatDoorTie
import Derived.Test.YtlpllebfjgflaaaGreatDoorCards
import Derived.Test.YtlpllebfjgflaaaGreatDoorK21
namespace Go.Proofs.YtlpllebfjgflaaaGreatDoor.sourceEdits
open Go.RowKit Go.TL
set_option linter.unusedVariables false
theorem own:ownKnob Tryz.prog.godebug = none:=by kernel_rfl
theorem shapes:qX4 Tryz.prog Tryz.f4.params.toList = some [.sl 1 1 (.int .u8),.st (.fcons 1 (.int .i64) (.fcons 1 (.sl 1 8 (.int .i64)) (.fcons 1 (.int .i64) .fnil))),.int .i64,.int .i64]:=by kernel_rfl
theorem contract (tss:List (List T)) (h:Kp [.sl 1 1 (.int .u8),.st (.fcons 1 (.int .i64) (.fcons 1 (.sl 1 8 (.int .i64)) (.fcons 1 (.int .i64) .fnil))),.int .i64,.int .i64] tss):Spc Tryz.prog 4 (Jb [.sl 1 1 (.int .u8),.st (.fcons 1 (.int .i64) (.fcons 1 (.sl 1 8 (.int .i64)) (.fcons 1 (.int .i64) .fnil))),.int .i64,.int .i64] tss) [] (vB true) []:=by
 obtain ⟨t0,_,rfl,h0,h⟩:=Qf h
 obtain ⟨t1,_,rfl,h1,h⟩:=Qf h
 obtain ⟨t2,_,rfl,h2,h⟩:=Qf h
 obtain ⟨t3,_,rfl,h3,h⟩:=Qf h
 obtain rfl:=qH4 h
 have hedt:∀ t,Fits (.st (.fcons 1 (.int .i64) (.fcons 1 (.sl 1 8 (.int .i64)) (.fcons 1 (.int .i64) .fnil)))) t→∃ x:Edt,kK (.st (.fcons 1 (.int .i64) (.fcons 1 (.sl 1 8 (.int .i64)) (.fcons 1 (.int .i64) .fnil)))) t = edtT x∧x.row.length < 4611686018427387904∧idOk x.id:=by
  rintro t ⟨_,_,rfl,_,⟨a,rfl,_⟩,_,_,rfl,_,hq,_,_,rfl,_,⟨c,rfl,hc⟩,rfl⟩
  obtain ⟨r,rfl,hr,_⟩:=zm4 hq
  refine ⟨⟨a,r,c⟩,rfl,by dsimp only;omega,?_⟩
  simp only [Lit.wf,decide_eq_true_eq,Bool.and_eq_true] at hc
  have h1:IntKind.i64.min = -9223372036854775808:=by decide
  have h2:IntKind.i64.max = 9223372036854775807:=by decide
  rw [h1,h2] at hc
  unfold idOk
  dsimp only
  omega
 obtain ⟨l,rfl,hl⟩:=qX6 h0
 obtain ⟨x,hx,hx1,hx2⟩:=hedt _ h1
 obtain ⟨n1,rfl,_⟩:=qS1 h2
 obtain ⟨n2,rfl,_⟩:=qS1 h3
 have:=KM l x n1 n2 hx1 hx2
 rw [← hx] at this
 exact this
abbrev laid:List (String×DataW Unit):=Rows.sourceEditsRow.laid
set_option maxRecDepth 100000 in
theorem met (os:Os) (args:Array Value):laidMetH Tryz.prog laid ((World.laidAll Tryz.prog os laid).forCall (fun _ _=>0) ⟨#[],args,[]⟩).memory:=by
 rw [Go.MakeChecks.laidMetH_plain Tryz.prog laid _ (by kernel_rfl)]
 exact laidMet_laidAll args (by kernel_rfl) (by kernel_rfl)
set_option maxRecDepth 100000 in
theorem lifted (os:Os) (started:os.Started) (H:Type) (enc:TypeId×Value→H) :
 ReturnsInHanded {} Tryz.checked os 4 .any (fun w args=>(Rows.sourceEditsSpec.pre enc Tryz.prog Tryz.f4 Rows.sourceEditsRow.domain false w args∧laidMetH Tryz.prog laid w)∧sizedMet enc Tryz.prog Tryz.f4 (OpenSpec.ofChange Rows.sourceEditsSpec) false w args) (Rows.sourceEditsSpec.post enc Tryz.prog Tryz.f4 false true false false):=by
 exact qq4 (C:=Tryz.checked) (tb:=4) started own (by kernel_rfl) Tryz.func4
  (ChangeSpec.witness_at (enc:=enc) (C:=Tryz.checked) (os:=os) (X:=fun w _=>laidMetH Tryz.prog laid w) false (World.laidAll Tryz.prog os laid) #[.slice none 0 0,.agg #[.int .i64 0,.slice none 0 0,.int .i64 0],.int .i64 0,.int .i64 0] 8 (World.laidAll_os _ _ _) (by kernel_rfl) (by kernel_rfl) (by kernel_rfl) (by kernel_rfl) (by kernel_rfl) (met os _))
  (by kernel_rfl) (by kernel_rfl) rfl Tryz.underlying4 rfl (fun ds hd=>by match ds,hd with | [d1,d2,d3,d4],_=>rfl) shapes contract
theorem over:Rows.sourceEditsRow.holds Tryz.pinned (OpenSpec.ofChange Rows.sourceEditsSpec):=
 OpenClaim.holds_of_wide 4 Tryz.f4 rfl rfl rfl rfl rfl rfl rfl ⟨rfl,rfl,rfl,rfl,rfl⟩ rfl rfl rfl rfl rfl (by kernel_rfl) Tryz.func4 (by kernel_rfl)
  (of_decide_eq_true (by kernel_rfl)) (by unfold Func.isWrapper;first | (rw [if_pos (by decide +kernel)];kernel_rfl) | (rw [if_neg (by decide +kernel)];exact ⟨rfl,rfl⟩))
  (fun os started H enc _=>lifted os started H enc)
theorem noStand:∀ t∈Tryz.f4.params.toList,Tryz.prog.wantsStandIn t = false:=by
 have h:(Tryz.f4.params.toList.all fun t=>!(Tryz.prog.wantsStandIn t)) = true:=by kernel_rfl
 intro t ht
 have:=List.all_eq_true.1 h t ht
 simpa using this
theorem proved:Rows.SourceEditsCardSaid:=
 Claim7.holds_tied_plain_at .later [] [.data, .data, .data] true (true, "75d4791a0ac1f334aa2d35288a566e16dabaa382bc9c38d4f606c5fcfe7d6ac7") false
  over (fun _ h=>by cases h) (by kernel_rfl) (fun _ h=>by cases h) sourceEdits_row_tie rfl ⟨rfl,rfl⟩ (by kernel_rfl) rfl
  (fun f fn hf hfn=>by
    obtain rfl : f = 4 := Option.some.inj ((show Tryz.prog.funcNamed "dataenclave/dataenclavelaw04.SourceEdits" = some 4 by kernel_rfl).symm.trans hf) |>.symm
    obtain rfl:fn = Tryz.f4:=(Option.some.inj (Tryz.func4.symm.trans hfn)).symm
    exact ⟨by kernel_rfl,fun j t ht=>noStand t (by
     have:=Array.mem_of_getElem? ht
     simpa using this)⟩)
  (by kernel_rfl)
#print axioms proved
end Go.Proofs.YtlpllebfjgflaaaGreatDoor.sourceEdits
