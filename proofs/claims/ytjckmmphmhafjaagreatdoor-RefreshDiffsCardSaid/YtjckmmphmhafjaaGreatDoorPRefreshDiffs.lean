/- PROVED HERE: for every input, the law dataenclavelaw14.RefreshDiffs returns true, and its arguments read behind the call as they did before; the package-level variables that the row lists hold at the start what the program's text lays. -/
import Derived.Test.YtjckmmphmhafjaaGreatDoorRows
import Derived.Test.YtjckmmphmhafjaaGreatDoorTie
import Derived.Test.YtjckmmphmhafjaaGreatDoorCards
import Derived.Test.YtjckmmphmhafjaaGreatDoorK24
namespace Go.Proofs.YtjckmmphmhafjaaGreatDoor.refreshDiffs
open Go.RowKit Go.TL
set_option linter.unusedVariables false
theorem own:ownKnob Tryz.prog.godebug = none:=by kernel_rfl
theorem shapes:zE4 Tryz.prog Tryz.f3.params.toList = some [.sl 1 1 (.int .u8),.st (.fcons 1 .str (.fcons 1 (.int .i64) (.fcons 1 (.sl 2 16 (.st (.fcons 1 (.int .i64) (.fcons 1 (.int .i64) .fnil)))) (.fcons 1 (.sl 1 24 (.sl 1 8 (.int .i64))) .fnil)))),.st (.fcons 1 (.int .i64) (.fcons 1 (.sl 1 8 (.int .i64)) (.fcons 1 (.sl 1 24 (.sl 1 8 (.int .i64))) .fnil))),.int .i64]:=by kernel_rfl
theorem contract (tss:List (List T)) (h:YQ [.sl 1 1 (.int .u8),.st (.fcons 1 .str (.fcons 1 (.int .i64) (.fcons 1 (.sl 2 16 (.st (.fcons 1 (.int .i64) (.fcons 1 (.int .i64) .fnil)))) (.fcons 1 (.sl 1 24 (.sl 1 8 (.int .i64))) .fnil)))),.st (.fcons 1 (.int .i64) (.fcons 1 (.sl 1 8 (.int .i64)) (.fcons 1 (.sl 1 24 (.sl 1 8 (.int .i64))) .fnil))),.int .i64] tss):Spc Tryz.prog 3 (Wo [.sl 1 1 (.int .u8),.st (.fcons 1 .str (.fcons 1 (.int .i64) (.fcons 1 (.sl 2 16 (.st (.fcons 1 (.int .i64) (.fcons 1 (.int .i64) .fnil)))) (.fcons 1 (.sl 1 24 (.sl 1 8 (.int .i64))) .fnil)))),.st (.fcons 1 (.int .i64) (.fcons 1 (.sl 1 8 (.int .i64)) (.fcons 1 (.sl 1 24 (.sl 1 8 (.int .i64))) .fnil))),.int .i64] tss) [] (vB true) []:=by
 obtain ⟨t0,_,rfl,h0,h⟩:=Zt h
 obtain ⟨t1,_,rfl,h1,h⟩:=Zt h
 obtain ⟨t2,_,rfl,h2,h⟩:=Zt h
 obtain ⟨t3,_,rfl,h3,h⟩:=Zt h
 obtain rfl:=zm8 h
 have hpk:∀ t,Fits (.st (.fcons 1 (.int .i64) (.fcons 1 (.int .i64) .fnil))) t→∃ x:Pk,jN (.st (.fcons 1 (.int .i64) (.fcons 1 (.int .i64) .fnil))) t = pkT x∧True:=by
  rintro t ⟨_,_,rfl,_,⟨a,rfl,_⟩,_,_,rfl,_,⟨b,rfl,_⟩,rfl⟩
  exact ⟨⟨a,b⟩,rfl,trivial⟩
 have hrw:∀ t,Fits (.sl 1 8 (.int .i64)) t→∃ x:List Int,jN (.sl 1 8 (.int .i64)) t = vIs x∧x.length * 8≤140737488355328:=by
  intro t ht
  obtain ⟨ns,rfl,hn,_⟩:=zf0 ht
  exact ⟨ns,rfl,by omega⟩
 have hext:∀ t,Fits (.st (.fcons 1 .str (.fcons 1 (.int .i64) (.fcons 1 (.sl 2 16 (.st (.fcons 1 (.int .i64) (.fcons 1 (.int .i64) .fnil)))) (.fcons 1 (.sl 1 24 (.sl 1 8 (.int .i64))) .fnil))))) t→∃ x:Ext,jN (.st (.fcons 1 .str (.fcons 1 (.int .i64) (.fcons 1 (.sl 2 16 (.st (.fcons 1 (.int .i64) (.fcons 1 (.int .i64) .fnil)))) (.fcons 1 (.sl 1 24 (.sl 1 8 (.int .i64))) .fnil))))) t = extT x∧(∀ r∈x.rows,r.length * 8≤140737488355328)∧x.picks.length * 16≤140737488355328:=by
  rintro t ⟨_,_,rfl,_,⟨s,rfl,_⟩,_,_,rfl,_,⟨v,rfl,_⟩,_,_,rfl,_,hp,_,_,rfl,_,hr,rfl⟩
  obtain ⟨ps,rfl,hp1,_⟩:=qe6 pkT (fun _=>True) hpk hp
  obtain ⟨rs,rfl,_,hr2⟩:=qe6 vIs _ hrw hr
  exact ⟨⟨s,v,ps,rs⟩,rfl,hr2,by dsimp only;omega⟩
 have hchg:∀ t,Fits (.st (.fcons 1 (.int .i64) (.fcons 1 (.sl 1 8 (.int .i64)) (.fcons 1 (.sl 1 24 (.sl 1 8 (.int .i64))) .fnil)))) t→∃ x:Chg,jN (.st (.fcons 1 (.int .i64) (.fcons 1 (.sl 1 8 (.int .i64)) (.fcons 1 (.sl 1 24 (.sl 1 8 (.int .i64))) .fnil)))) t = chgT x∧∀ r∈x.rows,r.length * 8≤140737488355328:=by
  rintro t ⟨_,_,rfl,_,⟨v,rfl,_⟩,_,_,rfl,_,hg,_,_,rfl,_,hr,rfl⟩
  obtain ⟨g,rfl,_,_⟩:=zf0 hg
  obtain ⟨rs,rfl,_,hr2⟩:=qe6 vIs _ hrw hr
  exact ⟨⟨v,g,rs⟩,rfl,hr2⟩
 obtain ⟨l,rfl,hl⟩:=zE6 h0
 obtain ⟨x,hx,hx1,hx2⟩:=hext _ h1
 obtain ⟨r,hr,hr1⟩:=hchg _ h2
 obtain ⟨n,rfl,_⟩:=je4 h3
 have:=YD l x r n hx1 hx2 hr1
 rw [← hx,← hr] at this
 exact this
abbrev laid:List (String×DataW Unit):=Rows.refreshDiffsRow.laid
set_option maxRecDepth 100000 in
theorem met (os:Os) (args:Array Value):laidMetH Tryz.prog laid ((World.laidAll Tryz.prog os laid).forCall (fun _ _=>0) ⟨#[],args,[]⟩).memory:=by
 rw [Go.MakeChecks.laidMetH_plain Tryz.prog laid _ (by kernel_rfl)]
 exact laidMet_laidAll args (by kernel_rfl) (by kernel_rfl)
set_option maxRecDepth 100000 in
theorem lifted (os:Os) (started:os.Started) (H:Type) (enc:TypeId×Value→H) :
 ReturnsInHanded {} Tryz.checked os 3 .any (fun w args=>(Rows.refreshDiffsSpec.pre enc Tryz.prog Tryz.f3 Rows.refreshDiffsRow.domain false w args∧laidMetH Tryz.prog laid w)∧sizedMet enc Tryz.prog Tryz.f3 (OpenSpec.ofChange Rows.refreshDiffsSpec) false w args) (Rows.refreshDiffsSpec.post enc Tryz.prog Tryz.f3 false true false false):=by
 exact qQ0 (C:=Tryz.checked) (tb:=4) started own (by kernel_rfl) Tryz.func3
  (ChangeSpec.witness_at (enc:=enc) (C:=Tryz.checked) (os:=os) (X:=fun w _=>laidMetH Tryz.prog laid w) false (World.laidAll Tryz.prog os laid) #[.slice none 0 0,.agg #[.string ⟨#[]⟩,.int .i64 0,.slice none 0 0,.slice none 0 0],.agg #[.int .i64 0,.slice none 0 0,.slice none 0 0],.int .i64 0] 8 (World.laidAll_os _ _ _) (by kernel_rfl) (by kernel_rfl) (by kernel_rfl) (by kernel_rfl) (by kernel_rfl) (met os _))
  (by kernel_rfl) (by kernel_rfl) rfl Tryz.underlying4 rfl (fun ds hd=>by match ds,hd with | [d1,d2,d3,d4],_=>rfl) shapes contract
theorem over:Rows.refreshDiffsRow.holds Tryz.pinned (OpenSpec.ofChange Rows.refreshDiffsSpec):=
 OpenClaim.holds_of_wide 3 Tryz.f3 rfl rfl rfl rfl rfl rfl rfl ⟨rfl,rfl,rfl,rfl,rfl⟩ rfl rfl rfl rfl rfl (by kernel_rfl) Tryz.func3 (by kernel_rfl)
  (of_decide_eq_true (by kernel_rfl)) (by unfold Func.isWrapper;first | (rw [if_pos (by decide +kernel)];kernel_rfl) | (rw [if_neg (by decide +kernel)];exact ⟨rfl,rfl⟩))
  (fun os started H enc _=>lifted os started H enc)
theorem noStand:∀ t∈Tryz.f3.params.toList,Tryz.prog.wantsStandIn t = false:=by
 have h:(Tryz.f3.params.toList.all fun t=>!(Tryz.prog.wantsStandIn t)) = true:=by kernel_rfl
 intro t ht
 have:=List.all_eq_true.1 h t ht
 simpa using this
theorem proved:Rows.RefreshDiffsCardSaid:=
 Claim7.holds_tied_plain_at .later [] [.data, .data, .data] true (true, "4ec16ab5e8a30a77ac9897a75cf61cc4ecadad4dbe6d86ff63f9770b836e6a03") false
  over (fun _ h=>by cases h) (by kernel_rfl) (fun _ h=>by cases h) refreshDiffs_row_tie rfl ⟨rfl,rfl⟩ (by kernel_rfl) rfl
  (fun f fn hf hfn=>by
    obtain rfl : f = 3 := Option.some.inj ((show Tryz.prog.funcNamed "dataenclave/dataenclavelaw14.RefreshDiffs" = some 3 by kernel_rfl).symm.trans hf) |>.symm
    obtain rfl:fn = Tryz.f3:=(Option.some.inj (Tryz.func3.symm.trans hfn)).symm
    exact ⟨by kernel_rfl,fun j t ht=>noStand t (by
     have:=Array.mem_of_getElem? ht
     simpa using this)⟩)
  (by kernel_rfl)
#print axioms proved
end Go.Proofs.YtjckmmphmhafjaaGreatDoor.refreshDiffs
