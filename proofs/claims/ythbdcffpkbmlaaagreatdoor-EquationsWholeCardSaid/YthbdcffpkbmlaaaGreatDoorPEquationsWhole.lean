/- PROVED HERE: for every input, the law dataenclavelaw29.EquationsWhole returns true, and its arguments read behind the call as they did before; the package-level variables that the row lists hold at the start what the program's text lays. -/
import Derived.Test.YthbdcffpkbmlaaaGreatDoorRows
import Derived.Test.YthbdcffpkbmlaaaGreatDoorTie
import Derived.Test.YthbdcffpkbmlaaaGreatDoorCards
import Derived.Test.YthbdcffpkbmlaaaGreatDoorK25
namespace Go.Proofs.YthbdcffpkbmlaaaGreatDoor.equationsWhole
open Go.RowKit Go.TL
set_option linter.unusedVariables false
theorem own:ownKnob Tryz.prog.godebug=none:=by kernel_rfl
theorem shapes:zR2 Tryz.prog Tryz.f4.params.toList=some [.sl 1 1 (.int .u8)]:=by kernel_rfl
theorem contract (tss:List (List T)) (h:WW [.sl 1 1 (.int .u8)] tss):Spc Tryz.prog 4 (Kw [.sl 1 1 (.int .u8)] tss) [] (vB true) []:=by
 obtain⟨t0,_,rfl,h0,h⟩:=zl8 h;obtain rfl:=zx0 h;obtain⟨l,rfl,hl⟩:=zR4 h0;exact Kg l
abbrev laid:List (String×DataW Unit):=Rows.equationsWholeRow.laid
set_option maxRecDepth 100000 in
theorem met (os:Os) (args:Array Value):laidMetH Tryz.prog laid ((World.laidAll Tryz.prog os laid).forCall (fun _ _=>0) ⟨#[],args,[]⟩).memory:=by
 rw[Go.MakeChecks.laidMetH_plain Tryz.prog laid _ (by kernel_rfl)];exact laidMet_laidAll args (by kernel_rfl) (by kernel_rfl)
set_option maxRecDepth 100000 in
theorem lifted (os:Os) (started:os.Started) (H:Type) (enc:TypeId×Value→H) :
 ReturnsInHanded {} Tryz.checked os 4 .any (fun w args=>(Rows.equationsWholeSpec.pre enc Tryz.prog Tryz.f4 Rows.equationsWholeRow.domain false w args∧laidMetH Tryz.prog laid w)∧sizedMet enc Tryz.prog Tryz.f4 (OpenSpec.ofChange Rows.equationsWholeSpec) false w args) (Rows.equationsWholeSpec.post enc Tryz.prog Tryz.f4 false true false false):=by
 exact qU5 (C:=Tryz.checked) (tb:=4) started own (by kernel_rfl) Tryz.func4
  (ChangeSpec.witness_at (enc:=enc) (C:=Tryz.checked) (os:=os) (X:=fun w _=>laidMetH Tryz.prog laid w) false (World.laidAll Tryz.prog os laid) #[.slice none 0 0] 8 (World.laidAll_os _ _ _) (by kernel_rfl) (by kernel_rfl) (by kernel_rfl) (by kernel_rfl) (by kernel_rfl) (met os _))
  (by kernel_rfl) (by kernel_rfl) rfl Tryz.underlying4 rfl (fun ds hd=>by match ds,hd with | [d1],_=>rfl) shapes contract
theorem joinedOf {P:Program} {f:FuncId} {fn:Func} {s:ChangeSpec} {c:OpenClaim} (h0:(c.wf (OpenSpec.ofChange s))=true) (h1:(laidOutB P)=true) (h2:(mapsRowed P)=true) (h3:(fn.params.all (P.readableRec ·))=true) (h4:(namedTie P c.named s.vars)=true) (h5:((c.stops==[]))=true) (h6:((P.stops==[]))=true) (h7:((c.knobs==[]))=true) (h8:((P.stopKnobs==[]))=true) (h9:((c.inPlace==P.inPlace f))=true) (h10:((c.unfollowed==P.unfollowed f))=true) (h11:((c.recurses==P.recurses f))=true) (h12:((c.named==P.varsNamed f))=true) (h13:((c.maps==(fn.params.toList++s.plain.varTypes P).any (P.mapsRec ·)))=true) (h14:((c.ifaces==(fn.params.toList++s.plain.varTypes P).any (P.ifacesRec ·)))=true) (h15:((c.mapsOut==P.mapsAmong fn.resultTypes.toList))=true) (h16:((c.loops==(fn.params.toList++s.plain.varTypes P).any (P.loopsFrom ·)))=true) (h17:((c.wideKeys==(fn.params.toList++s.plain.varTypes P++fn.resultTypes.toList).any (P.wideKeysFrom ·)))=true) (h18:(s.vars.all (P.varReadable ·))=true) (h19:(fn.resultTypes.all (fun t=>P.readableRec t&&decide (t<P.types.size)))=true) (h20:((c.ifacesOut==fn.resultTypes.toList.any (P.ifacesRec ·)))=true) (h21:((c.loopsOut==fn.resultTypes.toList.any (P.loopsFrom ·)))=true) (h22:((c.plainKeys==P.plainKeys))=true) (h23:(c.shortTexts.isNone)=true) (h24:(P.stopsHeard)=true) (h25:(P.mayEnter)=true) (h26:((c.lifted==P.liftsFinal))=true) (h27:((P.make==some c.make))=true) (h28:((c.kinds==(if c.domain.isEmpty then [] else fn.params.toList.map fun t=>match P.underlying t with | some (.int k)=>some k | _=>none)))=true) (h29:((c.pinned==c.pinnedBy))=true) (h30:((c.veiled==(fn.params.toList++s.plain.varTypes P++fn.resultTypes.toList).any (P.veiledRec ·)))=true) (h31:(c.veiledFits P fn.params.toList (fn.params.toList++s.plain.varTypes P++fn.resultTypes.toList))=true):joinedFacts P f fn s c=true:=by
 unfold joinedFacts;simp only[Bq];exact⟨⟨⟨⟨⟨⟨⟨⟨⟨⟨⟨⟨⟨⟨⟨⟨⟨⟨⟨⟨⟨⟨⟨⟨⟨⟨⟨⟨⟨⟨⟨h0,h1⟩,h2⟩,h3⟩,h4⟩,h5⟩,h6⟩,h7⟩,h8⟩,h9⟩,h10⟩,h11⟩,h12⟩,h13⟩,h14⟩,h15⟩,h16⟩,h17⟩,h18⟩,h19⟩,h20⟩,h21⟩,h22⟩,h23⟩,h24⟩,h25⟩,h26⟩,h27⟩,h28⟩,h29⟩,h30⟩,h31⟩
def jc (k:Nat) (P:Program) (f:FuncId) (fn:Func) (s:ChangeSpec) (c:OpenClaim):Bool:=match k with
 | 0=>c.wf (OpenSpec.ofChange s)
 | 1=>laidOutB P
 | 2=>mapsRowed P
 | 3=>fn.params.all (P.readableRec ·)
 | 4=>namedTie P c.named s.vars
 | 5=>(c.stops==[])
 | 6=>(P.stops==[])
 | 7=>(c.knobs==[])
 | 8=>(P.stopKnobs==[])
 | 9=>(c.inPlace==P.inPlace f)
 | 10=>(c.unfollowed==P.unfollowed f)
 | 11=>(c.recurses==P.recurses f)
 | 12=>(c.named==P.varsNamed f)
 | 13=>(c.maps==(fn.params.toList++s.plain.varTypes P).any (P.mapsRec ·))
 | 14=>(c.ifaces==(fn.params.toList++s.plain.varTypes P).any (P.ifacesRec ·))
 | 15=>(c.mapsOut==P.mapsAmong fn.resultTypes.toList)
 | 16=>(c.loops==(fn.params.toList++s.plain.varTypes P).any (P.loopsFrom ·))
 | 17=>(c.wideKeys==(fn.params.toList++s.plain.varTypes P++fn.resultTypes.toList).any (P.wideKeysFrom ·))
 | 18=>s.vars.all (P.varReadable ·)
 | 19=>fn.resultTypes.all (fun t=>P.readableRec t&&decide (t<P.types.size))
 | 20=>(c.ifacesOut==fn.resultTypes.toList.any (P.ifacesRec ·))
 | 21=>(c.loopsOut==fn.resultTypes.toList.any (P.loopsFrom ·))
 | 22=>(c.plainKeys==P.plainKeys)
 | 23=>c.shortTexts.isNone
 | 24=>P.stopsHeard
 | 25=>P.mayEnter
 | 26=>(c.lifted==P.liftsFinal)
 | 27=>(P.make==some c.make)
 | 28=>(c.kinds==(if c.domain.isEmpty then [] else fn.params.toList.map fun t=>match P.underlying t with | some (.int k)=>some k | _=>none))
 | 29=>(c.pinned==c.pinnedBy)
 | 30=>(c.veiled==(fn.params.toList++s.plain.varTypes P++fn.resultTypes.toList).any (P.veiledRec ·))
 | 31=>c.veiledFits P fn.params.toList (fn.params.toList++s.plain.varTypes P++fn.resultTypes.toList)
 | _=>true
theorem j0:jc 0 Tryz.pinned.checked.prog 4 Tryz.f4 Rows.equationsWholeSpec Rows.equationsWholeRow=true:=by kernel_rfl
theorem j1:jc 1 Tryz.pinned.checked.prog 4 Tryz.f4 Rows.equationsWholeSpec Rows.equationsWholeRow=true:=by kernel_rfl
theorem j2:jc 2 Tryz.pinned.checked.prog 4 Tryz.f4 Rows.equationsWholeSpec Rows.equationsWholeRow=true:=by kernel_rfl
theorem j3:jc 3 Tryz.pinned.checked.prog 4 Tryz.f4 Rows.equationsWholeSpec Rows.equationsWholeRow=true:=by kernel_rfl
theorem j4:jc 4 Tryz.pinned.checked.prog 4 Tryz.f4 Rows.equationsWholeSpec Rows.equationsWholeRow=true:=by kernel_rfl
theorem j5:jc 5 Tryz.pinned.checked.prog 4 Tryz.f4 Rows.equationsWholeSpec Rows.equationsWholeRow=true:=by kernel_rfl
theorem j6:jc 6 Tryz.pinned.checked.prog 4 Tryz.f4 Rows.equationsWholeSpec Rows.equationsWholeRow=true:=by kernel_rfl
theorem j7:jc 7 Tryz.pinned.checked.prog 4 Tryz.f4 Rows.equationsWholeSpec Rows.equationsWholeRow=true:=by kernel_rfl
theorem j8:jc 8 Tryz.pinned.checked.prog 4 Tryz.f4 Rows.equationsWholeSpec Rows.equationsWholeRow=true:=by kernel_rfl
theorem j9:jc 9 Tryz.pinned.checked.prog 4 Tryz.f4 Rows.equationsWholeSpec Rows.equationsWholeRow=true:=by kernel_rfl
theorem j10:jc 10 Tryz.pinned.checked.prog 4 Tryz.f4 Rows.equationsWholeSpec Rows.equationsWholeRow=true:=by kernel_rfl
theorem j11:jc 11 Tryz.pinned.checked.prog 4 Tryz.f4 Rows.equationsWholeSpec Rows.equationsWholeRow=true:=by kernel_rfl
theorem j12:jc 12 Tryz.pinned.checked.prog 4 Tryz.f4 Rows.equationsWholeSpec Rows.equationsWholeRow=true:=by kernel_rfl
theorem j13:jc 13 Tryz.pinned.checked.prog 4 Tryz.f4 Rows.equationsWholeSpec Rows.equationsWholeRow=true:=by kernel_rfl
theorem j14:jc 14 Tryz.pinned.checked.prog 4 Tryz.f4 Rows.equationsWholeSpec Rows.equationsWholeRow=true:=by kernel_rfl
theorem j15:jc 15 Tryz.pinned.checked.prog 4 Tryz.f4 Rows.equationsWholeSpec Rows.equationsWholeRow=true:=by kernel_rfl
theorem j16:jc 16 Tryz.pinned.checked.prog 4 Tryz.f4 Rows.equationsWholeSpec Rows.equationsWholeRow=true:=by kernel_rfl
theorem j17:jc 17 Tryz.pinned.checked.prog 4 Tryz.f4 Rows.equationsWholeSpec Rows.equationsWholeRow=true:=by kernel_rfl
theorem j18:jc 18 Tryz.pinned.checked.prog 4 Tryz.f4 Rows.equationsWholeSpec Rows.equationsWholeRow=true:=by kernel_rfl
theorem j19:jc 19 Tryz.pinned.checked.prog 4 Tryz.f4 Rows.equationsWholeSpec Rows.equationsWholeRow=true:=by kernel_rfl
theorem j20:jc 20 Tryz.pinned.checked.prog 4 Tryz.f4 Rows.equationsWholeSpec Rows.equationsWholeRow=true:=by kernel_rfl
theorem j21:jc 21 Tryz.pinned.checked.prog 4 Tryz.f4 Rows.equationsWholeSpec Rows.equationsWholeRow=true:=by kernel_rfl
theorem j22:jc 22 Tryz.pinned.checked.prog 4 Tryz.f4 Rows.equationsWholeSpec Rows.equationsWholeRow=true:=by kernel_rfl
theorem j23:jc 23 Tryz.pinned.checked.prog 4 Tryz.f4 Rows.equationsWholeSpec Rows.equationsWholeRow=true:=by kernel_rfl
theorem j24:jc 24 Tryz.pinned.checked.prog 4 Tryz.f4 Rows.equationsWholeSpec Rows.equationsWholeRow=true:=by kernel_rfl
theorem j25:jc 25 Tryz.pinned.checked.prog 4 Tryz.f4 Rows.equationsWholeSpec Rows.equationsWholeRow=true:=by kernel_rfl
theorem j26:jc 26 Tryz.pinned.checked.prog 4 Tryz.f4 Rows.equationsWholeSpec Rows.equationsWholeRow=true:=by kernel_rfl
theorem j27:jc 27 Tryz.pinned.checked.prog 4 Tryz.f4 Rows.equationsWholeSpec Rows.equationsWholeRow=true:=by kernel_rfl
theorem j28:jc 28 Tryz.pinned.checked.prog 4 Tryz.f4 Rows.equationsWholeSpec Rows.equationsWholeRow=true:=by kernel_rfl
theorem j29:jc 29 Tryz.pinned.checked.prog 4 Tryz.f4 Rows.equationsWholeSpec Rows.equationsWholeRow=true:=by kernel_rfl
theorem j30:jc 30 Tryz.pinned.checked.prog 4 Tryz.f4 Rows.equationsWholeSpec Rows.equationsWholeRow=true:=by kernel_rfl
theorem j31:jc 31 Tryz.pinned.checked.prog 4 Tryz.f4 Rows.equationsWholeSpec Rows.equationsWholeRow=true:=by kernel_rfl
theorem joined:joinedFacts Tryz.pinned.checked.prog 4 Tryz.f4 Rows.equationsWholeSpec Rows.equationsWholeRow=true:=joinedOf j0 j1 j2 j3 j4 j5 j6 j7 j8 j9 j10 j11 j12 j13 j14 j15 j16 j17 j18 j19 j20 j21 j22 j23 j24 j25 j26 j27 j28 j29 j30 j31
theorem fnamed : Tryz.pinned.checked.prog.funcNamed "dataenclave/dataenclavelaw29.EquationsWhole" = some 4 := by kernel_rfl
theorem insta:Tryz.f4.isInstance Tryz.pinned.checked.prog Rows.equationsWholeRow.origin Rows.equationsWholeRow.targs:=of_decide_eq_true (by kernel_rfl)
theorem wrapa:Tryz.f4.isWrapper Tryz.pinned.checked.prog Rows.equationsWholeRow.wrapper Rows.equationsWholeRow.mainSum:=by unfold Func.isWrapper;first | (rw[Aj (by decide +kernel)];kernel_rfl) | (rw[Aq (by decide +kernel)];exact⟨rfl,rfl⟩)
theorem over:Rows.equationsWholeRow.holds Tryz.pinned (OpenSpec.ofChange Rows.equationsWholeSpec):=
 OpenClaim.holds_of_wide 4 Tryz.f4 rfl rfl rfl rfl rfl rfl rfl ⟨rfl,rfl,rfl,rfl,rfl⟩ rfl rfl rfl rfl rfl fnamed Tryz.func4 joined
  insta wrapa
  (fun os started H enc _=>lifted os started H enc)
theorem noStand:∀ t∈Tryz.f4.params.toList,Tryz.prog.wantsStandIn t=false:=by
 have h:(Tryz.f4.params.toList.all fun t=>!(Tryz.prog.wantsStandIn t))=true:=by kernel_rfl
 intro t ht;have:=Bk.1 h t ht;simpa using this
theorem wText:Rows.equationsWholeRow.wfByText (OpenSpec.ofChange Rows.equationsWholeSpec)=true:=by kernel_rfl
theorem mainer : Tryz.pinned.checked.prog.mainIs = some (true, "0bc3346d88332da9f0b1c5c1263129c2abf0e67c2601892844e2125a6a0e6f32".toList) := by kernel_rfl
theorem lookr:false=Tryz.pinned.checked.prog.looks []:=by kernel_rfl
theorem goer:false=Rows.equationsWholeRow.goesBy Tryz.pinned.checked.prog:=by kernel_rfl
theorem proved:Rows.EquationsWholeCardSaid:=
 Claim7.holds_tied_plain_at .later [] [.data, .data, .data] true (true, "0bc3346d88332da9f0b1c5c1263129c2abf0e67c2601892844e2125a6a0e6f32") false
  over (fun _ h=>by cases h) wText (fun _ h=>by cases h) equationsWhole_row_tie rfl ⟨rfl,rfl⟩ mainer rfl
  (fun f fn hf hfn=>by
    obtain rfl:f=4:=Option.some.inj (fnamed.symm.trans hf) |>.symm
    obtain rfl:fn=Tryz.f4:=(Option.some.inj (Tryz.func4.symm.trans hfn)).symm;exact⟨lookr,fun j t ht=>noStand t (by
     have:=Array.mem_of_getElem? ht;simpa using this)⟩)
  goer
#print axioms proved
end Go.Proofs.YthbdcffpkbmlaaaGreatDoor.equationsWhole
