/- The step of a row that lists variables: what they hold is not read. -/
import Derived.Lay
import Derived.LaidLaws
import Derived.MakeChecks
import Derived.SevenTiedAt
import Derived.Test.YtgdfndldfmjfhaaDoorZzP
namespace Go.TL
open Go.RowKit Go.ChangeShapes
set_option linter.unusedVariables false
section
variable {H:Type} {enc:TypeId×Value→H}
theorem row_true_laid {C:Checked} {f:FuncId} {fn:Func} {s:ChangeSpec} {conds:List PathCond} {os:Os} (started:os.Started) {a:Assume} {apart fresh handsOn again:Bool} {tb:TypeId} {shs:List Sh} {laid:List (String×DataW Unit)}
 (own:ownKnob C.prog.godebug = none) (noInit:C.prog.inits.idxOf? f = none) (hfn:C.prog.funcs[f]? = some fn)
 (witness:∃ (w:World) (tape:Tape) (i:Input),w.os = os∧(w.forCall tape i).Shaped C.prog∧i.vars = []∧Input.okWide C.prog (w.forCall tape i) .any w.heap.size f i∧
   ((s.pre enc C.prog fn conds apart (w.forCall tape i).memory i.args∧laidMetH C.prog laid (w.forCall tape i).memory)∧sizedMet enc C.prog fn (OpenSpec.ofChange s) apart (w.forCall tape i).memory i.args)∧a.holds C.prog (lone (Frame.enter C.prog f i.args .normal) [] (w.forCall tape i)))
 (hl:laidOutB C.prog = true) (hpar:fn.params.toList.all (fun t=>C.prog.readableRec t && decide (t < C.prog.types.size)) = true) (hrt:fn.resultTypes = #[tb]) (htb:C.prog.underlying tb = some .bool) (hvars:s.vars = [])
 (hspec:∀ ds:List (DataW H),ds.length = fn.params.size→s.fn H ds = { results:=[.lit (.bool true)],args:=ds }) (hsh:shAll C.prog fn.params.toList = some shs)
 (hc:∀ tss,FitsAll shs tss→Spc C.prog f (treesOf shs tss) [] (vB true) []) :
 ReturnsInHanded a C os f .any (fun w args=>(s.pre enc C.prog fn conds apart w args∧laidMetH C.prog laid w)∧sizedMet enc C.prog fn (OpenSpec.ofChange s) apart w args) (s.post enc C.prog fn apart fresh handsOn again):=by
 refine returnsInHanded_of_change_and (X:=fun w _=>laidMetH C.prog laid w) (fun _ _ _ hh h=>h.of_heap hh) own started noInit hfn witness ?_
 intro W base args ds gs before hok hW _ hw _ _
 have hW0:=hW
 obtain ⟨p,q,hA,hV,hpq,_,_⟩:=hW
 rw [hvars] at hV
 obtain ⟨rfl,rfl⟩:=trodVars_none hV
 have hlen:∀ (ts:List TypeId) (vs:List Value) (ds:List (DataW H)) (ps:List MemPlace),DataW.TrodAll enc C.prog W 0 (fun _=>true) true ts vs ds ps→ds.length = ts.length:=by
  intro ts
  induction ts with
  | nil=>intro vs ds ps h;obtain ⟨_,rfl,_⟩:=trodAll_nil h;rfl
  | cons t ts ih=>intro vs ds ps h;obtain ⟨v,vs',d,ds',p,q,_,rfl,_,_,h2⟩:=trodAll_cons h;simp [ih _ _ _ h2]
 have hdl:ds.length = fn.params.size:=by simpa using hlen _ _ _ _ hA
 have hpl:s.plain.varTypes C.prog = []:=by
  have:s.plain.vars = s.vars:=rfl
  simp [DataSpec.varTypes,ChangeSpec.plain,hvars]
 obtain ⟨tss,h1,h2,h3⟩:=trodAll_fits (base:=base) fn.params.toList shs args.toList ds p hsh hA (fun j t v ht hv=>hok j t v (by simpa using ht) (by simpa using hv)) (fun x hx=>by
  have:=List.all_eq_true.1 hw x (by simpa [hpl] using hx)
  simpa using this)
 refine (calls_true (hc tss h1) (by simpa using h2.symm) (fun j v x hv hx=>h3 j v x (by simpa using hv) hx)).mono ?_
 rintro en w' ⟨rfl,hb⟩
 refine ⟨_,rfl,post_true hl (fun t ht=>?_) hrt htb hvars (by rw [List.append_nil];exact hspec ds hdl) hW0 hb⟩
 have:=List.all_eq_true.1 hpar t ht
 simpa using this
end
end Go.TL
