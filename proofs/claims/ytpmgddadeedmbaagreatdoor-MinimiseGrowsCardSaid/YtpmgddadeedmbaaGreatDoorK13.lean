/- A part of the proof: ZzF ZzD ZzR. -/
import Derived.WalkKit
import Derived.Still
import Derived.MapKept
import GoSem.Builtin.Cap
import Derived.Laws.Externs
import GoSem.Extern.SlicesOverlaps
import Derived.Carry
import Derived.ProofKit
import Derived.OpenShut
import Derived.HandedShaped
import Derived.Lay
import Derived.LaidLaws
import Derived.MakeChecks
import Derived.SevenTiedAt
import Derived.Test.YtpmgddadeedmbaaGreatDoorK12
namespace Go.TL
set_option linter.unusedSimpArgs false
theorem tZ:type_of% (And.intro @tl (And.intro @tl2 (And.intro @tl4 (And.intro @tl3 (And.intro @zB.eq_1 (And.intro @zB.eq_2 (And.intro @entX.eq_1 (And.intro @entX.eq_2 (And.intro @Wq.eq_1 (And.intro @Wq.eq_2 (And.intro @ret.eq_1 (And.intro @retI.eq_1 (And.intro @retB.eq_1 (And.intro @intT.eq_1 (And.intro @intT.eq_2 (And.intro @intT.eq_3 (And.intro @intT.eq_4 (And.intro @intT.eq_5 (And.intro @intT.eq_6 (And.intro @intT.eq_7 (And.intro @intT.eq_8 (And.intro @intT.eq_9 (And.intro @intT.eq_10 (And.intro @intT.eq_11 (And.intro @intT.eq_12 (And.intro @intT.eq_13 (And.intro @intT.eq_14 (And.intro @intT.eq_15 (And.intro @intT.eq_16 (And.intro @intT.eq_17 (And.intro @unT.eq_1 (And.intro @unT.eq_2 (And.intro @unT.eq_3 (And.intro @unT.eq_4 (And.intro @endR.eq_1 (And.intro @endR.eq_2 (And.intro @qh6.eq_1 (And.intro @qh6.eq_2 (And.intro @resR.eq_1 (And.intro @resR.eq_2 (And.intro @tupT.eq_1 (And.intro @tupT.eq_2 (And.intro @bslR.eq_1 (And.intro @boxR.eq_1 (And.intro @Wk.eq_1 (And.intro @Wk.eq_2 (And.intro @rmK.eq_1 (And.intro @rmK.eq_2 (And.intro @rm1.eq_1 (And.intro @rm1.eq_2 (And.intro @ne_eq.{1} (And.intro @not_false_eq_true (And.intro @decide_true (And.intro @decide_false (@not_true_eq_false))))))))))))))))))))))))))))))))))))))))))))))))))))))):=And.intro @tl (And.intro @tl2 (And.intro @tl4 (And.intro @tl3 (And.intro @zB.eq_1 (And.intro @zB.eq_2 (And.intro @entX.eq_1 (And.intro @entX.eq_2 (And.intro @Wq.eq_1 (And.intro @Wq.eq_2 (And.intro @ret.eq_1 (And.intro @retI.eq_1 (And.intro @retB.eq_1 (And.intro @intT.eq_1 (And.intro @intT.eq_2 (And.intro @intT.eq_3 (And.intro @intT.eq_4 (And.intro @intT.eq_5 (And.intro @intT.eq_6 (And.intro @intT.eq_7 (And.intro @intT.eq_8 (And.intro @intT.eq_9 (And.intro @intT.eq_10 (And.intro @intT.eq_11 (And.intro @intT.eq_12 (And.intro @intT.eq_13 (And.intro @intT.eq_14 (And.intro @intT.eq_15 (And.intro @intT.eq_16 (And.intro @intT.eq_17 (And.intro @unT.eq_1 (And.intro @unT.eq_2 (And.intro @unT.eq_3 (And.intro @unT.eq_4 (And.intro @endR.eq_1 (And.intro @endR.eq_2 (And.intro @qh6.eq_1 (And.intro @qh6.eq_2 (And.intro @resR.eq_1 (And.intro @resR.eq_2 (And.intro @tupT.eq_1 (And.intro @tupT.eq_2 (And.intro @bslR.eq_1 (And.intro @boxR.eq_1 (And.intro @Wk.eq_1 (And.intro @Wk.eq_2 (And.intro @rmK.eq_1 (And.intro @rmK.eq_2 (And.intro @rm1.eq_1 (And.intro @rm1.eq_2 (And.intro @ne_eq.{1} (And.intro @not_false_eq_true (And.intro @decide_true (And.intro @decide_false (@not_true_eq_false))))))))))))))))))))))))))))))))))))))))))))))))))))))
theorem tL:type_of% (And.intro @Qz.eq_1 (And.intro @Qz.eq_2 (And.intro @Qz.eq_3 (And.intro @Qz.eq_4 (And.intro @Qz.eq_5 (And.intro @ltO2.eq_1 (And.intro @ltO2.eq_2 (And.intro @ltO2.eq_3 (And.intro @ltO1.eq_1 (And.intro @ltO1.eq_2 (And.intro @ltAs.eq_1 (And.intro @ltAs.eq_2 (And.intro @ltAs.eq_3 (And.intro @ltA.eq_1 (And.intro @ltA.eq_2 (And.intro @ltA.eq_3 (And.intro @ltA.eq_4 (And.intro @ltA.eq_5 (And.intro @ltC.eq_1 (And.intro @ltC.eq_2 (And.intro @ltC.eq_3 (And.intro @ltC0.eq_1 (And.intro @ltC0.eq_2 (And.intro @ltC0.eq_3 (And.intro @ltC0.eq_4 (And.intro @ltC0.eq_5 (And.intro @ltC0.eq_6 (And.intro @ltC0.eq_7 (And.intro @ltC0.eq_8 (And.intro @ltC0.eq_9 (And.intro @ltC0.eq_10 (And.intro @ltC0.eq_11 (And.intro @ltC0.eq_12 (And.intro @ltC0.eq_13 (And.intro @ltC0.eq_14 (And.intro @ltC0.eq_15 (And.intro @ltC0.eq_16 (And.intro @ltC0.eq_17 (And.intro @ltC0.eq_18 (And.intro @ltC0.eq_19 (And.intro @ltC0.eq_20 (And.intro @ltC0.eq_21 (And.intro @qB4.eq_1 (And.intro @qB4.eq_2 (And.intro @qB4.eq_3 (And.intro @ltCs.eq_1 (And.intro @ltCs.eq_2 (And.intro @ltCs.eq_3 (And.intro @ltT.eq_1 (And.intro @ltT.eq_2 (And.intro @ltT.eq_3 (And.intro @ltFr.eq_1 (And.intro @ltFr.eq_2 (And.intro @ltS.eq_1 (And.intro @ltS.eq_2 (And.intro @wrOk.eq_1 (And.intro @wrOk.eq_2 (And.intro @wrOk.eq_3 (And.intro @wrOk.eq_4 (And.intro @wrO.eq_1 (And.intro @wrO.eq_2 (And.intro @wrO.eq_3 (And.intro @Go.TL.get.eq_1 (And.intro @Go.TL.get.eq_2 (And.intro @zA6.eq_1 (And.intro @zA6.eq_2 (And.intro @rmK.eq_1 (And.intro @rmK.eq_2 (And.intro @rm1.eq_1 (And.intro @rm1.eq_2 (And.intro @Option.getD_some.{0} (And.intro @Option.isSome_some.{0} (And.intro @List.length_map.{0,0} (And.intro @List.length_append.{0} (And.intro @List.length_cons.{0} (And.intro @List.length_nil.{0} (And.intro @List.append_nil.{0} (And.intro @List.mem_singleton.{0} (And.intro @List.mem_cons.{0} (And.intro @List.not_mem_nil.{0} (And.intro @and_true (And.intro @true_and (And.intro @and_self (And.intro @imp_self (And.intro @forall_const.{0} (And.intro @false_implies (And.intro @implies_true.{0} (And.intro @true_implies (And.intro @or_false (And.intro @Bool.false_eq_true (And.intro @Bool.true_eq_false (And.intro @qR7 (And.intro @true_or (And.intro @or_true (And.intro @false_or (And.intro @false_and (@and_false))))))))))))))))))))))))))))))))))))))))))))))))))))))))))))))))))))))))))))))))))))))))))))))))):=And.intro @Qz.eq_1 (And.intro @Qz.eq_2 (And.intro @Qz.eq_3 (And.intro @Qz.eq_4 (And.intro @Qz.eq_5 (And.intro @ltO2.eq_1 (And.intro @ltO2.eq_2 (And.intro @ltO2.eq_3 (And.intro @ltO1.eq_1 (And.intro @ltO1.eq_2 (And.intro @ltAs.eq_1 (And.intro @ltAs.eq_2 (And.intro @ltAs.eq_3 (And.intro @ltA.eq_1 (And.intro @ltA.eq_2 (And.intro @ltA.eq_3 (And.intro @ltA.eq_4 (And.intro @ltA.eq_5 (And.intro @ltC.eq_1 (And.intro @ltC.eq_2 (And.intro @ltC.eq_3 (And.intro @ltC0.eq_1 (And.intro @ltC0.eq_2 (And.intro @ltC0.eq_3 (And.intro @ltC0.eq_4 (And.intro @ltC0.eq_5 (And.intro @ltC0.eq_6 (And.intro @ltC0.eq_7 (And.intro @ltC0.eq_8 (And.intro @ltC0.eq_9 (And.intro @ltC0.eq_10 (And.intro @ltC0.eq_11 (And.intro @ltC0.eq_12 (And.intro @ltC0.eq_13 (And.intro @ltC0.eq_14 (And.intro @ltC0.eq_15 (And.intro @ltC0.eq_16 (And.intro @ltC0.eq_17 (And.intro @ltC0.eq_18 (And.intro @ltC0.eq_19 (And.intro @ltC0.eq_20 (And.intro @ltC0.eq_21 (And.intro @qB4.eq_1 (And.intro @qB4.eq_2 (And.intro @qB4.eq_3 (And.intro @ltCs.eq_1 (And.intro @ltCs.eq_2 (And.intro @ltCs.eq_3 (And.intro @ltT.eq_1 (And.intro @ltT.eq_2 (And.intro @ltT.eq_3 (And.intro @ltFr.eq_1 (And.intro @ltFr.eq_2 (And.intro @ltS.eq_1 (And.intro @ltS.eq_2 (And.intro @wrOk.eq_1 (And.intro @wrOk.eq_2 (And.intro @wrOk.eq_3 (And.intro @wrOk.eq_4 (And.intro @wrO.eq_1 (And.intro @wrO.eq_2 (And.intro @wrO.eq_3 (And.intro @Go.TL.get.eq_1 (And.intro @Go.TL.get.eq_2 (And.intro @zA6.eq_1 (And.intro @zA6.eq_2 (And.intro @rmK.eq_1 (And.intro @rmK.eq_2 (And.intro @rm1.eq_1 (And.intro @rm1.eq_2 (And.intro @Option.getD_some.{0} (And.intro @Option.isSome_some.{0} (And.intro @List.length_map.{0,0} (And.intro @List.length_append.{0} (And.intro @List.length_cons.{0} (And.intro @List.length_nil.{0} (And.intro @List.append_nil.{0} (And.intro @List.mem_singleton.{0} (And.intro @List.mem_cons.{0} (And.intro @List.not_mem_nil.{0} (And.intro @and_true (And.intro @true_and (And.intro @and_self (And.intro @imp_self (And.intro @forall_const.{0} (And.intro @false_implies (And.intro @implies_true.{0} (And.intro @true_implies (And.intro @or_false (And.intro @Bool.false_eq_true (And.intro @Bool.true_eq_false (And.intro @qR7 (And.intro @true_or (And.intro @or_true (And.intro @false_or (And.intro @false_and (@and_false))))))))))))))))))))))))))))))))))))))))))))))))))))))))))))))))))))))))))))))))))))))))))))))))
theorem tD:type_of% (And.intro @decide_eq_true_eq (And.intro @decide_eq_false_iff_not (And.intro @Bool.or_eq_true (And.intro @Bool.or_eq_false_iff (And.intro @Bool.and_eq_true (@Bool.and_eq_false_iff)))))):=And.intro @decide_eq_true_eq (And.intro @decide_eq_false_iff_not (And.intro @Bool.or_eq_true (And.intro @Bool.or_eq_false_iff (And.intro @Bool.and_eq_true (@Bool.and_eq_false_iff)))))
theorem Le.oA {e:Env} {st st':Sto} {fr fr':List (Nat×T)} (ρ:Ren) (B:List Nat) (hr:QI st' ρ = true:=by rfl) (hh:zc8 st' ρ e.st0 = true:=by first | rfl | (rw [hst];rfl)) (hs:Qz st ρ B st':=by exact clA) (hf:ltFr st ρ B fr fr':=by exact clA):Le e ⟨fr,st⟩ ⟨fr',st'⟩:=.of ρ B hr hh hs hf
theorem ZD.oA {st st' st0:Sto} {x r:T} (ρ:Ren) (B:List Nat) (hr:QI st' ρ = true:=by rfl) (hh:zc8 st' ρ st0 = true:=by first | rfl | (rw [hst];rfl)) (hs:Qz st ρ B st':=by exact clA) (hf:ltT st ρ B x r:=by exact clA):ZD st0 x st r st':=.of ρ B hr hh hs hf
end Go.TL
namespace Go.TL
open Go.RowKit Go.ChangeShapes
set_option linter.unusedVariables false
section
variable {H:Type} {enc:TypeId×Value→H}
theorem qR9 {C:Checked} {f:FuncId} {fn:Func} {s:ChangeSpec} {conds:List PathCond} {os:Os} (started:os.Started) {a:Assume} {apart fresh handsOn again:Bool} {tb:TypeId} {shs:List Sh} {laid:List (String×DataW Unit)}
 (own:ownKnob C.prog.godebug = none) (noInit:C.prog.inits.idxOf? f = none) (hfn:C.prog.funcs[f]? = some fn)
 (witness:∃ (w:World) (tape:Tape) (i:Input),w.os = os∧(w.forCall tape i).Shaped C.prog∧i.vars = []∧Input.okWide C.prog (w.forCall tape i) .any w.heap.size f i∧
   ((s.pre enc C.prog fn conds apart (w.forCall tape i).memory i.args∧laidMetH C.prog laid (w.forCall tape i).memory)∧sizedMet enc C.prog fn (OpenSpec.ofChange s) apart (w.forCall tape i).memory i.args)∧a.holds C.prog (lone (Frame.enter C.prog f i.args .normal) [] (w.forCall tape i)))
 (hl:laidOutB C.prog = true) (hpar:fn.params.toList.all (fun t=>C.prog.readableRec t && decide (t < C.prog.types.size)) = true) (hrt:fn.resultTypes = #[tb]) (htb:C.prog.underlying tb = some .bool) (hvars:s.vars = [])
 (hspec:∀ ds:List (DataW H),ds.length = fn.params.size→s.fn H ds = { results:=[.lit (.bool true)],args:=ds }) (hsh:zA8 C.prog fn.params.toList = some shs)
 (hc:∀ tss,qd2 shs tss→Spc C.prog f (Ya shs tss) [] (vB true) []) :
 ReturnsInHanded a C os f .any (fun w args=>(s.pre enc C.prog fn conds apart w args∧laidMetH C.prog laid w)∧sizedMet enc C.prog fn (OpenSpec.ofChange s) apart w args) (s.post enc C.prog fn apart fresh handsOn again):=by
 refine returnsInHanded_of_change_and (X:=fun w _=>laidMetH C.prog laid w) (fun _ _ _ hh h=>h.of_heap hh) own started noInit hfn witness ?_
 intro W base args ds gs before hok hW _ hw _ _
 have hW0:=hW
 obtain ⟨p,q,hA,hV,hpq,_,_⟩:=hW
 rw [hvars] at hV
 obtain ⟨rfl,rfl⟩:=trodVars_none hV
 have hlen:∀ (ts:List TypeId) (vs:List Value) (ds:List (DataW H)) (ps:List MemPlace),DataW.TrodAll enc C.prog W 0 (fun _=>true) true ts vs ds ps→ds.length = ts.length:=by
  intro ts
  induction ts with
  | nil=>intro vs ds ps h;obtain ⟨_,rfl,_⟩:=trodAll_nil h;rfl
  | cons t ts ih=>intro vs ds ps h;obtain ⟨v,vs',d,ds',p,q,_,rfl,_,_,h2⟩:=trodAll_cons h;simp [ih _ _ _ h2]
 have hdl:ds.length = fn.params.size:=by simpa using hlen _ _ _ _ hA
 have hpl:s.plain.varTypes C.prog = []:=by
  have:s.plain.vars = s.vars:=rfl
  simp [DataSpec.varTypes,ChangeSpec.plain,hvars]
 obtain ⟨tss,h1,h2,h3⟩:=qt8 (base:=base) fn.params.toList shs args.toList ds p hsh hA (fun j t v ht hv=>hok j t v (by simpa using ht) (by simpa using hv)) (fun x hx=>by
  have:=List.all_eq_true.1 hw x (by simpa [hpl] using hx)
  simpa using this)
 refine (zA9 (hc tss h1) (by simpa using h2.symm) (fun j v x hv hx=>h3 j v x (by simpa using hv) hx)).mono ?_
 rintro en w' ⟨rfl,hb⟩
 refine ⟨_,rfl,zP9 hl (fun t ht=>?_) hrt htb hvars (by rw [List.append_nil];exact hspec ds hdl) hW0 hb⟩
 have:=List.all_eq_true.1 hpar t ht
 simpa using this
end
end Go.TL
namespace Go.TL
open Go.RowKit Go.ChangeShapes
inductive Sr where
 | int (k:IntKind)
 | bool
 | str
 | sl (k b:Nat) (el:Sr)
 | st (fs:Sr)
 | fnil
 | fcons (n:Nat) (s:Sr) (r:Sr)
 | tie
def ja3 (s:Sr) (cs:List T):T:=match s with
 | .st _=>.agg cs
 | .tie=>.agg cs
 | _=>cs.headD .junk
def zQ5 (E:List T→Prop):Sr→List T→Prop
 | .int k,ts=>∃ n,ts = [.v (.int k n)]∧(Lit.int k n).wf = true
 | .bool,ts=>∃ b,ts = [.v (.bool b)]
 | .str,ts=>∃ s:ByteArray,ts = [.v (.string s)]∧s.size≤140737488351232
 | .sl k b s,ts=>∃ xs:List (List T),ts = [.sl k (xs.map (ja3 s))]∧xs.length * b≤140737488351232∧xs.length≤9223372036854775807∧∀ x∈xs,x.length = k∧zQ5 E s x
 | .st fs,ts=>zQ5 E fs ts
 | .fnil,ts=>ts = []
 | .fcons n s r,ts=>∃ a b,ts = a ++ b∧a.length = n∧zQ5 E s a∧zQ5 E r b
 | .tie,ts=>E ts
def jm9 (P:Program) (sh:TypeId→Option Sr):Nat→List Field→Option Sr
 | off,[]=>some .fnil
 | off,f :: r=>if f.offset = off then match sh f.type,jm9 P sh (off + P.cellsOf f.type) r with
   | some s,some l=>some (.fcons (P.cellsOf f.type) s l)
   | _,_=>none
   else none
def zQ6:Sr→Nat
 | .fcons n _ r=>n + zQ6 r
 | _=>0
def shR (P:Program) (tR:TypeId):Nat→TypeId→Option Sr
 | 0,_=>none
 | n + 1,t=>if t = tR then some .tie else match P.underlying t with
   | some .bool=>some .bool
   | some (.int k)=>some (.int k)
   | some .string=>some .str
   | some (.slice e)=>(shR P tR n e).map fun s=>.sl (P.cellsOf e) (P.bytesOf e) s
   | some (.struct fs)=>match jm9 P (shR P tR n) 0 fs.toList with
     | some s=>if P.cellsOf t = zQ6 s then some (.st s) else none
     | none=>none
   | _=>none
section
variable {H:Type} {enc:TypeId×Value→H} {P:Program} {w:World} {spare:Nat→Bool} {held:Bool} {tR:TypeId} {E:List T→Prop}
structure RecOk (P:Program) (tR:TypeId) (E:List T→Prop):Prop where
 flat:∀ ts,E ts→js7 ts
 body:∃ fs m s,P.underlying tR = some (.struct fs)∧jm9 P (shR P tR m) 0 fs.toList = some s∧P.cellsOf tR = zQ6 s∧∀ ts,zQ5 E s ts→E ts
end
section
variable {H:Type} {enc:TypeId×Value→H} {P:Program} {tR:TypeId} {E:List T→Prop}
end
end Go.TL
