/- A part of the proof: ZzF ZzD ZzR. -/
import Derived.Lay
import Derived.LaidLaws
import Derived.MakeChecks
import Derived.SevenTiedAt
import Derived.Test.YthbdcffpkbmlaaaGreatDoorK12
namespace Go.TL
theorem tZ:type_of% (Az @tl (Az @tl2 (Az @tl4 (Az @tl3 (Az @zK.eq_1 (Az @zK.eq_2 (Az @entX.eq_1 (Az @entX.eq_2 (Az @ZY.eq_1 (Az @ZY.eq_2 (Az @ret.eq_1 (Az @retI.eq_1 (Az @retB.eq_1 (Az @intT.eq_1 (Az @intT.eq_2 (Az @intT.eq_3 (Az @intT.eq_4 (Az @intT.eq_5 (Az @intT.eq_6 (Az @intT.eq_7 (Az @intT.eq_8 (Az @intT.eq_9 (Az @intT.eq_10 (Az @intT.eq_11 (Az @intT.eq_12 (Az @intT.eq_13 (Az @intT.eq_14 (Az @intT.eq_15 (Az @intT.eq_16 (Az @intT.eq_17 (Az @unT.eq_1 (Az @unT.eq_2 (Az @unT.eq_3 (Az @unT.eq_4 (Az @endR.eq_1 (Az @endR.eq_2 (Az @qa5.eq_1 (Az @qa5.eq_2 (Az @resR.eq_1 (Az @resR.eq_2 (Az @tupT.eq_1 (Az @tupT.eq_2 (Az @bslR.eq_1 (Az @boxR.eq_1 (Az @JQ.eq_1 (Az @JQ.eq_2 (Az @rmK.eq_1 (Az @rmK.eq_2 (Az @rm1.eq_1 (Az @rm1.eq_2 (Az @ne_eq.{1} (Az @not_false_eq_true (Az @decide_true (Az @decide_false (@not_true_eq_false))))))))))))))))))))))))))))))))))))))))))))))))))))))):=Az @tl (Az @tl2 (Az @tl4 (Az @tl3 (Az @zK.eq_1 (Az @zK.eq_2 (Az @entX.eq_1 (Az @entX.eq_2 (Az @ZY.eq_1 (Az @ZY.eq_2 (Az @ret.eq_1 (Az @retI.eq_1 (Az @retB.eq_1 (Az @intT.eq_1 (Az @intT.eq_2 (Az @intT.eq_3 (Az @intT.eq_4 (Az @intT.eq_5 (Az @intT.eq_6 (Az @intT.eq_7 (Az @intT.eq_8 (Az @intT.eq_9 (Az @intT.eq_10 (Az @intT.eq_11 (Az @intT.eq_12 (Az @intT.eq_13 (Az @intT.eq_14 (Az @intT.eq_15 (Az @intT.eq_16 (Az @intT.eq_17 (Az @unT.eq_1 (Az @unT.eq_2 (Az @unT.eq_3 (Az @unT.eq_4 (Az @endR.eq_1 (Az @endR.eq_2 (Az @qa5.eq_1 (Az @qa5.eq_2 (Az @resR.eq_1 (Az @resR.eq_2 (Az @tupT.eq_1 (Az @tupT.eq_2 (Az @bslR.eq_1 (Az @boxR.eq_1 (Az @JQ.eq_1 (Az @JQ.eq_2 (Az @rmK.eq_1 (Az @rmK.eq_2 (Az @rm1.eq_1 (Az @rm1.eq_2 (Az @ne_eq.{1} (Az @not_false_eq_true (Az @decide_true (Az @decide_false (@not_true_eq_false))))))))))))))))))))))))))))))))))))))))))))))))))))))
theorem tL:type_of% (Az @wL.eq_1 (Az @wL.eq_2 (Az @wL.eq_3 (Az @wL.eq_4 (Az @wL.eq_5 (Az @ltO2.eq_1 (Az @ltO2.eq_2 (Az @ltO2.eq_3 (Az @ltO1.eq_1 (Az @ltO1.eq_2 (Az @ltAs.eq_1 (Az @ltAs.eq_2 (Az @ltAs.eq_3 (Az @ltA.eq_1 (Az @ltA.eq_2 (Az @ltA.eq_3 (Az @ltA.eq_4 (Az @ltA.eq_5 (Az @ltC.eq_1 (Az @ltC.eq_2 (Az @ltC.eq_3 (Az @ltC0.eq_1 (Az @ltC0.eq_2 (Az @ltC0.eq_3 (Az @ltC0.eq_4 (Az @ltC0.eq_5 (Az @ltC0.eq_6 (Az @ltC0.eq_7 (Az @ltC0.eq_8 (Az @ltC0.eq_9 (Az @ltC0.eq_10 (Az @ltC0.eq_11 (Az @ltC0.eq_12 (Az @ltC0.eq_13 (Az @ltC0.eq_14 (Az @ltC0.eq_15 (Az @ltC0.eq_16 (Az @ltC0.eq_17 (Az @ltC0.eq_18 (Az @ltC0.eq_19 (Az @ltC0.eq_20 (Az @ltC0.eq_21 (Az @qu0.eq_1 (Az @qu0.eq_2 (Az @qu0.eq_3 (Az @ltCs.eq_1 (Az @ltCs.eq_2 (Az @ltCs.eq_3 (Az @ltT.eq_1 (Az @ltT.eq_2 (Az @ltT.eq_3 (Az @ltFr.eq_1 (Az @ltFr.eq_2 (Az @ltS.eq_1 (Az @ltS.eq_2 (Az @wrOk.eq_1 (Az @wrOk.eq_2 (Az @wrOk.eq_3 (Az @wrOk.eq_4 (Az @wrO.eq_1 (Az @wrO.eq_2 (Az @wrO.eq_3 (Az @Go.TL.get.eq_1 (Az @Go.TL.get.eq_2 (Az @qn5.eq_1 (Az @qn5.eq_2 (Az @rmK.eq_1 (Az @rmK.eq_2 (Az @rm1.eq_1 (Az @rm1.eq_2 (Az @Option.getD_some.{0} (Az @Option.isSome_some.{0} (Az @List.length_map.{0,0} (Az @List.length_append.{0} (Az @List.length_cons.{0} (Az @List.length_nil.{0} (Az @List.append_nil.{0} (Az @List.mem_singleton.{0} (Az @List.mem_cons.{0} (Az @List.not_mem_nil.{0} (Az @and_true (Az @true_and (Az @and_self (Az @imp_self (Az @forall_const.{0} (Az @false_implies (Az @implies_true.{0} (Az @true_implies (Az @or_false (Az @EZ (Az @Bool.true_eq_false (Az @qU1 (Az @true_or (Az @or_true (Az @false_or (Az @false_and (@and_false))))))))))))))))))))))))))))))))))))))))))))))))))))))))))))))))))))))))))))))))))))))))))))))))):=Az @wL.eq_1 (Az @wL.eq_2 (Az @wL.eq_3 (Az @wL.eq_4 (Az @wL.eq_5 (Az @ltO2.eq_1 (Az @ltO2.eq_2 (Az @ltO2.eq_3 (Az @ltO1.eq_1 (Az @ltO1.eq_2 (Az @ltAs.eq_1 (Az @ltAs.eq_2 (Az @ltAs.eq_3 (Az @ltA.eq_1 (Az @ltA.eq_2 (Az @ltA.eq_3 (Az @ltA.eq_4 (Az @ltA.eq_5 (Az @ltC.eq_1 (Az @ltC.eq_2 (Az @ltC.eq_3 (Az @ltC0.eq_1 (Az @ltC0.eq_2 (Az @ltC0.eq_3 (Az @ltC0.eq_4 (Az @ltC0.eq_5 (Az @ltC0.eq_6 (Az @ltC0.eq_7 (Az @ltC0.eq_8 (Az @ltC0.eq_9 (Az @ltC0.eq_10 (Az @ltC0.eq_11 (Az @ltC0.eq_12 (Az @ltC0.eq_13 (Az @ltC0.eq_14 (Az @ltC0.eq_15 (Az @ltC0.eq_16 (Az @ltC0.eq_17 (Az @ltC0.eq_18 (Az @ltC0.eq_19 (Az @ltC0.eq_20 (Az @ltC0.eq_21 (Az @qu0.eq_1 (Az @qu0.eq_2 (Az @qu0.eq_3 (Az @ltCs.eq_1 (Az @ltCs.eq_2 (Az @ltCs.eq_3 (Az @ltT.eq_1 (Az @ltT.eq_2 (Az @ltT.eq_3 (Az @ltFr.eq_1 (Az @ltFr.eq_2 (Az @ltS.eq_1 (Az @ltS.eq_2 (Az @wrOk.eq_1 (Az @wrOk.eq_2 (Az @wrOk.eq_3 (Az @wrOk.eq_4 (Az @wrO.eq_1 (Az @wrO.eq_2 (Az @wrO.eq_3 (Az @Go.TL.get.eq_1 (Az @Go.TL.get.eq_2 (Az @qn5.eq_1 (Az @qn5.eq_2 (Az @rmK.eq_1 (Az @rmK.eq_2 (Az @rm1.eq_1 (Az @rm1.eq_2 (Az @Option.getD_some.{0} (Az @Option.isSome_some.{0} (Az @List.length_map.{0,0} (Az @List.length_append.{0} (Az @List.length_cons.{0} (Az @List.length_nil.{0} (Az @List.append_nil.{0} (Az @List.mem_singleton.{0} (Az @List.mem_cons.{0} (Az @List.not_mem_nil.{0} (Az @and_true (Az @true_and (Az @and_self (Az @imp_self (Az @forall_const.{0} (Az @false_implies (Az @implies_true.{0} (Az @true_implies (Az @or_false (Az @EZ (Az @Bool.true_eq_false (Az @qU1 (Az @true_or (Az @or_true (Az @false_or (Az @false_and (@and_false))))))))))))))))))))))))))))))))))))))))))))))))))))))))))))))))))))))))))))))))))))))))))))))))
theorem tD:type_of% (Az @AZ (Az @Ay (Az @DZ (Az @FX (Az @Bq (@FJ)))))):=Az @AZ (Az @Ay (Az @DZ (Az @FX (Az @Bq (@FJ)))))
theorem Le.oA {e:Env} {st st':Sto} {fr fr':List (Nat×T)} (ρ:Ren) (B:List Nat) (hr:wm st' ρ=true:=by rfl) (hh:zk1 st' ρ e.st0=true:=by first | rfl | (rw[hst];rfl)) (hs:wL st ρ B st':=by exact clA) (hf:ltFr st ρ B fr fr':=by exact clA):Le e ⟨fr,st⟩ ⟨fr',st'⟩:=.of ρ B hr hh hs hf
theorem Qx.oA {st st' st0:Sto} {x r:T} (ρ:Ren) (B:List Nat) (hr:wm st' ρ=true:=by rfl) (hh:zk1 st' ρ st0=true:=by first | rfl | (rw[hst];rfl)) (hs:wL st ρ B st':=by exact clA) (hf:ltT st ρ B x r:=by exact clA):Qx st0 x st r st':=.of ρ B hr hh hs hf
end Go.TL
namespace Go.TL
open Go.RowKit Go.ChangeShapes
section
variable {H:Type} {enc:TypeId×Value→H}
theorem qU5 {C:Checked} {f:FuncId} {fn:Func} {s:ChangeSpec} {conds:List PathCond} {os:Os} (started:os.Started) {a:Assume} {apart fresh handsOn again:Bool} {tb:TypeId} {shs:List Sh} {laid:List (String×DataW Unit)}
 (own:ownKnob C.prog.godebug=none) (noInit:C.prog.inits.idxOf? f=none) (hfn:C.prog.funcs[f]?=some fn)
 (witness:∃ (w:World) (tape:Tape) (i:Input),w.os=os∧(w.forCall tape i).Shaped C.prog∧i.vars=[]∧Input.okWide C.prog (w.forCall tape i) .any w.heap.size f i∧
   ((s.pre enc C.prog fn conds apart (w.forCall tape i).memory i.args∧laidMetH C.prog laid (w.forCall tape i).memory)∧sizedMet enc C.prog fn (OpenSpec.ofChange s) apart (w.forCall tape i).memory i.args)∧a.holds C.prog (lone (Frame.enter C.prog f i.args .normal) [] (w.forCall tape i)))
 (hl:laidOutB C.prog=true) (hpar:fn.params.toList.all (fun t=>C.prog.readableRec t&&decide (t<C.prog.types.size))=true) (hrt:fn.resultTypes=#[tb]) (htb:C.prog.underlying tb=some .bool) (hvars:s.vars=[])
 (hspec:∀ ds:List (DataW H),ds.length=fn.params.size→s.fn H ds={ results:=[.lit (.bool true)],args:=ds }) (hsh:zR2 C.prog fn.params.toList=some shs)
 (hc:∀ tss,WW shs tss→Spc C.prog f (Kw shs tss) [] (vB true) []) :
 ReturnsInHanded a C os f .any (fun w args=>(s.pre enc C.prog fn conds apart w args∧laidMetH C.prog laid w)∧sizedMet enc C.prog fn (OpenSpec.ofChange s) apart w args) (s.post enc C.prog fn apart fresh handsOn again):=by
 refine returnsInHanded_of_change_and (X:=fun w _=>laidMetH C.prog laid w) (fun _ _ _ hh h=>h.of_heap hh) own started noInit hfn witness ?_;intro W base args ds gs before hok hW _ hw _ _;have hW0:=hW;obtain⟨p,q,hA,hV,hpq,_,_⟩:=hW;rw[hvars] at hV;obtain⟨rfl,rfl⟩:=trodVars_none hV;have hlen:∀ (ts:List TypeId) (vs:List Value) (ds:List (DataW H)) (ps:List MemPlace),DataW.TrodAll enc C.prog W 0 (fun _=>true) true ts vs ds ps→ds.length=ts.length:=by
  intro ts
  induction ts with
  | nil=>intro vs ds ps h;obtain⟨_,rfl,_⟩:=trodAll_nil h;rfl
  | cons t ts ih=>intro vs ds ps h;obtain⟨v,vs',d,ds',p,q,_,rfl,_,_,h2⟩:=trodAll_cons h;simp [ih _ _ _ h2]
 have hdl:ds.length=fn.params.size:=by simpa using hlen _ _ _ _ hA
 have hpl:s.plain.varTypes C.prog=[]:=by
  have:s.plain.vars=s.vars:=rfl;simp [DataSpec.varTypes,ChangeSpec.plain,hvars]
 obtain⟨tss,h1,h2,h3⟩:=qm1 (base:=base) fn.params.toList shs args.toList ds p hsh hA (fun j t v ht hv=>hok j t v (by simpa using ht) (by simpa using hv)) (fun x hx=>by
  have:=Bk.1 hw x (by simpa [hpl] using hx);simpa using this)
 refine (zR3 (hc tss h1) (by simpa using h2.symm) (fun j v x hv hx=>h3 j v x (by simpa using hv) hx)).mono ?_;rintro en w' ⟨rfl,hb⟩;refine⟨_,rfl,ji1 hl (fun t ht=>?_) hrt htb hvars (by rw[CW];exact hspec ds hdl) hW0 hb⟩;have:=Bk.1 hpar t ht;simpa using this
end
end Go.TL
namespace Go.TL
open Go.RowKit Go.ChangeShapes
inductive Sr where
 | int (k:IntKind)
 | bool
 | str
 | sl (k b:Nat) (el:Sr)
 | st (fs:Sr)
 | fnil
 | fcons (n:Nat) (s:Sr) (r:Sr)
 | tie
def jw6 (s:Sr) (cs:List T):T:=match s with
 | .st _=>.agg cs
 | .tie=>.agg cs
 | _=>cs.headD .junk
def ji7 (E:List T→Prop):Sr→List T→Prop
 | .int k,ts=>∃ n,ts=[.v (.int k n)]∧(Lit.int k n).wf=true
 | .bool,ts=>∃ b,ts=[.v (.bool b)]
 | .str,ts=>∃ s:ByteArray,ts=[.v (.string s)]∧s.size≤140737488351232
 | .sl k b s,ts=>∃ xs:List (List T),ts=[.sl k (xs.map (jw6 s))]∧xs.length*b≤140737488351232∧xs.length≤9223372036854775807∧∀ x∈xs,x.length=k∧ji7 E s x
 | .st fs,ts=>ji7 E fs ts
 | .fnil,ts=>ts=[]
 | .fcons n s r,ts=>∃ a b,ts=a++b∧a.length=n∧ji7 E s a∧ji7 E r b
 | .tie,ts=>E ts
def jL9 (P:Program) (sh:TypeId→Option Sr):Nat→List Field→Option Sr
 | off,[]=>some .fnil
 | off,f::r=>if f.offset=off then match sh f.type,jL9 P sh (off+P.cellsOf f.type) r with
   | some s,some l=>some (.fcons (P.cellsOf f.type) s l)
   | _,_=>none
   else none
def ji8:Sr→Nat
 | .fcons n _ r=>n+ji8 r
 | _=>0
def shR (P:Program) (tR:TypeId):Nat→TypeId→Option Sr
 | 0,_=>none
 | n+1,t=>if t=tR then some .tie else match P.underlying t with
   | some .bool=>some .bool
   | some (.int k)=>some (.int k)
   | some .string=>some .str
   | some (.slice e)=>(shR P tR n e).map fun s=>.sl (P.cellsOf e) (P.bytesOf e) s
   | some (.struct fs)=>match jL9 P (shR P tR n) 0 fs.toList with
     | some s=>if P.cellsOf t=ji8 s then some (.st s) else none
     | none=>none
   | _=>none
section
variable {H:Type} {enc:TypeId×Value→H} {P:Program} {w:World} {spare:Nat→Bool} {held:Bool} {tR:TypeId} {E:List T→Prop}
structure RecOk (P:Program) (tR:TypeId) (E:List T→Prop):Prop where
 flat:∀ ts,E ts→jT6 ts
 body:∃ fs m s,P.underlying tR=some (.struct fs)∧jL9 P (shR P tR m) 0 fs.toList=some s∧P.cellsOf tR=ji8 s∧∀ ts,ji7 E s ts→E ts
end
section
variable {H:Type} {enc:TypeId×Value→H} {P:Program} {tR:TypeId} {E:List T→Prop}
end
end Go.TL
