/- From a law's contract to its row. -/
import Derived.Test.YtnejebkdlofdoaaZzB
namespace Go.TL
open Go.RowKit Go.ChangeShapes
set_option linter.unusedSimpArgs false
set_option linter.unusedVariables false

section
variable {H : Type} {enc : TypeId × Value → H} {P : Program}

theorem trodAll_stay (hl : laidOutB P = true) {W W' : World} {sp : Nat → Bool} (hsame : ∀ p : MemPlace, p.block < W.heap.size → W.sameAt W' p) : ∀ (ts : List TypeId) (vs : List Value) (ds : List (DataW H)) (ps : List MemPlace),
    DataW.TrodAll enc P W 0 (fun _ => true) true ts vs ds ps → (∀ t ∈ ts, P.readableRec t = true ∧ t < P.types.size) → (∀ p ∈ ps, p.block < W.heap.size) → (∀ p ∈ ps, sp p.block = true) → DataW.TrodAll enc P W' 0 sp true ts vs ds ps
  | [], vs, ds, ps, h, _, _, _ => by
    obtain ⟨rfl, rfl, rfl⟩ := trodAll_nil h
    exact trodAll_mk0
  | t :: ts, vs, ds, ps, h, ht, hp, hsp => by
    obtain ⟨v, vs', d, ds', p, q, rfl, rfl, rfl, h1, h2⟩ := trodAll_cons h
    refine trodAll_cons_mk (WideElems.Trod_stays hl (ht t (by simp)).1 (ht t (by simp)).2 h1 (fun x hx => hsame x (hp x (by simp [hx]))) (fun x hx => hsp x (by simp [hx]))) ?_
    exact trodAll_stay hl hsame ts vs' ds' q h2 (fun u hu => ht u (by simp [hu])) (fun x hx => hp x (by simp [hx])) (fun x hx => hsp x (by simp [hx]))

theorem post_true {f : Func} {s : ChangeSpec} {apart fresh handsOn again : Bool} {W W' : World} {args : Array Value} {ds gs : List (DataW H)} {before : List MemPlace} {tb : TypeId}
    (hl : laidOutB P = true) (hpar : ∀ t ∈ f.params.toList, P.readableRec t = true ∧ t < P.types.size) (hrt : f.resultTypes = #[tb]) (htb : P.underlying tb = some .bool) (hvars : s.vars = [])
    (hfn : s.fn H (ds ++ gs) = { results := [.lit (.bool true)], args := ds }) (hW : DataW.Whole enc P f.params.toList s.vars apart W args.toList ds gs before) (hb : Below W.heap.size W W') :
    s.post enc P f apart fresh handsOn again W args (.bool true) W' := by
  have hlt := hW.lt
  have hW0 := hW
  obtain ⟨p, q, hA, hV, hpq, hz, hn⟩ := hW
  rw [hvars] at hV
  obtain ⟨rfl, rfl⟩ := trodVars_none hV
  rw [List.append_nil] at hpq
  subst hpq
  have hargs : ∀ sp : Nat → Bool, (∀ x ∈ before, sp x.block = true) → DataW.TrodAll enc P W' 0 sp true f.params.toList args.toList ds before := fun sp hsp =>
    trodAll_stay hl (fun x hx => hb.same hx) _ _ _ _ hA hpar hlt hsp
  have hold : ∀ x ∈ before, (fun b => decide (b < W.heap.size)) x.block = true := fun x hx => by simpa using hlt x hx
  have hres : ∀ (b : Nat) (sp : Nat → Bool) (hd : Bool), DataW.TrodAll enc P W' b sp hd f.resultTypes.toList ((Value.bool true).resultList f.resultTypes.size) [.lit (.bool true)] [] := by
    intro b sp hd
    rw [hrt]
    exact trodAll_cons_mk (RowKit.shut_bool htb true) trodAll_mk0
  refine ⟨ds, [], before, [], before, [], hW0, by rw [hfn]; exact hres _ _ _, by rw [hfn]; exact hargs _ hold, ?_, World.keptBut_mono (fun x hx => ⟨hx, .inr (.inl hx)⟩) (hb.frame _), fun _ => ⟨?_, ?_⟩⟩
  · rw [hfn, hvars]; rfl
  · intro j t r hj hr
    rw [hrt] at hj hr
    cases j with
    | zero =>
      simp [Value.resultList] at hj hr
      subst hj hr
      simp [Value.okWide, htb, Cell.okWide, Cell.ok]
    | succ j => simp at hj
  · refine ⟨[.lit (.bool true)] ++ ds, [], before, ⟨[] ++ before, [], trodAll_append (hargs _ (fun _ _ => rfl)) (hres _ _ _), by rw [hvars]; rfl, by simp, fun b off hp => ?_, hn⟩, fun x hx _ => hx⟩
    rw [hb.frozen (hlt _ hp)]
    exact hz b off hp

/-- cells of the arguments, one argument behind the other -/
def FitsAll : List Sh → List (List T) → Prop
  | [], [] => True
  | s :: ss, t :: ts => Fits s t ∧ FitsAll ss ts
  | _, _ => False
def treesOf : List Sh → List (List T) → List T
  | s :: ss, t :: ts => ofCells s t :: treesOf ss ts
  | _, _ => []

def shAll (P : Program) : List TypeId → Option (List Sh)
  | [] => some []
  | t :: ts => match shOf P 30 t, shAll P ts with
    | some s, some l => some (s :: l)
    | _, _ => none

theorem trodAll_fits {W : World} {base : Nat} : ∀ (ts : List TypeId) (shs : List Sh) (vs : List Value) (ds : List (DataW H)) (ps : List MemPlace), shAll P ts = some shs → DataW.TrodAll enc P W 0 (fun _ => true) true ts vs ds ps →
    (∀ (j : Nat) t v, ts[j]? = some t → vs[j]? = some v → Value.okWide P W .any base t v) → (∀ x ∈ DataW.weightsEach P ts ds, x ≤ reachBytes) →
    ∃ tss, FitsAll shs tss ∧ (treesOf shs tss).length = vs.length ∧ ∀ (j : Nat) (v : Value) (x : T), vs[j]? = some v → (treesOf shs tss)[j]? = some x → Rp [] (fun _ => none) W (oldA W) v x
  | [], shs, vs, ds, ps, hs, h, _, _ => by
    obtain ⟨rfl, rfl, rfl⟩ := trodAll_nil h
    simp only [shAll, Option.some.injEq] at hs; subst hs
    exact ⟨[], trivial, rfl, fun j v x hv => by simp at hv⟩
  | t :: ts, shs, vs, ds, ps, hs, h, hok, hw => by
    obtain ⟨v, vs', d, ds', p, q, rfl, rfl, rfl, h1, h2⟩ := trodAll_cons h
    simp only [shAll] at hs
    split at hs
    · rename_i s l hs1 hs2
      injection hs with hs; subst hs
      simp only [DataW.weightsEach, List.mem_append] at hw
      obtain ⟨tss, i1, i2, i3⟩ := trodAll_fits ts l vs' ds' q hs2 h2 (fun j t' v' ht hv => hok (j + 1) t' v' (by simpa using ht) (by simpa using hv)) (fun x hx => hw x (.inr hx))
      obtain ⟨fuel, h1⟩ := h1
      obtain ⟨cs, f1, r1⟩ := trod_fits fuel 30 t v.cells.toList d p s h1 hs1 (fun x hx => hw x (.inl hx))
      refine ⟨cs :: tss, ⟨f1, i1⟩, by simp [treesOf, i2], fun j u x hu hx => ?_⟩
      cases j with
      | succ j => exact i3 j u x (by simpa using hu) (by simpa [treesOf] using hx)
      | zero =>
        simp [treesOf] at hu hx
        subst hu hx
        have hov := hok 0 t v rfl rfl
        have hF := shOf_notF hs1
        cases hr : isRec s with
        | true =>
          cases s with
          | st fs =>
            simp only [shOf] at hs1
            have hv : ∃ vs, v = .agg vs := by
              unfold Value.okWide at hov
              split at hov
              · obtain ⟨c, hc, _⟩ := hov; exact ⟨c, hc⟩
              · obtain ⟨c, hc, _⟩ := hov; exact ⟨c, hc⟩
              · exfalso
                rename_i hne1 hne2
                split at hs1 <;> first | (cases hs1; done) | skip
                · simp only [Option.map_eq_some_iff] at hs1; obtain ⟨_, _, hh⟩ := hs1; cases hh
                · rename_i fs' hu; exact hne1 fs' hu
            obtain ⟨vs, rfl⟩ := hv
            have : vs = vs.toList.toArray := by simp
            rw [this]
            refine .agg _ _ (by simpa [Value.cells] using r1.1.symm) fun j u c hu hc => ?_
            exact .im (r1.2 j u c (by simpa [Value.cells] using hu) hc).2
          | _ => cases hr
        | false =>
          obtain ⟨c, rfl⟩ := fits_one hr hF f1
          have hoc : ofCells s [c] = c := by cases s <;> first | (cases hr; done) | rfl
          rw [hoc]
          have hl := r1.1
          have hv : v.cells.toList = [v] := by
            cases v with
            | agg a =>
              exfalso
              cases s with
              | st _ => cases hr
              | fnil => cases hF
              | fcons => cases hF
              | int k =>
                simp only [shOf] at hs1
                split at hs1 <;> first | (cases hs1; done) | skip
                all_goals first
                  | (rename_i hu; simp [Value.okWide, hu, Cell.okWide, Cell.ok] at hov; done)
                  | (simp only [Option.map_eq_some_iff] at hs1; obtain ⟨_, _, hh⟩ := hs1; cases hh; done)
                  | (split at hs1 <;> first | (split at hs1 <;> cases hs1; done) | (cases hs1; done))
              | bool =>
                simp only [shOf] at hs1
                split at hs1 <;> first | (cases hs1; done) | skip
                all_goals first
                  | (rename_i hu; simp [Value.okWide, hu, Cell.okWide, Cell.ok] at hov; done)
                  | (simp only [Option.map_eq_some_iff] at hs1; obtain ⟨_, _, hh⟩ := hs1; cases hh; done)
                  | (split at hs1 <;> first | (split at hs1 <;> cases hs1; done) | (cases hs1; done))
              | str =>
                simp only [shOf] at hs1
                split at hs1 <;> first | (cases hs1; done) | skip
                all_goals first
                  | (rename_i hu; simp [Value.okWide, hu, Cell.okWide, Cell.ok] at hov; done)
                  | (simp only [Option.map_eq_some_iff] at hs1; obtain ⟨_, _, hh⟩ := hs1; cases hh; done)
                  | (split at hs1 <;> first | (split at hs1 <;> cases hs1; done) | (cases hs1; done))
              | sl k b s =>
                simp only [shOf] at hs1
                split at hs1 <;> first | (cases hs1; done) | skip
                all_goals first
                  | (rename_i hu; simp [Value.okWide, hu, Cell.okWide, Cell.ok] at hov; done)
                  | (split at hs1 <;> first | (split at hs1 <;> cases hs1; done) | (cases hs1; done))
            | _ => rfl
          rw [hv] at r1
          exact .im (r1.2 0 v c rfl rfl).2
    · cases hs

/-- the call of a law, from its contract -/
theorem calls_true {f : FuncId} {W : World} {args : Array Value} {ts : List T} (hs : Spc P f ts [] (vB true) []) (hn : args.size = ts.length) (ha : ∀ (j : Nat) (v : Value) (x : T), args[j]? = some v → ts[j]? = some x → Rp [] (fun _ => none) W (oldA W) v x) :
    Calls P f args W fun en w' => en = .returned (.bool true) ∧ Below W.heap.size W w' := by
  refine (hs.2.2 (oldA W) (fun _ => none) W args ?_).mono ?_
  · refine ⟨hn, rfl, fun t x hx => ?_, fun id o h => by simp [TL.get] at h, fun id id' k xs fz k' xs' fz' b c c' h => by simp [TL.get] at h, fun id k xs fz b c h => by simp [TL.get] at h, fun b hb _ => rfl, Nat.le_refl _, fun a ha => ⟨ha, ?_⟩, rfl, rfl, rfl, .refl _ _, fun x hx => ⟨hx, fun u hu => hu⟩, ⟨fun id es b c h => by simp [TL.get] at h, fun id id' es es' b c c' h => by simp [TL.get] at h⟩⟩
    · simp only [get_argFr, Nat.zero_le, if_true, Nat.sub_zero] at hx
      have ht : t < ts.length := (List.getElem?_eq_some_iff.1 hx).1
      have hat : args[t]? = some args[t] := by rw [Array.getElem?_eq_getElem (by omega)]
      have := ha t args[t] x hat hx
      have h1 : args.getD t undef = args[t] := by simp [Array.getD_eq_getD_getElem?, hat]
      rw [h1]
      exact this.mono (fun a ha => ⟨.inl ha, fun u hu => hu⟩) (Goes.refl _ _)
    · rintro ⟨id, k, xs, fz, c, h, _⟩
      simp [TL.get] at h
  · rintro en w' ⟨v, ι', rfl, hR⟩
    have hv : v = .bool true := by
      have := hR.fr 0 (vB true) (by simp [TL.get])
      simpa using this.v_inv
    subst hv
    exact ⟨rfl, hR.os, hR.tape, hR.output, hR.hs, fun k hk => hR.keep k hk (by rintro ⟨id, k, xs, fz, c, h, _⟩; simp [TL.get] at h)⟩

/-- THE ROW's STEP -/
theorem row_true {C : Checked} {f : FuncId} {fn : Func} {s : ChangeSpec} {conds : List PathCond} {os : Os} (started : os.Started) {a : Assume} {apart fresh handsOn again : Bool} {tb : TypeId} {shs : List Sh}
    (own : ownKnob C.prog.godebug = none) (noInit : C.prog.inits.idxOf? f = none) (hfn : C.prog.funcs[f]? = some fn)
    (witness : ∃ (w : World) (tape : Tape) (i : Input), w.os = os ∧ (w.forCall tape i).Shaped C.prog ∧ i.vars = [] ∧ Input.okWide C.prog (w.forCall tape i) .any w.heap.size f i ∧
      s.pre6 enc C.prog fn conds apart (w.forCall tape i).memory i.args ∧ a.holds C.prog (lone (Frame.enter C.prog f i.args .normal) [] (w.forCall tape i)))
    (hl : laidOutB C.prog = true) (hpar : fn.params.toList.all (fun t => C.prog.readableRec t && decide (t < C.prog.types.size)) = true) (hrt : fn.resultTypes = #[tb]) (htb : C.prog.underlying tb = some .bool) (hvars : s.vars = [])
    (hspec : ∀ ds : List (DataW H), ds.length = fn.params.size → s.fn H ds = { results := [.lit (.bool true)], args := ds }) (hsh : shAll C.prog fn.params.toList = some shs)
    (hc : ∀ tss, FitsAll shs tss → Spc C.prog f (treesOf shs tss) [] (vB true) []) :
    ReturnsInHanded a C os f .any (s.pre6 enc C.prog fn conds apart) (s.post enc C.prog fn apart fresh handsOn again) := by
  refine returnsInHanded_of_change_shaped own started noInit hfn witness ?_
  intro W base args ds gs before hok hW _ hw _ _
  have hW0 := hW
  obtain ⟨p, q, hA, hV, hpq, _, _⟩ := hW
  rw [hvars] at hV
  obtain ⟨rfl, rfl⟩ := trodVars_none hV
  have hlen : ∀ (ts : List TypeId) (vs : List Value) (ds : List (DataW H)) (ps : List MemPlace), DataW.TrodAll enc C.prog W 0 (fun _ => true) true ts vs ds ps → ds.length = ts.length := by
    intro ts
    induction ts with
    | nil => intro vs ds ps h; obtain ⟨_, rfl, _⟩ := trodAll_nil h; rfl
    | cons t ts ih => intro vs ds ps h; obtain ⟨v, vs', d, ds', p, q, _, rfl, _, _, h2⟩ := trodAll_cons h; simp [ih _ _ _ h2]
  have hdl : ds.length = fn.params.size := by simpa using hlen _ _ _ _ hA
  have hpl : s.plain.varTypes C.prog = [] := by
    have : s.plain.vars = s.vars := rfl
    simp [DataSpec.varTypes, ChangeSpec.plain, hvars]
  obtain ⟨tss, h1, h2, h3⟩ := trodAll_fits (base := base) fn.params.toList shs args.toList ds p hsh hA (fun j t v ht hv => hok j t v (by simpa using ht) (by simpa using hv)) (fun x hx => by
    have := List.all_eq_true.1 hw x (by simpa [hpl] using hx)
    simpa using this)
  refine (calls_true (hc tss h1) (by simpa using h2.symm) (fun j v x hv hx => h3 j v x (by simpa using hv) hx)).mono ?_
  rintro en w' ⟨rfl, hb⟩
  refine ⟨_, rfl, post_true hl (fun t ht => ?_) hrt htb hvars (by rw [List.append_nil]; exact hspec ds hdl) hW0 hb⟩
  have := List.all_eq_true.1 hpar t ht
  simpa using this
end
end Go.TL
namespace Go.TL
theorem wf_u32 {n : Int} (h : (Lit.int .u32 n).wf = true) : 0 ≤ n ∧ n ≤ 4294967295 := by
  simpa [Lit.wf, IntKind.min, IntKind.max, IntKind.signed, IntKind.bits] using h
theorem wf_u8 {n : Int} (h : (Lit.int .u8 n).wf = true) : 0 ≤ n ∧ n ≤ 255 := by
  simpa [Lit.wf, IntKind.min, IntKind.max, IntKind.signed, IntKind.bits] using h
theorem wf_i64 {n : Int} (h : (Lit.int .i64 n).wf = true) : -9223372036854775808 ≤ n ∧ n ≤ 9223372036854775807 := by
  simpa [Lit.wf, IntKind.min, IntKind.max, IntKind.signed, IntKind.bits] using h
theorem wf_u64 {n : Int} (h : (Lit.int .u64 n).wf = true) : 0 ≤ n ∧ n ≤ 18446744073709551615 := by
  simpa [Lit.wf, IntKind.min, IntKind.max, IntKind.signed, IntKind.bits] using h
theorem wf_u16 {n : Int} (h : (Lit.int .u16 n).wf = true) : 0 ≤ n ∧ n ≤ 65535 := by
  simpa [Lit.wf, IntKind.min, IntKind.max, IntKind.signed, IntKind.bits] using h
end Go.TL
namespace Go.TL
theorem fitsAll_cons {s : Sh} {ss : List Sh} {tss : List (List T)} (h : FitsAll (s :: ss) tss) : ∃ t ts, tss = t :: ts ∧ Fits s t ∧ FitsAll ss ts := by
  cases tss with
  | nil => exact h.elim
  | cons t ts => exact ⟨t, ts, rfl, h.1, h.2⟩
theorem fitsAll_nil {tss : List (List T)} (h : FitsAll [] tss) : tss = [] := by
  cases tss with
  | nil => rfl
  | cons t ts => exact h.elim
theorem fits_int {k : IntKind} {t : List T} (h : Fits (.int k) t) : ∃ n, t = [.v (.int k n)] ∧ (Lit.int k n).wf = true := h
theorem fits_bool {t : List T} (h : Fits .bool t) : ∃ b, t = [.v (.bool b)] := h
theorem fits_str {t : List T} (h : Fits .str t) : ∃ s : ByteArray, t = [.v (.string s)] ∧ s.size ≤ 140737488351232 := h
/-- a slice of integers -/
theorem fits_ints {k : IntKind} {c b : Nat} {t : List T} (h : Fits (.sl c b (.int k)) t) : ∃ ns : List Int, t = [.sl c (ns.map fun n => .v (.int k n))] ∧ ns.length * b ≤ 140737488351232 ∧ ns.length ≤ 9223372036854775807 ∧ (∀ n ∈ ns, (Lit.int k n).wf = true) ∧ (ns ≠ [] → c = 1) := by
  obtain ⟨xs, rfl, h1, h2, h3⟩ := h
  have : ∃ ns : List Int, xs = ns.map (fun n => [T.v (.int k n)]) ∧ ∀ n ∈ ns, (Lit.int k n).wf = true := by
    clear h1 h2
    induction xs with
    | nil => exact ⟨[], rfl, by simp⟩
    | cons x r ih =>
      obtain ⟨ns, rfl, h4⟩ := ih fun y hy => h3 y (by simp [hy])
      obtain ⟨n, rfl, hn⟩ := (h3 x (by simp)).2
      exact ⟨n :: ns, rfl, by simpa using ⟨hn, h4⟩⟩
  obtain ⟨ns, rfl, h4⟩ := this
  refine ⟨ns, by simp [ofCells, Function.comp_def], by simpa using h1, by simpa using h2, h4, fun hne => ?_⟩
  cases ns with
  | nil => exact absurd rfl hne
  | cons n r => exact ((h3 [T.v (.int k n)] (by simp)).1).symm
end Go.TL
