/- Regions: a row of operations in the order of the text, and in whatever order a draw lets. -/
import Derived.Test.YtnejebkdlofdoaaZzExt
namespace Go.TL
set_option linter.unusedSimpArgs false
set_option linter.unusedVariables false

structure Ev where
  val : T
  wr : List (Nat × Ob)

structure Foot where
  rdT : List Tmp
  rdI : List Nat
  dst : Option Tmp
  wrI : List Nat

def St.eqv (s s' : St) : Prop := (∀ t, get s.fr t = get s'.fr t) ∧ (∀ i, get s.st i = get s'.st i)

theorem St.eqv_refl (s : St) : s.eqv s := ⟨fun _ => rfl, fun _ => rfl⟩
theorem St.eqv_symm {s s' : St} (h : s.eqv s') : s'.eqv s := ⟨fun t => (h.1 t).symm, fun i => (h.2 i).symm⟩
theorem St.eqv_trans {s s' s'' : St} (h : s.eqv s') (h' : s'.eqv s'') : s.eqv s'' := ⟨fun t => (h.1 t).trans (h'.1 t), fun i => (h.2 i).trans (h'.2 i)⟩

section
variable {P : Program} {e : Env}

theorem Rel.eqv {s s' : St} {ι : Iota} {a : Act} {w : World} (h : Rel e s ι a w) (hs : s.eqv s') : Rel e s' ι a w := by
  have h1 := h.congr (st' := s'.st) (fun i => (hs.2 i).symm)
  exact ⟨h1.size, h1.dfr, fun t x hx => h1.fr t x (by show get s.fr t = some x; rw [hs.1 t]; exact hx), h1.ob, h1.inj, h1.own, h1.keep, h1.hs, h1.sS, h1.os, h1.tape, h1.output, h1.gs, h1.stab, h1.mp⟩

def tmpsOf (l : List Operand) : List Tmp := l.filterMap fun | .tmp t => some t | _ => none

/-- what an operation does, wherever its operands and the objects that they name are the same -/
def Evs (P : Program) (e : Env) (o : Oper) (s : St) (rdI : List Nat) (ev : Ev) : Prop :=
  ∀ s' : St, (∀ t ∈ tmpsOf o.op.operands.toList, get s.fr t = get s'.fr t) → Alike rdI s.st s'.st → Does P e o s' ev.val ev.wr

def idsOf (s : St) (l : List Operand) : List Nat := l.flatMap fun x => ids (Operand.t s x)

theorem operand_same {s s' : St} {l : List Operand} (h : ∀ t ∈ tmpsOf l, get s.fr t = get s'.fr t) : ∀ x ∈ l, Operand.t s x = Operand.t s' x := by
  intro x hx
  cases x with
  | tmp t =>
    have := h t (by simp only [tmpsOf, List.mem_filterMap]; exact ⟨.tmp t, hx, rfl⟩)
    simp only [Operand.t, this]
  | const v => cases v <;> rfl
  | global g => rfl
  | func f => rfl

theorem evs_opT {o : Oper} {s : St} {nid : Nat} {r : Res} (h : opT P s nid o = some r) (hs : r.side) : Evs P e o s (nid :: idsOf s o.op.operands.toList) ⟨r.val, r.wr⟩ := by
  intro s' hT hI
  have hT' := operand_same hT
  have := opT_loc (P := P) (s := s) (s' := s') (nid := nid) (o := o) hT' (fun x hx => hI.mono fun id hid => by
    simp only [List.mem_cons, idsOf, List.mem_flatMap]; exact .inr ⟨x, hx, hid⟩) (hI nid (by simp))
  rw [this] at h
  exact does_opT nid h hs

/-! ### guards -/
def gdst (ops : List Oper) (j : Nat) : Option Tmp := (ops[j]?).bind (·.dst)

/-- what a guard says of a state: it lets, or it bars -/
def Lets (ops : List Oper) (o : Oper) (s : St) : Prop :=
  match o.guard with
  | none => True
  | some (j, want) => ∃ d, gdst ops j = some d ∧ get s.fr d = some (.v (.bool want))
def Bars (ops : List Oper) (o : Oper) (s : St) : Prop :=
  ∃ j want, o.guard = some (j, want) ∧ (gdst ops j = none ∨ ∃ d x, gdst ops j = some d ∧ get s.fr d = some (.v x) ∧ x ≠ .bool want)

theorem wanted_lets {ops : List Oper} {o : Oper} {s : St} {ι : Iota} {a : Act} {w : World} (hR : Rel e s ι a w) (hd : ∀ d, ∀ j, gdst ops j = some d → d < e.n) (h : Lets ops o s) : Region.wanted o (yielded ops.toArray a.tmps) = true := by
  unfold Lets at h
  unfold Region.wanted
  split at h
  · rename_i hg; rw [hg]
  · rename_i j want hg
    rw [hg]
    obtain ⟨d, h1, h2⟩ := h
    have h3 := (hR.fr d _ h2).v_inv
    have hlt : d < a.tmps.size := by rw [hR.size]; exact hd d j h1
    have : yielded ops.toArray a.tmps j = some want := by
      unfold yielded
      have : (ops.toArray[j]?).bind (·.dst) = some d := by simpa [gdst] using h1
      rw [this]
      have h4 : a.tmps[d]? = some (.bool want) := by
        rw [Array.getElem?_eq_getElem hlt]
        simp only [Array.getD_eq_getD_getElem?, Array.getElem?_eq_getElem hlt, Option.getD_some] at h3
        rw [h3]
      simp [h4]
    simp [this]

theorem wanted_bars {ops : List Oper} {o : Oper} {s : St} {ι : Iota} {a : Act} {w : World} (hR : Rel e s ι a w) (hd : ∀ d, ∀ j, gdst ops j = some d → d < e.n) (h : Bars ops o s) : Region.wanted o (yielded ops.toArray a.tmps) = false := by
  obtain ⟨j, want, hg, h⟩ := h
  unfold Region.wanted
  rw [hg]
  rcases h with h | ⟨d, x, h1, h2, h3⟩
  · have : yielded ops.toArray a.tmps j = none := by
      unfold yielded
      have : (ops.toArray[j]?).bind (·.dst) = none := by simpa [gdst] using h
      rw [this]; rfl
    simp [this]
  · have h4 := (hR.fr d _ h2).v_inv
    have hlt : d < a.tmps.size := by rw [hR.size]; exact hd d j h1
    have h5 : a.tmps[d]? = some x := by
      rw [Array.getElem?_eq_getElem hlt]
      simp only [Array.getD_eq_getD_getElem?, Array.getElem?_eq_getElem hlt, Option.getD_some] at h4
      rw [h4]
    have : yielded ops.toArray a.tmps j ≠ some want := by
      unfold yielded
      have : (ops.toArray[j]?).bind (·.dst) = some d := by simpa [gdst] using h1
      rw [this]
      simp only [Option.bind_some, h5]
      split
      · rename_i b hb
        injection hb with hb
        intro hc
        injection hc with hc
        exact h3 (by rw [hb, hc])
      · simp
    simpa using this

/-! ### one operation, as it went -/
structure Rec where
  o : Oper
  go : Bool
  ev : Ev
  foot : Foot

def St.putR (s : St) (r : Rec) : St := ⟨match r.o.dst with | some d => (d, r.ev.val) :: s.fr | none => s.fr, r.ev.wr ++ s.st⟩

structure RecOK (P : Program) (e : Env) (ops : List Oper) (s : St) (r : Rec) : Prop where
  rdT : ∀ t ∈ tmpsOf r.o.op.operands.toList, t ∈ r.foot.rdT
  rdG : ∀ j want d, r.o.guard = some (j, want) → gdst ops j = some d → d ∈ r.foot.rdT
  dst : r.foot.dst = r.o.dst
  wrI : ∀ p ∈ r.ev.wr, p.1 ∈ r.foot.wrI
  go : r.go = true → Lets ops r.o s ∧ Evs P e r.o s r.foot.rdI r.ev
  bar : r.go = false → Bars ops r.o s ∧ r.ev = ⟨.v undef, []⟩

theorem RecOK.alike {ops : List Oper} {s s' : St} {r : Rec} (h : RecOK P e ops s r) (hT : ∀ t ∈ r.foot.rdT, get s.fr t = get s'.fr t) (hI : Alike r.foot.rdI s.st s'.st) : RecOK P e ops s' r := by
  refine ⟨h.rdT, h.rdG, h.dst, h.wrI, fun hg => ?_, fun hg => ?_⟩
  · obtain ⟨h1, h2⟩ := h.go hg
    refine ⟨?_, fun s'' hT' hI' => h2 s'' (fun t ht => (hT t (h.rdT t ht)).trans (hT' t ht)) (fun id hid => (hI id hid).trans (hI' id hid))⟩
    unfold Lets at h1 ⊢
    split at h1
    · trivial
    · rename_i j want hgu
      obtain ⟨d, h3, h4⟩ := h1
      exact ⟨d, h3, by rw [← hT d (h.rdG j want d hgu h3)]; exact h4⟩
  · obtain ⟨⟨j, want, h1, h2⟩, h3⟩ := h.bar hg
    refine ⟨⟨j, want, h1, ?_⟩, h3⟩
    rcases h2 with h2 | ⟨d, x, h4, h5, h6⟩
    · exact .inl h2
    · exact .inr ⟨d, x, h4, by rw [← hT d (h.rdG j want d h1 h4)]; exact h5, h6⟩

theorem RecOK.eqv {ops : List Oper} {s s' : St} {r : Rec} (h : RecOK P e ops s r) (hs : s.eqv s') : RecOK P e ops s' r :=
  h.alike (fun t _ => hs.1 t) (fun i _ => hs.2 i)

theorem get_append {α : Type} (l l' : List (Nat × α)) (i : Nat) : get (l ++ l') i = (get l i).or (get l' i) := by
  induction l with
  | nil => simp [get]
  | cons p l ih =>
    obtain ⟨j, x⟩ := p
    simp only [List.cons_append, get]
    split
    · simp
    · exact ih

theorem St.putR_eqv {s s' : St} (h : s.eqv s') (r : Rec) : (s.putR r).eqv (s'.putR r) := by
  refine ⟨fun t => ?_, fun i => ?_⟩
  · unfold St.putR
    cases r.o.dst with
    | none => exact h.1 t
    | some d => simp only [get, h.1 t]
  · simp only [St.putR, get_append, h.2 i]

/-- the state behind an operation fits, whatever follows -/
theorem RecOK.step {ops : List Oper} {s : St} {r : Rec} (h : RecOK P e ops s r) {ι : Iota} {a : Act} {w : World} (hR : Rel e s ι a w) (hd : ∀ d, ∀ j, gdst ops j = some d → d < e.n)
    (hdst : ∀ d, r.o.dst = some d → d < e.n) {K : Act → World → Prop} {Q : Exit → Act → World → Prop} (hK : ∀ ι a w, Rel e (s.putR r) ι a w → K a w) :
    if Region.wanted r.o (yielded ops.toArray a.tmps) then r.o.wp P a w K Q else K (a.put r.o.dst undef) w := by
  have fin : ∀ ι' a w', Rel e ⟨s.fr, r.ev.wr ++ s.st⟩ ι' a w' → ∀ v, Rp (r.ev.wr ++ s.st) ι' w' (Av e (r.ev.wr ++ s.st) ι' w') v r.ev.val → K (a.put r.o.dst v) w' := by
    intro ι' a w' hR' v hv
    cases hq : r.o.dst with
    | none =>
      refine hK ι' _ w' ?_
      simp only [St.putR, hq]
      exact hR'.putO
    | some d =>
      refine hK ι' _ w' ?_
      simp only [St.putR, hq]
      exact hR'.put (hdst d hq) hv
  cases hgo : r.go with
  | true =>
    obtain ⟨h1, h2⟩ := h.go hgo
    rw [wanted_lets hR hd h1, if_pos rfl]
    have := h2 s (fun _ _ => rfl) (fun _ _ => rfl) ι a w K Q hR (fun v w' ι' hR' hv => fin ι' a w' hR' v hv)
    exact this
  | false =>
    obtain ⟨h1, h2⟩ := h.bar hgo
    rw [wanted_bars hR hd h1]
    simp only [Bool.false_eq_true, if_false]
    exact fin ι a w (by rw [h2]; exact hR) undef (by rw [h2]; exact .im (.v _))

inductive Tr (P : Program) (e : Env) (ops : List Oper) : St → List Rec → St → Prop
  | nil {s s' : St} (h : s.eqv s') : Tr P e ops s [] s'
  | cons {s s' : St} {r : Rec} {rs : List Rec} (h : RecOK P e ops s r) (t : Tr P e ops (s.putR r) rs s') : Tr P e ops s (r :: rs) s'

theorem Tr.eqv {ops : List Oper} {rs : List Rec} : ∀ {s0 s s' : St}, s0.eqv s → Tr P e ops s rs s' → Tr P e ops s0 rs s' := by
  induction rs with
  | nil => intro s0 s s' h0 h; cases h with | nil h => exact .nil (St.eqv_trans h0 h)
  | cons r rs ih => intro s0 s s' h0 h; cases h with | cons h t => exact .cons (h.eqv (St.eqv_symm h0)) (ih (St.putR_eqv h0 r) t)

theorem gdst_lt {ops : List Oper} (h : ∀ o ∈ ops, ∀ d, o.dst = some d → d < e.n) : ∀ d, ∀ j, gdst ops j = some d → d < e.n := by
  intro d j hj
  unfold gdst at hj
  cases ho : ops[j]? with
  | none => simp [ho] at hj
  | some o => simp [ho] at hj; exact h o (List.mem_of_getElem? ho) d hj

/-- in the order of the text -/
theorem Tr.list {ops : List Oper} (hall : ∀ o ∈ ops, ∀ d, o.dst = some d → d < e.n) {Q : Exit → Act → World → Prop} {rs : List Rec} : ∀ {s s' : St} {ι : Iota} {a : Act} {w : World}, Tr P e ops s rs s' → (∀ r ∈ rs, r.o ∈ ops) →
    Rel e s ι a w → (∀ ι a w, Rel e s' ι a w → Q .normal a w) → wpList P ops.toArray Q (rs.map (·.o)) a w := by
  induction rs with
  | nil => intro s s' ι a w h _ hR hQ; cases h with | nil h => exact hQ ι a w (hR.eqv h)
  | cons r rs ih =>
    intro s s' ι a w h hin hR hQ
    cases h with
    | cons h t =>
      simp only [List.map_cons]
      refine wpList_step fun K hK => ?_
      exact h.step hR (gdst_lt hall) (hall r.o (hin r (by simp))) fun ι' a' w' hR' => hK a' w' (ih t (fun r' hr => hin r' (by simp [hr])) hR' hQ)

end
end Go.TL
