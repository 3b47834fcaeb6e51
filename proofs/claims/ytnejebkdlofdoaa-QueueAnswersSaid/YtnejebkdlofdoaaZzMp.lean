/- Maps with plain keys and values; and three operations more: a slice with a bound on its room, the room, zeros that are appended. -/
import Derived.Test.YtnejebkdlofdoaaZzAll
import Derived.MapKept
import GoSem.Builtin.Cap
namespace Go.TL
set_option linter.unusedSimpArgs false
set_option linter.unusedVariables false

inductive MT where
  | ii
  | ib
  | si
  | sb
  deriving DecidableEq
def MT.kd : MT → TypeDesc
  | .ii | .ib => .int .i64
  | .si | .sb => .string
def MT.zv : MT → Value
  | .ii | .si => .int .i64 0
  | .ib | .sb => .bool false
def MT.em : MT → Es
  | .ii => .ii []
  | .ib => .ib []
  | .si => .si []
  | .sb => .sb []
def mtOf (P : Program) (t : TypeId) : Option MT :=
  match P.underlying t with
  | some (.map kt et) => match P.underlying kt, (P.info? et).bind (·.zero) with
    | some (.int .i64), some (.int .i64 n) => if n = 0 then some .ii else none
    | some (.int .i64), some (.bool b) => if b = false then some .ib else none
    | some .string, some (.int .i64 n) => if n = 0 then some .si else none
    | some .string, some (.bool b) => if b = false then some .sb else none
    | _, _ => none
  | _ => none
theorem mtOf_inv {P : Program} {t : TypeId} {m : MT} (h : mtOf P t = some m) : ∃ kt et inf, P.underlying t = some (.map kt et) ∧ P.underlying kt = some m.kd ∧ P.info? et = some inf ∧ inf.zero = some m.zv := by
  unfold mtOf at h
  split at h
  · rename_i kt et hu
    have hb : ∀ {v : Value}, (P.info? et).bind (·.zero) = some v → ∃ inf, P.info? et = some inf ∧ inf.zero = some v := by
      intro v hv
      cases hi : P.info? et with
      | none => rw [hi] at hv; cases hv
      | some inf => rw [hi] at hv; exact ⟨inf, rfl, hv⟩
    split at h
    · rename_i n hk hz
      split at h
      · rename_i hn; injection h with h; subst h hn
        obtain ⟨inf, h1, h2⟩ := hb hz
        exact ⟨kt, et, inf, hu, hk, h1, h2⟩
      · cases h
    · rename_i n hk hz
      split at h
      · rename_i hn; injection h with h; subst h hn
        obtain ⟨inf, h1, h2⟩ := hb hz
        exact ⟨kt, et, inf, hu, hk, h1, h2⟩
      · cases h
    · rename_i n hk hz
      split at h
      · rename_i hn; injection h with h; subst h hn
        obtain ⟨inf, h1, h2⟩ := hb hz
        exact ⟨kt, et, inf, hu, hk, h1, h2⟩
      · cases h
    · rename_i n hk hz
      split at h
      · rename_i hn; injection h with h; subst h hn
        obtain ⟨inf, h1, h2⟩ := hb hz
        exact ⟨kt, et, inf, hu, hk, h1, h2⟩
      · cases h
    · cases h
  · cases h

/-! ### what a map holds -/
def look {K V : Type} (eq : K → K → Bool) (k : K) : List (K × V) → Option V
  | [] => none
  | (k', v) :: r => if eq k k' = true then some v else look eq k r
def asg {K V : Type} (eq : K → K → Bool) (k : K) (v : V) : List (K × V) → List (K × V)
  | [] => [(k, v)]
  | (k', w) :: r => if eq k k' = true then (k, v) :: r else (k', w) :: asg eq k v r
def eqI (a b : Int) : Bool := a == b
def eqS (a b : ByteArray) : Bool := a.toList == b.toList
def getM : Es → T → Option (MT × T × Bool)
  | .ii l, .v (.int .i64 k) => some (.ii, .v (.int .i64 ((look eqI k l).getD 0)), (look eqI k l).isSome)
  | .ib l, .v (.int .i64 k) => some (.ib, .v (.bool ((look eqI k l).getD false)), (look eqI k l).isSome)
  | .si l, .v (.string k) => some (.si, .v (.int .i64 ((look eqS k l).getD 0)), (look eqS k l).isSome)
  | .sb l, .v (.string k) => some (.sb, .v (.bool ((look eqS k l).getD false)), (look eqS k l).isSome)
  | _, _ => none
def putM : Es → T → T → Option (MT × Es)
  | .ii l, .v (.int .i64 k), .v (.int .i64 x) => some (.ii, .ii (asg eqI k x l))
  | .ib l, .v (.int .i64 k), .v (.bool x) => some (.ib, .ib (asg eqI k x l))
  | .si l, .v (.string k), .v (.int .i64 x) => some (.si, .si (asg eqS k x l))
  | .sb l, .v (.string k), .v (.bool x) => some (.sb, .sb (asg eqS k x l))
  | _, _, _ => none

section
variable {K V : Type} {mkK : K → Value} {mkV : V → Value} {eq : K → K → Bool} {d : TypeDesc}
theorem findNow_look (hs : ∀ a b, Instr.sameNow d (mkK a) (mkK b) = some (eq a b)) (k : K) : ∀ (l : List (K × V)) (ents : List MapEntry) (i : Nat), ents.map (fun e => (e.key, e.val)) = l.map (fun p => (mkK p.1, mkV p.2)) →
    (look eq k l = none ∧ Instr.findNow d (mkK k) ents i = some none ∧ ∀ x, asg eq k x l = l ++ [(k, x)]) ∨
    ∃ j v e k', look eq k l = some v ∧ Instr.findNow d (mkK k) ents i = some (some (i + j, mkV v)) ∧ ents[j]? = some e ∧ e.key = mkK k' ∧ eq k k' = true ∧ ∀ x, asg eq k x l = l.take j ++ (k, x) :: l.drop (j + 1)
  | [], [], i, h => .inl ⟨rfl, rfl, fun x => rfl⟩
  | [], _ :: _, i, h => by cases h
  | _ :: _, [], i, h => by cases h
  | (k', v) :: l, e :: ents, i, h => by
    simp only [List.map_cons, List.cons.injEq, Prod.mk.injEq] at h
    obtain ⟨⟨h1, h2⟩, h3⟩ := h
    cases he : eq k k' with
    | true => exact .inr ⟨0, v, e, k', by simp [look, he], by simp [Instr.findNow, h1, hs, he, h2], rfl, h1, he, fun x => by simp [asg, he]⟩
    | false =>
      rcases findNow_look hs k l ents (i + 1) h3 with ⟨g1, g2, g3⟩ | ⟨j, v', e', k2, g1, g2, g3, g4, g5, g6⟩
      · exact .inl ⟨by simp [look, he, g1], by simp [Instr.findNow, h1, hs, he, g2], fun x => by simp [asg, he, g3]⟩
      · exact .inr ⟨j + 1, v', e', k2, by simp [look, he, g1], by simp [Instr.findNow, h1, hs, he, g2]; omega, by simpa using g3, g4, g5, fun x => by simp [asg, he, g6]⟩
end

section
variable {P : Program} {e : Env} {o : Oper} {s : St}
/-- a new map -/
theorem Rel.newmap {ι : Iota} {a : Act} {w : World} (h : Rel e s ι a w) (id : Nat) (hid : get s.st id = none) (es : Es) (ents : Array MapEntry) (clock : Nat) (hc : ents.toList.map (fun x => (x.key, x.val)) = es.vals) :
    Rel e { s with st := (id, .mp es) :: s.st } (upd ι id (some (w.heap.size, 0))) a (w.alloc (.map ents clock)) := by
  have hkk : ∀ b, b < w.heap.size → (w.alloc (.map ents clock)).heap[b]? = w.heap[b]? := fun b hb => RowKit.Below.heap_alloc w _ b hb
  have hsz : w.heap.size ≤ (w.alloc (.map ents clock)).heap.size := by simp
  have hne : ∀ i, get s.st i ≠ none → i ≠ id := fun i hi e => hi (e ▸ hid)
  have hcase : ∀ i o', get ((id, Ob.mp es) :: s.st) i = some o' → (i = id ∧ o' = .mp es) ∨ (i ≠ id ∧ get s.st i = some o') := fun i o' hg => by
    by_cases hii : i = id
    · subst hii; rw [get_cons_self] at hg; injection hg with hg; exact .inl ⟨rfl, hg.symm⟩
    · rw [get_cons_ne _ _ (Ne.symm hii)] at hg; exact .inr ⟨hii, hg⟩
  have harr : ∀ i k xs fz, get ((id, Ob.mp es) :: s.st) i = some (.arr k xs fz) → i ≠ id ∧ get s.st i = some (.arr k xs fz) := fun i k xs fz hg => by
    rcases hcase i _ hg with ⟨_, h2⟩ | h2
    · cases h2
    · exact h2
  refine (h.goG (st' := (id, .mp es) :: s.st) (ι' := upd ι id (some (w.heap.size, 0))) (w' := w.alloc (.map ents clock)) ⟨fun i hi => ?_, fun i k' xs' fz' hg hi => ?_, fun i es' hg hi => ?_⟩ ?_ ?_ ?_ ?_ ?_ ?_ hsz rfl rfl rfl ⟨?_, ?_⟩).1
  · rw [get_cons_ne _ _ (Ne.symm (hne i hi))]; exact hi
  · obtain ⟨h1, h2⟩ := harr i k' xs' fz' hg
    exact ⟨k', xs', fz', h2, rfl, Nat.le_refl _, fun _ => upd_ne _ _ h1⟩
  · rcases hcase i _ hg with ⟨h1, _⟩ | ⟨h1, h2⟩
    · exact absurd h1 (hne i hi)
    · exact ⟨⟨es', h2⟩, upd_ne _ _ h1⟩
  · intro x hx u hu
    exact cell_of_heap (hkk _ (Av.lt h hx)) u hu
  · rintro x (hx | ⟨h1, h2, h3⟩)
    · exact .inl hx
    · refine .inr ⟨h1, Nat.lt_of_lt_of_le h2 hsz, fun i k' xs' fz' cap' hg hi => ?_⟩
      obtain ⟨g1, g2⟩ := harr i k' xs' fz' hg
      rw [upd_ne _ _ g1] at hi
      exact h3 i k' xs' fz' cap' g2 hi
  · intro i o' ho'
    rcases hcase i o' ho' with ⟨rfl, rfl⟩ | ⟨h1, h2⟩
    · exact .inr fun _ => ⟨w.heap.size, clock, ents, upd_self _ _ _, heap_alloc_new w _, hc⟩
    · refine .inl ⟨h2, upd_ne _ _ h1, fun b c hi hx => ?_⟩
      rcases hx with ⟨k, xs, fz, rfl⟩ | ⟨es', rfl⟩
      · exact hkk b (h.blk h2 hi)
      · exact hkk b (h.mlt h2 hi)
  · intro i i' k1 x1 f1 k2 x2 f2 b c c' g1 g2 e1 e2
    obtain ⟨p1, p2⟩ := harr i _ _ _ g1
    obtain ⟨q1, q2⟩ := harr i' _ _ _ g2
    rw [upd_ne _ _ p1] at e1; rw [upd_ne _ _ q1] at e2
    exact h.inj i i' _ _ _ _ _ _ b c c' p2 q2 e1 e2
  · intro i k1 x1 f1 b c g1 e1
    obtain ⟨p1, p2⟩ := harr i _ _ _ g1
    rw [upd_ne _ _ p1] at e1
    exact h.own i _ _ _ b c p2 e1
  · intro b hb _
    exact hkk b (Nat.lt_of_lt_of_le hb h.hs)
  · intro i es' b c hg hi
    rcases hcase i _ hg with ⟨rfl, _⟩ | ⟨h1, h2⟩
    · rw [upd_self] at hi; injection hi with hi; injection hi with hi _; rw [← hi]; exact h.hs
    · rw [upd_ne _ _ h1] at hi; exact h.mp.own i es' b c h2 hi
  · intro i i' es1 es2 b c c' g1 g2 e1 e2
    rcases hcase i _ g1 with ⟨p1, _⟩ | ⟨p1, p2⟩ <;> rcases hcase i' _ g2 with ⟨q1, _⟩ | ⟨q1, q2⟩
    · rw [p1, q1]
    · subst p1
      rw [upd_self] at e1; injection e1 with e1; injection e1 with e1 _
      rw [upd_ne _ _ q1] at e2
      have := h.mlt q2 e2
      omega
    · subst q1
      rw [upd_self] at e2; injection e2 with e2; injection e2 with e2 _
      rw [upd_ne _ _ p1] at e1
      have := h.mlt p2 e1
      omega
    · rw [upd_ne _ _ p1] at e1; rw [upd_ne _ _ q1] at e2
      exact h.mp.inj i i' _ _ b c c' p2 q2 e1 e2

/-- a map is changed -/
theorem Rel.setmap {ι : Iota} {a : Act} {w : World} (h : Rel e s ι a w) {id : Nat} {es0 : Es} (hid : get s.st id = some (.mp es0)) {b : Nat} (hb : ι id = some (b, 0)) {ents0 : Array MapEntry} {clock0 : Nat} (hw : w.heap[b]? = some (.map ents0 clock0))
    (es : Es) (ents : Array MapEntry) (clock : Nat) (hc : ents.toList.map (fun x => (x.key, x.val)) = es.vals) :
    Rel e { s with st := (id, .mp es) :: s.st } ι a { w with heap := w.heap.setIfInBounds b (.map ents clock) } := by
  have hbl : b < w.heap.size := (Array.getElem?_eq_some_iff.1 hw).1
  have hkk : ∀ b', b' ≠ b → ({ w with heap := w.heap.setIfInBounds b (.map ents clock) } : World).heap[b']? = w.heap[b']? := fun b' hb' => by
    simp [Array.getElem?_setIfInBounds, Ne.symm hb']
  have hnew : ({ w with heap := w.heap.setIfInBounds b (.map ents clock) } : World).heap[b]? = some (.map ents clock) := by
    simp [Array.getElem?_setIfInBounds, hbl]
  have hcell : ∀ x u, w.cell? x = some u → ({ w with heap := w.heap.setIfInBounds b (.map ents clock) } : World).cell? x = some u := fun x u hu => by
    by_cases hx : x.block = b
    · exfalso
      unfold World.cell? at hu
      rw [hx, hw] at hu
      cases hu
    · exact cell_of_heap (hkk _ hx) u hu
  have hcase : ∀ i o', get ((id, Ob.mp es) :: s.st) i = some o' → (i = id ∧ o' = .mp es) ∨ (i ≠ id ∧ get s.st i = some o') := fun i o' hg => by
    by_cases hii : i = id
    · subst hii; rw [get_cons_self] at hg; injection hg with hg; exact .inl ⟨rfl, hg.symm⟩
    · rw [get_cons_ne _ _ (Ne.symm hii)] at hg; exact .inr ⟨hii, hg⟩
  have harr : ∀ i k xs fz, get ((id, Ob.mp es) :: s.st) i = some (.arr k xs fz) → i ≠ id ∧ get s.st i = some (.arr k xs fz) := fun i k xs fz hg => by
    rcases hcase i _ hg with ⟨_, h2⟩ | h2
    · cases h2
    · exact h2
  have hmp : ∀ i es', get ((id, Ob.mp es) :: s.st) i = some (.mp es') → ∃ es2, get s.st i = some (.mp es2) := fun i es' hg => by
    rcases hcase i _ hg with ⟨rfl, _⟩ | ⟨_, h2⟩
    · exact ⟨es0, hid⟩
    · exact ⟨es', h2⟩
  refine (h.goG (st' := (id, .mp es) :: s.st) (ι' := ι) (w' := { w with heap := w.heap.setIfInBounds b (.map ents clock) }) ⟨fun i hi => ?_, fun i k' xs' fz' hg hi => ?_, fun i es' hg hi => ⟨hmp i es' hg, rfl⟩⟩ (fun x _ u hu => hcell x u hu) ?_ ?_ ?_ ?_ ?_ (by simp) rfl rfl rfl ⟨?_, ?_⟩).1
  · by_cases hii : i = id
    · subst hii; rw [get_cons_self]; simp
    · rw [get_cons_ne _ _ (Ne.symm hii)]; exact hi
  · obtain ⟨h1, h2⟩ := harr i k' xs' fz' hg
    exact ⟨k', xs', fz', h2, rfl, Nat.le_refl _, fun _ => rfl⟩
  · rintro x (hx | ⟨h1, h2, h3⟩)
    · exact .inl hx
    · refine .inr ⟨h1, by simpa using h2, fun i k' xs' fz' cap' hg hi => ?_⟩
      obtain ⟨g1, g2⟩ := harr i k' xs' fz' hg
      exact h3 i k' xs' fz' cap' g2 hi
  · intro i o' ho'
    rcases hcase i o' ho' with ⟨rfl, rfl⟩ | ⟨h1, h2⟩
    · exact .inr fun _ => ⟨b, clock, ents, hb, hnew, hc⟩
    · refine .inl ⟨h2, rfl, fun b' c hi hx => hkk b' ?_⟩
      rintro rfl
      rcases hx with ⟨k, xs, fz, rfl⟩ | ⟨es', rfl⟩
      · exact h.mne hid hb h2 hi rfl
      · exact h1 (h.mp.inj i id es' es0 b' c 0 h2 hid hi hb)
  · intro i i' k1 x1 f1 k2 x2 f2 b c c' g1 g2 e1 e2
    exact h.inj i i' _ _ _ _ _ _ b c c' (harr i _ _ _ g1).2 (harr i' _ _ _ g2).2 e1 e2
  · intro i k1 x1 f1 b c g1 e1
    exact h.own i _ _ _ b c (harr i _ _ _ g1).2 e1
  · intro b' hb' _
    refine hkk b' ?_
    rintro rfl
    have := h.mp.own id es0 b' 0 hid hb
    omega
  · intro i es' b c hg hi
    obtain ⟨es2, h2⟩ := hmp i es' hg
    exact h.mp.own i es2 b c h2 hi
  · intro i i' es1 es2 b c c' g1 g2 e1 e2
    obtain ⟨x1, h1⟩ := hmp i _ g1
    obtain ⟨x2, h2⟩ := hmp i' _ g2
    exact h.mp.inj i i' _ _ b c c' h1 h2 e1 e2

theorem Rp.mp_inv {st : Sto} {ι : Iota} {w : World} {A : Addr → Prop} {v : Value} {id : Nat} (h : Rp st ι w A v (.mp id)) {es : Es} (hg : get st id = some (.mp es)) : ∃ b, ι id = some (b, 0) ∧ v = .map (some b) := by
  cases h with
  | im h => cases h
  | mp _ _ hd h => exact h es hg

def mkmR (m : MT) (st : Sto) (nid : Nat) : Option Res := some ⟨get st nid = none, .mp nid, [(nid, .mp m.em)]⟩
def mgetR (m : MT) (ok : Bool) (st : Sto) (x k : T) : Option Res :=
  match x with
  | .mp id => match get st id with
    | some (.mp es) => match getM es k with
      | some (m', v, b) => if m' = m then ret (if ok then .tup [v, .v (.bool b)] else v) else none
      | none => none
    | _ => none
  | _ => none
def mputR (m : MT) (st : Sto) (x k v : T) : Option Res :=
  match x with
  | .mp id => match get st id with
    | some (.mp es) => match putM es k v with
      | some (m', es') => if m' = m then some ⟨True, .v undef, [(id, .mp es')]⟩ else none
      | none => none
    | _ => none
  | _ => none

theorem does_mkm {t : TypeId} {m : MT} (ho : o.op = .makeMap t none) (nid : Nat) {r : Res} (hr : mkmR m s.st nid = some r) (hs : r.side) : Does P e o s r.val r.wr := by
  simp only [mkmR, Option.some.injEq] at hr; subst hr
  refine Does.of_run fun ι act w hR => ?_
  have hR' := hR.newmap nid hs m.em #[] 0 (by cases m <;> rfl)
  refine ⟨.map (some w.heap.size), _, _, ?_, hR', ?_⟩
  · simp [execOp, ho, Instr.makeMap, newObj, Sem.run]
  · refine .mp nid _ (by simp [stw, get]) fun es hg => ?_
    exact ⟨w.heap.size, upd_self _ _ _, rfl⟩

theorem isKey_i {k : Int} : MapKept.IsKey (.int .i64) (.int .i64 k) := rfl
theorem isKey_s {k : ByteArray} : MapKept.IsKey .string (.string k) := trivial
theorem sn_i (a b : Int) : Instr.sameNow (.int .i64) (.int .i64 a) (.int .i64 b) = some (eqI a b) := by simp [Instr.sameNow, eqI]
theorem sn_s (a b : ByteArray) : Instr.sameNow .string (.string a) (.string b) = some (eqS a b) := by simp [Instr.sameNow, eqS, beq_toListBytes]
theorem sb_i {a b : Int} (h : eqI a b = true) : Instr.sameBits 10000 (.int .i64 b) (.int .i64 a) = true := by
  simp [eqI] at h; subst h; simp [Instr.sameBits]
theorem sb_s {a b : ByteArray} (h : eqS a b = true) : Instr.sameBits 10000 (.string b) (.string a) = true := by
  simp only [Instr.sameBits]
  rw [beq_toListBytes]
  simp [eqS] at h
  simp [h]

theorem does_mget {t : TypeId} {x k : Operand} {ok : Bool} {m : MT} (ho : o.op = .lookup t x k ok) (hm : mtOf P t = some m) {r : Res} (hr : mgetR m ok s.st (Operand.t s x) (Operand.t s k) = some r) (hs : r.side) : Does P e o s r.val r.wr := by
  obtain ⟨kt, et, inf, hu, hk, hi, hz⟩ := mtOf_inv hm
  unfold mgetR at hr
  split at hr
  · rename_i id hx
    split at hr
    · rename_i es hg
      split at hr
      · rename_i m' v b hgm
        split at hr
        · rename_i hmm
          subst hmm
          simp only [ret, Option.some.injEq] at hr; subst hr
          refine Does.of_value fun ι act w hR => ?_
          obtain ⟨bb, hb1, hb2⟩ := (hx ▸ hR.rp x).mp_inv hg
          obtain ⟨b', clock, ents, h4, h5, h6⟩ := hR.ob id _ hg
          rw [h4] at hb1; injection hb1 with hb1; injection hb1 with hb1 _; subst hb1
          have hgo := MapKept.run_getObj_map (P := P) h5
          have fin : ∀ {K V : Type} {mkK : K → Value} {mkV : V → Value} {eq : K → K → Bool} (zv : V) (key : K) (l : List (K × V)), act.eval k = mkK key → (∀ a b, Instr.sameNow m'.kd (mkK a) (mkK b) = some (eq a b)) → MapKept.IsKey m'.kd (mkK key) → m'.zv = mkV zv → es.vals = l.map (fun p => (mkK p.1, mkV p.2)) →
              v = .v (mkV ((look eq key l).getD zv)) → b = (look eq key l).isSome → ∃ u, (execOp act.eval o).run P w = .ok (.value u) w ∧ Rp s.st ι w (Av e s.st ι w) u (if ok then .tup [v, .v (.bool b)] else v) := by
            intro K V mkK mkV eq zv key l hkey hsn hik hzv hes hv hb
            rw [hes] at h6
            have hck := MapKept.run_checkKey (P := P) (w := w) hk hik ents.isEmpty 9999
            have hrun : (execOp act.eval o).run P w = .ok (.value (if ok then .tuple #[mkV ((look eq key l).getD zv), .bool (look eq key l).isSome] else mkV ((look eq key l).getD zv))) w := by
              rcases findNow_look (mkV := mkV) hsn key l ents.toList 0 h6 with ⟨g1, g2, _⟩ | ⟨j, v', e', k', g1, g2, _⟩
              · have hfk := MapKept.run_findKey (P := P) (w := w) hk g2
                simp [execOp, ho, Instr.lookup, run_underlying hu, hb2, hgo, hkey, hck, hfk, zeroValue, typeInfo, hi, hz, g1, hzv]
              · have hfk := MapKept.run_findKey (P := P) (w := w) hk g2
                simp [execOp, ho, Instr.lookup, run_underlying hu, hb2, hgo, hkey, hck, hfk, g1]
            refine ⟨_, hrun, ?_⟩
            subst hv hb
            cases ok with
            | true =>
              refine .tup [_, _] _ (by simp) fun j u c hu hc => ?_
              match j with
              | 0 => simp at hu hc; subst hu hc; exact .im (.v _)
              | 1 => simp at hu hc; subst hu hc; exact .im (.v _)
              | j + 2 => simp at hu
            | false => exact .im (.v _)
          have hkv := hR.rp k
          generalize hkt : Operand.t s k = kk at hgm hkv
          unfold getM at hgm
          split at hgm
          · rename_i l key
            injection hgm with hgm; injection hgm with e1 e2; injection e2 with e2 e3
            subst e1
            exact fin 0 key l hkv.v_inv sn_i isKey_i rfl rfl e2.symm e3.symm
          · rename_i l key
            injection hgm with hgm; injection hgm with e1 e2; injection e2 with e2 e3
            subst e1
            exact fin false key l hkv.v_inv sn_i isKey_i rfl rfl e2.symm e3.symm
          · rename_i l key
            injection hgm with hgm; injection hgm with e1 e2; injection e2 with e2 e3
            subst e1
            exact fin 0 key l hkv.v_inv sn_s isKey_s rfl rfl e2.symm e3.symm
          · rename_i l key
            injection hgm with hgm; injection hgm with e1 e2; injection e2 with e2 e3
            subst e1
            exact fin false key l hkv.v_inv sn_s isKey_s rfl rfl e2.symm e3.symm
          · cases hgm
        · cases hr
      · cases hr
    · cases hr
  · cases hr

theorem modify_list {α : Type} {a : Array α} {j : Nat} {x : α} {f : α → α} (h : a.toList[j]? = some x) : (a.modify j f).toList = a.toList.take j ++ f x :: a.toList.drop (j + 1) := by
  have hj : j < a.size := by simpa using (List.getElem?_eq_some_iff.1 h).1
  have hx : a[j] = x := by simpa [hj] using h
  apply List.ext_getElem?
  intro i
  simp only [Array.getElem?_toList, Array.getElem?_modify]
  by_cases h1 : i < j
  · rw [List.getElem?_append_left (by simp; omega), List.getElem?_take, if_pos h1, if_neg (by omega)]; simp
  · by_cases h2 : i = j
    · subst h2
      rw [List.getElem?_append_right (by simp; omega)]
      simp [hj, Nat.min_eq_left (Nat.le_of_lt hj), hx]
    · rw [List.getElem?_append_right (by simp; omega), if_neg (fun h => h2 h.symm)]
      simp only [List.length_take, Array.length_toList, Nat.min_eq_left (Nat.le_of_lt hj)]
      rw [show i - j = (i - j - 1) + 1 by omega, List.getElem?_cons_succ, List.getElem?_drop, show j + 1 + (i - j - 1) = i by omega]
      simp

theorem does_mput {t : TypeId} {x k y : Operand} {m : MT} (ho : o.op = .mapUpdate t x k y) (hm : mtOf P t = some m) {r : Res} (hr : mputR m s.st (Operand.t s x) (Operand.t s k) (Operand.t s y) = some r) (hs : r.side) : Does P e o s r.val r.wr := by
  obtain ⟨kt, et, inf, hu, hk, hi, hz⟩ := mtOf_inv hm
  unfold mputR at hr
  split at hr
  · rename_i id hx
    split at hr
    · rename_i es hg
      split at hr
      · rename_i m' es' hgm
        split at hr
        · rename_i hmm
          subst hmm
          injection hr with hr; subst hr
          refine Does.of_skip fun ι act w hR => ?_
          obtain ⟨bb, hb1, hb2⟩ := (hx ▸ hR.rp x).mp_inv hg
          obtain ⟨b', clock, ents, h4, h5, h6⟩ := hR.ob id _ hg
          rw [h4] at hb1; injection hb1 with hb1; injection hb1 with hb1 _; subst hb1
          have hgo := MapKept.run_getObj_map (P := P) h5
          have fin : ∀ {K V : Type} {mkK : K → Value} {mkV : V → Value} {eq : K → K → Bool} (key : K) (val : V) (l : List (K × V)), act.eval k = mkK key → act.eval y = mkV val → (∀ a b, Instr.sameNow m'.kd (mkK a) (mkK b) = some (eq a b)) → (∀ {a b}, eq a b = true → Instr.sameBits 10000 (mkK b) (mkK a) = true) → MapKept.IsKey m'.kd (mkK key) → es.vals = l.map (fun p => (mkK p.1, mkV p.2)) →
              es'.vals = (asg eq key val l).map (fun p => (mkK p.1, mkV p.2)) → ∃ w' ι', (execOp act.eval o).run P w = .ok .skip w' ∧ Rel e ⟨s.fr, stw s.st [(id, .mp es')]⟩ ι' act w' := by
            intro K V mkK mkV eq key val l hkey hval hsn hsb hik hes hes'
            rw [hes] at h6
            have hck := MapKept.run_checkKey (P := P) (w := w) hk hik false 9999
            rcases findNow_look (mkV := mkV) hsn key l ents.toList 0 h6 with ⟨g1, g2, g3⟩ | ⟨j, v', e', k', g1, g2, g3, g4, g5, g6⟩
            · have hfk := MapKept.run_findKey (P := P) (w := w) hk g2
              have hso := MapKept.run_setObj_map (P := P) (.map (ents.push { key := mkK key, val := mkV val, born := clock }) (clock + 1)) h5
              refine ⟨_, ι, ?_, hR.setmap hg h4 h5 es' (ents.push { key := mkK key, val := mkV val, born := clock }) (clock + 1) ?_⟩
              · simp [execOp, ho, Instr.mapUpdate, run_underlying hu, hb2, hgo, hkey, hval, hck, hfk, hso]
              · rw [hes', g3]
                simp [h6]
            · have hfk := MapKept.run_findKey (P := P) (w := w) hk g2
              have hke : (Instr.keyThatStays (mkK k') (mkK key)).run P w = .ok (mkK key) w := by
                simp [Instr.keyThatStays, hsb g5]
              have hso := MapKept.run_setObj_map (P := P) (.map (ents.modify j fun e => { e with key := mkK key, val := mkV val }) clock) h5
              have gs : ents[0 + j]? = some e' := by simpa using g3
              refine ⟨_, ι, ?_, hR.setmap hg h4 h5 es' (ents.modify j fun e => { e with key := mkK key, val := mkV val }) clock ?_⟩
              · simp only [Nat.zero_add] at hfk gs
                simp [execOp, ho, Instr.mapUpdate, run_underlying hu, hb2, hgo, hkey, hval, hck, hfk, gs, g4, hke, hso]
              · rw [hes', g6, modify_list g3]
                have h7 : (ents.toList.take j).map (fun x => (x.key, x.val)) = (l.take j).map (fun p => (mkK p.1, mkV p.2)) := by rw [List.map_take, h6, List.map_take]
                have h8 : (ents.toList.drop (j + 1)).map (fun x => (x.key, x.val)) = (l.drop (j + 1)).map (fun p => (mkK p.1, mkV p.2)) := by rw [List.map_drop, h6, List.map_drop]
                rw [List.map_append, List.map_cons, List.map_append, List.map_cons, h7, h8]
          have hkv := hR.rp k
          have hyv := hR.rp y
          generalize hkt : Operand.t s k = kk at hgm hkv
          generalize hyt : Operand.t s y = yy at hgm hyv
          unfold putM at hgm
          split at hgm
          · rename_i l key val
            injection hgm with hgm; injection hgm with e1 e2
            subst e1 e2
            exact fin key val l hkv.v_inv hyv.v_inv sn_i sb_i isKey_i rfl rfl
          · rename_i l key val
            injection hgm with hgm; injection hgm with e1 e2
            subst e1 e2
            exact fin key val l hkv.v_inv hyv.v_inv sn_i sb_i isKey_i rfl rfl
          · rename_i l key val
            injection hgm with hgm; injection hgm with e1 e2
            subst e1 e2
            exact fin key val l hkv.v_inv hyv.v_inv sn_s sb_s isKey_s rfl rfl
          · rename_i l key val
            injection hgm with hgm; injection hgm with e1 e2
            subst e1 e2
            exact fin key val l hkv.v_inv hyv.v_inv sn_s sb_s isKey_s rfl rfl
          · cases hgm
        · cases hr
      · cases hr
    · cases hr
  · cases hr

/-! ### room -/
def capK : Nat := 1073741824
def capR (st : Sto) (x : T) : Option Res :=
  match x with
  | .vw id n lo len => match get st (id + capK) with
    | some (.full i n' _) => if i = id ∧ n' = n then some ⟨validId st id n, .v (.int .i64 ((n - lo : Nat) : Int)), []⟩ else none
    | _ => none
  | _ => none
theorem does_cap {x : Operand} {ty el : TypeId} (ho : o.op = .call { callee := .builtin .cap, args := #[x], argTypes := #[ty] }) (hu : P.underlying ty = some (.slice el)) {r : Res}
    (hr : capR s.st (Operand.t s x) = some r) (hs : r.side) : Does P e o s r.val r.wr := by
  unfold capR at hr
  split at hr
  · rename_i id n lo len hx
    split at hr
    · rename_i i n' g hgf
      split at hr
      · rename_i hc
        obtain ⟨rfl, rfl⟩ := hc
        injection hr with hr; subst hr
        obtain ⟨k, xs, fz, hg, hm⟩ := validId_iff.1 hs
        refine Does.of_value fun ι act w hR => ?_
        obtain ⟨hle, hv⟩ := (hx ▸ hR.rp x).vw_inv hg hm
        obtain ⟨_, hf⟩ := hR.ob _ _ hgf
        obtain ⟨_, hf⟩ := hf k xs fz hg
        have hcap : ∃ p, act.eval x = .slice p len (n' - lo) := by
          rcases (hR.ob i _ hg).2 with ⟨h1, h2⟩ | ⟨b, cap, cur, E, h1, _⟩
          · subst h2
            simp only [List.length_nil] at hm
            subst hm
            rw [h1] at hv
            obtain ⟨p, hv⟩ := hv
            have : len = 0 := by omega
            subst this
            exact ⟨p, by rw [hv]; simp⟩
          · have := hf hm b cap h1
            subst this
            rw [h1] at hv
            obtain ⟨p, hv, _⟩ := hv
            exact ⟨p, hv⟩
        obtain ⟨p, hv⟩ := hcap
        refine ⟨.int .i64 ((n' - lo : Nat) : Int), ?_, .im (.v _)⟩
        simp [execOp, ho, resolve, invoke, builtin, Builtin.cap_, hv, run_underlying hu, goInt]
      · cases hr
    · cases hr
  · cases hr

def sl3R (st : Sto) (x : T) (lo : Option T) (h m : T) : Option Res :=
  match conT st x, bndT lo, h, m with
  | some (_, xs), some l, .v (.int _ b), .v (.int _ c) => some ⟨conS st x ∧ 0 ≤ lowT l ∧ lowT l ≤ b ∧ b ≤ c ∧ c ≤ xs.length, .junk, []⟩
  | _, _, _, _ => none
theorem does_sl3 {ty : TypeId} {x h m : Operand} {lo : Option Operand} {k : Nat} (ho : o.op = .slice ty x lo (some h) (some m)) (hix : ixT P ty = some (none, k)) {r : Res}
    (hr : sl3R s.st (Operand.t s x) (lo.map (Operand.t s)) (Operand.t s h) (Operand.t s m) = some r) (hs : r.side) : Does P e o s r.val r.wr := by
  unfold sl3R at hr
  split at hr
  · rename_i k2 xs l kb b kc c hc hlo hh hmm
    injection hr with hr; subst hr
    obtain ⟨hcs, h0, h1, h2, h3⟩ := hs
    obtain ⟨el, inf, g1, g2, g3⟩ := ixT_slice hix
    refine Does.of_value fun ι act w hR => ?_
    obtain ⟨p, cap, us, hv, c1, _⟩ := hR.con (hR.rp x) hc hcs
    have hhv := (hh ▸ hR.rp h).v_inv
    have hmv := (hmm ▸ hR.rp m).v_inv
    have b1 := run_bound (P := P) w kc c cap .slice3Acap (by omega) (by omega)
    have b2 := run_bound (P := P) w kb b c.toNat .slice3B (by omega) (by omega)
    suffices hq : ∃ v, (execOp act.eval o).run P w = .ok (.value v) w by
      obtain ⟨v, hq⟩ := hq
      exact ⟨v, hq, .im (.junk v)⟩
    cases lo with
    | none =>
      simp only [Option.map_none, bndT, Option.some.injEq] at hlo
      subst hlo
      refine ⟨.slice (if c.toNat = 0 then p else p.map (·.add 0)) b.toNat c.toNat, ?_⟩
      simp [execOp, ho, hv, Instr.sliceAt, run_underlying g1, Instr.slice, hhv, hmv, Instr.sliceBounds, b1, b2, sizeOf, typeInfo, g2]
    | some lo =>
      simp only [Option.map_some] at hlo
      unfold bndT at hlo
      split at hlo
      · rename_i hq2; cases hq2
      · rename_i kl n hlt
        injection hlo with hlo; subst hlo
        injection hlt with hlt
        have hlv := (hlt ▸ hR.rp lo).v_inv
        simp only [lowT] at h0 h1
        have b3 := run_bound (P := P) w kl n b.toNat .slice3C (by omega) (by omega)
        refine ⟨.slice (if c.toNat = n.toNat then p else p.map (·.add (n.toNat * inf.size))) (b.toNat - n.toNat) (c.toNat - n.toNat), ?_⟩
        simp [execOp, ho, hv, Instr.sliceAt, run_underlying g1, Instr.slice, hhv, hmv, hlv, Instr.sliceBounds, b1, b2, b3, sizeOf, typeInfo, g2]
      · cases hlo
  · cases hr

/-- zeros are appended, and a new array is made -/
def appMR (k b : Nat) (z : T) (st : Sto) (nid : Nat) (x y : T) : Option Res :=
  match x, y with
  | .vw id n lo len, .v (.int _ l) => match get st id, get st (id + capK) with
    | some (.arr k0 xs fz), some (.full i n' _) => if k0 = k ∧ i = id ∧ n' = n then
        some ⟨xs.length = n ∧ get st nid = none ∧ 0 ≤ l ∧ n < lo + len + l.toNat ∧ 0 < b ∧ (len + l.toNat) * b ≤ 140737488355328 ∧ z.cells.length = k ∧ lives [] z.cells,
          .asl nid (len + l.toNat), [(nid, .arr k ((xs.drop lo).take len ++ List.replicate l.toNat z) false)]⟩ else none
    | _, _ => none
  | _, _ => none

theorem run_app_make {w : World} {ty : TypeId} (t tx el : TypeId) (i : TypeInfo) (z : Value) (kx : IntKind) (ht : P.underlying t = some (.slice el)) (hx : P.underlying tx = some (.int kx)) (hi : P.info? el = some i) (hz : i.zero = some z) (hzs : z.cells.size = i.size)
    (p : Option Addr) (m cap : Nat) (kl : IntKind) (l : Int) (olds : List Value) (h0 : 0 ≤ l)
    (hO : ∀ w' : World, w'.heap = w.heap → (Builtin.firstCells i.size m (.slice p m cap)).run P w' = .ok olds.toArray w')
    (hg : cap < m + l.toNat) (hby : 0 < i.bytes) (hfit : (m + l.toNat) * i.bytes ≤ 140737488355328) :
    (Builtin.append_ #[t, tx] ty #[.slice p m cap, .int kl l]).run P w =
      .ok (.slice (some ⟨w.heap.size, 0, none⟩) (m + l.toNat) (grownCap w (m + l.toNat) cap el))
        (w.drew.alloc (.cells (olds.toArray ++ Builtin.zeroCells z.cells l.toNat ++ Builtin.zeroCells z.cells (grownCap w (m + l.toNat) cap el - (m + l.toNat))) el)) := by
  obtain ⟨n, rfl⟩ := Int.eq_ofNat_of_zero_le h0
  simp only [Int.toNat_natCast] at hg hfit ⊢
  have hO' := hO w.drew rfl
  have hmn : m + n ≤ 140737488355328 := Nat.le_trans (Nat.le_mul_of_pos_right _ hby) hfit
  have hn : ¬ (m + n ≤ cap) := by omega
  have hw : IntKind.i64.wrap (n : Int) = n := IntWalk.i64_in _ (by omega)
  have hnb : n * i.bytes ≤ 140737488355328 := Nat.le_trans (Nat.mul_le_mul_right _ (by omega)) hfit
  have hnb' : ¬ ((281474976710656 : Int) < (n : Int) * (i.bytes : Int)) := by
    rw [← Int.natCast_mul]; omega
  have hneg : ¬ ((n : Int) < 0) := by omega
  have h63' : ¬ (9223372036854775807 < ((m : Int) + (n : Int))) := by omega
  have h48' : ¬ (281474976710656 < Builtin.nextslicecap (m + n) cap * i.bytes) := by
    have := growslice_fits (need := m + n) (old := cap) (bytes := i.bytes) hg hfit
    omega
  have hzc : n * i.size = 0 → Builtin.zeroCells z.cells n = #[] := fun h => by
    apply Array.eq_empty_of_size_eq_zero
    rw [size_zeroCells, hzs, h]
  by_cases hs0 : n * i.size = 0
  · have hz0 := hzc hs0
    simp [Builtin.append_, run_underlying ht, run_underlying hx, sizeOf, typeInfo, zeroValue, hi, hz, hn, hw, hnb', hneg, h63', h48', Question.forced, hO', newRow, grownCap, hz0, asInt, asIntOf]
  · have hs1 : ¬ (n = 0 ∨ i.size = 0) := by simpa [Nat.mul_eq_zero] using hs0
    simp [Builtin.append_, run_underlying ht, run_underlying hx, sizeOf, typeInfo, zeroValue, hi, hz, hn, hw, hnb', hneg, h63', h48', Question.forced, hO', newRow, grownCap, asInt, asIntOf, hs1]
    exact fun h => absurd h hs0

theorem does_appM {x y : Operand} {ty0 ty1 el : TypeId} {kx : IntKind} {z : T} {k by_ : Nat} (ho : o.op = .call { callee := .builtin .append, args := #[x, y], argTypes := #[ty0, ty1] }) (hu0 : P.underlying ty0 = some (.slice el)) (hu1 : P.underlying ty1 = some (.int kx))
    (hz : zrT P el = some z) (hk : szT P el = some k) (hb : byT P ty0 = some by_) (hzo : zrOk P ty0 = true) (nid : Nat) {r : Res}
    (hr : appMR k by_ z s.st nid (Operand.t s x) (Operand.t s y) = some r) (hs : r.side) : Does P e o s r.val r.wr := by
  unfold appMR at hr
  split at hr
  · rename_i id n lo len kl l hx hy
    split at hr
    · rename_i k0 xs fz i n' g hg hgf
      split at hr
      · rename_i hc
        obtain ⟨rfl, rfl, rfl⟩ := hc
        injection hr with hr; subst hr
        obtain ⟨hm, hn, h0, hgr, hb0, hfit, hzk, hzl⟩ := hs
        subst hm
        obtain ⟨inf, hi, hisz⟩ : ∃ inf, P.info? el = some inf ∧ inf.size = k0 := by
          unfold szT at hk
          cases hi : P.info? el with
          | none => simp [hi] at hk
          | some inf => simp [hi] at hk; exact ⟨inf, rfl, hk⟩
        obtain ⟨zv, hzv, hzo2⟩ : ∃ zv, inf.zero = some zv ∧ z = ofV zv := by
          unfold zrT at hz
          cases hq : inf.zero with
          | none => simp [hi, hq] at hz
          | some zv => simp [hi, hq] at hz; exact ⟨zv, rfl, hz.symm⟩
        have hby : inf.bytes = by_ := by
          unfold byT at hb; rw [hu0] at hb; simp only [hi, Option.map_some, Option.some.injEq] at hb; exact hb
        obtain ⟨hzs, hz1⟩ : zv.cells.size = inf.size ∧ zv.cells.all (fun u => u.oneCell') = true := by
          unfold zrOk at hzo; rw [hu0] at hzo; simp only [hi, hzv, Bool.and_eq_true, beq_iff_eq] at hzo
          exact hzo
        subst hisz hzo2 hby
        refine Does.of_run fun ι act w hR => ?_
        have hvx := hR.rp x
        rw [hx] at hvx
        obtain ⟨hle, hv⟩ := hvx.vw_inv hg rfl
        have hvy := (hy ▸ hR.rp y).v_inv
        obtain ⟨_, hf⟩ := hR.ob _ _ hgf
        obtain ⟨_, hf⟩ := hf _ xs fz hg
        obtain ⟨hkx, hob⟩ := hR.ob _ _ hg
        obtain ⟨p2, cap2, us, hv2, c1, c2, c3, c4, c5, c6, c7⟩ := hR.con (x := .vw i xs.length lo len) (v := act.eval x) (k := some inf.size) (xs := (xs.drop lo).take len) hvx (by simp [conT, hg]) (validId_iff.2 ⟨_, _, _, hg, rfl⟩)
        have hxl : ((xs.drop lo).take len).length = len := by simp; omega
        rw [hxl] at hv2
        -- the room
        have hcap : cap2 = xs.length - lo := by
          rcases hob with ⟨h1, h2⟩ | ⟨b, cap, cur, E, h1, _⟩
          · subst h2
            rw [h1] at hv
            obtain ⟨p, hv⟩ := hv
            rw [hv] at hv2
            injection hv2 with _ _ hv2
            simp [← hv2]
          · have := hf rfl b cap h1
            subst this
            rw [h1] at hv
            obtain ⟨p, hv, _⟩ := hv
            rw [hv] at hv2
            injection hv2 with _ _ hv2
            exact hv2.symm
        have hkl : ∀ y ∈ (xs.drop lo).take len, y.cells.length = inf.size := fun y hy => hkx y (List.mem_of_mem_drop (List.mem_of_mem_take hy))
        have hfl := flat_length hkl
        rw [hxl] at hfl
        have hrun := run_app_make (P := P) (w := w) (ty := o.type) ty0 ty1 el inf zv kx hu0 hu1 hi hzv hzs p2 len cap2 kl l us h0
          (fun w' hw' => run_firstCells_T inf.size len p2 cap2 us (by rw [c4, hfl]) (fun h => c5 (by rw [hxl]; exact h)) (fun j u hu => by obtain ⟨ad, e1, e2, _⟩ := c6 j u hu; exact ⟨ad, e1, e2⟩) w' hw')
          (by omega) hb0 hfit
        have hbound : len + l.toNat ≤ 140737488355328 := Nat.le_trans (Nat.le_mul_of_pos_right _ hb0) hfit
        have hge := grownCap_ge w (len + l.toNat) cap2 el
        have hcm : grownCap w (len + l.toNat) cap2 el ≤ maxLen := grownCap_le_maxLen w _ cap2 el (by simp only [maxLen]; omega)
        let new : Array Value := us.toArray ++ Builtin.zeroCells zv.cells l.toNat ++ Builtin.zeroCells zv.cells (grownCap w (len + l.toNat) cap2 el - (len + l.toNat))
        have hR1 : Rel e s ι act w.drew := hR.heap rfl rfl rfl rfl
        have hnew : new.size = grownCap w (len + l.toNat) cap2 el * inf.size := by
          simp only [new, Array.size_append, List.size_toArray, size_zeroCells, hzs, c4, hfl, ← Nat.add_mul]
          congr 1; omega
        have hn1 : ∀ (j : Nat) (u : Value), new[j]? = some u → u.oneCell' = true := by
          intro j u hu
          have hm := Array.mem_of_getElem? hu
          simp only [new, Array.mem_append, List.mem_toArray] at hm
          rcases hm with (hm | hm) | hm
          · obtain ⟨q, hq, rfl⟩ := List.getElem_of_mem hm
            obtain ⟨_, _, _, e3⟩ := c6 q us[q] (by simp)
            exact e3
          · obtain ⟨q, hq, rfl⟩ := Array.getElem_of_mem hm
            exact one_zeroCells hz1 q _ (Array.getElem?_eq_getElem hq)
          · obtain ⟨q, hq, rfl⟩ := Array.getElem_of_mem hm
            exact one_zeroCells hz1 q _ (Array.getElem?_eq_getElem hq)
        obtain ⟨hc1, hc2⟩ := ofV_cells zv
        have hkr : ∀ y ∈ List.replicate l.toNat (ofV zv), y.cells.length = inf.size := fun y hy => by rw [(List.mem_replicate.1 hy).2]; exact hzk
        have hka : ∀ y ∈ (xs.drop lo).take len ++ List.replicate l.toNat (ofV zv), y.cells.length = inf.size := fun y hy => by
          rcases List.mem_append.1 hy with hy | hy
          · exact hkl y hy
          · exact hkr y hy
        have hnw := hR1.new nid hn inf.size ((xs.drop lo).take len ++ List.replicate l.toNat (ofV zv)) false (grownCap w (len + l.toNat) cap2 el) new el hka hnew (by rw [List.length_append, hxl, List.length_replicate]; exact hge) hcm hn1 (fun j u c hu hc => by
          refine ⟨hn1 j u hu, ?_⟩
          have hmono : ∀ v t, Rp s.st ι w (Av e s.st ι w) v t → Rp s.st ι w.drew (Av e s.st ι w.drew) v t := fun v t h => Rp.mono (w := w) (A := Av e s.st ι w) (w' := w.drew) (A' := Av e s.st ι w.drew) (fun x hx => ⟨hx, fun u hu => hu⟩) (Goes.refl _ _) h
          rw [flat_append] at hc
          have hu' : (us ++ ((Builtin.zeroCells zv.cells l.toNat).toList ++ (Builtin.zeroCells zv.cells (grownCap w (len + l.toNat) cap2 el - (len + l.toNat))).toList))[j]? = some u := by
            have : new.toList = us ++ ((Builtin.zeroCells zv.cells l.toNat).toList ++ (Builtin.zeroCells zv.cells (grownCap w (len + l.toNat) cap2 el - (len + l.toNat))).toList) := by simp [new]
            rw [← this]; simpa using hu
          have hjl : j < (flat ((xs.drop lo).take len) ++ flat (List.replicate l.toNat (ofV zv))).length := (List.getElem?_eq_some_iff.1 hc).1
          rw [List.length_append, hfl, flat_length hkr, List.length_replicate] at hjl
          by_cases hj : j < len * inf.size
          · rw [List.getElem?_append_left (by rw [c4, hfl]; exact hj)] at hu'
            rw [List.getElem?_append_left (by rw [hfl]; exact hj)] at hc
            exact hmono _ _ (c7 j u c hu' hc)
          · rw [List.getElem?_append_right (by rw [c4, hfl]; omega), c4, hfl, List.getElem?_append_left (by simp [size_zeroCells, hzs]; omega)] at hu'
            rw [List.getElem?_append_right (by rw [hfl]; omega), hfl] at hc
            have hq : j - len * inf.size < l.toNat * inf.size := by omega
            rw [flat_replicate_get _ _ _ hzk _ hq] at hc
            have hk0 : 0 < inf.size := by
              apply Nat.pos_of_ne_zero
              intro h0; rw [h0] at hq; simp at hq
            have hmod : (j - len * inf.size) % inf.size < zv.cells.size := by rw [hzs]; exact Nat.mod_lt _ hk0
            have hu2 : zv.cells[(j - len * inf.size) % inf.size]? = some u := by
              simp only [Builtin.zeroCells, Array.getElem?_toList] at hu'
              rw [Array.getElem?_map] at hu'
              simp [hq, hzs] at hu'
              rw [← hu', getElem!_pos zv.cells _ hmod]
              simp [hmod]
            rw [hc2 _ u c hu2 hc]
            exact .im (.v _))
        refine ⟨.slice (some ⟨w.heap.size, 0, none⟩) (len + l.toNat) (grownCap w (len + l.toNat) cap2 el), _, _, ?_, hnw.1, ?_⟩
        · simp [execOp, ho, resolve, invoke, builtin, hv2, hvy, hrun, new]
        · refine .asl nid _ _ (by simp [stw, get]) fun k2 xs2 fz2 hg2 => ?_
          simp only [stw, List.cons_append, List.nil_append] at hg2
          rw [get_cons_self] at hg2; injection hg2 with hg2; injection hg2 with e1 e2 e3
          subst e1 e2 e3
          refine ⟨by simp; omega, fun _ => ?_⟩
          rw [upd_self]
          rfl
      · cases hr
    · cases hr
  · cases hr
end
end Go.TL
