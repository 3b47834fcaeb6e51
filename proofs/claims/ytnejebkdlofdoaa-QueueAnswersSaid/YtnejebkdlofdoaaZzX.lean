/- Code in its short form, evaluated. -/
import Derived.Test.YtnejebkdlofdoaaZzW
namespace Go.TL
set_option linter.unusedSimpArgs false
set_option linter.unusedVariables false

/-- one of several states, that say less -/
def LeE (e : Env) (s : St) (S : St → Prop) : Prop := ∀ ι a w, Rel e s ι a w → ∃ s', S s' ∧ ∃ ι', Rel e s' ι' a w

/-- a cell of which nothing is known -/
def junkT (k : Nat) : T := if k = 1 then .junk else .agg (List.replicate k .junk)
theorem junkT_cells (k : Nat) : (junkT k).cells = List.replicate k .junk := by
  unfold junkT
  split
  · rename_i h; subst h; rfl
  · rfl
def capVw (id n c : Nat) : T → T
  | .vw i n' lo len => if i = id ∧ n' = n then .vw id c lo len else .vw i n' lo len
  | x => x
def capFr (id n c : Nat) (fr : List (Nat × T)) : List (Nat × T) := fr.map fun p => (p.1, capVw id n c p.2)
def capSt (id k c : Nat) (xs : List T) (st : Sto) : Sto := (id, .arr k (xs ++ List.replicate (c - xs.length) (junkT k)) false) :: (id + capK, .full id c false) :: st
theorem get_capFr (id n c : Nat) : ∀ (fr : List (Nat × T)) (t : Nat), get (capFr id n c fr) t = (get fr t).map (capVw id n c)
  | [], t => rfl
  | (j, x) :: r, t => by
    simp only [capFr, List.map_cons, get]
    split
    · rfl
    · exact get_capFr id n c r t
/-- an object's array with all its room -/
theorem LeE.cap {e : Env} {fr : List (Nat × T)} {st : Sto} (id : Nat) {k : Nat} {xs : List T} (hg : get st id = some (.arr k xs false)) (hn : get st (id + capK) = none) :
    LeE e ⟨fr, st⟩ (fun s' => ∃ c, xs.length ≤ c ∧ c ≤ maxLen ∧ s' = ⟨capFr id xs.length c fr, capSt id k c xs st⟩) := by
  intro ι a w hR
  have hob0 := hR.ob id _ hg
  obtain ⟨hk, hob⟩ := hob0
  -- the room
  obtain ⟨c, hc1, hc2, hci⟩ : ∃ c, xs.length ≤ c ∧ c ≤ maxLen ∧ ((ι id = none ∧ c = 0) ∨ ∃ b, ι id = some (b, c)) := by
    rcases hob with ⟨h1, h2⟩ | ⟨b, cap, cur, E, h1, h2, h3, h4, h5, h6⟩
    · subst h2; exact ⟨0, by simp, by simp [maxLen], .inl ⟨h1, rfl⟩⟩
    · exact ⟨cap, h4, h5.1, .inr ⟨b, h1⟩⟩
  refine ⟨⟨capFr id xs.length c fr, capSt id k c xs st⟩, ⟨c, hc1, hc2, rfl⟩, ι, ?_⟩
  have hidne : id ≠ id + capK := by simp [capK]
  have hga : get (capSt id k c xs st) id = some (.arr k (xs ++ List.replicate (c - xs.length) (junkT k)) false) := by unfold capSt; rw [get_cons_self]
  have hgf : get (capSt id k c xs st) (id + capK) = some (.full id c false) := by unfold capSt; rw [get_cons_ne _ _ hidne, get_cons_self]
  have hgo : ∀ i, i ≠ id → i ≠ id + capK → get (capSt id k c xs st) i = get st i := fun i h1 h2 => by
    unfold capSt; rw [get_cons_ne _ _ (Ne.symm h1), get_cons_ne _ _ (Ne.symm h2)]
  have hxl : (xs ++ List.replicate (c - xs.length) (junkT k)).length = c := by simp; omega
  have hcase : ∀ i o, get (capSt id k c xs st) i = some o → (i = id ∧ o = .arr k (xs ++ List.replicate (c - xs.length) (junkT k)) false) ∨ (i = id + capK ∧ o = .full id c false) ∨ (i ≠ id ∧ i ≠ id + capK ∧ get st i = some o) := by
    intro i o h
    by_cases h1 : i = id
    · subst h1; rw [hga] at h; injection h with h; exact .inl ⟨rfl, h.symm⟩
    · by_cases h2 : i = id + capK
      · subst h2; rw [hgf] at h; injection h with h; exact .inr (.inl ⟨rfl, h.symm⟩)
      · exact .inr (.inr ⟨h1, h2, by rw [← hgo i h1 h2]; exact h⟩)
  have hkk : ∀ x ∈ xs ++ List.replicate (c - xs.length) (junkT k), x.cells.length = k := fun x hx => by
    rcases List.mem_append.1 hx with hx | hx
    · exact hk x hx
    · rw [(List.mem_replicate.1 hx).2, junkT_cells]; simp
  have hjk : ∀ (n j : Nat) (u : T), (flat (List.replicate n (junkT k)))[j]? = some u → u = .junk := by
    intro n
    induction n with
    | zero => intro j u h; simp [flat] at h
    | succ n ih =>
      intro j u h
      simp only [List.replicate_succ, flat, List.flatMap_cons, junkT_cells] at h
      by_cases hj : j < k
      · rw [List.getElem?_append_left (by simpa using hj)] at h
        have := List.mem_of_getElem? h
        exact (List.mem_replicate.1 this).2
      · rw [List.getElem?_append_right (by simpa using hj)] at h
        exact ih _ u h
  have hgo2 := hR.go (st' := capSt id k c xs st) (ι' := ι) (w' := w) ⟨fun i hi => ?_, fun i k' xs' fz' h hi => ?_, fun i es h hi => ?_⟩ (fun _ _ _ h => h) ?_ ?_ ?_ ?_ (fun _ _ _ => rfl) (Nat.le_refl _) rfl rfl rfl ?_
  · obtain ⟨hR', hrp⟩ := hgo2
    refine ⟨hR'.size, hR'.dfr, fun t x hx => ?_, hR'.ob, hR'.inj, hR'.own, hR'.keep, hR'.hs, hR'.sS, hR'.os, hR'.tape, hR'.output, hR'.gs, hR'.stab, hR'.mp⟩
    rw [get_capFr] at hx
    cases hf : get fr t with
    | none => rw [hf] at hx; cases hx
    | some x0 =>
      rw [hf] at hx
      simp only [Option.map_some, Option.some.injEq] at hx
      subst hx
      have h0 := hR.fr t x0 hf
      unfold capVw
      split
      · rename_i i n' lo len
        split
        · rename_i hcc
          obtain ⟨rfl, rfl⟩ := hcc
          obtain ⟨hle, hvw⟩ := h0.vw_inv hg rfl
          refine .vw i c lo len _ (by rw [hga]; simp) fun k2 xs2 fz2 hg2 => ?_
          rw [hga] at hg2; injection hg2 with hg2; injection hg2 with e1 e2 e3
          subst e1 e2 e3
          exact ⟨by omega, fun _ => ⟨by omega, hvw⟩⟩
        · exact hrp _ _ h0
      · exact hrp _ _ h0
  · by_cases h1 : i = id
    · subst h1; rw [hga]; simp
    · by_cases h2 : i = id + capK
      · exact absurd (h2 ▸ hn) hi
      · rw [hgo i h1 h2]; exact hi
  · rcases hcase i _ h with ⟨h1, h2⟩ | ⟨_, h2⟩ | ⟨_, _, h2⟩
    · subst h1; injection h2 with e1 e2 e3; subst e1 e2 e3
      exact ⟨_, xs, false, hg, rfl, by omega, fun _ => rfl⟩
    · cases h2
    · exact ⟨k', xs', fz', h2, rfl, Nat.le_refl _, fun _ => rfl⟩
  · rcases hcase i _ h with ⟨h1, h2⟩ | ⟨_, h2⟩ | ⟨_, _, h2⟩
    · cases h2
    · cases h2
    · exact ⟨⟨es, h2⟩, rfl⟩
  · rintro x (hx | ⟨h1, h2, h3⟩)
    · exact .inl hx
    · refine .inr ⟨h1, h2, fun i k1 x1 f1 cap' hg1 hi => ?_⟩
      rcases hcase i _ hg1 with ⟨q1, q2⟩ | ⟨_, q2⟩ | ⟨_, _, q2⟩
      · subst q1
        have := (h3 i k xs false cap' hg hi).1
        cases this
      · cases q2
      · exact h3 i k1 x1 f1 cap' q2 hi
  · intro i o' ho'
    rcases hcase i _ ho' with ⟨q1, q2⟩ | ⟨q1, q2⟩ | ⟨_, _, q2⟩
    · subst q1 q2
      refine .inr fun hm => ⟨hkk, ?_⟩
      rcases hob with ⟨h1, h2⟩ | ⟨b, cap, cur, E, h1, h2, h3, h4, h5, h6⟩
      · subst h2
        rcases hci with ⟨_, h3⟩ | ⟨b, h3⟩
        · subst h3; exact .inl ⟨h1, by simp⟩
        · rw [h1] at h3; cases h3
      · have hcc : cap = c := by
          rcases hci with ⟨h7, _⟩ | ⟨b', h7⟩
          · rw [h1] at h7; cases h7
          · rw [h1] at h7; injection h7 with h7; injection h7
        subst hcc
        refine .inr ⟨b, cap, cur, E, h1, h2, h3, by omega, h5, fun j u c' hu hc' => ?_⟩
        refine ⟨h5.2 j u hu, ?_⟩
        have hfl : flat (xs ++ List.replicate (cap - xs.length) (junkT k)) = flat xs ++ flat (List.replicate (cap - xs.length) (junkT k)) := by simp [flat]
        rw [hfl] at hc'
        by_cases hj : j < (flat xs).length
        · rw [List.getElem?_append_left hj] at hc'
          exact hm _ _ (h6 j u c' hu hc').2
        · rw [List.getElem?_append_right (by omega)] at hc'
          rw [hjk _ _ _ hc']
          exact .im (.junk _)
    · subst q1 q2
      refine .inr fun _ => ⟨by rw [hga]; simp, fun k2 xs2 fz2 hg2 => ?_⟩
      rw [hga] at hg2; injection hg2 with hg2; injection hg2 with e1 e2 e3
      subst e1 e2 e3
      refine ⟨by omega, fun _ b c' hi => ?_⟩
      rcases hci with ⟨h7, _⟩ | ⟨b', h7⟩
      · rw [hi] at h7; cases h7
      · rw [hi] at h7; injection h7 with h7; injection h7
    · exact .inl ⟨q2, rfl, fun _ _ _ _ => rfl⟩
  · intro i i' k1 x1 f1 k2 x2 f2 b c' c'' g1 g2 e1 e2
    have key : ∀ i k1 x1 f1, get (capSt id k c xs st) i = some (.arr k1 x1 f1) → ∃ k x f, get st i = some (.arr k x f) := by
      intro i k1 x1 f1 g1
      rcases hcase i _ g1 with ⟨q1, q2⟩ | ⟨q1, q2⟩ | ⟨_, _, q2⟩
      · subst q1; exact ⟨_, _, _, hg⟩
      · cases q2
      · exact ⟨_, _, _, q2⟩
    obtain ⟨_, _, _, p1⟩ := key i _ _ _ g1
    obtain ⟨_, _, _, p2⟩ := key i' _ _ _ g2
    exact hR.inj i i' _ _ _ _ _ _ b c' c'' p1 p2 e1 e2
  · intro i k1 x1 f1 b c' g1 e1
    rcases hcase i _ g1 with ⟨q1, q2⟩ | ⟨q1, q2⟩ | ⟨_, _, q2⟩
    · subst q1; exact hR.own i _ _ _ b c' hg e1
    · cases q2
    · exact hR.own i _ _ _ b c' q2 e1
  · intro i es h
    rcases hcase i _ h with ⟨h1, h2⟩ | ⟨_, h2⟩ | ⟨_, _, h2⟩
    · cases h2
    · cases h2
    · exact ⟨h2, rfl, fun _ _ _ => rfl⟩

inductive RC where
  | skip
  | reg (id : Nat) (rows : Option (List Nat)) (ks : List Nat) (ops : List ROp)
  | seq (a b : RC)
  | cond (c : RV) (a b : RC)
  | scope (a : RC)
  | block (id : Nat) (a : RC)
  | loop (a : RC)
  | exit (id : Nat)
  | ret
  | stuck
  | cut (a : RC)

/-- without the places where less is said -/
def erase : RC → RC
  | .seq a b => .seq (erase a) (erase b)
  | .cond c a b => .cond c (erase a) (erase b)
  | .scope a => .scope (erase a)
  | .block id a => .block id (erase a)
  | .loop a => .loop (erase a)
  | .cut a => erase a
  | .skip => .skip
  | .reg id rows ks ops => .reg id rows ks ops
  | .exit id => .exit id
  | .ret => .ret
  | .stuck => .stuck
/-- less may be said ahead of these regions -/
def cutAt (ids : List Nat) : RC → RC
  | .seq a b => .seq (cutAt ids a) (cutAt ids b)
  | .cond c a b => .cond c (cutAt ids a) (cutAt ids b)
  | .scope a => .scope (cutAt ids a)
  | .block id a => .block id (cutAt ids a)
  | .loop a => .loop (cutAt ids a)
  | .cut a => .cut (cutAt ids a)
  | .skip => .skip
  | .reg id rows ks ops => bif ids.contains id then .cut (.reg id rows ks ops) else .reg id rows ks ops
  | .exit id => .exit id
  | .ret => .ret
  | .stuck => .stuck
theorem erase_cutAt (ids : List Nat) (rc : RC) : erase (cutAt ids rc) = erase rc := by
  induction rc with
  | reg id rows ks ops =>
    unfold cutAt
    cases ids.contains id <;> rfl
  | _ => simp_all [erase, cutAt]

def indepT (f g : List Tmp × Option Tmp) : Bool :=
  (match f.2 with | some d => !g.1.contains d && !(g.2 == some d) | none => true) && (match g.2 with | some d => !f.1.contains d | none => true)
def sfoot (ops : List Oper) (o : Oper) : List Tmp × Option Tmp := (guardT ops o ++ tmpsOf o.op.operands.toList, o.dst)

def indepD (f g : List Nat × List Nat) : Bool :=
  (f.2.isEmpty && g.2.isEmpty) || (f.2.all (fun i => !g.1.contains i && !g.2.contains i) && g.2.all (fun i => !f.1.contains i))

def statOk (ops : List Oper) : Bool :=
  let rows := preRows ops [] ops
  (ops.zipIdx.all fun (o, j) => o.after.toList.all fun e => !Region.binds .any e || e.on < j) &&
  (ops.zipIdx.all fun (o, j) => ops.zipIdx.all fun (o', i) => !(decide (i < j)) || (rows.getD j 0).testBit i || indepT (sfoot ops o') (sfoot ops o))

def dynOk (rows : List Nat) (fs : List (List Nat × List Nat)) : Bool :=
  fs.all (fun f => f.2.isEmpty) || fs.zipIdx.all fun (g, j) => fs.zipIdx.all fun (f, i) => !(decide (i < j)) || (rows.getD j 0).testBit i || indepD f g

theorem drawOk_of {ops : List Oper} {rs : List Rec} (hops : rs.map (·.o) = ops) (hst : ∀ r ∈ rs, r.foot.rdT = guardT ops r.o ++ tmpsOf r.o.op.operands.toList ∧ r.foot.dst = r.o.dst)
    (h1 : statOk ops = true) (h2 : dynOk (preRows ops [] ops) (rs.map dynF) = true) : drawOk ops (rs.map (·.foot)) = true := by
  unfold statOk at h1
  simp only [Bool.and_eq_true] at h1
  unfold drawOk
  simp only [Bool.and_eq_true]
  refine ⟨h1.1, ?_⟩
  rw [List.all_eq_true]
  rintro ⟨g, j⟩ hg
  rw [List.all_eq_true]
  rintro ⟨f, i⟩ hf
  rw [List.mem_zipIdx_iff_getElem?] at hg hf
  simp only [List.getElem?_map] at hg hf
  cases hj : rs[j]? with
  | none => simp [hj] at hg
  | some rj =>
    cases hi : rs[i]? with
    | none => simp [hi] at hf
    | some ri =>
      simp [hj] at hg
      simp [hi] at hf
      subst hg hf
      have hoj : ops[j]? = some rj.o := by rw [← hops]; simp [hj]
      have hoi : ops[i]? = some ri.o := by rw [← hops]; simp [hi]
      have s1 := List.all_eq_true.1 h1.2 (rj.o, j) (by rw [List.mem_zipIdx_iff_getElem?]; exact hoj)
      have s2 := List.all_eq_true.1 s1 (ri.o, i) (by rw [List.mem_zipIdx_iff_getElem?]; exact hoi)
      have d2 : (!(decide (i < j)) || ((preRows ops [] ops).getD j 0).testBit i || indepD (dynF ri) (dynF rj)) = true := by
        unfold dynOk at h2
        rw [Bool.or_eq_true] at h2
        rcases h2 with h2 | h2
        · have a1 := List.all_eq_true.1 h2 (dynF ri) (List.mem_map.2 ⟨ri, List.mem_of_getElem? hi, rfl⟩)
          have a2 := List.all_eq_true.1 h2 (dynF rj) (List.mem_map.2 ⟨rj, List.mem_of_getElem? hj, rfl⟩)
          simp only [indepD, a1, a2, Bool.and_self, Bool.true_or, Bool.or_true]
        · have a1 := List.all_eq_true.1 h2 (dynF rj, j) (by rw [List.mem_zipIdx_iff_getElem?]; simp [hj])
          exact List.all_eq_true.1 a1 (dynF ri, i) (by rw [List.mem_zipIdx_iff_getElem?]; simp [hi])
      simp only [Bool.or_eq_true] at s2 d2 ⊢
      rcases s2 with s2 | s2
      · exact .inl s2
      · rcases d2 with d2 | d2
        · exact .inl d2
        · right
          obtain ⟨q1, q2⟩ := hst ri (List.mem_of_getElem? hi)
          obtain ⟨p1, p2⟩ := hst rj (List.mem_of_getElem? hj)
          unfold indep
          unfold indepT sfoot at s2
          rw [q1, q2, p1, p2]
          simp only [Bool.and_eq_true] at s2 ⊢
          refine ⟨⟨s2, ?_⟩, ?_⟩
          · unfold indepD dynF at d2
            simp only [Bool.or_eq_true, Bool.and_eq_true] at d2
            rcases d2 with ⟨d3, d4⟩ | d3
            · simp only [List.isEmpty_iff] at d3; rw [d3]; rfl
            · exact d3.1
          · unfold indepD dynF at d2
            simp only [Bool.or_eq_true, Bool.and_eq_true] at d2
            rcases d2 with ⟨d3, d4⟩ | d3
            · simp only [List.isEmpty_iff] at d4; rw [d4]; rfl
            · exact d3.2

def rsvC (P : Program) (n : Nat) (kss : List (Nat × List Nat)) : Code → Option RC
  | .skip => some .skip
  | .label _ => some .skip
  | .region id ops draw => match rsvOps P ops.toList ops.toList with
    | some l => if dstOk ops.toList n && lateB [] l && (!draw || statOk ops.toList) then some (.reg id (if draw then some (preRows ops.toList [] ops.toList) else none) ((get kss id).getD []) l) else some .stuck
    | none => some .stuck
  | .seq a b => match rsvC P n kss a, rsvC P n kss b with
    | some x, some y => some (.seq x y)
    | _, _ => none
  | .cond c a b => match rsvC P n kss a, rsvC P n kss b with
    | some x, some y => some (.cond (toRV c) x y)
    | _, _ => none
  | .block id a => match rsvC P n kss a with
    | some x => some (.block id x)
    | none => none
  | .scope a => match rsvC P n kss a with
    | some x => some (.scope x)
    | none => none
  | .loop a => match rsvC P n kss a with
    | some x => some (.loop x)
    | none => none
  | .exit id => some (.exit id)
  | .ret => some .ret
  | _ => some .stuck

def entX : List (Nat × T) → XF
  | [] => []
  | (t, x) :: r => (t, .p x) :: entX r
def keepX (F : XF) : List Nat → List (Nat × T)
  | [] => []
  | t :: r => match get F t with
    | some (.p x) => (t, x) :: keepX F r
    | _ => keepX F r

def seqQ (K : St → Prop) (Q : Ex → St → Prop) : Ex → St → Prop
  | .normal, s => K s
  | .exit i, s => Q (.exit i) s
  | .ret, s => Q .ret s

def rowsOk (rows : Option (List Nat)) (acc : List (List Nat × List Nat)) : Prop :=
  match rows with | none => True | some rows => dynOk rows acc = true

def WPR (P : Program) (e : Env) (kss : List (Nat × List Nat)) (rc : RC) (s : St) (Q : Ex → St → Prop) : Prop := ∀ c, rsvC P e.n kss c = some (erase rc) → WP P e c s Q

/-- what code does, in one formula; loops stay -/
def wpC (P : Program) (e : Env) (kss : List (Nat × List Nat)) : RC → St → (Ex → St → Prop) → Prop
  | .skip, s, Q => Q .normal s
  | .reg id rows ks ops, s, Q => wpR P ((id + 1) * 4096) ops (entX s.fr) s.st [] fun F st acc => rowsOk rows acc ∧ Q .normal ⟨keepX F ks, st⟩
  | .seq a b, s, Q => wpC P e kss a s (seqQ (fun s => wpC P e kss b s Q) Q)
  | .cond c a b, s, Q => match rv s.fr c with
    | .v (.bool t) => (t = true → wpC P e kss a s Q) ∧ (t = false → wpC P e kss b s Q)
    | .ub p q => (p = true → wpC P e kss a s Q) ∧ (q = true → wpC P e kss b s Q)
    | _ => False
  | .scope a, s, Q => wpC P e kss a s Q
  | .block id a, s, Q => wpC P e kss a s (blockQ id Q)
  | .loop a, s, Q => WPR P e kss (.loop a) s Q
  | .exit id, s, Q => Q (.exit id) s
  | .ret, s, Q => Q .ret s
  | .stuck, _, _ => False
  | .cut a, s, Q => ∃ S : St → Prop, LeE e s S ∧ ∀ s', S s' → wpC P e kss a s' Q

section
variable {P : Program} {e : Env} {kss : List (Nat × List Nat)}

theorem get_entX (fr : List (Nat × T)) (t : Nat) : get (entX fr) t = (get fr t).map .p := by
  induction fr with
  | nil => rfl
  | cons p r ih => obtain ⟨k, x⟩ := p; simp only [entX, get]; split <;> simp [ih]

theorem get_keepX {F : XF} {fr : List (Nat × T)} (hf : fits fr F) : ∀ (ks : List Nat) (t : Nat) (x : T), get (keepX F ks) t = some x → get fr t = some x
  | [], t, x, h => by simp [keepX, get] at h
  | k :: r, t, x, h => by
    have h0 := hf k
    unfold keepX at h
    split at h
    · rename_i y hy
      rw [hy] at h0
      simp only [get] at h
      split at h
      · rename_i hk; subst hk; injection h with h; subst h; exact h0
      · exact get_keepX hf r t x h
    · exact get_keepX hf r t x h

theorem Rel.drop {s s' : St} {ι : Iota} {a : Act} {w : World} (h : Rel e s ι a w) (hst : s'.st = s.st) (hfr : ∀ t x, get s'.fr t = some x → get s.fr t = some x) : Rel e s' ι a w := by
  obtain ⟨fr', st'⟩ := s'
  simp only at hst hfr
  subst hst
  exact ⟨h.size, h.dfr, fun t x hx => h.fr t x (hfr t x hx), h.ob, h.inj, h.own, h.keep, h.hs, h.sS, h.os, h.tape, h.output, h.gs, h.stab, h.mp⟩

theorem WPR.mono {rc : RC} {s : St} {Q Q' : Ex → St → Prop} (h : WPR P e kss rc s Q) (hq : ∀ x s, Q x s → Q' x s) : WPR P e kss rc s Q' :=
  fun c hc => (h c hc).mono hq

theorem reg_sound {id : Nat} {rows : Option (List Nat)} {ks : List Nat} {lr : List ROp} {s : St} {Q : Ex → St → Prop} (hm : P.follows .mixedOrders = true)
    (h : wpR P ((id + 1) * 4096) lr (entX s.fr) s.st [] fun F st acc => rowsOk rows acc ∧ Q .normal ⟨keepX F ks, st⟩) : WPR P e kss (.reg id rows ks lr) s Q := by
  intro c hc
  simp only [erase] at hc
  unfold rsvC at hc
  split at hc <;> try (first | (cases hc; done) | (split at hc <;> cases hc))
  rename_i id' ops draw
  split at hc
  · rename_i l hl
    split at hc
    · rename_i hg
      injection hc with hc
      injection hc with e1 e2 e3 e4
      subst e1 e4
      simp only [Bool.and_eq_true] at hg
      obtain ⟨⟨hd, hlate⟩, hdr⟩ := hg
      obtain ⟨rs, s', F', g1, g2, g3, g4, g5, g6⟩ := wpR_tr (e := e) (ops := ops.toList) ops.toList l ((id' + 1) * 4096) s (entX s.fr) [] [] _ hl (fun t => by
        rw [get_entX]
        cases hg : get s.fr t with
        | none => exact hg
        | some x => exact hg) (fun t L c x hg => by
          rw [get_entX] at hg
          cases hq : get s.fr t <;> simp [hq] at hg) hlate h
      have last : ∀ ι a w, Rel e s' ι a w → lift e Q .normal a w := fun ι a w hR' => ⟨ι, _, hR'.drop (s' := ⟨keepX F' ks, s'.st⟩) rfl (get_keepX g4 ks), g6⟩
      cases draw with
      | false =>
        intro ι a w hR
        refine wp_region_lit ?_
        have : wpList P ops (lift e Q) ops.toList a w = wpList P ops.toList.toArray (lift e Q) (rs.map (·.o)) a w := by rw [g2]
        rw [this]
        exact g1.list (dstOk_spec hd) (fun r hr => by rw [← g2]; exact List.mem_map.2 ⟨r, hr, rfl⟩) hR last
      | true =>
        intro ι a w hR
        simp only [if_true] at e2
        subst e2
        simp only [Bool.not_true, Bool.false_or] at hdr
        have hdraw := drawOk_of g2 g3 hdr (by simpa [rowsOk] using g5)
        have hLf : ∀ k, Lf (Array.replicate ops.size false) k = false := by
          intro k
          unfold Lf; simp only [Array.getD_eq_getD_getElem?]; rw [Array.getElem?_replicate]; split <;> simp
        refine wp_region_any hm ?_
        have hR' : Rel e s ι a { w with drawn := w.drawn + 1 } := hR.heap rfl rfl rfl rfl
        have := Tr.any g1 g2 hdraw (dstOk_spec hd) last ops.size (Array.replicate ops.size false) s ι a _ (by simp) ?_ hR' (fun t => ?_) (fun j => ?_) ?_
        · simpa using this
        · intro j hj o ho ed he hb
          simp only [Array.getD_eq_getD_getElem?] at hj
          rw [Array.getElem?_replicate] at hj
          split at hj <;> simp at hj
        · unfold frAt
          rw [lastOf_cut (i := 0) (Nat.zero_le _) (fun k _ hk => by rw [hLf k]; rfl)]
          rfl
        · unfold stAt
          rw [lastOf_cut (i := 0) (Nat.zero_le _) (fun k _ hk => by rw [hLf k]; rfl)]
          rfl
        · unfold unl
          simp only [hLf]
          simp
    · cases hc
  · cases hc

theorem rsvC_erase {n : Nat} (c : Code) : ∀ rc : RC, rsvC P n kss c = some rc → erase rc = rc := by
  induction c using rsvC.induct P n kss
  all_goals
    intro rc h
    unfold rsvC at h
    try simp_all only []
    repeat' split at h
    all_goals first
      | (cases h; done)
      | (injection h with h; subst h; rfl)
      | (injection h with h; subst h; simp_all [erase]; done)
      | trace_state

theorem wpC_sound (hm : P.follows .mixedOrders = true) : ∀ (rc : RC) (s : St) (Q : Ex → St → Prop), wpC P e kss rc s Q → WPR P e kss rc s Q := by
  intro rc
  induction rc with
  | skip =>
    intro s Q h c hc
    simp only [erase] at hc
    unfold rsvC at hc
    split at hc <;> try (first | (cases hc; done) | (split at hc <;> cases hc; done) | (split at hc <;> (try split at hc) <;> cases hc; done))
    · exact WP.skip h
    · exact WP.label h
  | reg id rows ks ops => intro s Q h; exact reg_sound hm h
  | seq a b iha ihb =>
    intro s Q h c hc
    simp only [erase] at hc
    unfold rsvC at hc
    split at hc <;> try (first | (cases hc; done) | (split at hc <;> (try split at hc) <;> cases hc; done))
    rename_i a' b'
    split at hc
    · rename_i x y hx hy
      injection hc with hc; injection hc with h1 h2; subst h1 h2
      refine WP.seq fun K hK => ?_
      refine (iha s _ h a' hx).mono ?_
      intro ex s' hq
      cases ex with
      | normal => exact hK s' (ihb s' Q hq b' hy)
      | exit i => exact hq
      | ret => exact hq
    · cases hc
  | cond c0 a b iha ihb =>
    intro s Q h c hc
    simp only [erase] at hc
    unfold rsvC at hc
    split at hc <;> try (first | (cases hc; done) | (split at hc <;> (try split at hc) <;> cases hc; done))
    rename_i c' a' b'
    split at hc
    · rename_i x y hx hy
      injection hc with hc; injection hc with h0 h1 h2; subst h0 h1 h2
      simp only [wpC] at h
      split at h
      · rename_i t ht
        rw [rv_toRV] at ht
        exact WP.cond ht (fun hb => iha s Q (h.1 hb) a' hx) (fun hb => ihb s Q (h.2 hb) b' hy)
      · rename_i p q ht
        rw [rv_toRV] at ht
        exact WP.condU ht (fun hb => iha s Q (h.1 hb) a' hx) (fun hb => ihb s Q (h.2 hb) b' hy)
      · exact h.elim
    · cases hc
  | scope a iha =>
    intro s Q h c hc
    simp only [erase] at hc
    unfold rsvC at hc
    split at hc <;> try (first | (cases hc; done) | (split at hc <;> (try split at hc) <;> cases hc; done))
    rename_i a'
    split at hc
    · rename_i x hx
      injection hc with hc; injection hc with h1; subst h1
      exact WP.scope (iha s _ h a' hx)
    · cases hc
  | block id a iha =>
    intro s Q h c hc
    simp only [erase] at hc
    unfold rsvC at hc
    split at hc <;> try (first | (cases hc; done) | (split at hc <;> (try split at hc) <;> cases hc; done))
    rename_i id' a'
    split at hc
    · rename_i x hx
      injection hc with hc; injection hc with h0 h1; subst h0 h1
      exact WP.block (iha s _ h a' hx)
    · cases hc
  | loop a iha => intro s Q h; exact h
  | exit id =>
    intro s Q h c hc
    simp only [erase] at hc
    unfold rsvC at hc
    split at hc <;> try (first | (cases hc; done) | (split at hc <;> (try split at hc) <;> cases hc; done))
    injection hc with hc; injection hc with hc; subst hc
    exact WP.exit h
  | ret =>
    intro s Q h c hc
    simp only [erase] at hc
    unfold rsvC at hc
    split at hc <;> try (first | (cases hc; done) | (split at hc <;> (try split at hc) <;> cases hc; done))
    exact WP.ret h
  | stuck => intro s Q h; exact h.elim
  | cut a iha =>
    intro s Q h c hc
    obtain ⟨S, hl, h⟩ := h
    intro ι a w hR
    obtain ⟨s', hs', ι', hR'⟩ := hl ι a w hR
    exact iha s' _ (h s' hs') c hc ι' a w hR'

theorem WPR.loop {α : Type} {rc : RC} {s : St} {Q : Ex → St → Prop} (hm : P.follows .mixedOrders = true) (I : α → Prop) (f : α → St) (μ : α → Nat) (x0 : α) (h0 : I x0) (hs : Le e s (f x0))
    (round : ∀ x, I x → wpC P e kss rc (f x) (loopQ e I f μ x Q)) : WPR P e kss (.loop rc) s Q := by
  intro c hc
  simp only [erase] at hc
  unfold rsvC at hc
  split at hc <;> try (first | (cases hc; done) | (split at hc <;> (try split at hc) <;> cases hc; done))
  rename_i a'
  split at hc
  · rename_i x hx
    injection hc with hc; injection hc with hc; subst hc
    exact WP.loop I f μ x0 h0 hs fun x hI => wpC_sound hm _ _ _ (round x hI) a' hx
  · cases hc

end
end Go.TL
