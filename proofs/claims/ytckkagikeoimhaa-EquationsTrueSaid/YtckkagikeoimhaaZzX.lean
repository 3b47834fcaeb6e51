/- Code in its short form, evaluated. -/
import Derived.Test.YtckkagikeoimhaaZzW
namespace Go.TL
set_option linter.unusedSimpArgs false
set_option linter.unusedVariables false

inductive RC where
  | skip
  | reg (id : Nat) (rows : Option (List Nat)) (ks : List Nat) (ops : List ROp)
  | seq (a b : RC)
  | cond (c : RV) (a b : RC)
  | scope (a : RC)
  | block (id : Nat) (a : RC)
  | loop (a : RC)
  | exit (id : Nat)
  | ret
  | stuck
  | cut (a : RC)

/-- without the places where less is said -/
def erase : RC → RC
  | .seq a b => .seq (erase a) (erase b)
  | .cond c a b => .cond c (erase a) (erase b)
  | .scope a => .scope (erase a)
  | .block id a => .block id (erase a)
  | .loop a => .loop (erase a)
  | .cut a => erase a
  | .skip => .skip
  | .reg id rows ks ops => .reg id rows ks ops
  | .exit id => .exit id
  | .ret => .ret
  | .stuck => .stuck
/-- less may be said ahead of these regions -/
def cutAt (ids : List Nat) : RC → RC
  | .seq a b => .seq (cutAt ids a) (cutAt ids b)
  | .cond c a b => .cond c (cutAt ids a) (cutAt ids b)
  | .scope a => .scope (cutAt ids a)
  | .block id a => .block id (cutAt ids a)
  | .loop a => .loop (cutAt ids a)
  | .cut a => .cut (cutAt ids a)
  | .skip => .skip
  | .reg id rows ks ops => bif ids.contains id then .cut (.reg id rows ks ops) else .reg id rows ks ops
  | .exit id => .exit id
  | .ret => .ret
  | .stuck => .stuck
theorem erase_cutAt (ids : List Nat) (rc : RC) : erase (cutAt ids rc) = erase rc := by
  induction rc with
  | reg id rows ks ops =>
    unfold cutAt
    cases ids.contains id <;> rfl
  | _ => simp_all [erase, cutAt]

def indepT (f g : List Tmp × Option Tmp) : Bool :=
  (match f.2 with | some d => !g.1.contains d && !(g.2 == some d) | none => true) && (match g.2 with | some d => !f.1.contains d | none => true)
def sfoot (ops : List Oper) (o : Oper) : List Tmp × Option Tmp := (guardT ops o ++ tmpsOf o.op.operands.toList, o.dst)

def indepD (f g : List Nat × List Nat) : Bool :=
  (f.2.isEmpty && g.2.isEmpty) || (f.2.all (fun i => !g.1.contains i && !g.2.contains i) && g.2.all (fun i => !f.1.contains i))

def statOk (ops : List Oper) : Bool :=
  let rows := preRows ops [] ops
  (ops.zipIdx.all fun (o, j) => o.after.toList.all fun e => !Region.binds .any e || e.on < j) &&
  (ops.zipIdx.all fun (o, j) => ops.zipIdx.all fun (o', i) => !(decide (i < j)) || (rows.getD j 0).testBit i || indepT (sfoot ops o') (sfoot ops o))

def dynOk (rows : List Nat) (fs : List (List Nat × List Nat)) : Bool :=
  fs.all (fun f => f.2.isEmpty) || fs.zipIdx.all fun (g, j) => fs.zipIdx.all fun (f, i) => !(decide (i < j)) || (rows.getD j 0).testBit i || indepD f g

theorem drawOk_of {ops : List Oper} {rs : List Rec} (hops : rs.map (·.o) = ops) (hst : ∀ r ∈ rs, r.foot.rdT = guardT ops r.o ++ tmpsOf r.o.op.operands.toList ∧ r.foot.dst = r.o.dst)
    (h1 : statOk ops = true) (h2 : dynOk (preRows ops [] ops) (rs.map dynF) = true) : drawOk ops (rs.map (·.foot)) = true := by
  unfold statOk at h1
  simp only [Bool.and_eq_true] at h1
  unfold drawOk
  simp only [Bool.and_eq_true]
  refine ⟨h1.1, ?_⟩
  rw [List.all_eq_true]
  rintro ⟨g, j⟩ hg
  rw [List.all_eq_true]
  rintro ⟨f, i⟩ hf
  rw [List.mem_zipIdx_iff_getElem?] at hg hf
  simp only [List.getElem?_map] at hg hf
  cases hj : rs[j]? with
  | none => simp [hj] at hg
  | some rj =>
    cases hi : rs[i]? with
    | none => simp [hi] at hf
    | some ri =>
      simp [hj] at hg
      simp [hi] at hf
      subst hg hf
      have hoj : ops[j]? = some rj.o := by rw [← hops]; simp [hj]
      have hoi : ops[i]? = some ri.o := by rw [← hops]; simp [hi]
      have s1 := List.all_eq_true.1 h1.2 (rj.o, j) (by rw [List.mem_zipIdx_iff_getElem?]; exact hoj)
      have s2 := List.all_eq_true.1 s1 (ri.o, i) (by rw [List.mem_zipIdx_iff_getElem?]; exact hoi)
      have d2 : (!(decide (i < j)) || ((preRows ops [] ops).getD j 0).testBit i || indepD (dynF ri) (dynF rj)) = true := by
        unfold dynOk at h2
        rw [Bool.or_eq_true] at h2
        rcases h2 with h2 | h2
        · have a1 := List.all_eq_true.1 h2 (dynF ri) (List.mem_map.2 ⟨ri, List.mem_of_getElem? hi, rfl⟩)
          have a2 := List.all_eq_true.1 h2 (dynF rj) (List.mem_map.2 ⟨rj, List.mem_of_getElem? hj, rfl⟩)
          simp only [indepD, a1, a2, Bool.and_self, Bool.true_or, Bool.or_true]
        · have a1 := List.all_eq_true.1 h2 (dynF rj, j) (by rw [List.mem_zipIdx_iff_getElem?]; simp [hj])
          exact List.all_eq_true.1 a1 (dynF ri, i) (by rw [List.mem_zipIdx_iff_getElem?]; simp [hi])
      simp only [Bool.or_eq_true] at s2 d2 ⊢
      rcases s2 with s2 | s2
      · exact .inl s2
      · rcases d2 with d2 | d2
        · exact .inl d2
        · right
          obtain ⟨q1, q2⟩ := hst ri (List.mem_of_getElem? hi)
          obtain ⟨p1, p2⟩ := hst rj (List.mem_of_getElem? hj)
          unfold indep
          unfold indepT sfoot at s2
          rw [q1, q2, p1, p2]
          simp only [Bool.and_eq_true] at s2 ⊢
          refine ⟨⟨s2, ?_⟩, ?_⟩
          · unfold indepD dynF at d2
            simp only [Bool.or_eq_true, Bool.and_eq_true] at d2
            rcases d2 with ⟨d3, d4⟩ | d3
            · simp only [List.isEmpty_iff] at d3; rw [d3]; rfl
            · exact d3.1
          · unfold indepD dynF at d2
            simp only [Bool.or_eq_true, Bool.and_eq_true] at d2
            rcases d2 with ⟨d3, d4⟩ | d3
            · simp only [List.isEmpty_iff] at d4; rw [d4]; rfl
            · exact d3.2

def rsvC (P : Program) (n : Nat) (kss : List (Nat × List Nat)) : Code → Option RC
  | .skip => some .skip
  | .label _ => some .skip
  | .region id ops draw => match rsvOps P ops.toList ops.toList with
    | some l => if dstOk ops.toList n && lateB [] l && (!draw || statOk ops.toList) then some (.reg id (if draw then some (preRows ops.toList [] ops.toList) else none) ((get kss id).getD []) l) else some .stuck
    | none => some .stuck
  | .seq a b => match rsvC P n kss a, rsvC P n kss b with
    | some x, some y => some (.seq x y)
    | _, _ => none
  | .cond c a b => match rsvC P n kss a, rsvC P n kss b with
    | some x, some y => some (.cond (toRV c) x y)
    | _, _ => none
  | .block id a => match rsvC P n kss a with
    | some x => some (.block id x)
    | none => none
  | .scope a => match rsvC P n kss a with
    | some x => some (.scope x)
    | none => none
  | .loop a => match rsvC P n kss a with
    | some x => some (.loop x)
    | none => none
  | .exit id => some (.exit id)
  | .ret => some .ret
  | _ => some .stuck

def entX : List (Nat × T) → XF
  | [] => []
  | (t, x) :: r => (t, .p x) :: entX r
def keepX (F : XF) : List Nat → List (Nat × T)
  | [] => []
  | t :: r => match get F t with
    | some (.p x) => (t, x) :: keepX F r
    | _ => keepX F r

def seqQ (K : St → Prop) (Q : Ex → St → Prop) : Ex → St → Prop
  | .normal, s => K s
  | .exit i, s => Q (.exit i) s
  | .ret, s => Q .ret s

def rowsOk (rows : Option (List Nat)) (acc : List (List Nat × List Nat)) : Prop :=
  match rows with | none => True | some rows => dynOk rows acc = true

def WPR (P : Program) (e : Env) (kss : List (Nat × List Nat)) (rc : RC) (s : St) (Q : Ex → St → Prop) : Prop := ∀ c, rsvC P e.n kss c = some (erase rc) → WP P e c s Q

/-- what code does, in one formula; loops stay -/
def wpC (P : Program) (e : Env) (kss : List (Nat × List Nat)) : RC → St → (Ex → St → Prop) → Prop
  | .skip, s, Q => Q .normal s
  | .reg id rows ks ops, s, Q => wpR P ((id + 1) * 4096) ops (entX s.fr) s.st [] fun F st acc => rowsOk rows acc ∧ Q .normal ⟨keepX F ks, st⟩
  | .seq a b, s, Q => wpC P e kss a s (seqQ (fun s => wpC P e kss b s Q) Q)
  | .cond c a b, s, Q => match rv s.fr c with
    | .v (.bool t) => (t = true → wpC P e kss a s Q) ∧ (t = false → wpC P e kss b s Q)
    | .ub p q => (p = true → wpC P e kss a s Q) ∧ (q = true → wpC P e kss b s Q)
    | _ => False
  | .scope a, s, Q => wpC P e kss a s Q
  | .block id a, s, Q => wpC P e kss a s (blockQ id Q)
  | .loop a, s, Q => WPR P e kss (.loop a) s Q
  | .exit id, s, Q => Q (.exit id) s
  | .ret, s, Q => Q .ret s
  | .stuck, _, _ => False
  | .cut a, s, Q => ∃ s', Le e s s' ∧ wpC P e kss a s' Q

section
variable {P : Program} {e : Env} {kss : List (Nat × List Nat)}

theorem get_entX (fr : List (Nat × T)) (t : Nat) : get (entX fr) t = (get fr t).map .p := by
  induction fr with
  | nil => rfl
  | cons p r ih => obtain ⟨k, x⟩ := p; simp only [entX, get]; split <;> simp [ih]

theorem get_keepX {F : XF} {fr : List (Nat × T)} (hf : fits fr F) : ∀ (ks : List Nat) (t : Nat) (x : T), get (keepX F ks) t = some x → get fr t = some x
  | [], t, x, h => by simp [keepX, get] at h
  | k :: r, t, x, h => by
    have h0 := hf k
    unfold keepX at h
    split at h
    · rename_i y hy
      rw [hy] at h0
      simp only [get] at h
      split at h
      · rename_i hk; subst hk; injection h with h; subst h; exact h0
      · exact get_keepX hf r t x h
    · exact get_keepX hf r t x h

theorem Rel.drop {s s' : St} {ι : Iota} {a : Act} {w : World} (h : Rel e s ι a w) (hst : s'.st = s.st) (hfr : ∀ t x, get s'.fr t = some x → get s.fr t = some x) : Rel e s' ι a w := by
  obtain ⟨fr', st'⟩ := s'
  simp only at hst hfr
  subst hst
  exact ⟨h.size, h.dfr, fun t x hx => h.fr t x (hfr t x hx), h.ob, h.inj, h.own, h.keep, h.hs, h.sS, h.os, h.tape, h.output, h.gs, h.stab⟩

theorem WPR.mono {rc : RC} {s : St} {Q Q' : Ex → St → Prop} (h : WPR P e kss rc s Q) (hq : ∀ x s, Q x s → Q' x s) : WPR P e kss rc s Q' :=
  fun c hc => (h c hc).mono hq

theorem reg_sound {id : Nat} {rows : Option (List Nat)} {ks : List Nat} {lr : List ROp} {s : St} {Q : Ex → St → Prop} (hm : P.follows .mixedOrders = true)
    (h : wpR P ((id + 1) * 4096) lr (entX s.fr) s.st [] fun F st acc => rowsOk rows acc ∧ Q .normal ⟨keepX F ks, st⟩) : WPR P e kss (.reg id rows ks lr) s Q := by
  intro c hc
  simp only [erase] at hc
  unfold rsvC at hc
  split at hc <;> try (first | (cases hc; done) | (split at hc <;> cases hc))
  rename_i id' ops draw
  split at hc
  · rename_i l hl
    split at hc
    · rename_i hg
      injection hc with hc
      injection hc with e1 e2 e3 e4
      subst e1 e4
      simp only [Bool.and_eq_true] at hg
      obtain ⟨⟨hd, hlate⟩, hdr⟩ := hg
      obtain ⟨rs, s', F', g1, g2, g3, g4, g5, g6⟩ := wpR_tr (e := e) (ops := ops.toList) ops.toList l ((id' + 1) * 4096) s (entX s.fr) [] [] _ hl (fun t => by
        rw [get_entX]
        cases hg : get s.fr t with
        | none => exact hg
        | some x => exact hg) (fun t L c x hg => by
          rw [get_entX] at hg
          cases hq : get s.fr t <;> simp [hq] at hg) hlate h
      have last : ∀ ι a w, Rel e s' ι a w → lift e Q .normal a w := fun ι a w hR' => ⟨ι, _, hR'.drop (s' := ⟨keepX F' ks, s'.st⟩) rfl (get_keepX g4 ks), g6⟩
      cases draw with
      | false =>
        intro ι a w hR
        refine wp_region_lit ?_
        have : wpList P ops (lift e Q) ops.toList a w = wpList P ops.toList.toArray (lift e Q) (rs.map (·.o)) a w := by rw [g2]
        rw [this]
        exact g1.list (dstOk_spec hd) (fun r hr => by rw [← g2]; exact List.mem_map.2 ⟨r, hr, rfl⟩) hR last
      | true =>
        intro ι a w hR
        simp only [if_true] at e2
        subst e2
        simp only [Bool.not_true, Bool.false_or] at hdr
        have hdraw := drawOk_of g2 g3 hdr (by simpa [rowsOk] using g5)
        have hLf : ∀ k, Lf (Array.replicate ops.size false) k = false := by
          intro k
          unfold Lf; simp only [Array.getD_eq_getD_getElem?]; rw [Array.getElem?_replicate]; split <;> simp
        refine wp_region_any hm ?_
        have hR' : Rel e s ι a { w with drawn := w.drawn + 1 } := hR.heap rfl rfl rfl rfl
        have := Tr.any g1 g2 hdraw (dstOk_spec hd) last ops.size (Array.replicate ops.size false) s ι a _ (by simp) ?_ hR' (fun t => ?_) (fun j => ?_) ?_
        · simpa using this
        · intro j hj o ho ed he hb
          simp only [Array.getD_eq_getD_getElem?] at hj
          rw [Array.getElem?_replicate] at hj
          split at hj <;> simp at hj
        · unfold frAt
          rw [lastOf_cut (i := 0) (Nat.zero_le _) (fun k _ hk => by rw [hLf k]; rfl)]
          rfl
        · unfold stAt
          rw [lastOf_cut (i := 0) (Nat.zero_le _) (fun k _ hk => by rw [hLf k]; rfl)]
          rfl
        · unfold unl
          simp only [hLf]
          simp
    · cases hc
  · cases hc

theorem rsvC_erase {n : Nat} (c : Code) : ∀ rc : RC, rsvC P n kss c = some rc → erase rc = rc := by
  induction c using rsvC.induct P n kss
  all_goals
    intro rc h
    unfold rsvC at h
    try simp_all only []
    repeat' split at h
    all_goals first
      | (cases h; done)
      | (injection h with h; subst h; rfl)
      | (injection h with h; subst h; simp_all [erase]; done)
      | trace_state

theorem wpC_sound (hm : P.follows .mixedOrders = true) : ∀ (rc : RC) (s : St) (Q : Ex → St → Prop), wpC P e kss rc s Q → WPR P e kss rc s Q := by
  intro rc
  induction rc with
  | skip =>
    intro s Q h c hc
    simp only [erase] at hc
    unfold rsvC at hc
    split at hc <;> try (first | (cases hc; done) | (split at hc <;> cases hc; done) | (split at hc <;> (try split at hc) <;> cases hc; done))
    · exact WP.skip h
    · exact WP.label h
  | reg id rows ks ops => intro s Q h; exact reg_sound hm h
  | seq a b iha ihb =>
    intro s Q h c hc
    simp only [erase] at hc
    unfold rsvC at hc
    split at hc <;> try (first | (cases hc; done) | (split at hc <;> (try split at hc) <;> cases hc; done))
    rename_i a' b'
    split at hc
    · rename_i x y hx hy
      injection hc with hc; injection hc with h1 h2; subst h1 h2
      refine WP.seq fun K hK => ?_
      refine (iha s _ h a' hx).mono ?_
      intro ex s' hq
      cases ex with
      | normal => exact hK s' (ihb s' Q hq b' hy)
      | exit i => exact hq
      | ret => exact hq
    · cases hc
  | cond c0 a b iha ihb =>
    intro s Q h c hc
    simp only [erase] at hc
    unfold rsvC at hc
    split at hc <;> try (first | (cases hc; done) | (split at hc <;> (try split at hc) <;> cases hc; done))
    rename_i c' a' b'
    split at hc
    · rename_i x y hx hy
      injection hc with hc; injection hc with h0 h1 h2; subst h0 h1 h2
      simp only [wpC] at h
      split at h
      · rename_i t ht
        rw [rv_toRV] at ht
        exact WP.cond ht (fun hb => iha s Q (h.1 hb) a' hx) (fun hb => ihb s Q (h.2 hb) b' hy)
      · rename_i p q ht
        rw [rv_toRV] at ht
        exact WP.condU ht (fun hb => iha s Q (h.1 hb) a' hx) (fun hb => ihb s Q (h.2 hb) b' hy)
      · exact h.elim
    · cases hc
  | scope a iha =>
    intro s Q h c hc
    simp only [erase] at hc
    unfold rsvC at hc
    split at hc <;> try (first | (cases hc; done) | (split at hc <;> (try split at hc) <;> cases hc; done))
    rename_i a'
    split at hc
    · rename_i x hx
      injection hc with hc; injection hc with h1; subst h1
      exact WP.scope (iha s _ h a' hx)
    · cases hc
  | block id a iha =>
    intro s Q h c hc
    simp only [erase] at hc
    unfold rsvC at hc
    split at hc <;> try (first | (cases hc; done) | (split at hc <;> (try split at hc) <;> cases hc; done))
    rename_i id' a'
    split at hc
    · rename_i x hx
      injection hc with hc; injection hc with h0 h1; subst h0 h1
      exact WP.block (iha s _ h a' hx)
    · cases hc
  | loop a iha => intro s Q h; exact h
  | exit id =>
    intro s Q h c hc
    simp only [erase] at hc
    unfold rsvC at hc
    split at hc <;> try (first | (cases hc; done) | (split at hc <;> (try split at hc) <;> cases hc; done))
    injection hc with hc; injection hc with hc; subst hc
    exact WP.exit h
  | ret =>
    intro s Q h c hc
    simp only [erase] at hc
    unfold rsvC at hc
    split at hc <;> try (first | (cases hc; done) | (split at hc <;> (try split at hc) <;> cases hc; done))
    exact WP.ret h
  | stuck => intro s Q h; exact h.elim
  | cut a iha =>
    intro s Q h c hc
    obtain ⟨s', hl, h⟩ := h
    exact WP.le hl (iha s' _ h c hc)

theorem WPR.loop {α : Type} {rc : RC} {s : St} {Q : Ex → St → Prop} (hm : P.follows .mixedOrders = true) (I : α → Prop) (f : α → St) (μ : α → Nat) (x0 : α) (h0 : I x0) (hs : Le e s (f x0))
    (round : ∀ x, I x → wpC P e kss rc (f x) (loopQ e I f μ x Q)) : WPR P e kss (.loop rc) s Q := by
  intro c hc
  simp only [erase] at hc
  unfold rsvC at hc
  split at hc <;> try (first | (cases hc; done) | (split at hc <;> (try split at hc) <;> cases hc; done))
  rename_i a'
  split at hc
  · rename_i x hx
    injection hc with hc; injection hc with hc; subst hc
    exact WP.loop I f μ x0 h0 hs fun x hI => wpC_sound hm _ _ _ (round x hI) a' hx
  · cases hc

end
end Go.TL
