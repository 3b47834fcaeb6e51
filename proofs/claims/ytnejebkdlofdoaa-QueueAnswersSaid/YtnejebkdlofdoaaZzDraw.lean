/- A region that draws its order: the order of the text serves every order, if operations that may come in either order do not touch what the other one looks at. -/
import Derived.Test.YtnejebkdlofdoaaZzReg
namespace Go.TL
set_option linter.unusedSimpArgs false
set_option linter.unusedVariables false

/-- i comes before j in every order -/
def preB (ops : List Oper) : Nat → Nat → Nat → Bool
  | 0, _, _ => false
  | n + 1, i, j => match ops[j]? with
    | some o => o.after.toList.any fun e => Region.binds .any e && (e.on == i || preB ops n i e.on)
    | none => false

/-- the rows of bits: bit i of row j: i comes before j (as far as it was found) -/
def preRows (ops : List Oper) : List Nat → List Oper → List Nat
  | acc, [] => acc
  | acc, o :: r => preRows ops (acc ++ [o.after.toList.foldl (fun s e => if Region.binds .any e then s ||| 2 ^ e.on ||| acc.getD e.on 0 else s) 0]) r

def indep (f g : Foot) : Bool :=
  (match f.dst with | some d => !g.rdT.contains d && !(g.dst == some d) | none => true) &&
  (match g.dst with | some d => !f.rdT.contains d | none => true) &&
  f.wrI.all (fun i => !g.rdI.contains i && !g.wrI.contains i) && g.wrI.all (fun i => !f.rdI.contains i)

/-- the edges lead back, and operations that no edge orders are apart -/
def drawOk (ops : List Oper) (fs : List Foot) : Bool :=
  let rows := preRows ops [] ops
  (ops.zipIdx.all fun (o, j) => o.after.toList.all fun e => !Region.binds .any e || e.on < j) &&
  (fs.zipIdx.all fun (g, j) => fs.zipIdx.all fun (f, i) => !(decide (i < j)) || (rows.getD j 0).testBit i || indep f g)

/-- the meaning of 'comes before' -/
inductive Pre (ops : List Oper) : Nat → Nat → Prop
  | edge {i j : Nat} {o : Oper} {e : Edge} (ho : ops[j]? = some o) (he : e ∈ o.after) (hb : Region.binds .any e = true) (hi : e.on = i) : Pre ops i j
  | step {i j : Nat} {o : Oper} {e : Edge} (ho : ops[j]? = some o) (he : e ∈ o.after) (hb : Region.binds .any e = true) (hp : Pre ops i e.on) : Pre ops i j

theorem foldl_bits {acc : List Nat} : ∀ (l : List Edge) (s i : Nat), (l.foldl (fun s e => if Region.binds .any e then s ||| 2 ^ e.on ||| acc.getD e.on 0 else s) s).testBit i = true →
    s.testBit i = true ∨ ∃ e ∈ l, Region.binds .any e = true ∧ (e.on = i ∨ (acc.getD e.on 0).testBit i = true)
  | [], s, i, h => .inl h
  | e :: l, s, i, h => by
    simp only [List.foldl_cons] at h
    rcases foldl_bits l _ i h with h | ⟨e', he', h1, h2⟩
    · split at h
      · rename_i hb
        simp only [Nat.testBit_or, Bool.or_eq_true] at h
        rcases h with (h | h) | h
        · exact .inl h
        · right
          refine ⟨e, by simp, hb, .inl ?_⟩
          rw [Nat.testBit_two_pow] at h
          simpa using h
        · exact .inr ⟨e, by simp, hb, .inr h⟩
      · exact .inl h
    · exact .inr ⟨e', by simp [he'], h1, h2⟩

theorem preRows_spec (ops : List Oper) : ∀ (r : List Oper) (acc : List Nat), (∀ k, r[k]? = ops[acc.length + k]?) → (∀ j i, (acc.getD j 0).testBit i = true → Pre ops i j) → ∀ j i, ((preRows ops acc r).getD j 0).testBit i = true → Pre ops i j
  | [], acc, _, h, j, i, hb => h j i (by simpa [preRows] using hb)
  | o :: r, acc, hr, h, j, i, hb => by
    simp only [preRows] at hb
    refine preRows_spec ops r _ (fun k => ?_) (fun j i hb => ?_) j i hb
    · have := hr (k + 1)
      simp only [List.getElem?_cons_succ] at this
      rw [this]
      simp only [List.length_append, List.length_cons, List.length_nil]
      congr 1; omega
    · by_cases hj : j < acc.length
      · refine h j i ?_
        simp only [List.getD_eq_getElem?_getD] at hb ⊢
        rwa [List.getElem?_append_left hj] at hb
      · by_cases hj' : j = acc.length
        · subst hj'
          have ho : ops[acc.length]? = some o := by have := hr 0; simpa using this.symm
          simp only [List.getD_eq_getElem?_getD] at hb
          rw [List.getElem?_append_right (by omega)] at hb
          simp only [Nat.sub_self, List.getElem?_cons_zero, Option.getD_some] at hb
          rcases foldl_bits _ _ _ hb with hb | ⟨e', he', h1, h2 | h2⟩
          · simp at hb
          · exact .edge ho (by simpa using he') h1 h2
          · exact .step ho (by simpa using he') h1 (h _ _ h2)
        · exfalso
          simp only [List.getD_eq_getElem?_getD] at hb
          rw [List.getElem?_eq_none (by simp; omega)] at hb
          simp at hb

/-- what has come up is closed -/
def Closed (ops : List Oper) (L : Array Bool) : Prop := ∀ j, L.getD j false = true → ∀ o, ops[j]? = some o → ∀ e ∈ o.after, Region.binds .any e = true → L.getD e.on false = true

theorem Closed.pre {ops : List Oper} {L : Array Bool} (h : Closed ops L) {i j : Nat} (hp : Pre ops i j) : L.getD j false = true → L.getD i false = true := by
  induction hp with
  | edge ho he hb hi => intro hj; subst hi; exact h _ hj _ ho _ he hb
  | step ho he hb _ ih => intro hj; exact ih (h _ hj _ ho _ he hb)

section
variable {P : Program} {e : Env}

/-- the last of the first n events that satisfies p -/
def lastOf (p : Nat → Bool) : Nat → Option Nat
  | 0 => none
  | n + 1 => if p n then some n else lastOf p n

theorem lastOf_congr {p q : Nat → Bool} : ∀ {n : Nat}, (∀ k, k < n → p k = q k) → lastOf p n = lastOf q n
  | 0, _ => rfl
  | n + 1, h => by simp only [lastOf]; rw [h n (by omega), lastOf_congr fun k hk => h k (by omega)]
theorem lastOf_some {p : Nat → Bool} : ∀ {n i : Nat}, i < n → p i = true → (∀ k, i < k → k < n → p k = false) → lastOf p n = some i
  | 0, _, h, _, _ => by omega
  | n + 1, i, hi, hp, h => by
    simp only [lastOf]
    by_cases hin : i = n
    · subst hin; rw [if_pos hp]
    · rw [h n (by omega) (by omega)]
      simp only [Bool.false_eq_true, if_false]
      exact lastOf_some (by omega) hp fun k h1 h2 => h k h1 (by omega)
theorem lastOf_cut {p : Nat → Bool} {i : Nat} : ∀ {n : Nat}, i ≤ n → (∀ k, i ≤ k → k < n → p k = false) → lastOf p n = lastOf p i
  | 0, h, _ => by have : i = 0 := by omega
                  subst this; rfl
  | n + 1, h, hp => by
    by_cases hin : i = n + 1
    · subst hin; rfl
    · simp only [lastOf]
      rw [hp n (by omega) (by omega)]
      simp only [Bool.false_eq_true, if_false]
      exact lastOf_cut (by omega) fun k h1 h2 => hp k h1 (by omega)

def frAt (s0 : St) (rs : List Rec) (L : Nat → Bool) (t : Tmp) : Option T :=
  match lastOf (fun k => L k && ((rs[k]?).bind (·.o.dst) == some t)) rs.length with
  | some k => (rs[k]?).map (·.ev.val)
  | none => get s0.fr t
def stAt (s0 : St) (rs : List Rec) (L : Nat → Bool) (i : Nat) : Option Ob :=
  match lastOf (fun k => L k && ((rs[k]?).bind fun r => get r.ev.wr i).isSome) rs.length with
  | some k => (rs[k]?).bind fun r => get r.ev.wr i
  | none => get s0.st i

/-- the state in the text's order before event i -/
theorem Tr.split {ops : List Oper} : ∀ {rs : List Rec} {s0 s' : St}, Tr P e ops s0 rs s' → ∀ i, i ≤ rs.length → ∃ s, Tr P e ops s (rs.drop i) s' ∧ (∀ t, get s.fr t = frAt s0 rs (fun k => decide (k < i)) t) ∧ (∀ j, get s.st j = stAt s0 rs (fun k => decide (k < i)) j) ∧
    ∀ r, rs[i]? = some r → RecOK P e ops s r := by
  intro rs s0 s' h i
  induction i with
  | zero =>
    intro _
    refine ⟨s0, h, fun t => ?_, fun j => ?_, fun r hr => ?_⟩
    · unfold frAt
      rw [lastOf_cut (i := 0) (Nat.zero_le _) (by simp)]; rfl
    · unfold stAt
      rw [lastOf_cut (i := 0) (Nat.zero_le _) (by simp)]; rfl
    · cases h with
      | nil => simp at hr
      | cons h t => simp at hr; subst hr; exact h
  | succ i ih =>
    intro hi
    obtain ⟨s, h1, h2, h3, h4⟩ := ih (by omega)
    have hlt : i < rs.length := by omega
    rw [List.drop_eq_getElem_cons hlt] at h1
    cases h1 with
    | cons hr ht =>
      refine ⟨s.putR rs[i], ht, fun t => ?_, fun j => ?_, fun r hr' => ?_⟩
      · unfold frAt
        by_cases hd : rs[i].o.dst = some t
        · rw [lastOf_some (i := i) hlt (by simp [hlt, hd]) (fun k h5 h6 => by simp; intro h7; omega)]
          simp [St.putR, hd, get, hlt]
        · have e1 : get (s.putR rs[i]).fr t = get s.fr t := by
            simp only [St.putR]
            split
            · rename_i d hd'
              rw [get_cons_ne]
              intro e'; subst e'; exact hd hd'
            · rfl
          rw [e1, h2 t]
          unfold frAt
          rw [lastOf_congr (q := fun k => decide (k < i + 1) && ((rs[k]?).bind (·.o.dst) == some t))]
          intro k hk
          by_cases hki : k = i
          · subst hki; simp [hk, hd]
          · have : decide (k < i) = decide (k < i + 1) := by simp; omega
            simp only [this]
      · unfold stAt
        have e1 : get (s.putR rs[i]).st j = (get rs[i].ev.wr j).or (get s.st j) := by simp only [St.putR, get_append]
        rw [e1]
        cases hw : get rs[i].ev.wr j with
        | some o =>
          rw [lastOf_some (i := i) hlt (by simp [hlt, hw]) (fun k h5 h6 => by simp; intro h7; omega)]
          simp [hlt, hw]
        | none =>
          simp only [Option.none_or, h3 j]
          unfold stAt
          rw [lastOf_congr (q := fun k => decide (k < i + 1) && ((rs[k]?).bind fun r => get r.ev.wr j).isSome)]
          intro k hk
          by_cases hki : k = i
          · subst hki; simp [hk, hw]
          · have : decide (k < i) = decide (k < i + 1) := by simp; omega
            simp only [this]
      · cases hdr : rs.drop (i + 1) with
        | nil =>
          have : rs[i + 1]? = none := by
            rw [List.getElem?_eq_none]
            have := congrArg List.length hdr
            simp at this; omega
          rw [this] at hr'; cases hr'
        | cons q qs =>
          rw [hdr] at ht
          have : rs[i + 1]? = some q := by
            have := congrArg (fun l => l[0]?) hdr
            simpa using this
          rw [this] at hr'; injection hr' with hr'; subst hr'
          cases ht with
          | cons h t => exact h

def Lf (L : Array Bool) : Nat → Bool := fun k => L.getD k false

theorem frAt_congr {s0 : St} {rs : List Rec} {L L' : Nat → Bool} (h : ∀ k, k < rs.length → L k = L' k) (t : Tmp) : frAt s0 rs L t = frAt s0 rs L' t := by
  unfold frAt
  rw [lastOf_congr fun k hk => by rw [h k hk]]
theorem stAt_congr {s0 : St} {rs : List Rec} {L L' : Nat → Bool} (h : ∀ k, k < rs.length → L k = L' k) (t : Nat) : stAt s0 rs L t = stAt s0 rs L' t := by
  unfold stAt
  rw [lastOf_congr fun k hk => by rw [h k hk]]

theorem min_unlisted {ops : List Oper} {fs : List Foot} (hB : drawOk ops fs = true) {L : Array Bool} (hsz : L.size = ops.length) (h : Region.ready .any ops.toArray L = []) : ∀ k, k < ops.length → Lf L k = true := by
  intro k
  induction k using Nat.strongRecOn with
  | _ k ih =>
    intro hk
    apply Classical.byContradiction
    intro hn
    have hf : Lf L k = false := by simpa using hn
    have : k ∈ Region.ready .any ops.toArray L := by
      rw [mem_ready]
      refine ⟨?_, ops[k], by simp [hk], fun ed he hb => ?_⟩
      · unfold Lf at hf
        simp only [Array.getD_eq_getD_getElem?] at hf ⊢
        rw [Array.getElem?_eq_getElem (by omega)] at hf ⊢
        simpa using hf
      · have h1 : ed.on < k := by
          unfold drawOk at hB
          simp only [Bool.and_eq_true, List.all_eq_true] at hB
          have := hB.1 (ops[k], k) (by rw [List.mem_zipIdx_iff_getElem?]; simp [hk])
          simp only [List.all_eq_true] at this
          have := this ed (by simpa using he)
          simpa [hb] using this
        exact ih ed.on h1 (by omega)
    rw [h] at this; cases this

theorem indep_spec {f g : Foot} (h : indep f g = true) :
    (∀ d, f.dst = some d → d ∉ g.rdT ∧ g.dst ≠ some d) ∧ (∀ d, g.dst = some d → d ∉ f.rdT) ∧ (∀ i ∈ f.wrI, i ∉ g.rdI ∧ i ∉ g.wrI) ∧ ∀ i ∈ g.wrI, i ∉ f.rdI := by
  unfold indep at h
  simp only [Bool.and_eq_true, List.all_eq_true] at h
  obtain ⟨⟨⟨h1, h2⟩, h3⟩, h4⟩ := h
  refine ⟨fun d hd => ?_, fun d hd => ?_, fun i hi => ?_, fun i hi => ?_⟩
  · rw [hd] at h1; simpa using h1
  · rw [hd] at h2; simpa using h2
  · have := h3 i hi; simpa using this
  · have := h4 i hi; simpa using this

/-- two events: ordered, or apart -/
theorem draw_pair {ops : List Oper} {fs : List Foot} (hB : drawOk ops fs = true) {i j : Nat} (hij : i < j) {f g : Foot} (hf : fs[i]? = some f) (hg : fs[j]? = some g) : Pre ops i j ∨ indep f g = true := by
  unfold drawOk at hB
  simp only [Bool.and_eq_true, List.all_eq_true] at hB
  have h1 := hB.2 (g, j) (by rw [List.mem_zipIdx_iff_getElem?]; exact hg)
  simp only [List.all_eq_true] at h1
  have h2 := h1 (f, i) (by rw [List.mem_zipIdx_iff_getElem?]; exact hf)
  simp only [Bool.or_eq_true, Bool.not_eq_true', decide_eq_false_iff_not] at h2
  rcases h2 with (h2 | h2) | h2
  · exact absurd hij h2
  · exact .inl (preRows_spec ops ops [] (fun k => by simp) (fun j i h => by simp at h) j i h2)
  · exact .inr h2

def unl (L : Array Bool) (n : Nat) : Nat := (List.range n).countP fun k => !Lf L k

theorem unl_set {L : Array Bool} {n i : Nat} (hi : i < n) (hsz : L.size = n) (hf : Lf L i = false) : unl L n = unl (L.setIfInBounds i true) n + 1 := by
  unfold unl
  have hL : ∀ k, Lf (L.setIfInBounds i true) k = if k = i then true else Lf L k := by
    intro k
    unfold Lf
    simp only [Array.getD_eq_getD_getElem?]
    by_cases h : k = i
    · subst h; rw [Array.getElem?_setIfInBounds_self_of_lt (by omega)]; simp
    · rw [Array.getElem?_setIfInBounds_ne (Ne.symm h), if_neg h]
  simp only [hL]
  clear hL
  have key : ∀ n, i < n → (List.range n).countP (fun k => !Lf L k) = (List.range n).countP (fun k => !(if k = i then true else Lf L k)) + 1 := by
    intro n
    induction n with
    | zero => intro h; omega
    | succ n ih =>
      intro hi
      rw [List.range_succ, List.countP_append, List.countP_append]
      by_cases h : i = n
      · subst h
        have : (List.range i).countP (fun k => !Lf L k) = (List.range i).countP (fun k => !(if k = i then true else Lf L k)) := by
          refine List.countP_congr fun k hk => ?_
          have : k ≠ i := by have := List.mem_range.1 hk; omega
          simp [this]
        rw [this]
        simp [hf]
      · rw [ih (by omega)]
        have : n ≠ i := fun e => h e.symm
        simp [this]; omega
  exact key n hi

theorem Tr.any {ops : List Oper} {Q : Exit → Act → World → Prop} {rs : List Rec} {s0 s' : St} (htr : Tr P e ops s0 rs s') (hops : rs.map (·.o) = ops) (hB : drawOk ops (rs.map (·.foot)) = true) (hall : ∀ o ∈ ops, ∀ d, o.dst = some d → d < e.n)
    (hQ : ∀ ι a w, Rel e s' ι a w → Q .normal a w) :
    ∀ (fuel : Nat) (L : Array Bool) (s : St) (ι : Iota) (a : Act) (w : World), L.size = ops.length → Closed ops L → Rel e s ι a w → (∀ t, get s.fr t = frAt s0 rs (Lf L) t) → (∀ j, get s.st j = stAt s0 rs (Lf L) j) → unl L ops.length = fuel →
      wpAny P .any ops.toArray Q fuel L a w := by
  have hlen : rs.length = ops.length := by rw [← hops]; simp
  have done : ∀ (L : Array Bool) (s : St) (ι : Iota) (a : Act) (w : World), (∀ k, k < ops.length → Lf L k = true) → Rel e s ι a w → (∀ t, get s.fr t = frAt s0 rs (Lf L) t) → (∀ j, get s.st j = stAt s0 rs (Lf L) j) → Q .normal a w := by
    intro L s ι a w hL hR hfr hst
    obtain ⟨sn, h1, h2, h3, _⟩ := htr.split rs.length (Nat.le_refl _)
    rw [List.drop_length] at h1
    cases h1 with
    | nil h1 =>
      refine hQ ι a w (hR.eqv (St.eqv_trans ⟨fun t => ?_, fun j => ?_⟩ h1))
      · rw [hfr, h2]; exact frAt_congr (fun k hk => by rw [hL k (by omega)]; simp [hk]) t
      · rw [hst, h3]; exact stAt_congr (fun k hk => by rw [hL k (by omega)]; simp [hk]) j
  intro fuel
  induction fuel with
  | zero =>
    intro L s ι a w hsz hcl hR hfr hst hu
    have hL : ∀ k, k < ops.length → Lf L k = true := by
      intro k hk
      unfold unl at hu
      rw [List.countP_eq_zero] at hu
      have := hu k (List.mem_range.2 hk)
      simpa using this
    refine ⟨?_, done L s ι a w hL hR hfr hst⟩
    apply List.eq_nil_iff_forall_not_mem.2
    intro k hk
    rw [mem_ready] at hk
    obtain ⟨h0, o, ho, _⟩ := hk
    have hkl : k < ops.length := by
      have := (Array.getElem?_eq_some_iff.1 ho).1
      simpa using this
    have := hL k hkl
    unfold Lf at this
    simp only [Array.getD_eq_getD_getElem?] at h0 this
    rw [Array.getElem?_eq_getElem (by omega)] at h0 this
    simp at h0 this
    rw [h0] at this; cases this
  | succ fuel ih =>
    intro L s ι a w hsz hcl hR hfr hst hu
    refine ⟨fun hr => done L s ι a w (min_unlisted hB hsz hr) hR hfr hst, fun i hi => ?_⟩
    rw [mem_ready] at hi
    obtain ⟨h0, o, ho, hpred⟩ := hi
    have hil : i < ops.length := by
      have := (Array.getElem?_eq_some_iff.1 ho).1
      simpa using this
    have hir : i < rs.length := by omega
    have hfi : Lf L i = false := by
      unfold Lf
      simp only [Array.getD_eq_getD_getElem?] at h0 ⊢
      rw [Array.getElem?_eq_getElem (by omega)] at h0 ⊢
      simpa using h0
    have hro : rs[i].o = o := by
      have : (rs.map (·.o))[i]? = some o := by rw [hops]; simpa using ho
      simpa [hir] using this
    obtain ⟨si, _, g2, g3, g4⟩ := htr.split i (by omega)
    have hok := g4 rs[i] (by simp [hir])
    -- who comes before is listed
    have hbefore : ∀ k, Pre ops k i → Lf L k = true := by
      intro k hp
      cases hp with
      | edge ho' he hb hk =>
        have : some _ = some _ := ho'.symm.trans (by simpa using ho)
        injection this with this; subst this; subst hk
        exact hpred _ he hb
      | step ho' he hb hp =>
        have : some _ = some _ := ho'.symm.trans (by simpa using ho)
        injection this with this; subst this
        exact hcl.pre hp (hpred _ he hb)
    have hafter : ∀ k, Lf L k = true → ¬ Pre ops i k := by
      intro k hk hp
      have := hcl.pre hp hk
      rw [show L.getD i false = Lf L i from rfl, hfi] at this; cases this
    have hfoot : ∀ k (hk : k < rs.length), (rs.map (·.foot))[k]? = some rs[k].foot := fun k hk => by simp [hk]
    -- the listed ones that touch what i looks at are the earlier ones
    have agreeT : ∀ t ∈ rs[i].foot.rdT, ∀ k, k < rs.length → (Lf L k && ((rs[k]?).bind (·.o.dst) == some t)) = (decide (k < i) && ((rs[k]?).bind (·.o.dst) == some t)) := by
      intro t ht k hk
      by_cases hd : rs[k].o.dst = some t
      · have hfd : rs[k].foot.dst = some t := by
          obtain ⟨sk, _, _, _, q4⟩ := htr.split k (by omega)
          rw [(q4 rs[k] (by simp [hk])).dst, hd]
        have : Lf L k = decide (k < i) := by
          rcases Nat.lt_trichotomy k i with hki | hki | hki
          · rw [decide_eq_true hki]
            rcases draw_pair hB hki (hfoot k hk) (hfoot i hir) with hp | hp
            · exact hbefore k hp
            · exact absurd ht ((indep_spec hp).1 t hfd).1
          · subst hki; rw [hfi]; simp
          · rw [decide_eq_false (by omega)]
            rcases draw_pair hB hki (hfoot i hir) (hfoot k hk) with hp | hp
            · cases hq : Lf L k with
              | false => rfl
              | true => exact absurd hp (hafter k hq)
            · exact absurd ht ((indep_spec hp).2.1 t hfd)
        rw [this]
      · have : (rs[k].o.dst == some t) = false := by simpa using hd
        simp [hk, this]
    have agreeI : ∀ j ∈ rs[i].foot.rdI, ∀ k, k < rs.length → (Lf L k && ((rs[k]?).bind fun r => get r.ev.wr j).isSome) = (decide (k < i) && ((rs[k]?).bind fun r => get r.ev.wr j).isSome) := by
      intro j hj k hk
      by_cases hd : (get rs[k].ev.wr j).isSome
      · have hfd : j ∈ rs[k].foot.wrI := by
          obtain ⟨sk, _, _, _, q4⟩ := htr.split k (by omega)
          have hmem : ∀ (l : List (Nat × Ob)), (get l j).isSome → ∃ p ∈ l, p.1 = j := by
            intro l
            induction l with
            | nil => simp [get]
            | cons p l ih =>
              intro h
              obtain ⟨q, x⟩ := p
              by_cases hq : q = j
              · exact ⟨(q, x), by simp, hq⟩
              · rw [get_cons_ne _ _ hq] at h
                obtain ⟨p, hp, h2⟩ := ih h
                exact ⟨p, by simp [hp], h2⟩
          obtain ⟨p, hp, rfl⟩ := hmem _ hd
          exact (q4 rs[k] (by simp [hk])).wrI p hp
        have : Lf L k = decide (k < i) := by
          rcases Nat.lt_trichotomy k i with hki | hki | hki
          · rw [decide_eq_true hki]
            rcases draw_pair hB hki (hfoot k hk) (hfoot i hir) with hp | hp
            · exact hbefore k hp
            · exact absurd hj ((indep_spec hp).2.2.1 j hfd).1
          · subst hki; rw [hfi]; simp
          · rw [decide_eq_false (by omega)]
            rcases draw_pair hB hki (hfoot i hir) (hfoot k hk) with hp | hp
            · cases hq : Lf L k with
              | false => rfl
              | true => exact absurd hp (hafter k hq)
            · exact absurd hj ((indep_spec hp).2.2.2 j hfd)
        rw [this]
      · simp [hk, hd]
    have hoks : RecOK P e ops s rs[i] := by
      refine hok.alike (fun t ht => ?_) (fun j hj => ?_)
      · rw [g2, hfr]
        unfold frAt
        rw [lastOf_congr fun k hk => (agreeT t ht k hk).symm]
      · rw [g3, hst]
        unfold stAt
        rw [lastOf_congr fun k hk => (agreeI j hj k hk).symm]
    have hwp := hoks.step (Q := Q) hR (gdst_lt hall) (fun d hd => hall o (List.mem_of_getElem? (by simpa using ho)) d (by rw [← hro]; exact hd))
      (K := wpAny P .any ops.toArray Q fuel (L.setIfInBounds i true)) (fun ι' a' w' hR' => by
        have hLs : ∀ k, Lf (L.setIfInBounds i true) k = if k = i then true else Lf L k := by
          intro k
          unfold Lf
          simp only [Array.getD_eq_getD_getElem?]
          by_cases h : k = i
          · subst h; rw [Array.getElem?_setIfInBounds_self_of_lt (by omega)]; simp
          · rw [Array.getElem?_setIfInBounds_ne (Ne.symm h), if_neg h]
        refine ih _ (s.putR rs[i]) ι' a' w' (by simpa using hsz) ?_ hR' (fun t => ?_) (fun j => ?_) ?_
        · intro j hj o' ho' ed he hb
          rw [show (L.setIfInBounds i true).getD ed.on false = Lf (L.setIfInBounds i true) ed.on from rfl, hLs]
          rw [show (L.setIfInBounds i true).getD j false = Lf (L.setIfInBounds i true) j from rfl, hLs] at hj
          split
          · rfl
          · by_cases hji : j = i
            · subst hji
              have : o' = o := by
                have : some _ = some _ := ho'.symm.trans (by simpa using ho)
                injection this
              subst this
              exact hpred ed he hb
            · rw [if_neg hji] at hj
              exact hcl j hj o' ho' ed he hb
        · by_cases hd : rs[i].o.dst = some t
          · unfold frAt
            rw [lastOf_some (i := i) hir (by simp [hLs, hir, hd]) (fun k h5 h6 => by
              rw [hLs, if_neg (by omega)]
              by_cases hdk : rs[k].o.dst = some t
              · have hfd : ∀ q (hq : q < rs.length), rs[q].o.dst = some t → rs[q].foot.dst = some t := fun q hq hdq => by
                  obtain ⟨sk, _, _, _, q4⟩ := htr.split q (by omega)
                  rw [(q4 rs[q] (by simp [hq])).dst, hdq]
                rcases draw_pair hB h5 (hfoot i hir) (hfoot k h6) with hp | hp
                · cases hq : Lf L k with
                  | false => rfl
                  | true => exact absurd hp (hafter k hq)
                · exact absurd (hfd k h6 hdk) ((indep_spec hp).1 t (hfd i hir hd)).2
              · simp [h6, hdk])]
            simp [St.putR, hd, get, hir]
          · have e1 : get (s.putR rs[i]).fr t = get s.fr t := by
              simp only [St.putR]
              split
              · rename_i d hd'
                rw [get_cons_ne]
                intro e'; subst e'; exact hd hd'
              · rfl
            rw [e1, hfr]
            unfold frAt
            rw [lastOf_congr (q := fun k => Lf (L.setIfInBounds i true) k && ((rs[k]?).bind (·.o.dst) == some t))]
            intro k hk
            rw [hLs]
            by_cases hki : k = i
            · subst hki; simp [hk, hd]
            · rw [if_neg hki]
        · have e1 : get (s.putR rs[i]).st j = (get rs[i].ev.wr j).or (get s.st j) := by simp only [St.putR, get_append]
          rw [e1]
          cases hw : get rs[i].ev.wr j with
          | some ob =>
            unfold stAt
            rw [lastOf_some (i := i) hir (by simp [hLs, hir, hw]) (fun k h5 h6 => by
              rw [hLs, if_neg (by omega)]
              by_cases hdk : (get rs[k].ev.wr j).isSome
              · have hfd : ∀ q (hq : q < rs.length), (get rs[q].ev.wr j).isSome → j ∈ rs[q].foot.wrI := fun q hq hdq => by
                  obtain ⟨sk, _, _, _, q4⟩ := htr.split q (by omega)
                  have hmem : ∀ (l : List (Nat × Ob)), (get l j).isSome → ∃ p ∈ l, p.1 = j := by
                    intro l
                    induction l with
                    | nil => simp [get]
                    | cons p l ih =>
                      intro h
                      obtain ⟨q, x⟩ := p
                      by_cases hq : q = j
                      · exact ⟨(q, x), by simp, hq⟩
                      · rw [get_cons_ne _ _ hq] at h
                        obtain ⟨p, hp, h2⟩ := ih h
                        exact ⟨p, by simp [hp], h2⟩
                  obtain ⟨p, hp, rfl⟩ := hmem _ hdq
                  exact (q4 rs[q] (by simp [hq])).wrI p hp
                rcases draw_pair hB h5 (hfoot i hir) (hfoot k h6) with hp | hp
                · cases hq : Lf L k with
                  | false => rfl
                  | true => exact absurd hp (hafter k hq)
                · exact absurd (hfd k h6 hdk) ((indep_spec hp).2.2.1 j (hfd i hir (by rw [hw]; rfl))).2
              · simp [h6, hdk])]
            simp [hir, hw]
          | none =>
            simp only [Option.none_or, hst]
            unfold stAt
            rw [lastOf_congr (q := fun k => Lf (L.setIfInBounds i true) k && ((rs[k]?).bind fun r => get r.ev.wr j).isSome)]
            intro k hk
            rw [hLs]
            by_cases hki : k = i
            · subst hki; simp [hk, hw]
            · rw [if_neg hki]
        · have := unl_set hil hsz hfi
          omega)
    unfold wpOp
    rw [ho]
    rw [hro] at hwp
    simp only
    split
    · rename_i hw; rw [if_pos hw] at hwp; exact .inl hwp
    · rename_i hw; rw [if_neg hw] at hwp; exact hwp

end
end Go.TL
