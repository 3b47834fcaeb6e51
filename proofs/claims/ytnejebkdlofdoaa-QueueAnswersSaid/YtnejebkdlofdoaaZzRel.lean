/- How the relation between trees and the model's state goes on: a new block, a store, an array that grows, a freeze. -/
import Derived.Test.YtnejebkdlofdoaaZzT
namespace Go.TL
set_option linter.unusedSimpArgs false
set_option linter.unusedVariables false

abbrev St.av (e : Env) (s : St) (ι : Iota) (w : World) : Addr → Prop := Av e s.st ι w

theorem cell_of_heap {w w' : World} {x : Addr} (h : w'.heap[x.block]? = w.heap[x.block]?) (u : Value) (hu : w.cell? x = some u) : w'.cell? x = some u := by
  rw [World.cell?_of_block h]; exact hu

theorem Rel.goG {e : Env} {s : St} {ι : Iota} {a : Act} {w : World} (h : Rel e s ι a w) {st' : Sto} {ι' : Iota} {w' : World}
    (hg : Goes s.st ι st' ι')
    (hcell : ∀ x, Av e s.st ι w x → ∀ u, w.cell? x = some u → w'.cell? x = some u)
    (hAv : ∀ x, Av e s.st ι w x → Av e st' ι' w' x)
    (hob : ∀ id o, get st' id = some o → (get s.st id = some o ∧ ι' id = ι id ∧ ∀ b c, ι id = some (b, c) → ((∃ k xs fz, o = .arr k xs fz) ∨ ∃ es, o = .mp es) → w'.heap[b]? = w.heap[b]?) ∨
      ((∀ v t, Rp s.st ι w (Av e s.st ι w) v t → Rp st' ι' w' (Av e st' ι' w') v t) → ORep st' ι' w' (Av e st' ι' w') id o))
    (hinj : ∀ id id' k xs fz k' xs' fz' b c c', get st' id = some (.arr k xs fz) → get st' id' = some (.arr k' xs' fz') → ι' id = some (b, c) → ι' id' = some (b, c') → id = id')
    (hown : ∀ id k xs fz b c, get st' id = some (.arr k xs fz) → ι' id = some (b, c) → e.hnd b ∨ e.base ≤ b)
    (hkeep : ∀ b, b < e.base → ¬ e.hnd b → w'.heap[b]? = w.heap[b]?)
    (hs : w.heap.size ≤ w'.heap.size) (hos : w'.os = w.os) (htape : w'.tape = w.tape) (hout : w'.output = w.output) (hmp : MpOK e.base st' ι') :
    Rel e { s with st := st' } ι' a w' ∧ (∀ v t, Rp s.st ι w (Av e s.st ι w) v t → Rp st' ι' w' (Av e st' ι' w') v t) := by
  have hm : ∀ v t, Rp s.st ι w (Av e s.st ι w) v t → Rp st' ι' w' (Av e st' ι' w') v t :=
    fun v t hr => hr.mono (fun x hx => ⟨hAv x hx, hcell x hx⟩) hg
  refine ⟨⟨h.size, h.dfr, fun t x hx => hm _ _ (h.fr t x hx), ?_, hinj, hown, fun b hb hn => (hkeep b hb hn).trans (h.keep b hb hn), Nat.le_trans h.hs hs, h.sS, hos.trans h.os, htape.trans h.tape, hout.trans h.output, h.gs.trans hg, fun x hx => ⟨hAv x (h.stab x hx).1, fun u hu => hcell x (h.stab x hx).1 u ((h.stab x hx).2 u hu)⟩, hmp⟩, hm⟩
  intro id o ho
  rcases hob id o ho with ⟨h1, h2, h3⟩ | h1
  · have h0 := h.ob id o h1
    cases o with
    | dead => trivial
    | mp es =>
      obtain ⟨b, clock, ents, h4, h5, h6⟩ := h0
      exact ⟨b, clock, ents, h2.trans h4, (h3 b 0 h4 (.inr ⟨es, rfl⟩)).trans h5, h6⟩
    | full i n g =>
      refine ⟨hg.dom i h0.1, fun k' xs' fz' e' => ?_⟩
      obtain ⟨k, xs, fz, e0, _, hle, hi⟩ := hg.arr i k' xs' fz' e' h0.1
      obtain ⟨h4, h5⟩ := h0.2 k xs fz e0
      exact ⟨Nat.le_trans h4 hle, fun hn b c hb => h5 (by omega) b c (by rw [← hi (by omega)]; exact hb)⟩
    | arr k xs fz =>
      refine ⟨h0.1, ?_⟩
      rcases h0.2 with ⟨h4, h5⟩ | ⟨b, cap, cur, E, h4, h5, h6, h7, h8, h9⟩
      · exact .inl ⟨h2.trans h4, h5⟩
      · exact .inr ⟨b, cap, cur, E, h2.trans h4, (h3 b cap h4 (.inl ⟨k, xs, fz, rfl⟩)).trans h5, h6, h7, h8, fun j u c hu hc => ⟨(h9 j u c hu hc).1, hm _ _ (h9 j u c hu hc).2⟩⟩
  · exact h1 hm

/-- the block of a map -/
theorem Rel.mblk {e : Env} {s : St} {ι : Iota} {a : Act} {w : World} (h : Rel e s ι a w) {id : Nat} {es : Es} {b c : Nat} (hg : get s.st id = some (.mp es)) (hi : ι id = some (b, c)) :
    ∃ clock ents, w.heap[b]? = some (.map ents clock) := by
  obtain ⟨b', clock, ents, h4, h5, _⟩ := h.ob id _ hg
  rw [h4] at hi; injection hi with hi; injection hi with hb _; subst hb
  exact ⟨clock, ents, h5⟩
theorem Rel.mlt {e : Env} {s : St} {ι : Iota} {a : Act} {w : World} (h : Rel e s ι a w) {id : Nat} {es : Es} {b c : Nat} (hg : get s.st id = some (.mp es)) (hi : ι id = some (b, c)) : b < w.heap.size := by
  obtain ⟨_, _, h5⟩ := h.mblk hg hi
  exact (Array.getElem?_eq_some_iff.1 h5).1
theorem Rel.mne {e : Env} {s : St} {ι : Iota} {a : Act} {w : World} (h : Rel e s ι a w) {id : Nat} {es : Es} {b c : Nat} (hg : get s.st id = some (.mp es)) (hi : ι id = some (b, c))
    {id' k : Nat} {xs : List T} {fz : Bool} {b' c' : Nat} (hg' : get s.st id' = some (.arr k xs fz)) (hi' : ι id' = some (b', c')) : b ≠ b' := by
  rintro rfl
  obtain ⟨clock, ents, h5⟩ := h.mblk hg hi
  rcases (h.ob id' _ hg').2 with ⟨h1, _⟩ | ⟨b2, cap, cur, E, h1, h2, _⟩
  · rw [h1] at hi'; cases hi'
  · rw [h1] at hi'; injection hi' with hi'; injection hi' with hb _; subst hb
    rw [h5] at h2; cases h2
theorem MpOK.same {base : Nat} {st st' : Sto} {ι ι' : Iota} (h : MpOK base st ι) (hm : ∀ id es, get st' id = some (.mp es) → get st id = some (.mp es) ∧ ι' id = ι id) : MpOK base st' ι' :=
  ⟨fun id es b c hg hi => by obtain ⟨h1, h2⟩ := hm id es hg; exact h.own id es b c h1 (h2 ▸ hi),
   fun id id' es es' b c c' hg hg' hi hi' => by
    obtain ⟨h1, h2⟩ := hm id es hg
    obtain ⟨h3, h4⟩ := hm id' es' hg'
    exact h.inj id id' es es' b c c' h1 h3 (h2 ▸ hi) (h4 ▸ hi')⟩

/-- the maps stay as they are -/
theorem Rel.go {e : Env} {s : St} {ι : Iota} {a : Act} {w : World} (h : Rel e s ι a w) {st' : Sto} {ι' : Iota} {w' : World}
    (hg : Goes s.st ι st' ι')
    (hcell : ∀ x, Av e s.st ι w x → ∀ u, w.cell? x = some u → w'.cell? x = some u)
    (hAv : ∀ x, Av e s.st ι w x → Av e st' ι' w' x)
    (hob : ∀ id o, get st' id = some o → (get s.st id = some o ∧ ι' id = ι id ∧ ∀ b c, ι id = some (b, c) → (∃ k xs fz, o = .arr k xs fz) → w'.heap[b]? = w.heap[b]?) ∨
      ((∀ v t, Rp s.st ι w (Av e s.st ι w) v t → Rp st' ι' w' (Av e st' ι' w') v t) → ORep st' ι' w' (Av e st' ι' w') id o))
    (hinj : ∀ id id' k xs fz k' xs' fz' b c c', get st' id = some (.arr k xs fz) → get st' id' = some (.arr k' xs' fz') → ι' id = some (b, c) → ι' id' = some (b, c') → id = id')
    (hown : ∀ id k xs fz b c, get st' id = some (.arr k xs fz) → ι' id = some (b, c) → e.hnd b ∨ e.base ≤ b)
    (hkeep : ∀ b, b < e.base → ¬ e.hnd b → w'.heap[b]? = w.heap[b]?)
    (hs : w.heap.size ≤ w'.heap.size) (hos : w'.os = w.os) (htape : w'.tape = w.tape) (hout : w'.output = w.output)
    (hmp : ∀ id es, get st' id = some (.mp es) → get s.st id = some (.mp es) ∧ ι' id = ι id ∧ ∀ b c, ι id = some (b, c) → w'.heap[b]? = w.heap[b]?) :
    Rel e { s with st := st' } ι' a w' ∧ (∀ v t, Rp s.st ι w (Av e s.st ι w) v t → Rp st' ι' w' (Av e st' ι' w') v t) := by
  refine h.goG hg hcell hAv (fun id o ho => ?_) hinj hown hkeep hs hos htape hout (h.mp.same fun id es hg => ⟨(hmp id es hg).1, (hmp id es hg).2.1⟩)
  cases o with
  | mp es =>
    obtain ⟨h1, h2, h3⟩ := hmp id es ho
    exact .inl ⟨h1, h2, fun b c hi _ => h3 b c hi⟩
  | _ =>
    rcases hob id _ ho with ⟨h1, h2, h3⟩ | h1
    · refine .inl ⟨h1, h2, fun b c hi hx => h3 b c hi ?_⟩
      rcases hx with hx | ⟨es, hx⟩
      · exact hx
      · cases hx
    · exact .inr h1

theorem get_cons {α : Type} (i j : Nat) (x : α) (r : List (Nat × α)) : get ((j, x) :: r) i = if j = i then some x else get r i := rfl
theorem get_cons_self {α : Type} (i : Nat) (x : α) (r : List (Nat × α)) : get ((i, x) :: r) i = some x := by simp [get]
theorem get_cons_ne {α : Type} {i j : Nat} (x : α) (r : List (Nat × α)) (h : j ≠ i) : get ((j, x) :: r) i = get r i := by simp [get, h]

/-- a temporary is set -/
theorem Rel.put {e : Env} {s : St} {ι : Iota} {a : Act} {w : World} (h : Rel e s ι a w) {d : Nat} {v : Value} {t : T}
    (hd : d < e.n) (hv : Rp s.st ι w (Av e s.st ι w) v t) : Rel e { s with fr := (d, t) :: s.fr } ι (a.put (some d) v) w := by
  refine ⟨by simpa [Act.put] using h.size, by simpa [Act.put] using h.dfr, ?_, h.ob, h.inj, h.own, h.keep, h.hs, h.sS, h.os, h.tape, h.output, h.gs, h.stab, h.mp⟩
  intro i x hx
  by_cases hi : d = i
  · subst hi
    rw [get_cons_self] at hx
    injection hx with hx
    subst hx
    have : (a.put (some d) v).tmps.getD d undef = v := by
      simp only [Act.put, Array.getD_eq_getD_getElem?, Array.getElem?_setIfInBounds_self_of_lt (h.size ▸ hd), Option.getD_some]
    rw [this]; exact hv
  · rw [get_cons_ne _ _ hi] at hx
    have : (a.put (some d) v).tmps.getD i undef = a.tmps.getD i undef := by
      simp [Act.put, Array.getD_eq_getD_getElem?, Array.getElem?_setIfInBounds_ne hi]
    rw [this]; exact h.fr i x hx

theorem Rel.putO {e : Env} {s : St} {ι : Iota} {a : Act} {w : World} (h : Rel e s ι a w) {v : Value} : Rel e s ι (a.put none v) w := h

/-- a draw, or anything that leaves the heap alone -/
theorem Rel.heap {e : Env} {s : St} {ι : Iota} {a : Act} {w w' : World} (h : Rel e s ι a w) (hh : w'.heap = w.heap) (hos : w'.os = w.os) (ht : w'.tape = w.tape) (ho : w'.output = w.output) :
    Rel e s ι a w' := by
  have hc : ∀ x, w'.cell? x = w.cell? x := fun x => by simp [World.cell?, hh]
  have hA : ∀ x, Av e s.st ι w x → Av e s.st ι w' x := fun x hx => by
    unfold Av at *; rw [hh]; exact hx
  exact (h.go (st' := s.st) (ι' := ι) (w' := w') (Goes.refl _ _) (fun x _ u hu => (hc x).trans hu) hA
    (fun id o ho => .inl ⟨ho, rfl, fun b c _ _ => by rw [hh]⟩) h.inj h.own (fun b _ _ => by rw [hh]) (by rw [hh]; exact Nat.le_refl _) hos ht ho (fun id es hg => ⟨hg, rfl, fun b c _ => by rw [hh]⟩)).1

theorem alloc_heap_lt (w : World) (o : Obj) {b : Nat} (h : b < w.heap.size) : (w.alloc o).heap[b]? = w.heap[b]? := RowKit.Below.heap_alloc w o b h

theorem lt_of_heap {w : World} {b : Nat} {o : Obj} (h : w.heap[b]? = some o) : b < w.heap.size := (Array.getElem?_eq_some_iff.1 h).1

theorem Rel.blk {e : Env} {s : St} {ι : Iota} {a : Act} {w : World} (h : Rel e s ι a w) {id k : Nat} {xs : List T} {fz : Bool} {b c : Nat}
    (hg : get s.st id = some (.arr k xs fz)) (hi : ι id = some (b, c)) : b < w.heap.size := by
  rcases (h.ob id _ hg).2 with ⟨h1, _⟩ | ⟨b', cap, cur, E, h1, h2, _⟩
  · rw [h1] at hi; cases hi
  · rw [h1] at hi; injection hi with hi; injection hi with hb _; subst hb; exact lt_of_heap h2

theorem Av.lt {e : Env} {s : St} {ι : Iota} {a : Act} {w : World} (h : Rel e s ι a w) {x : Addr} (hx : Av e s.st ι w x) : x.block < w.heap.size := by
  rcases hx with hx | hx
  · exact Nat.lt_of_lt_of_le (h.sS x hx).1 h.hs
  · exact hx.2.1

/-- a new block that nobody owns -/
theorem Rel.alloc {e : Env} {s : St} {ι : Iota} {a : Act} {w : World} (h : Rel e s ι a w) (o : Obj) :
    Rel e s ι a (w.alloc o) ∧ (∀ v t, Rp s.st ι w (Av e s.st ι w) v t → Rp s.st ι (w.alloc o) (Av e s.st ι (w.alloc o)) v t) := by
  have hk : ∀ b, b < w.heap.size → (w.alloc o).heap[b]? = w.heap[b]? := fun b hb => RowKit.Below.heap_alloc w o b hb
  have hsz : w.heap.size ≤ (w.alloc o).heap.size := by simp
  refine h.go (Goes.refl _ _) ?_ ?_ ?_ h.inj h.own ?_ hsz rfl rfl rfl (fun id es hg => ⟨hg, rfl, fun b c hi => hk b (h.mlt hg hi)⟩)
  · intro x hx u hu
    exact cell_of_heap (hk _ (Av.lt h hx)) u hu
  · rintro x (hx | ⟨h1, h2, h3⟩)
    · exact .inl hx
    · exact .inr ⟨h1, Nat.lt_of_lt_of_le h2 hsz, h3⟩
  · intro id o' ho
    exact .inl ⟨ho, rfl, fun b c hi ⟨k, xs, fz, e⟩ => hk b (h.blk (e ▸ ho) hi)⟩
  · intro b hb _
    exact hk b (Nat.lt_of_lt_of_le hb h.hs)

/-- the cells of a new block that nobody owns are stable -/
theorem Rel.av_alloc {e : Env} {s : St} {ι : Iota} {a : Act} {w : World} (h : Rel e s ι a w) (o : Obj) (x : Addr) (hx : x.block = w.heap.size) :
    Av e s.st ι (w.alloc o) x := by
  refine .inr ⟨.inl (by rw [hx]; exact h.hs), by simp [hx], fun id k xs fz cap hg hi => ?_⟩
  exact absurd (h.blk hg hi) (by omega)

def upd (ι : Iota) (id : Nat) (x : Option (Nat × Nat)) : Iota := fun i => if i = id then x else ι i

theorem upd_self (ι : Iota) (id : Nat) (x : Option (Nat × Nat)) : upd ι id x id = x := by simp [upd]
theorem upd_ne (ι : Iota) {id i : Nat} (x : Option (Nat × Nat)) (h : i ≠ id) : upd ι id x i = ι i := by simp [upd, h]

/-- a new object with a block of its own -/
theorem Rel.new {e : Env} {s : St} {ι : Iota} {a : Act} {w : World} (h : Rel e s ι a w) (id : Nat) (hid : get s.st id = none)
    (k : Nat) (xs : List T) (fz : Bool) (cap : Nat) (cur : Array Value) (E : TypeId) (hk : ∀ x ∈ xs, x.cells.length = k) (hcs : cur.size = cap * k) (hxc : xs.length ≤ cap) (hcm : cap ≤ maxLen) (hc1 : ∀ (j : Nat) (u : Value), cur[j]? = some u → u.oneCell' = true)
    (hc : ∀ (j : Nat) (u : Value) (c : T), cur[j]? = some u → (flat xs)[j]? = some c → u.oneCell' = true ∧ Rp s.st ι w (Av e s.st ι w) u c) :
    Rel e { s with st := (id, .arr k xs fz) :: s.st } (upd ι id (some (w.heap.size, cap))) a (w.alloc (.cells cur E)) ∧
    (∀ v t, Rp s.st ι w (Av e s.st ι w) v t → Rp ((id, .arr k xs fz) :: s.st) (upd ι id (some (w.heap.size, cap))) (w.alloc (.cells cur E))
      (Av e ((id, .arr k xs fz) :: s.st) (upd ι id (some (w.heap.size, cap))) (w.alloc (.cells cur E))) v t) := by
  have hkk : ∀ b, b < w.heap.size → (w.alloc (.cells cur E)).heap[b]? = w.heap[b]? := fun b hb => RowKit.Below.heap_alloc w _ b hb
  have hsz : w.heap.size ≤ (w.alloc (.cells cur E)).heap.size := by simp
  have hne : ∀ i, get s.st i ≠ none → i ≠ id := fun i hi e => hi (e ▸ hid)
  have hmm : ∀ i es, get ((id, Ob.arr k xs fz) :: s.st) i = some (.mp es) → i ≠ id ∧ get s.st i = some (.mp es) := fun i es hg => by
    by_cases hii : i = id
    · subst hii; rw [get_cons_self] at hg; injection hg with hg; cases hg
    · rw [get_cons_ne _ _ (Ne.symm hii)] at hg; exact ⟨hii, hg⟩
  refine h.go ⟨fun i hi => ?_, fun i k' xs' fz' hg hi => ?_, fun i es hg hi => ⟨⟨es, (hmm i es hg).2⟩, upd_ne _ _ (hmm i es hg).1⟩⟩ ?_ ?_ ?_ ?_ ?_ ?_ hsz rfl rfl rfl
    (fun i es hg => ⟨(hmm i es hg).2, upd_ne _ _ (hmm i es hg).1, fun b c hi => hkk b (h.mlt (hmm i es hg).2 hi)⟩)
  · rw [get_cons_ne _ _ (Ne.symm (hne i hi))]; exact hi
  · rw [get_cons_ne _ _ (Ne.symm (hne i hi))] at hg
    exact ⟨k', xs', fz', hg, rfl, Nat.le_refl _, fun _ => upd_ne _ _ (hne i hi)⟩
  · intro x hx u hu
    exact cell_of_heap (hkk _ (Av.lt h hx)) u hu
  · rintro x (hx | ⟨h1, h2, h3⟩)
    · exact .inl hx
    · refine .inr ⟨h1, Nat.lt_of_lt_of_le h2 hsz, fun i k' xs' fz' cap' hg hi => ?_⟩
      by_cases hii : i = id
      · subst hii; rw [upd_self] at hi; injection hi with hi; injection hi with hb _; omega
      · rw [get_cons_ne _ _ (Ne.symm hii)] at hg; rw [upd_ne _ _ hii] at hi; exact h3 i k' xs' fz' cap' hg hi
  · intro i o ho
    by_cases hii : i = id
    · subst hii
      rw [get_cons_self] at ho
      injection ho with ho
      subst ho
      refine .inr fun hm => ⟨hk, .inr ⟨w.heap.size, cap, cur, E, upd_self _ _ _, heap_alloc_new w _, hcs, hxc, ⟨hcm, hc1⟩, fun j u c hu hc' => ⟨(hc j u c hu hc').1, hm _ _ (hc j u c hu hc').2⟩⟩⟩
    · rw [get_cons_ne _ _ (Ne.symm hii)] at ho
      exact .inl ⟨ho, upd_ne _ _ hii, fun b c hi ⟨k, xs, fz, e⟩ => hkk b (h.blk (e ▸ ho) hi)⟩
  · intro i i' k1 x1 f1 k2 x2 f2 b c c' g1 g2 e1 e2
    by_cases h1 : i = id <;> by_cases h2 : i' = id
    · rw [h1, h2]
    · subst h1
      rw [upd_self] at e1; injection e1 with e1; injection e1 with e1 _
      rw [get_cons_ne _ _ (Ne.symm h2)] at g2; rw [upd_ne _ _ h2] at e2
      have := h.blk g2 e2
      omega
    · subst h2
      rw [upd_self] at e2; injection e2 with e2; injection e2 with e2 _
      rw [get_cons_ne _ _ (Ne.symm h1)] at g1; rw [upd_ne _ _ h1] at e1
      have := h.blk g1 e1
      omega
    · rw [get_cons_ne _ _ (Ne.symm h1)] at g1; rw [upd_ne _ _ h1] at e1
      rw [get_cons_ne _ _ (Ne.symm h2)] at g2; rw [upd_ne _ _ h2] at e2
      exact h.inj i i' _ _ _ _ _ _ b c c' g1 g2 e1 e2
  · intro i k1 x1 f1 b c g1 e1
    by_cases h1 : i = id
    · subst h1
      rw [upd_self] at e1; injection e1 with e1; injection e1 with e1 _
      exact .inr (e1 ▸ h.hs)
    · rw [get_cons_ne _ _ (Ne.symm h1)] at g1; rw [upd_ne _ _ h1] at e1
      exact h.own i _ _ _ b c g1 e1
  · intro b hb _
    exact hkk b (Nat.lt_of_lt_of_le hb h.hs)

/-- an object is changed: its array may be written where it lies (`ι' id = ι id`), or lie in a block of its own that is new -/
theorem Rel.turn {e : Env} {s : St} {ι : Iota} {a : Act} {w : World} (h : Rel e s ι a w) (id k : Nat) (xs xs' : List T) (fz fz' : Bool) (hid : get s.st id = some (.arr k xs fz))
    (x' : Option (Nat × Nat)) (w' : World) (hlen : xs.length ≤ xs'.length) (hsame : xs.length = xs'.length → x' = ι id) (hfz : fz = true → fz' = true ∧ xs <+: xs')
    (hgrow : w.grownBy w' ((ι id).map (·.1)))
    (hx' : x' = ι id ∨ ∃ b c, x' = some (b, c) ∧ w.heap.size ≤ b)
    (hcellB : fz = true → ∀ b c j u, ι id = some (b, c) → j < (flat xs).length → w.cell? ⟨b, j, none⟩ = some u → w'.cell? ⟨b, j, none⟩ = some u)
    (hob : (∀ v t, Rp s.st ι w (Av e s.st ι w) v t → Rp ((id, .arr k xs' fz') :: s.st) (upd ι id x') w' (Av e ((id, .arr k xs' fz') :: s.st) (upd ι id x') w') v t) →
      ORep ((id, .arr k xs' fz') :: s.st) (upd ι id x') w' (Av e ((id, .arr k xs' fz') :: s.st) (upd ι id x') w') id (.arr k xs' fz')) :
    Rel e { s with st := (id, .arr k xs' fz') :: s.st } (upd ι id x') a w' ∧
    (∀ v t, Rp s.st ι w (Av e s.st ι w) v t → Rp ((id, .arr k xs' fz') :: s.st) (upd ι id x') w' (Av e ((id, .arr k xs' fz') :: s.st) (upd ι id x') w') v t) := by
  have hkk : ∀ b, b < w.heap.size → (∀ c, ι id ≠ some (b, c)) → w'.heap[b]? = w.heap[b]? := fun b hb hn =>
    hgrow.block b hb (fun e' => by
      cases hi : ι id with
      | none => simp [hi] at e'
      | some p => simp [hi] at e'; exact hn p.2 (by rw [hi, e']))
  have hmm : ∀ i es, get ((id, Ob.arr k xs' fz') :: s.st) i = some (.mp es) → i ≠ id ∧ get s.st i = some (.mp es) := fun i es hg => by
    by_cases hii : i = id
    · subst hii; rw [get_cons_self] at hg; injection hg with hg; cases hg
    · rw [get_cons_ne _ _ (Ne.symm hii)] at hg; exact ⟨hii, hg⟩
  refine h.go ⟨fun i hi => ?_, fun i k1 x1 f1 hg hi => ?_, fun i es hg hi => ⟨⟨es, (hmm i es hg).2⟩, upd_ne _ _ (hmm i es hg).1⟩⟩ ?_ ?_ ?_ ?_ ?_ ?_ hgrow.size hgrow.os hgrow.tape hgrow.output
    (fun i es hg => ⟨(hmm i es hg).2, upd_ne _ _ (hmm i es hg).1, fun b c hi => hkk b (h.mlt (hmm i es hg).2 hi) fun c' hc' => h.mne (hmm i es hg).2 hi hid hc' rfl⟩)
  · by_cases hii : i = id
    · subst hii; rw [get_cons_self]; simp
    · rw [get_cons_ne _ _ (Ne.symm hii)]; exact hi
  · by_cases hii : i = id
    · subst hii
      rw [get_cons_self] at hg
      injection hg with hg; injection hg with e1 e2 e3
      subst e1 e2 e3
      exact ⟨k, xs, fz, hid, rfl, hlen, fun e' => by rw [upd_self]; exact hsame e'⟩
    · rw [get_cons_ne _ _ (Ne.symm hii)] at hg
      exact ⟨k1, x1, f1, hg, rfl, Nat.le_refl _, fun _ => upd_ne _ _ hii⟩
  · intro x hx u hu
    by_cases hb : ∃ c, ι id = some (x.block, c)
    · obtain ⟨c, hb⟩ := hb
      rcases hx with hx | ⟨h1, h2, h3⟩
      · exfalso
        have h5 := h.sS x hx
        rcases h.own id k xs fz _ _ hid hb with h6 | h6
        · exact h5.2 h6
        · omega
      · obtain ⟨h4, h5⟩ := h3 id k xs fz c hid hb
        have hsp : x.spot = none := by
          unfold World.cell? at hu
          split at hu
          · split at hu
            · cases hu
            · rename_i hs; simpa using hs
          · cases hu
        have hxe : x = ⟨x.block, x.off, none⟩ := by cases x; simp_all
        rw [hxe] at hu ⊢
        exact hcellB h4 _ _ _ _ hb h5 hu
    · exact cell_of_heap (hkk _ (Av.lt h hx) (fun c hc => hb ⟨c, hc⟩)) u hu
  · rintro x (hx | ⟨h1, h2, h3⟩)
    · exact .inl hx
    · refine .inr ⟨h1, Nat.lt_of_lt_of_le h2 hgrow.size, fun i k1 x1 f1 cap' hg hi => ?_⟩
      by_cases hii : i = id
      · subst hii
        rw [get_cons_self] at hg
        injection hg with hg; injection hg with e1 e2 e3
        subst e1 e2 e3
        rw [upd_self] at hi
        rcases hx' with hx' | ⟨b, c, hx', hb⟩
        · rw [hx'] at hi
          obtain ⟨h4, h5⟩ := h3 i k xs fz cap' hid hi
          obtain ⟨h6, h7⟩ := hfz h4
          refine ⟨h6, Nat.lt_of_lt_of_le h5 ?_⟩
          obtain ⟨r, rfl⟩ := h7
          simp [flat]
        · rw [hx'] at hi; injection hi with hi; injection hi with hi _; omega
      · rw [get_cons_ne _ _ (Ne.symm hii)] at hg; rw [upd_ne _ _ hii] at hi; exact h3 i k1 x1 f1 cap' hg hi
  · intro i o ho
    by_cases hii : i = id
    · subst hii
      rw [get_cons_self] at ho
      injection ho with ho
      subst ho
      exact .inr hob
    · rw [get_cons_ne _ _ (Ne.symm hii)] at ho
      refine .inl ⟨ho, upd_ne _ _ hii, fun b c hi ⟨k1, x1, f1, e1⟩ => hkk b (h.blk (e1 ▸ ho) hi) (fun c' hc' => hii ?_)⟩
      subst e1
      exact h.inj i id _ _ _ _ _ _ b c c' ho hid hi hc'
  · intro i i' k1 x1 f1 k2 x2 f2 b c c' g1 g2 e1 e2
    have key : ∀ i' k2 x2 f2 c', i' ≠ id → get s.st i' = some (.arr k2 x2 f2) → ι i' = some (b, c') → x' = some (b, c) → False := by
      intro i' k2 x2 f2 c' h2 g2 e2 e1
      rcases hx' with hx' | ⟨b', c1, hx', hb⟩
      · exact h2 (h.inj i' id _ _ _ _ _ _ b c' c g2 hid e2 (hx' ▸ e1))
      · rw [hx'] at e1; injection e1 with e1; injection e1 with e1 _
        have := h.blk g2 e2
        omega
    have key' : ∀ i' k2 x2 f2 c, i' ≠ id → get s.st i' = some (.arr k2 x2 f2) → ι i' = some (b, c) → x' = some (b, c') → False := by
      intro i' k2 x2 f2 c h2 g2 e2 e1
      rcases hx' with hx' | ⟨b', c1, hx', hb⟩
      · exact h2 (h.inj i' id _ _ _ _ _ _ b c c' g2 hid e2 (hx' ▸ e1))
      · rw [hx'] at e1; injection e1 with e1; injection e1 with e1 _
        have := h.blk g2 e2
        omega
    by_cases h1 : i = id <;> by_cases h2 : i' = id
    · rw [h1, h2]
    · subst h1
      rw [upd_self] at e1
      rw [get_cons_ne _ _ (Ne.symm h2)] at g2; rw [upd_ne _ _ h2] at e2
      exact (key i' _ _ _ _ h2 g2 e2 e1).elim
    · subst h2
      rw [upd_self] at e2
      rw [get_cons_ne _ _ (Ne.symm h1)] at g1; rw [upd_ne _ _ h1] at e1
      exact (key' i _ _ _ _ h1 g1 e1 e2).elim
    · rw [get_cons_ne _ _ (Ne.symm h1)] at g1; rw [upd_ne _ _ h1] at e1
      rw [get_cons_ne _ _ (Ne.symm h2)] at g2; rw [upd_ne _ _ h2] at e2
      exact h.inj i i' _ _ _ _ _ _ b c c' g1 g2 e1 e2
  · intro i k1 x1 f1 b c g1 e1
    by_cases h1 : i = id
    · subst h1
      rw [upd_self] at e1
      rcases hx' with hx' | ⟨b', c1, hx', hb⟩
      · exact h.own i k xs fz b c hid (hx' ▸ e1)
      · rw [hx'] at e1; injection e1 with e1; injection e1 with e1 _
        subst e1
        exact .inr (Nat.le_trans h.hs hb)
    · rw [get_cons_ne _ _ (Ne.symm h1)] at g1; rw [upd_ne _ _ h1] at e1
      exact h.own i _ _ _ b c g1 e1
  · intro b hb hn
    refine hkk b (Nat.lt_of_lt_of_le hb h.hs) fun c hc => ?_
    rcases h.own id k xs fz b c hid hc with h6 | h6
    · exact hn h6
    · omega

/-- an object is given up, or frozen -/
theorem Rel.freeze {e : Env} {s : St} {ι : Iota} {a : Act} {w : World} (h : Rel e s ι a w) (id k : Nat) (xs : List T) (fz : Bool) (hid : get s.st id = some (.arr k xs fz)) :
    Rel e { s with st := (id, .arr k xs true) :: s.st } ι a w ∧
    (∀ v t, Rp s.st ι w (Av e s.st ι w) v t → Rp ((id, .arr k xs true) :: s.st) ι w (Av e ((id, .arr k xs true) :: s.st) ι w) v t) := by
  have hu : upd ι id (ι id) = ι := by funext i; unfold upd; split <;> simp_all
  have := h.turn id k xs xs fz true hid (ι id) w (Nat.le_refl _) (fun _ => rfl) (fun _ => ⟨rfl, List.prefix_refl _⟩)
    ⟨rfl, rfl, rfl, Nat.le_refl _, fun _ _ _ => rfl⟩ (.inl rfl) (fun _ _ _ _ _ _ _ h => h) (fun hm => by
      have h0 := h.ob id _ hid
      refine ⟨h0.1, ?_⟩
      rw [upd_self]
      rcases h0.2 with h1 | ⟨b, cap, cur, E, h4, h5, h6, h7, h8, h9⟩
      · exact .inl h1
      · exact .inr ⟨b, cap, cur, E, h4, h5, h6, h7, h8, fun j u c hu hc => ⟨(h9 j u c hu hc).1, hm _ _ (h9 j u c hu hc).2⟩⟩)
  rw [hu] at this
  exact this

end Go.TL
