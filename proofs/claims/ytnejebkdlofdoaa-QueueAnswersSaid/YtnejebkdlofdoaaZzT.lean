/- Values as trees: the relation between a tree and a value of the model in a world, and how it is kept. Plain definitions and lemmas; no program in sight. -/
import Derived.WalkKit
import Derived.Still
namespace Go.TL
set_option linter.unusedSimpArgs false
set_option linter.unusedVariables false

inductive T where
  | junk
  | v (x : Value)
  | sl (k : Nat) (xs : List T)
  | agg (cs : List T)
  | tup (vs : List T)
  | clo (f : FuncId) (caps : List T)
  | ptr (id n i j : Nat)
  | ip (cs : List T)
  | asl (id n : Nat)
  /-- a bool of which only this is known: true means p, false means q -/
  | ub (p q : Bool)
  /-- a part of an object's array: from lo on, len elements -/
  | vw (id n lo len : Nat)
  /-- a map -/
  | mp (id : Nat)
  deriving Inhabited

def T.cells : T → List T
  | .agg cs => cs
  | x => [x]

def flat (xs : List T) : List T := xs.flatMap T.cells

/-- what a map holds, in the order of the entries -/
inductive Es where
  | ii (l : List (Int × Int))
  | ib (l : List (Int × Bool))
  | si (l : List (ByteArray × Int))
  | sb (l : List (ByteArray × Bool))
def Es.vals : Es → List (Value × Value)
  | .ii l => l.map fun p => (.int .i64 p.1, .int .i64 p.2)
  | .ib l => l.map fun p => (.int .i64 p.1, .bool p.2)
  | .si l => l.map fun p => (.string p.1, .int .i64 p.2)
  | .sb l => l.map fun p => (.string p.1, .bool p.2)

inductive Ob where
  | dead
  | arr (k : Nat) (xs : List T) (fz : Bool)
  /-- a map of this function's own -/
  | mp (es : Es)
  /-- no object: the array of that object, where it has n elements, has no more room; g: it is to grow -/
  | full (id n : Nat) (g : Bool)
  deriving Inhabited

abbrev Sto := List (Nat × Ob)

def get {α : Type} : List (Nat × α) → Nat → Option α
  | [], _ => none
  | (j, x) :: r, i => if j = i then some x else get r i

structure St where
  fr : List (Nat × T)
  st : Sto

abbrev Iota := Nat → Option (Nat × Nat)

/-- what a slice of an object's array is; an empty one may point anywhere -/
def slv : Option (Nat × Nat) → Nat → Value → Prop
  | none, _, v => ∃ p, v = .slice p 0 0
  | some (b, cap), n, v => v = .slice (some ⟨b, 0, none⟩) n cap

/-- what a part of an object's array is -/
def vwv : Option (Nat × Nat) → Nat → Nat → Nat → Value → Prop
  | none, _, _, _, v => ∃ p, v = .slice p 0 0
  | some (b, cap), k, lo, len, v => ∃ p, v = .slice p len (cap - lo) ∧ (lo < cap → p = some ⟨b, lo * k, none⟩)

/-- what needs no owned object -/
inductive Im (w : World) (A : Addr → Prop) : Value → T → Prop
  | junk (v : Value) : Im w A v .junk
  | v (x : Value) : Im w A x (.v x)
  | ub (b p q : Bool) (h1 : b = true → p = true) (h2 : b = false → q = true) : Im w A (.bool b) (.ub p q)
  | sl (p : Option Addr) (len cap k : Nat) (xs : List T) (us : List Value)
      (hlen : xs.length = len) (hcap : len ≤ cap) (hk : ∀ x ∈ xs, x.cells.length = k) (hus : us.length = (flat xs).length)
      (hp : 0 < len → p ≠ none)
      (hat : ∀ (j : Nat) (u : Value), us[j]? = some u → ∃ a, p = some a ∧ A (a.add j) ∧ w.cell? (a.add j) = some u ∧ u.oneCell' = true)
      (him : ∀ (j : Nat) (u : Value) (c : T), us[j]? = some u → (flat xs)[j]? = some c → Im w A u c) :
      Im w A (.slice p len cap) (.sl k xs)
  | ip (a : Addr) (cs : List T) (us : List Value) (hus : us.length = cs.length)
      (hat : ∀ (j : Nat) (u : Value), us[j]? = some u → A (a.add j) ∧ w.cell? (a.add j) = some u ∧ u.oneCell' = true)
      (him : ∀ (j : Nat) (u : Value) (c : T), us[j]? = some u → cs[j]? = some c → Im w A u c) :
      Im w A (.pointer (some a)) (.ip cs)
  | clo (f : FuncId) (us : List Value) (cs : List T) (hl : us.length = cs.length) (h : ∀ (j : Nat) (u : Value) (c : T), us[j]? = some u → cs[j]? = some c → Im w A u c) : Im w A (.func (.func f) #[] us.toArray) (.clo f cs)

theorem Im.mono {w w' : World} {A A' : Addr → Prop} (h : ∀ a, A a → A' a ∧ ∀ u, w.cell? a = some u → w'.cell? a = some u) {v : Value} {t : T}
    (hi : Im w A v t) : Im w' A' v t := by
  induction hi with
  | junk v => exact .junk v
  | v x => exact .v x
  | ub b p q h1 h2 => exact .ub b p q h1 h2
  | sl p len cap k xs us hlen hcap hk hus hp hat _ ih =>
    exact .sl p len cap k xs us hlen hcap hk hus hp
      (fun j u hu => let ⟨a, e, ha, hc, h1⟩ := hat j u hu; ⟨a, e, (h _ ha).1, (h _ ha).2 _ hc, h1⟩) ih
  | ip a cs us hus hat _ ih =>
    exact .ip a cs us hus (fun j u hu => let ⟨ha, hc, h1⟩ := hat j u hu; ⟨(h _ ha).1, (h _ ha).2 _ hc, h1⟩) ih
  | clo f us cs hl _ ih => exact .clo f us cs hl ih

inductive Rp (st : Sto) (ι : Iota) (w : World) (A : Addr → Prop) : Value → T → Prop
  | im {v t} (h : Im w A v t) : Rp st ι w A v t
  | agg (us : List Value) (cs : List T) (hl : us.length = cs.length)
      (h : ∀ (j : Nat) (u : Value) (c : T), us[j]? = some u → cs[j]? = some c → Rp st ι w A u c) : Rp st ι w A (.agg us.toArray) (.agg cs)
  | tup (us : List Value) (cs : List T) (hl : us.length = cs.length)
      (h : ∀ (j : Nat) (u : Value) (c : T), us[j]? = some u → cs[j]? = some c → Rp st ι w A u c) : Rp st ι w A (.tuple us.toArray) (.tup cs)
  | clo (f : FuncId) (us : List Value) (cs : List T) (hl : us.length = cs.length)
      (h : ∀ (j : Nat) (u : Value) (c : T), us[j]? = some u → cs[j]? = some c → Rp st ι w A u c) : Rp st ι w A (.func (.func f) #[] us.toArray) (.clo f cs)
  | asl (id n : Nat) (v : Value) (hd : get st id ≠ none)
      (h : ∀ k xs fz, get st id = some (.arr k xs fz) → n ≤ xs.length ∧ (xs.length = n → slv (ι id) n v)) : Rp st ι w A v (.asl id n)
  | ptr (id n i j : Nat) (v : Value) (hd : get st id ≠ none)
      (h : ∀ k xs fz, get st id = some (.arr k xs fz) → n ≤ xs.length ∧ (xs.length = n → ∃ b cap, ι id = some (b, cap) ∧ v = .pointer (some ⟨b, i * k + j, none⟩))) :
      Rp st ι w A v (.ptr id n i j)
  | vw (id n lo len : Nat) (v : Value) (hd : get st id ≠ none)
      (h : ∀ k xs fz, get st id = some (.arr k xs fz) → n ≤ xs.length ∧ (xs.length = n → lo + len ≤ n ∧ vwv (ι id) k lo len v)) :
      Rp st ι w A v (.vw id n lo len)
  | mp (id : Nat) (v : Value) (hd : get st id ≠ none) (h : ∀ es, get st id = some (.mp es) → ∃ b, ι id = some (b, 0) ∧ v = .map (some b)) : Rp st ι w A v (.mp id)

/-- how a store may go on: what is dead stays dead, lengths do not shrink, and an array of the same length has not moved -/
structure Goes (st : Sto) (ι : Iota) (st' : Sto) (ι' : Iota) : Prop where
  dom : ∀ id, get st id ≠ none → get st' id ≠ none
  arr : ∀ id k' xs' fz', get st' id = some (.arr k' xs' fz') → get st id ≠ none →
    ∃ k xs fz, get st id = some (.arr k xs fz) ∧ k = k' ∧ xs.length ≤ xs'.length ∧ (xs.length = xs'.length → ι' id = ι id)
  mp : ∀ id es', get st' id = some (.mp es') → get st id ≠ none → (∃ es, get st id = some (.mp es)) ∧ ι' id = ι id

theorem Goes.refl (st : Sto) (ι : Iota) : Goes st ι st ι :=
  ⟨fun _ h => h, fun _ k xs fz h _ => ⟨k, xs, fz, h, rfl, Nat.le_refl _, fun _ => rfl⟩, fun _ es h _ => ⟨⟨es, h⟩, rfl⟩⟩

theorem Goes.trans {a b c : Sto} {i j k : Iota} (h : Goes a i b j) (h' : Goes b j c k) : Goes a i c k :=
  ⟨fun id hd => h'.dom id (h.dom id hd), fun id k' xs' fz' hg hd => by
    obtain ⟨k1, x1, f1, g1, e1, l1, i1⟩ := h'.arr id k' xs' fz' hg (h.dom id hd)
    obtain ⟨k2, x2, f2, g2, e2, l2, i2⟩ := h.arr id k1 x1 f1 g1 hd
    exact ⟨k2, x2, f2, g2, e2.trans e1, Nat.le_trans l2 l1, fun hl => by rw [i1 (by omega), i2 (by omega)]⟩, fun id es' hg hd => by
    obtain ⟨⟨es1, g1⟩, i1⟩ := h'.mp id es' hg (h.dom id hd)
    obtain ⟨g2, i2⟩ := h.mp id es1 g1 hd
    exact ⟨g2, i1.trans i2⟩⟩

theorem Rp.mono {st st' : Sto} {ι ι' : Iota} {w w' : World} {A A' : Addr → Prop} (hA : ∀ a, A a → A' a ∧ ∀ u, w.cell? a = some u → w'.cell? a = some u)
    (hg : Goes st ι st' ι') {v : Value} {t : T} (h : Rp st ι w A v t) : Rp st' ι' w' A' v t := by
  induction h with
  | im h => exact .im (h.mono hA)
  | agg us cs hl _ ih => exact .agg us cs hl ih
  | tup us cs hl _ ih => exact .tup us cs hl ih
  | clo f us cs hl _ ih => exact .clo f us cs hl ih
  | asl id n v hd h =>
    refine .asl id n v (hg.dom id hd) fun k' xs' fz' e => ?_
    obtain ⟨k, xs, fz, e0, _, hle, hi⟩ := hg.arr id k' xs' fz' e hd
    obtain ⟨h1, h2⟩ := h k xs fz e0
    exact ⟨Nat.le_trans h1 hle, fun hn => by rw [hi (by omega)]; exact h2 (by omega)⟩
  | ptr id n i j v hd h =>
    refine .ptr id n i j v (hg.dom id hd) fun k' xs' fz' e => ?_
    obtain ⟨k, xs, fz, e0, hk, hle, hi⟩ := hg.arr id k' xs' fz' e hd
    obtain ⟨h1, h2⟩ := h k xs fz e0
    subst hk
    exact ⟨Nat.le_trans h1 hle, fun hn => by rw [hi (by omega)]; exact h2 (by omega)⟩
  | vw id n lo len v hd h =>
    refine .vw id n lo len v (hg.dom id hd) fun k' xs' fz' e => ?_
    obtain ⟨k, xs, fz, e0, hk, hle, hi⟩ := hg.arr id k' xs' fz' e hd
    obtain ⟨h1, h2⟩ := h k xs fz e0
    subst hk
    exact ⟨Nat.le_trans h1 hle, fun hn => by rw [hi (by omega)]; exact h2 (by omega)⟩
  | mp id v hd h =>
    refine .mp id v (hg.dom id hd) fun es' e => ?_
    obtain ⟨⟨es, e0⟩, hi⟩ := hg.mp id es' e hd
    rw [hi]
    exact h es e0

/-- what a function's surroundings are: the stable cells, the heap's size at the entry, the blocks handed over, the world at the entry, the number of slots -/
structure Env where
  S : Addr → Prop
  base : Nat
  hnd : Nat → Prop
  w0 : World
  n : Nat
  st0 : Sto := []
  i0 : Iota := fun _ => none

/-- the cells that nobody writes any more -/
def Av (e : Env) (st : Sto) (ι : Iota) (w : World) (a : Addr) : Prop :=
  e.S a ∨ ((e.base ≤ a.block ∨ e.hnd a.block) ∧ a.block < w.heap.size ∧
    ∀ id k xs fz cap, get st id = some (.arr k xs fz) → ι id = some (a.block, cap) → fz = true ∧ a.off < (flat xs).length)

def ORep (st : Sto) (ι : Iota) (w : World) (A : Addr → Prop) (id : Nat) : Ob → Prop
  | .dead => True
  | .arr k xs _ => (∀ x ∈ xs, x.cells.length = k) ∧
    ((ι id = none ∧ xs = []) ∨ ∃ b cap cur E, ι id = some (b, cap) ∧ w.heap[b]? = some (.cells cur E (0, 0)) ∧ cur.size = cap * k ∧ xs.length ≤ cap ∧ (cap ≤ maxLen ∧ ∀ (j : Nat) (u : Value), cur[j]? = some u → u.oneCell' = true) ∧
      ∀ (j : Nat) (u : Value) (c : T), cur[j]? = some u → (flat xs)[j]? = some c → u.oneCell' = true ∧ Rp st ι w A u c)
  | .mp es => ∃ b clock ents, ι id = some (b, 0) ∧ w.heap[b]? = some (.map ents clock) ∧ ents.toList.map (fun e => (e.key, e.val)) = es.vals
  | .full i n _ => get st i ≠ none ∧ ∀ k xs fz, get st i = some (.arr k xs fz) → n ≤ xs.length ∧ (xs.length = n → ∀ b c, ι i = some (b, c) → c = n)

/-- the maps: each in a block of its own, made here -/
structure MpOK (base : Nat) (st : Sto) (ι : Iota) : Prop where
  own : ∀ id es b c, get st id = some (.mp es) → ι id = some (b, c) → base ≤ b
  inj : ∀ id id' es es' b c c', get st id = some (.mp es) → get st id' = some (.mp es') → ι id = some (b, c) → ι id' = some (b, c') → id = id'

structure Rel (e : Env) (s : St) (ι : Iota) (a : Act) (w : World) : Prop where
  size : a.tmps.size = e.n
  dfr : a.defers = []
  fr : ∀ t x, get s.fr t = some x → Rp s.st ι w (Av e s.st ι w) (a.tmps.getD t undef) x
  ob : ∀ id o, get s.st id = some o → ORep s.st ι w (Av e s.st ι w) id o
  inj : ∀ id id' k xs fz k' xs' fz' b c c', get s.st id = some (.arr k xs fz) → get s.st id' = some (.arr k' xs' fz') → ι id = some (b, c) → ι id' = some (b, c') → id = id'
  own : ∀ id k xs fz b c, get s.st id = some (.arr k xs fz) → ι id = some (b, c) → e.hnd b ∨ e.base ≤ b
  keep : ∀ b, b < e.base → ¬ e.hnd b → w.heap[b]? = e.w0.heap[b]?
  hs : e.base ≤ w.heap.size
  sS : ∀ a, e.S a → a.block < e.base ∧ ¬ e.hnd a.block
  os : w.os = e.w0.os
  tape : w.tape = e.w0.tape
  output : w.output = e.w0.output
  gs : Goes e.st0 e.i0 s.st ι
  stab : ∀ x, Av e e.st0 e.i0 e.w0 x → Av e s.st ι w x ∧ ∀ u, e.w0.cell? x = some u → w.cell? x = some u
  mp : MpOK e.base s.st ι

def Operand.t (s : St) : Operand → T
  | .tmp t => (get s.fr t).getD .junk
  | .const (.agg cs) => .agg (cs.toList.map .v)
  | .const v => .v v
  | .global _ => .junk
  | .func f => .clo f []

theorem Rel.rp {e : Env} {s : St} {ι : Iota} {a : Act} {w : World} (h : Rel e s ι a w) (o : Operand) :
    Rp s.st ι w (Av e s.st ι w) (a.eval o) (Operand.t s o) := by
  cases o with
  | tmp t =>
    simp only [Act.eval, Operand.t]
    cases hg : get s.fr t with
    | none => exact .im (.junk _)
    | some x => exact h.fr t x hg
  | const v =>
    simp only [Act.eval]
    cases v <;> simp only [Operand.t] <;> try exact .im (.v _)
    case agg cs =>
      have := Rp.agg (st := s.st) (ι := ι) (w := w) (A := Av e s.st ι w) cs.toList (cs.toList.map .v) (by simp)
        (fun j u c hu hc => by simp only [List.getElem?_map, hu, Option.map_some, Option.some.injEq] at hc; subst hc; exact .im (.v _))
      simpa using this
  | global g => exact .im (.junk _)
  | func f =>
    exact Rp.clo f [] [] rfl (fun j u c hu => by simp at hu)

end Go.TL
