/- Loops and ends as a prover meets them. -/
import Derived.Test.YtnejebkdlofdoaaZzS
namespace Go.TL
set_option linter.unusedSimpArgs false
set_option linter.unusedVariables false

abbrev vI (n : Int) : T := .v (.int .i64 n)
abbrev vB (b : Bool) : T := .v (.bool b)
abbrev vU8 (n : Int) : T := .v (.int .u8 n)
abbrev vU32 (n : Int) : T := .v (.int .u32 n)
abbrev vU64 (n : Int) : T := .v (.int .u64 n)
abbrev vS (s : ByteArray) : T := .v (.string s)
abbrev vNil : T := .v (.slice none 0 0)

/-- each entry of the second frame stands in the first one -/
def hasFr (fr : List (Nat × T)) : List (Nat × T) → Prop
  | [] => True
  | (t, x) :: r => TL.get fr t = some x ∧ hasFr fr r

section
variable {P : Program} {e : Env} {kss : List (Nat × List Nat)} {Q : Ex → St → Prop} {K : List KF} {fr : List (Nat × T)} {st : Sto}

theorem hasFr_get {fr fr' : List (Nat × T)} (h : hasFr fr fr') {t : Nat} {x : T} (hx : TL.get fr' t = some x) : TL.get fr t = some x := by
  induction fr' with
  | nil => cases hx
  | cons p r ih =>
    obtain ⟨u, y⟩ := p
    obtain ⟨h1, h2⟩ := h
    simp only [TL.get] at hx
    split at hx
    · rename_i hu; subst hu; injection hx with hx; subst hx; exact h1
    · exact ih h2 hx

theorem Le.ofFr {fr fr' : List (Nat × T)} {st : Sto} (h : hasFr fr fr') : Le e ⟨fr, st⟩ ⟨fr', st⟩ :=
  fun ι a w hR => ⟨ι, hR.drop rfl fun t x hx => hasFr_get h hx⟩

/-- the end of a loop's round -/
def LQ {α : Type} (P : Program) (e : Env) (kss : List (Nat × List Nat)) (Q : Ex → St → Prop) (K : List KF) (I : α → Prop) (f : α → List (Nat × T)) (g : α → Sto) (μ : α → Nat) (x : α) : Ex → St → Prop
  | .normal, s => ∃ y, I y ∧ μ y < μ x ∧ Le e s ⟨f y, g y⟩
  | .exit i, s => X P e kss Q (.exit i) K s.fr s.st
  | .ret, s => X P e kss Q .ret K s.fr s.st

theorem LQ_normal {α : Type} {I : α → Prop} {f : α → List (Nat × T)} {g : α → Sto} {μ : α → Nat} {x : α} : LQ P e kss Q K I f g μ x .normal ⟨fr, st⟩ = ∃ y, I y ∧ μ y < μ x ∧ Le e ⟨fr, st⟩ ⟨f y, g y⟩ := _root_.id rfl
theorem LQ_exit {α : Type} {I : α → Prop} {f : α → List (Nat × T)} {g : α → Sto} {μ : α → Nat} {x : α} {i : Nat} : LQ P e kss Q K I f g μ x (.exit i) ⟨fr, st⟩ = X P e kss Q (.exit i) K fr st := _root_.id rfl
theorem LQ_ret {α : Type} {I : α → Prop} {f : α → List (Nat × T)} {g : α → Sto} {μ : α → Nat} {x : α} : LQ P e kss Q K I f g μ x .ret ⟨fr, st⟩ = X P e kss Q .ret K fr st := _root_.id rfl

theorem W_loop {α : Type} {body : RC} (hm : P.follows .mixedOrders = true) (I : α → Prop) (f : α → List (Nat × T)) (g : α → Sto) (μ : α → Nat) (x0 : α) (h0 : I x0) (hs : Le e ⟨fr, st⟩ ⟨f x0, g x0⟩)
    (round : ∀ x, I x → W P e kss (LQ P e kss Q K I f g μ x) body [] (f x) (g x)) : W P e kss Q (.loop body) K fr st := by
  refine WPR.loop hm I (fun x => ⟨f x, g x⟩) μ x0 h0 hs fun x hI => ?_
  have : loopQ e I (fun x => ⟨f x, g x⟩) μ x (kq P e kss Q K) = LQ P e kss Q K I f g μ x := by
    funext ex s
    cases ex <;> rfl
  rw [this]
  exact round x hI

theorem EndOk.imR {x r : T} {st : Sto} (h : x = r) (hi : imTup x = true) : EndOk [] x st r [] := h ▸ .im hi

theorem int_ge {a b : Int} : (a ≥ b) = (b ≤ a) := rfl
theorem bif_and {a b : Bool} : (bif a then b else false) = (a && b) := by cases a <;> rfl
theorem bif_or {a b : Bool} : (bif a then true else b) = (a || b) := by cases a <;> rfl
end
end Go.TL
