/- Arguments of a law, as lists. -/
import Derived.Test.YtnejebkdlofdoaaZzC
import Derived.Test.YtnejebkdlofdoaaZzN
namespace Go.TL
set_option linter.unusedVariables false

/-- a slice, element by element -/
theorem fits_list {α : Type} {s : Sh} {c b : Nat} {t : List T} (f : α → T) (p : α → Prop) (hf : ∀ x, Fits s x → ∃ a, ofCells s x = f a ∧ p a) (h : Fits (.sl c b s) t) :
    ∃ l : List α, t = [.sl c (l.map f)] ∧ l.length * b ≤ 140737488351232 ∧ ∀ a ∈ l, p a := by
  obtain ⟨xs, rfl, h1, h2, h3⟩ := h
  have : ∃ l : List α, xs.map (ofCells s) = l.map f ∧ ∀ a ∈ l, p a := by
    clear h1 h2
    induction xs with
    | nil => exact ⟨[], rfl, by simp⟩
    | cons x r ih =>
      obtain ⟨l, h4, h5⟩ := ih fun y hy => h3 y (by simp [hy])
      obtain ⟨a, h6, h7⟩ := hf x (h3 x (by simp)).2
      exact ⟨a :: l, by simp [h4, h6], by simpa using ⟨h7, h5⟩⟩
  obtain ⟨l, h4, h5⟩ := this
  have hl : l.length = xs.length := by
    have := congrArg List.length h4
    simpa using this.symm
  exact ⟨l, by rw [h4], by rw [hl]; exact h1, h5⟩

theorem fits_bytes {t : List T} (h : Fits (.sl 1 1 (.int .u8)) t) : ∃ bs : List UInt8, t = [vL bs] ∧ bs.length ≤ 140737488351232 := by
  obtain ⟨l, h1, h2, _⟩ := fits_list byteT (fun _ => True) (fun x hx => by
    obtain ⟨n, rfl, hn⟩ := hx
    have := wf_u8 hn
    refine ⟨u8 n, ?_, trivial⟩
    show T.v (.int .u8 n) = _
    unfold byteT
    rw [u8_nat, Int.emod_eq_of_lt this.1 (by omega)]) h
  exact ⟨l, h1, by omega⟩
theorem fits_byteLists {t : List T} (h : Fits (.sl 1 24 (.sl 1 1 (.int .u8))) t) : ∃ ls : List (List UInt8), t = [.sl 1 (ls.map vL)] ∧ ls.length * 24 ≤ 140737488351232 ∧ ∀ b ∈ ls, b.length ≤ 140737488351232 :=
  fits_list vL (fun b => b.length ≤ 140737488351232) (fun x hx => by
    obtain ⟨bs, rfl, h1⟩ := fits_bytes hx
    exact ⟨bs, rfl, h1⟩) h
end Go.TL
