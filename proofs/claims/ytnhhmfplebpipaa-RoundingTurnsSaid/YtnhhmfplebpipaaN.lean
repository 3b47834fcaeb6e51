import Derived.Test.YtnhhmfplebpipaaM
set_option linter.unusedSimpArgs false
set_option linter.unusedVariables false
namespace Go.Proofs
open Go Go.TL
def P2 (m n : Nat) (f : Nat → Nat → Int) : Int := sumN (fun i => sumN (fun j => f i j) n) m
theorem P2_plus {m n : Nat} {f g : Nat → Nat → Int} : P2 m n (fun i j => f i j + g i j) = P2 m n f + P2 m n g := by
  unfold P2
  rw [← sumN_plus]
  exact sumN_same m fun i _ => sumN_plus n
theorem P2_same {m n : Nat} {f g : Nat → Nat → Int} (h : ∀ i j, i < m → j < n → f i j = g i j) : P2 m n f = P2 m n g :=
  sumN_same m fun i hi => sumN_same n fun j hj => h i j hi hj
theorem P2_le {m n : Nat} {f g : Nat → Nat → Int} (h : ∀ i j, i < m → j < n → f i j ≤ g i j) : P2 m n f ≤ P2 m n g :=
  sumN_le m fun i hi => sumN_le n fun j hj => h i j hi hj
theorem P2_pos {m n : Nat} {f : Nat → Nat → Int} (h : ∀ i j, i < m → j < n → 0 ≤ f i j) (h2 : ∃ i j, i < m ∧ j < n ∧ 0 < f i j) : 0 < P2 m n f := by
  obtain ⟨i, j, hi, hj, h3⟩ := h2
  exact sumN_pos m (fun k hk => sumN_ge n fun j hj => h k j hk hj) ⟨i, hi, sumN_pos n (fun k hk => h i k hi hk) ⟨j, hj, h3⟩⟩
def loB (b M : Int) : Int := M - M % b
def hiB (b M : Int) : Int := if M % b = 0 then M else M - M % b + b
theorem lo_dvd (b M : Int) : b ∣ loB b M := ⟨M / b, by have := Int.mul_ediv_add_emod M b; unfold loB; omega⟩
theorem hi_dvd (b M : Int) : b ∣ hiB b M := by
  unfold hiB
  split
  · rename_i h; exact Int.dvd_of_emod_eq_zero h
  · exact Int.dvd_add (lo_dvd b M) (Int.dvd_refl b)
theorem lohi {b M : Int} (hb : 1 ≤ b) : loB b M ≤ M ∧ M ≤ hiB b M ∧ hiB b M ≤ loB b M + b := by
  have h1 := Int.emod_nonneg M (b := b) (by omega)
  have h2 := Int.emod_lt_of_pos M (b := b) (by omega)
  unfold loB hiB
  split <;> omega
theorem sq_nonneg (x : Int) : 0 ≤ x * x := by
  rcases Int.le_total 0 x with h | h
  · exact Int.mul_nonneg h h
  · exact Int.mul_nonneg_of_nonpos_of_nonpos h h
theorem sq_pos {x : Int} (h : x ≠ 0) : 0 < x * x := by
  have h1 := sq_nonneg x
  have h2 : x * x ≠ 0 := fun e => by
    rcases Int.mul_eq_zero.1 e with e | e <;> exact h e
  omega
theorem sq_two (y d : Int) : (y + d) * (y + d) + (y - d) * (y - d) = (y * y + y * y) + (d * d + d * d) := by
  have h1 : (y + d) * (y + d) = y * y + d * y + (y * d + d * d) := by rw [Int.mul_add, Int.add_mul, Int.add_mul]
  have h2 : (y - d) * (y - d) = y * y - d * y - (y * d - d * d) := by rw [Int.mul_sub, Int.sub_mul, Int.sub_mul]
  have h3 : d * y = y * d := Int.mul_comm d y
  omega
structure Feas (m n : Nat) (b : Int) (M Y : Nat → Nat → Int) : Prop where
  box : ∀ i j, i < m → j < n → loB b (M i j) ≤ Y i j ∧ Y i j ≤ hiB b (M i j)
  row : ∀ i, i < m → sumN (Y i) n = 0
  col : ∀ j, j < n → sumN (fun i => Y i j) m = 0
def phi (m n : Nat) (b : Int) (M Y : Nat → Nat → Int) : Int := P2 m n fun i j => (Y i j - loB b (M i j)) * (Y i j - loB b (M i j))
theorem phi_le {m n : Nat} {b : Int} {M Y : Nat → Nat → Int} (hb : 1 ≤ b) (h : Feas m n b M Y) : phi m n b M Y ≤ P2 m n fun _ _ => b * b := by
  refine P2_le fun i j hi hj => ?_
  have h1 := h.box i j hi hj
  have h2 := lohi (M := M i j) hb
  exact Int.mul_le_mul (by omega) (by omega) (by omega) (by omega)
theorem round_step {m n : Nat} {b : Int} {M Y : Nat → Nat → Int} (hb : 1 ≤ b) (h : Feas m n b M Y) (hno : ∃ i j, i < m ∧ j < n ∧ ¬ b ∣ Y i j) : ∃ Z, Feas m n b M Z ∧ phi m n b M Y < phi m n b M Z := by
  obtain ⟨D, d1, d2, d3, d4, d5⟩ := cycle m n (fun i j => i < m ∧ j < n ∧ ¬ b ∣ Y i j) hno (fun i j hF => ⟨hF.1, hF.2.1⟩)
    (fun i j ⟨hi, hj, hF⟩ => by
      obtain ⟨k, k1, k2, k3⟩ := two_of (f := Y i) hj (by rw [h.row i hi]; exact Int.dvd_zero b) hF
      exact ⟨k, k2, hi, k1, k3⟩)
    (fun i j ⟨hi, hj, hF⟩ => by
      obtain ⟨k, k1, k2, k3⟩ := two_of (f := fun i => Y i j) hi (by rw [h.col j hj]; exact Int.dvd_zero b) hF
      exact ⟨k, k2, k1, hj, k3⟩)
  have hin : ∀ i j, i < m → j < n → D i j = 0 ∨ (loB b (M i j) < Y i j ∧ Y i j < hiB b (M i j)) := by
    intro i j hi hj
    by_cases e : D i j = 0
    · exact .inl e
    · obtain ⟨_, _, hF⟩ := d1 i j e
      have hbx := h.box i j hi hj
      have e1 : Y i j ≠ loB b (M i j) := fun e => hF (e ▸ lo_dvd _ _)
      have e2 : Y i j ≠ hiB b (M i j) := fun e => hF (e ▸ hi_dvd _ _)
      right
      omega
  have f1 : Feas m n b M (fun i j => Y i j + D i j) := by
    refine ⟨fun i j hi hj => ?_, fun i hi => ?_, fun j hj => ?_⟩
    · have hbx := h.box i j hi hj
      have := d2 i j
      rcases hin i j hi hj with e | e
      · rw [e]; omega
      · omega
    · rw [sumN_plus, h.row i hi, d3 i hi]; rfl
    · rw [sumN_plus, h.col j hj, d4 j hj]; rfl
  have f2 : Feas m n b M (fun i j => Y i j - D i j) := by
    refine ⟨fun i j hi hj => ?_, fun i hi => ?_, fun j hj => ?_⟩
    · have hbx := h.box i j hi hj
      have := d2 i j
      rcases hin i j hi hj with e | e
      · rw [e]; omega
      · omega
    · rw [sumN_minus, h.row i hi, d3 i hi]; rfl
    · rw [sumN_minus, h.col j hj, d4 j hj]; rfl
  have hsum : phi m n b M (fun i j => Y i j + D i j) + phi m n b M (fun i j => Y i j - D i j) = (phi m n b M Y + phi m n b M Y) + (P2 m n (fun i j => D i j * D i j) + P2 m n (fun i j => D i j * D i j)) := by
    unfold phi
    rw [← P2_plus, ← P2_plus, ← P2_plus, ← P2_plus]
    refine P2_same fun i j _ _ => ?_
    have := sq_two (Y i j - loB b (M i j)) (D i j)
    rw [show Y i j + D i j - loB b (M i j) = Y i j - loB b (M i j) + D i j by omega, show Y i j - D i j - loB b (M i j) = Y i j - loB b (M i j) - D i j by omega]
    exact this
  have hpos : 0 < P2 m n (fun i j => D i j * D i j) := by
    obtain ⟨i, j, hij⟩ := d5
    obtain ⟨hi, hj, _⟩ := d1 i j hij
    exact P2_pos (fun i j _ _ => sq_nonneg _) ⟨i, j, hi, hj, sq_pos hij⟩
  by_cases e : phi m n b M Y < phi m n b M (fun i j => Y i j + D i j)
  · exact ⟨_, f1, e⟩
  · exact ⟨_, f2, by omega⟩
theorem round_from {m n : Nat} {b : Int} {M : Nat → Nat → Int} (hb : 1 ≤ b) : ∀ (N : Nat) (Y : Nat → Nat → Int), Feas m n b M Y → (P2 m n fun _ _ => b * b) - phi m n b M Y ≤ N → ∃ X, Feas m n b M X ∧ ∀ i j, i < m → j < n → b ∣ X i j
  | 0, Y, h, hN => by
    refine ⟨Y, h, fun i j hi hj => Classical.byContradiction fun hd => ?_⟩
    obtain ⟨Z, h1, h2⟩ := round_step hb h ⟨i, j, hi, hj, hd⟩
    have := phi_le hb h1
    omega
  | N + 1, Y, h, hN => by
    by_cases hall : ∃ i j, i < m ∧ j < n ∧ ¬ b ∣ Y i j
    · obtain ⟨Z, h1, h2⟩ := round_step hb h hall
      exact round_from hb N Z h1 (by omega)
    · exact ⟨Y, h, fun i j hi hj => Classical.byContradiction fun hd => hall ⟨i, j, hi, hj, hd⟩⟩
theorem round_exists {m n : Nat} {b : Int} {M : Nat → Nat → Int} (hb : 1 ≤ b) (hrow : ∀ i, i < m → sumN (M i) n = 0) (hcol : ∀ j, j < n → sumN (fun i => M i j) m = 0) : ∃ X, Feas m n b M X ∧ ∀ i j, i < m → j < n → b ∣ X i j := by
  have h : Feas m n b M M := ⟨fun i j _ _ => ⟨(lohi hb).1, (lohi hb).2.1⟩, hrow, hcol⟩
  exact round_from hb _ M h (Int.self_le_toNat _)
/-- near, as a multiple within bounds -/
theorem near_of {b M X : Int} (hb : 1 ≤ b) (hd : b ∣ X) (h : loB b M ≤ X ∧ X ≤ hiB b M) : nearB M X b = true := by
  have h1 := Int.emod_nonneg M (b := b) (by omega)
  have h2 := Int.emod_lt_of_pos M (b := b) (by omega)
  have h3 : X.tmod b = 0 := Int.tmod_eq_zero_of_dvd hd
  simp only [nearB, Bool.and_eq_true, decide_eq_true_eq, beq_iff_eq]
  unfold loB hiB at h
  split at h
  · refine ⟨⟨?_, ?_⟩, h3⟩ <;> omega
  · obtain ⟨k, rfl⟩ := hd
    obtain ⟨q, hq⟩ := lo_dvd b M
    unfold loB at hq
    have hk1 : b * k = b * q ∨ b * k = b * q + b := by
      have hk : q ≤ k := by
        apply Int.le_of_mul_le_mul_left (a := b) (by omega) (by omega)
      have hk2 : k ≤ q + 1 := by
        apply Int.le_of_mul_le_mul_left (a := b) (by rw [Int.mul_add]; omega) (by omega)
      have : k = q ∨ k = q + 1 := by omega
      rcases this with e | e
      · left; rw [e]
      · right; rw [e, Int.mul_add]; omega
    refine ⟨⟨?_, ?_⟩, h3⟩ <;> omega
end Go.Proofs

