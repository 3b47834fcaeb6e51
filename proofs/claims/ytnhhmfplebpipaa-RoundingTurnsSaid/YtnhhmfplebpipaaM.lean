import Derived.Test.YtnhhmfplebpipaaL
set_option linter.unusedSimpArgs false
set_option linter.unusedVariables false
namespace Go.Proofs
open Go Go.TL
/-! ltSto, ltO2, ltO1, ltAs, ltA, ltC, ltCs, ltT, ltFr, ltS, wrOk, wrO, TL.get, hasFr, ↓reduceIte, Nat.reduceEqDiff, reduceCtorEq, Option.getD_some, Option.isSome_some, List.length_map, List.length_append, List.length_cons, List.length_nil, List.append_nil, List.mem_singleton, List.mem_cons, List.not_mem_nil, and_true, true_and, and_self, imp_self, forall_const, false_implies, implies_true, true_implies, or_false, Bool.false_eq_true, Bool.true_eq_false, ImXs_nil, true_or, or_true, false_or, false_and, and_false# there is always a rounded table -/
theorem sumN_plus {f g : Nat → Int} : ∀ n, sumN (fun k => f k + g k) n = sumN f n + sumN g n
  | 0 => rfl
  | n + 1 => by simp only [sumN]; rw [sumN_plus n]; omega
theorem sumN_minus {f g : Nat → Int} : ∀ n, sumN (fun k => f k - g k) n = sumN f n - sumN g n
  | 0 => rfl
  | n + 1 => by simp only [sumN]; rw [sumN_minus n]; omega
theorem sumN_neg {f : Nat → Int} : ∀ n, sumN (fun k => - f k) n = - sumN f n
  | 0 => rfl
  | n + 1 => by simp only [sumN]; rw [sumN_neg n]; omega
theorem sumN_same {f g : Nat → Int} : ∀ n, (∀ k, k < n → f k = g k) → sumN f n = sumN g n
  | 0, _ => rfl
  | n + 1, h => by simp only [sumN]; rw [sumN_same n fun k hk => h k (by omega), h n (by omega)]
theorem sumN_none : ∀ n, sumN (fun _ => (0 : Int)) n = 0
  | 0 => rfl
  | n + 1 => by simp only [sumN]; rw [sumN_none n]; rfl
theorem sumN_comm {f : Nat → Nat → Int} (m : Nat) : ∀ n, sumN (fun j => sumN (fun i => f i j) m) n = sumN (fun i => sumN (fun j => f i j) n) m
  | 0 => by simp only [sumN]; exact (sumN_none m).symm
  | n + 1 => by
    simp only [sumN]
    rw [sumN_comm m n, ← sumN_plus]
theorem sumN_le {f g : Nat → Int} : ∀ n, (∀ k, k < n → f k ≤ g k) → sumN f n ≤ sumN g n
  | 0, _ => Int.le_refl _
  | n + 1, h => by
    simp only [sumN]
    have h1 := sumN_le n fun k hk => h k (by omega)
    have h2 := h n (by omega)
    omega
theorem sumN_ge {f : Nat → Int} (n : Nat) (h : ∀ k, k < n → 0 ≤ f k) : 0 ≤ sumN f n := by
  have := sumN_le (f := fun _ => 0) (g := f) n h
  rwa [sumN_none] at this
theorem sumN_pos {f : Nat → Int} : ∀ n, (∀ k, k < n → 0 ≤ f k) → (∃ k, k < n ∧ 0 < f k) → 0 < sumN f n
  | 0, _, ⟨k, hk, _⟩ => by omega
  | n + 1, h, ⟨k, hk, h2⟩ => by
    simp only [sumN]
    have h3 := sumN_ge n fun k hk => h k (by omega)
    have h4 := h n (by omega)
    by_cases e : k = n
    · subst e; omega
    · have := sumN_pos n (fun k hk => h k (by omega)) ⟨k, by omega, h2⟩
      omega
theorem sumN_const (x : Int) : ∀ n : Nat, sumN (fun _ => x) n = n * x
  | 0 => by simp [sumN]
  | n + 1 => by
    simp only [sumN]
    rw [sumN_const x n]
    push_cast
    rw [Int.add_mul]
    omega
theorem sumN_at {x : Int} {j : Nat} (n : Nat) (h : j < n) : sumN (fun k => if k = j then x else 0) n = x := by
  rw [sumN_one n h fun i hi hj => if_neg hj, if_pos rfl]
theorem sumN_dvd {f : Nat → Int} {b : Int} : ∀ n, (∀ k, k < n → b ∣ f k) → b ∣ sumN f n
  | 0, _ => ⟨0, by simp [sumN]⟩
  | n + 1, h => by
    simp only [sumN]
    exact Int.dvd_add (sumN_dvd n fun k hk => h k (by omega)) (h n (by omega))
/-- where all but one are divisible, and the sum is -/
theorem two_of {f : Nat → Int} {b : Int} {n j : Nat} (hj : j < n) (h : b ∣ sumN f n) (hn : ¬ b ∣ f j) : ∃ k, k < n ∧ k ≠ j ∧ ¬ b ∣ f k := by
  apply Classical.byContradiction
  intro hno
  have hall : ∀ k, k < n → k ≠ j → b ∣ f k := fun k hk hkj => Classical.byContradiction fun h2 => hno ⟨k, hk, hkj, h2⟩
  have e : sumN f n = sumN (fun k => if k = j then 0 else f k) n + f j := by
    have := sumN_at (x := f j) n hj
    rw [← this, ← sumN_plus]
    refine sumN_same n fun k hk => ?_
    by_cases e : k = j
    · subst e; simp
    · simp [e]
  have h2 : b ∣ sumN (fun k => if k = j then 0 else f k) n := sumN_dvd n fun k hk => by
    by_cases e : k = j
    · simp [e]
    · simp only [e, if_false]; exact hall k hk e
  rw [e] at h
  exact hn ((Int.dvd_add_right h2).1 h)
theorem least {P : Nat → Prop} (h : ∃ n, P n) : ∃ n, P n ∧ ∀ m, m < n → ¬ P m := by
  obtain ⟨n, hn⟩ := h
  induction n using Nat.strongRecOn with
  | _ n ih =>
    by_cases h2 : ∃ m, m < n ∧ P m
    · obtain ⟨m, h3, h4⟩ := h2
      exact ih m h3 h4
    · exact ⟨n, hn, fun m hm hp => h2 ⟨m, hm, hp⟩⟩
theorem pigeon : ∀ (n : Nat) (g : Nat → Nat), (∀ k, k ≤ n → g k < n) → ∃ p q, p < q ∧ q ≤ n ∧ g p = g q
  | 0, g, h => by have := h 0 (by omega); omega
  | n + 1, g, h => by
    by_cases h1 : ∃ p, p < n + 1 ∧ g p = g (n + 1)
    · obtain ⟨p, h2, h3⟩ := h1
      exact ⟨p, n + 1, h2, by omega, h3⟩
    · have hne : ∀ p, p < n + 1 → g p ≠ g (n + 1) := fun p hp e => h1 ⟨p, hp, e⟩
      obtain ⟨p, q, h2, h3, h4⟩ := pigeon n (fun k => if g k = n then g (n + 1) else g k) fun k hk => by
        have h5 := h k (by omega)
        have h6 := h (n + 1) (by omega)
        have h7 := hne k (by omega)
        show (if g k = n then g (n + 1) else g k) < n
        split <;> omega
      refine ⟨p, q, h2, by omega, ?_⟩
      have h5 := hne p (by omega)
      have h6 := hne q (by omega)
      have h4 : (if g p = n then g (n + 1) else g p) = (if g q = n then g (n + 1) else g q) := h4
      split at h4 <;> split at h4 <;> omega
theorem tele {h : Nat → Int} : ∀ n, sumN (fun k => h k - h (k + 1)) n = h 0 - h n
  | 0 => by simp [sumN]
  | n + 1 => by simp only [sumN]; rw [tele n]; omega
theorem atmost {f : Nat → Int} : ∀ n, (∀ k, k < n → f k = 0 ∨ f k = 1) → (∀ x y, x < y → y < n → f x = 0 ∨ f y = 0) → sumN f n = 0 ∨ sumN f n = 1
  | 0, _, _ => .inl rfl
  | n + 1, h, h2 => by
    simp only [sumN]
    rcases h n (by omega) with e | e
    · rw [e]
      have := atmost n (fun k hk => h k (by omega)) fun x y hxy hy => h2 x y hxy (by omega)
      omega
    · rw [e, sumN_zero n fun k hk => by
        rcases h2 k n hk (by omega) with e2 | e2
        · exact e2
        · omega]
      exact .inr rfl
theorem ind01 {P : Prop} [Decidable P] : (if P then (1 : Int) else 0) = 0 ∨ (if P then (1 : Int) else 0) = 1 := by split <;> simp
theorem cycle (m n : Nat) (F : Nat → Nat → Prop) (hne : ∃ i j, F i j) (hb : ∀ i j, F i j → i < m ∧ j < n) (hR : ∀ i j, F i j → ∃ j', j' ≠ j ∧ F i j') (hC : ∀ i j, F i j → ∃ i', i' ≠ i ∧ F i' j) :
    ∃ D : Nat → Nat → Int, (∀ i j, D i j ≠ 0 → F i j) ∧ (∀ i j, -1 ≤ D i j ∧ D i j ≤ 1) ∧ (∀ i, i < m → sumN (D i) n = 0) ∧ (∀ j, j < n → sumN (fun i => D i j) m = 0) ∧ ∃ i j, D i j ≠ 0 := by
  have hstep : ∀ s : Nat × Nat, ∃ s' : Nat × Nat, F s.1 s.2 → s'.1 ≠ s.1 ∧ F s'.1 s.2 ∧ s'.2 ≠ s.2 ∧ F s'.1 s'.2 := by
    intro s
    by_cases h : F s.1 s.2
    · obtain ⟨i', h1, h2⟩ := hC _ _ h
      obtain ⟨j', h3, h4⟩ := hR _ _ h2
      exact ⟨(i', j'), fun _ => ⟨h1, h2, h3, h4⟩⟩
    · exact ⟨s, fun h2 => absurd h2 h⟩
  obtain ⟨i0, j0, h0⟩ := hne
  obtain ⟨s, hs0, hsn⟩ : ∃ s : Nat → Nat × Nat, s 0 = (i0, j0) ∧ ∀ k, s (k + 1) = Classical.choose (hstep (s k)) :=
    ⟨fun k => Nat.rec (i0, j0) (fun _ x => Classical.choose (hstep x)) k, rfl, fun _ => rfl⟩
  have hF : ∀ k, F (s k).1 (s k).2 := by
    intro k
    induction k with
    | zero => rw [hs0]; exact h0
    | succ k ih =>
      rw [hsn]
      exact (Classical.choose_spec (hstep (s k)) ih).2.2.2
  have hS : ∀ k, (s (k + 1)).1 ≠ (s k).1 ∧ F (s (k + 1)).1 (s k).2 ∧ (s (k + 1)).2 ≠ (s k).2 := by
    intro k
    have := Classical.choose_spec (hstep (s k)) (hF k)
    rw [hsn]
    exact ⟨this.1, this.2.1, this.2.2.1⟩
  obtain ⟨a, ha⟩ : ∃ a : Nat → Nat, ∀ k, a k = (s k).1 := ⟨fun k => (s k).1, fun _ => rfl⟩
  obtain ⟨g, hg⟩ : ∃ g : Nat → Nat, ∀ k, g k = (s k).2 := ⟨fun k => (s k).2, fun _ => rfl⟩
  simp only [← ha, ← hg] at hF hS
  obtain ⟨p0, q0, hpq0, _, he0⟩ := pigeon n g fun k _ => (hb _ _ (hF k)).2
  obtain ⟨q, ⟨p, hpq, he⟩, hmin⟩ := least (P := fun q => ∃ p, p < q ∧ g p = g q) ⟨q0, p0, hpq0, he0⟩
  have hd : ∀ x y, x < y → y < q → g x ≠ g y := fun x y hxy hy e => hmin y hy ⟨x, hxy, e⟩
  have hq2 : p + 2 ≤ q := by
    by_cases e : q = p + 1
    · subst e; exact absurd he.symm (hS p).2.2
    · omega
  refine ⟨fun i j => sumN (fun k => (if i = a (p + k + 1) ∧ j = g (p + k) then 1 else 0) - (if i = a (p + k + 1) ∧ j = g (p + k + 1) then 1 else 0)) (q - p), ?_, ?_, ?_, ?_, ?_⟩
  · intro i j hD
    apply Classical.byContradiction
    intro hnF
    refine hD (sumN_zero _ fun k hk => ?_)
    rw [if_neg, if_neg]
    · rfl
    · rintro ⟨rfl, rfl⟩; exact hnF (hF _)
    · rintro ⟨rfl, rfl⟩; exact hnF (hS _).2.1
  · intro i j
    simp only []
    rw [sumN_minus]
    have h1 := atmost (f := fun k => if i = a (p + k + 1) ∧ j = g (p + k) then 1 else 0) (q - p) (fun k _ => ind01) fun x y hxy hy => by
      by_cases e : j = g (p + x)
      · right
        rw [if_neg]
        rintro ⟨_, e2⟩
        exact hd (p + x) (p + y) (by omega) (by omega) (e.symm.trans e2)
      · left
        rw [if_neg]
        exact fun h => e h.2
    have h2 := atmost (f := fun k => if i = a (p + k + 1) ∧ j = g (p + k + 1) then 1 else 0) (q - p) (fun k _ => ind01) fun x y hxy hy => by
      by_cases e : j = g (p + x + 1)
      · right
        rw [if_neg]
        rintro ⟨_, e2⟩
        by_cases e3 : p + y + 1 = q
        · rw [e3, ← he] at e2
          exact hd p (p + x + 1) (by omega) (by omega) (e2.symm.trans e)
        · exact hd (p + x + 1) (p + y + 1) (by omega) (by omega) (e.symm.trans e2)
      · left
        rw [if_neg]
        exact fun h => e h.2
    omega
  · intro i hi
    rw [sumN_comm]
    refine sumN_zero _ fun k hk => ?_
    rw [sumN_minus]
    by_cases e : i = a (p + k + 1)
    · have h1 := sumN_at (x := 1) n (hb _ _ (hF (p + k))).2
      have h2 := sumN_at (x := 1) n (hb _ _ (hF (p + k + 1))).2
      simp only [e, true_and]
      omega
    · simp only [e, false_and, if_false]
      omega
  · intro j hj
    rw [sumN_comm]
    have key : ∀ k, k < q - p → sumN (fun i => (if i = a (p + k + 1) ∧ j = g (p + k) then (1 : Int) else 0) - (if i = a (p + k + 1) ∧ j = g (p + k + 1) then 1 else 0)) m = (if j = g (p + k) then 1 else 0) - (if j = g (p + (k + 1)) then 1 else 0) := by
      intro k hk
      rw [sumN_minus]
      have hA := (hb _ _ (hF (p + k + 1))).1
      have h1 := sumN_at (x := 1) m hA
      have hind : ∀ (Q : Prop) [Decidable Q], sumN (fun i => if i = a (p + k + 1) ∧ Q then (1 : Int) else 0) m = if Q then 1 else 0 := by
        intro Q _
        by_cases hQ : Q
        · simp only [hQ, and_true, if_true]; exact h1
        · simp only [hQ, and_false, if_false]; exact sumN_none m
      rw [hind, hind]
      rfl
    rw [sumN_same _ key, tele (h := fun k => if j = g (p + k) then (1 : Int) else 0)]
    simp only [Nat.add_zero, show p + (q - p) = q by omega, he]
    omega
  · refine ⟨a (p + 2), g (p + 1), ?_⟩
    simp only []
    rw [sumN_minus]
    have h1 : 0 < sumN (fun k => if a (p + 2) = a (p + k + 1) ∧ g (p + 1) = g (p + k) then (1 : Int) else 0) (q - p) := by
      refine sumN_pos _ (fun k _ => by split <;> omega) ⟨1, by omega, ?_⟩
      simp
    have h2 : sumN (fun k => if a (p + 2) = a (p + k + 1) ∧ g (p + 1) = g (p + k + 1) then (1 : Int) else 0) (q - p) = 0 := by
      refine sumN_zero _ fun k hk => if_neg ?_
      rintro ⟨e1, e2⟩
      by_cases e3 : p + k + 1 = q
      · rw [e3, ← he] at e2
        exact (hS p).2.2 e2
      · by_cases e4 : k = 0
        · subst e4
          exact (hS (p + 1)).1 e1
        · exact hd (p + 1) (p + k + 1) (by omega) (by omega) e2
    omega
end Go.Proofs

