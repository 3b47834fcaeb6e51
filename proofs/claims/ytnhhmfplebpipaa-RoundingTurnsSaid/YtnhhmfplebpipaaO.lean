import Derived.Test.YtnhhmfplebpipaaN
set_option linter.unusedSimpArgs false
set_option linter.unusedVariables false
namespace Go.Proofs
open Go Go.TL
def prod : List (List Int) → List (List Int)
  | [] => [[]]
  | v :: r => v.flatMap fun x => (prod r).map (x :: ·)
theorem near_choi {n x b : Int} (hb : 1 ≤ b) : nearB n x b = true ↔ x ∈ choi n b := by
  have h1 := Int.emod_nonneg n (b := b) (by omega)
  have h2 := Int.emod_lt_of_pos n (b := b) (by omega)
  constructor
  · intro h
    simp only [nearB, Bool.and_eq_true, decide_eq_true_eq, beq_iff_eq] at h
    obtain ⟨k, rfl⟩ := Int.dvd_of_tmod_eq_zero h.2
    obtain ⟨q, hq⟩ := lo_dvd b n
    unfold loB at hq
    have hk1 : b * k = b * q ∨ b * k = b * q + b ∨ b * k = b * q - b := by
      have hk : q - 1 ≤ k := by
        apply Int.le_of_mul_le_mul_left (a := b) (by rw [Int.mul_sub]; omega) (by omega)
      have hk2 : k < q + 2 := by
        apply Int.lt_of_mul_lt_mul_left (a := b) (by rw [Int.mul_add]; omega) (by omega)
      have : k = q ∨ k = q + 1 ∨ k = q - 1 := by omega
      rcases this with e | e | e
      · left; rw [e]
      · right; left; rw [e, Int.mul_add]; omega
      · right; right; rw [e, Int.mul_sub]; omega
    unfold choi
    split
    · simp only [List.mem_singleton]; omega
    · simp only [List.mem_cons, List.not_mem_nil, or_false]; omega
  · intro h
    obtain ⟨q, hq⟩ := lo_dvd b n
    unfold loB at hq
    refine near_of hb ?_ ?_
    · unfold choi at h
      split at h
      · rename_i h0
        simp only [List.mem_singleton] at h
        rw [h]; exact Int.dvd_of_emod_eq_zero h0
      · simp only [List.mem_cons, List.not_mem_nil, or_false] at h
        rcases h with h | h
        · exact ⟨q, by omega⟩
        · exact ⟨q + 1, by rw [Int.mul_add]; omega⟩
    · unfold loB hiB
      unfold choi at h
      split at h
      · rename_i h0
        simp only [List.mem_singleton] at h
        rw [if_pos h0]
        omega
      · rename_i h0
        simp only [List.mem_cons, List.not_mem_nil, or_false] at h
        rw [if_neg h0]
        omega
theorem mem_prod {b : Int} (hb : 1 ≤ b) : ∀ {t x : List Int}, x ∈ prod (t.map fun n => choi n b) ↔ x.length = t.length ∧ nearAll t x b = true
  | [], x => by
    simp only [List.map_nil, prod, List.mem_singleton, List.length_nil]
    constructor
    · rintro rfl; exact ⟨rfl, rfl⟩
    · intro h; exact List.eq_nil_of_length_eq_zero h.1
  | n :: t, [] => by
    simp only [List.map_cons, prod, List.mem_flatMap, List.mem_map, List.length_cons, List.length_nil]
    constructor
    · rintro ⟨_, _, _, _, h⟩; cases h
    · intro h; omega
  | n :: t, y :: x => by
    have e : nearAll (n :: t) (y :: x) b = (nearB n y b && nearAll t x b) := rfl
    simp only [List.map_cons, prod, List.mem_flatMap, List.mem_map, List.length_cons, e, Bool.and_eq_true]
    constructor
    · rintro ⟨z, hz, w, hw, h⟩
      injection h with h1 h2
      subst h1 h2
      have := (mem_prod hb).1 hw
      exact ⟨by omega, (near_choi hb).2 hz, this.2⟩
    · rintro ⟨h1, h2, h3⟩
      exact ⟨y, (near_choi hb).1 h2, x, (mem_prod hb).2 ⟨by omega, h3⟩, rfl⟩
/-- the table with its sums, so that all lines come to nothing -/
def extM (r c : Nat) (t : List Int) (i j : Nat) : Int :=
  if i < r then (if j < c then at0 t (i * c + j) else - rS t c i c) else (if j < c then - cS t c j r else tS t c r)
theorem ext_row {r c : Nat} {t : List Int} (i : Nat) (hi : i < r + 1) : sumN (extM r c t i) (c + 1) = 0 := by
  simp only [sumN]
  by_cases h : i < r
  · have e1 : sumN (extM r c t i) c = rS t c i c := sumN_same c fun k hk => by unfold extM; rw [if_pos h, if_pos hk]
    rw [e1]
    unfold extM
    rw [if_pos h, if_neg (by omega)]
    omega
  · have e1 : sumN (extM r c t i) c = - sumN (fun k => cS t c k r) c := by
      rw [← sumN_neg]
      exact sumN_same c fun k hk => by unfold extM; rw [if_neg h, if_pos hk]
    rw [e1]
    unfold extM
    rw [if_neg h, if_neg (by omega)]
    have e2 : sumN (fun k => cS t c k r) c = tS t c r := by
      unfold cS tS rS
      exact sumN_comm r c
    rw [e2]
    omega
theorem ext_col {r c : Nat} {t : List Int} (j : Nat) (hj : j < c + 1) : sumN (fun i => extM r c t i j) (r + 1) = 0 := by
  simp only [sumN]
  by_cases h : j < c
  · have e1 : sumN (fun i => extM r c t i j) r = cS t c j r := sumN_same r fun k hk => by unfold extM; rw [if_pos hk, if_pos h]
    rw [e1]
    unfold extM
    rw [if_neg (by omega), if_pos h]
    omega
  · have e1 : sumN (fun i => extM r c t i j) r = - sumN (fun k => rS t c k c) r := by
      rw [← sumN_neg]
      exact sumN_same r fun k hk => by unfold extM; rw [if_pos hk, if_neg h]
    rw [e1]
    unfold extM
    rw [if_neg (by omega), if_neg h]
    unfold tS
    omega
theorem near_neg {n x b : Int} (h : nearB (-n) (-x) b = true) : nearB n x b = true := by
  simp only [nearB, Bool.and_eq_true, decide_eq_true_eq, beq_iff_eq] at h ⊢
  refine ⟨⟨by omega, by omega⟩, ?_⟩
  have := h.2
  rw [Int.neg_tmod] at this
  omega
theorem div_idx {i c k : Nat} (hk : k < c) : (i * c + k) / c = i ∧ (i * c + k) % c = k := by
  rw [Nat.mul_comm]
  exact ⟨by rw [Nat.mul_add_div (by omega), Nat.div_eq_of_lt hk]; rfl, by rw [Nat.mul_add_mod, Nat.mod_eq_of_lt hk]⟩
theorem exists_fit {r c : Nat} {t : List Int} {b : Int} (hb : 1 ≤ b) : ∃ x : List Int, x.length = r * c ∧ fitR r c t x b = true := by
  obtain ⟨X, hF, hd⟩ := round_exists (m := r + 1) (n := c + 1) (M := extM r c t) hb ext_row ext_col
  have hnear : ∀ i j, i < r + 1 → j < c + 1 → nearB (extM r c t i j) (X i j) b = true := fun i j hi hj => near_of hb (hd i j hi hj) (hF.box i j hi hj)
  obtain ⟨x, hx⟩ : ∃ x, (List.range (r * c)).map (fun q => X (q / c) (q % c)) = x := ⟨_, rfl⟩
  have hxl : x.length = r * c := by rw [← hx]; simp
  have hat : ∀ i k, i < r → k < c → at0 x (i * c + k) = X i k := by
    intro i k hi hk
    have h1 := idx_lt hi hk
    unfold at0
    rw [getD_get (by omega)]
    subst hx
    simp only [List.getElem_map, List.getElem_range, (div_idx hk).1, (div_idx hk).2]
  have hrS : ∀ i, i < r → rS x c i c = - X i c := by
    intro i hi
    have h1 := hF.row i (by omega)
    simp only [sumN] at h1
    have e : rS x c i c = sumN (X i) c := sumN_same c fun k hk => hat i k hi hk
    omega
  have hcS : ∀ k, k < c → cS x c k r = - X r k := by
    intro k hk
    have h1 := hF.col k (by omega)
    simp only [sumN] at h1
    have e : cS x c k r = sumN (fun i => X i k) r := sumN_same r fun i hi => hat i k hi hk
    omega
  have htS : tS x c r = X r c := by
    have h1 := hF.col c (by omega)
    simp only [sumN] at h1
    have e : tS x c r = - sumN (fun i => X i c) r := by
      rw [← sumN_neg]
      exact sumN_same r fun i hi => hrS i hi
    omega
  refine ⟨x, hxl, fitR_iff.2 ⟨fun i hi => ⟨fun k hk => ?_, ?_⟩, fun k hk => ?_, ?_⟩⟩
  · have := hnear i k (by omega) (by omega)
    unfold extM at this
    rw [if_pos hi, if_pos hk] at this
    rw [hat i k hi hk]
    exact this
  · have := hnear i c (by omega) (by omega)
    unfold extM at this
    rw [if_pos hi, if_neg (by omega)] at this
    rw [hrS i hi]
    refine near_neg ?_
    rw [Int.neg_neg]
    exact this
  · have := hnear r k (by omega) (by omega)
    unfold extM at this
    rw [if_neg (by omega), if_pos hk] at this
    rw [hcS k hk]
    refine near_neg ?_
    rw [Int.neg_neg]
    exact this
  · have := hnear r c (by omega) (by omega)
    unfold extM at this
    rw [if_neg (by omega), if_neg (by omega)] at this
    rw [htS]
    exact this
/-- the first table that fits -/
def fstT (r c : Nat) (t : List Int) (b : Int) : List Int := ((prod (t.map fun n => choi n b)).find? (fun x => solB r c t x b)).getD []
theorem fst_some {r c : Nat} {t : List Int} {b : Int} (hc : 0 < c) (hb : 1 ≤ b) (ht : t.length = r * c) : (prod (t.map fun n => choi n b)).find? (fun x => solB r c t x b) = some (fstT r c t b) := by
  obtain ⟨x, hx, hfit⟩ := exists_fit (r := r) (c := c) (t := t) hb
  have hsol := (sol_iff hc ht hx).2 hfit
  have hmem : x ∈ prod (t.map fun n => choi n b) := (mem_prod hb).2 ⟨by omega, by
    unfold solB at hsol
    simp only [Bool.and_eq_true] at hsol
    exact hsol.1⟩
  unfold fstT
  cases h : (prod (t.map fun n => choi n b)).find? (fun x => solB r c t x b) with
  | none =>
    have := List.find?_eq_none.1 h x hmem
    exact absurd hsol this
  | some y => rfl
theorem fst_ok {r c : Nat} {t : List Int} {b : Int} (hc : 0 < c) (hb : 1 ≤ b) (ht : t.length = r * c) : (fstT r c t b).length = r * c ∧ solB r c t (fstT r c t b) b = true := by
  have h := fst_some hc hb ht
  have h1 := List.find?_some h
  have h2 := (mem_prod hb).1 (List.mem_of_find?_eq_some h)
  exact ⟨by omega, h1⟩
end Go.Proofs

