import Derived.Test.YtnhhmfplebpipaaO
set_option linter.unusedSimpArgs false
set_option linter.unusedVariables false
namespace Go.Proofs
open Go Go.TL
/-! ltSto, ltO2, ltO1, ltAs, ltA, ltC, ltCs, ltT, ltFr, ltS, wrOk, wrO, TL.get, hasFr, ↓reduceIte, Nat.reduceEqDiff, reduceCtorEq, Option.getD_some, Option.isSome_some, List.length_map, List.length_append, List.length_cons, List.length_nil, List.append_nil, List.mem_singleton, List.mem_cons, List.not_mem_nil, and_true, true_and, and_self, imp_self, forall_const, false_implies, implies_true, true_implies, or_false, Bool.false_eq_true, Bool.true_eq_false, ImXs_nil, true_or, or_true, false_or, false_and, and_false# the enumeration of the reference -/
theorem pk_add : ∀ (V : List (List Int)) (bits m : Nat), pk V (bits + 2 ^ V.length * m) = pk V bits
  | [], _, _ => rfl
  | v :: V, bits, m => by
    unfold pk
    have e1 : bits + 2 ^ (v :: V).length * m = bits + 2 ^ V.length * (2 * m) := by
      rw [List.length_cons, Nat.pow_succ, Nat.mul_assoc]
    have hpos : 0 < 2 ^ V.length := Nat.pow_pos (by omega)
    have e2 : (bits + 2 ^ (v :: V).length * m) / 2 ^ V.length % 2 = bits / 2 ^ V.length % 2 := by
      rw [e1, Nat.add_mul_div_left _ _ hpos]
      omega
    rw [e2, e1, pk_add V bits (2 * m)]
theorem filterMap_same {α β : Type} {f g : α → Option β} : ∀ {l : List α}, (∀ x ∈ l, f x = g x) → l.filterMap f = l.filterMap g
  | [], _ => rfl
  | x :: l, h => by
    rw [List.filterMap_cons, List.filterMap_cons, h x (by simp), filterMap_same (l := l) fun y hy => h y (by simp [hy])]
theorem two_el {v : List Int} (h : v.length = 2) : ∃ a b, v = [a, b] := by
  match v, h with
  | [a, b], _ => exact ⟨a, b, rfl⟩
theorem one_el {v : List Int} (h : v.length = 1) : ∃ a, v = [a] := by
  match v, h with
  | [a], _ => exact ⟨a, rfl⟩
theorem range_prod : ∀ (V : List (List Int)), (∀ v ∈ V, 1 ≤ v.length ∧ v.length ≤ 2) → (List.range (2 ^ V.length)).filterMap (pk V) = prod V
  | [], _ => by decide
  | v :: V, h => by
    have ih := range_prod V fun w hw => h w (by simp [hw])
    have hv := h v (by simp)
    have hpos : 0 < 2 ^ V.length := Nat.pow_pos (by omega)
    have e : 2 ^ (v :: V).length = 2 ^ V.length + 2 ^ V.length := by rw [List.length_cons, Nat.pow_succ]; omega
    rw [e, List.range_add, List.filterMap_append, List.filterMap_map]
    have h1 : ∀ x ∈ List.range (2 ^ V.length), pk (v :: V) x = (pk V x).map (v[0] :: ·) := by
      intro x hx
      have hx : x < 2 ^ V.length := by simpa using hx
      unfold pk
      rw [Nat.div_eq_of_lt hx]
      simp only [Nat.zero_mod]
      rw [List.getElem?_eq_getElem (by omega)]
      cases V <;> rfl
    rw [filterMap_same h1]
    have e1 : (List.range (2 ^ V.length)).filterMap (fun x => (pk V x).map (v[0] :: ·)) = ((List.range (2 ^ V.length)).filterMap (pk V)).map (v[0] :: ·) := by
      rw [List.map_filterMap]
    rw [e1, ih]
    by_cases h2 : v.length = 2
    · have h3 : ∀ x ∈ List.range (2 ^ V.length), (pk (v :: V) ∘ fun x => 2 ^ V.length + x) x = (pk V x).map (v[1] :: ·) := by
        intro x hx
        have hx : x < 2 ^ V.length := by simpa using hx
        show pk (v :: V) (2 ^ V.length + x) = _
        unfold pk
        have e2 : (2 ^ V.length + x) / 2 ^ V.length % 2 = 1 := by
          rw [Nat.add_div_left _ hpos, Nat.div_eq_of_lt hx]
        rw [e2, List.getElem?_eq_getElem (by omega)]
        have e3 : 2 ^ V.length + x = x + 2 ^ V.length * 1 := by omega
        simp only []
        rw [e3, pk_add]
        cases V <;> rfl
      rw [filterMap_same h3]
      have e2 : (List.range (2 ^ V.length)).filterMap (fun x => (pk V x).map (v[1] :: ·)) = ((List.range (2 ^ V.length)).filterMap (pk V)).map (v[1] :: ·) := by
        rw [List.map_filterMap]
      rw [e2, ih]
      obtain ⟨a, b, rfl⟩ := two_el h2
      simp [prod]
    · have h3 : ∀ x ∈ List.range (2 ^ V.length), (pk (v :: V) ∘ fun x => 2 ^ V.length + x) x = none := by
        intro x hx
        have hx : x < 2 ^ V.length := by simpa using hx
        show pk (v :: V) (2 ^ V.length + x) = _
        unfold pk
        have e2 : (2 ^ V.length + x) / 2 ^ V.length % 2 = 1 := by
          rw [Nat.add_div_left _ hpos, Nat.div_eq_of_lt hx]
        rw [e2, List.getElem?_eq_none (by omega)]
      rw [filterMap_same (g := fun _ => none) h3]
      have e2 : (List.range (2 ^ V.length)).filterMap (fun _ => (none : Option (List Int))) = [] := by
        rw [List.filterMap_eq_nil_iff]; intros; rfl
      rw [e2, List.append_nil]
      obtain ⟨a, rfl⟩ := one_el (v := v) (by omega)
      simp [prod]
theorem choi_len (n b : Int) : 1 ≤ (choi n b).length ∧ (choi n b).length ≤ 2 := by
  unfold choi; split <;> simp
theorem find_same {α : Type} {p q : α → Bool} : ∀ {l : List α}, (∀ x ∈ l, p x = q x) → l.find? p = l.find? q
  | [], _ => rfl
  | x :: l, h => by
    rw [List.find?_cons, List.find?_cons, h x (by simp), find_same (l := l) fun y hy => h y (by simp [hy])]
theorem ref_fst {r c : Nat} {t : List Int} {b : Int} (hc : 0 < c) (hb : 1 ≤ b) (ht : t.length = r * c) :
    ((List.range (2 ^ t.length)).filterMap (pk (t.map fun n => choi n b))).find? (fun x => fitR r c t x b) = some (fstT r c t b) := by
  have e : t.length = (t.map fun n => choi n b).length := by simp
  rw [e, range_prod _ fun v hv => by
    obtain ⟨n, _, rfl⟩ := List.mem_map.1 hv
    exact choi_len n b]
  rw [← fst_some hc hb ht]
  refine find_same fun x hx => ?_
  have := (mem_prod hb).1 hx
  exact sol_eq hc ht (by omega)
/-! ltSto, ltO2, ltO1, ltAs, ltA, ltC, ltCs, ltT, ltFr, ltS, wrOk, wrO, TL.get, hasFr, ↓reduceIte, Nat.reduceEqDiff, reduceCtorEq, Option.getD_some, Option.isSome_some, List.length_map, List.length_append, List.length_cons, List.length_nil, List.append_nil, List.mem_singleton, List.mem_cons, List.not_mem_nil, and_true, true_and, and_self, imp_self, forall_const, false_implies, implies_true, true_implies, or_false, Bool.false_eq_true, Bool.true_eq_false, ImXs_nil, true_or, or_true, false_or, false_and, and_false# the search -/
theorem gS_app {p q : List Int} {c r i j : Nat} (h : i ≤ p.length) : gS (p ++ q) c r i j = gS p c r i j := by
  have hat : ∀ x, x < i → at0 (p ++ q) x = at0 p x := by
    intro x hx
    unfold at0
    rw [getD_get (by simp; omega), getD_get (by omega), List.getElem_append_left]
  unfold gS
  split
  · exact sumN_same i fun x hx => by rw [hat x hx]
  · split
    · exact sumN_same i fun x hx => by rw [hat x hx]
    · exact sumN_same i fun x hx => hat x hx
theorem gS_done {x : List Int} {c r i j m : Nat} (hc : 0 < c) (hj : j < r) (h : (j + 1) * c ≤ i) : gS x c r (i + m) j = gS x c r i j := by
  unfold gS
  rw [if_pos hj, if_pos hj, sumN_add, sumN_zero m fun k hk => if_neg fun e => ?_]
  · omega
  · have := Nat.lt_mul_of_div_lt (show (i + k) / c < j + 1 by omega) (by omega)
    omega
theorem gS_none {x : List Int} {c r i j : Nat} (hj : j < r) (h : i ≤ j * c) : gS x c r i j = 0 := by
  unfold gS
  rw [if_pos hj]
  refine sumN_zero i fun k hk => if_neg fun e => ?_
  have := Nat.div_mul_le_self k c
  rw [e] at this
  omega
theorem gS_next {x : List Int} {c r i j : Nat} : gS x c r (i + 1) j = gS x c r i j + (if j < r then (if i / c = j then at0 x i else 0) else if j < r + c then (if i % c = j - r then at0 x i else 0) else at0 x i) := by
  unfold gS
  by_cases h1 : j < r
  · simp only [h1, if_true, sumN]
  · by_cases h2 : j < r + c
    · simp only [h1, h2, if_true, if_false, sumN]
    · simp only [h1, h2, if_false, sumN]
theorem take_set {l : List Int} {i : Nat} {n : Int} (h : i < l.length) : (l.set i n).take (i + 1) = l.take i ++ [n] := by
  rw [List.take_succ_eq_append_getElem (by simpa using h), List.getElem_set_self, List.take_set_of_le (Nat.le_refl i)]
theorem nxt_take {c r : Nat} {b : Int} {t w : List Int} : ∀ (k i : Nat) (s : S34), (nxt c r b t w k i s).2.o.take i = s.o.take i := by
  intro k
  induction k with
  | zero =>
    intro i s
    unfold nxt
    split <;> rfl
  | succ k ih =>
    intro i s
    unfold nxt
    split
    · rfl
    · generalize choi (at0 t i) b = L
      have key : ∀ (L : List Int) (s' : S34), s'.o.take i = s.o.take i → (tryL (nxt c r b t w k (i + 1)) (mkS c i s.col (rowS c i s) s.all) L s').2.o.take i = s.o.take i := by
        intro L
        induction L with
        | nil => exact fun s' h => h
        | cons n L ihL =>
          intro s' h1
          have h3 := ih (i + 1) (mkS c i s.col (rowS c i s) s.all n s')
          have h4 : (nxt c r b t w k (i + 1) (mkS c i s.col (rowS c i s) s.all n s')).2.o.take i = s.o.take i := by
            have h5 := congrArg (List.take i) h3
            rw [List.take_take, List.take_take, Nat.min_eq_left (Nat.le_succ i)] at h5
            rw [h5]
            show (s'.o.set i n).take i = _
            rw [List.take_set_of_le (Nat.le_refl i), h1]
          unfold tryL
          split
          · exact h4
          · exact ihL _ h4
      exact key L s rfl
end Go.Proofs

