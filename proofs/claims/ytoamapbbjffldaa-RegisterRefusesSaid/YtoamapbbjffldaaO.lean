import Derived.Test.YtoamapbbjffldaaN
set_option linter.unusedSimpArgs false
set_option linter.unusedVariables false
namespace Go.Proofs
open Go Go.TL
/-! ltSto, ltO2, ltO1, ltAs, ltA, ltC, ltCs, ltT, ltFr, ltS, wrOk, wrO, TL.get, hasFr, ↓reduceIte, Nat.reduceEqDiff, reduceCtorEq, Option.getD_some, Option.isSome_some, List.length_map, List.length_append, List.length_cons, List.length_nil, List.append_nil, List.mem_singleton, List.mem_cons, List.not_mem_nil, and_true, true_and, and_self, imp_self, forall_const, false_implies, implies_true, true_implies, or_false, Bool.false_eq_true, Bool.true_eq_false, ImXs_nil, true_or, or_true, false_or, false_and, and_false, rmK, rm1# the plain laws of registers -/
theorem fe_take {l : List Ent} {m : Nat} : ∀ n, n ≤ m → feI (l.take m) n = feI l n
  | 0, _ => rfl
  | n + 1, h => by
    have ih := fe_take (l := l) (m := m) n (by omega)
    have e1 : (l.take m)[n]? = l[n]? := by rw [List.getElem?_take, if_pos (by omega)]
    have e2 : (l.take m).take n = l.take n := by rw [List.take_take, Nat.min_eq_left (by omega)]
    simp only [feI, ih, e1]
    cases l[n]? with
    | none => rfl
    | some x =>
      simp only
      unfold errE
      rw [e2]
theorem chk_take {l : List Ent} (h : chkI l = 0) (m : Nat) : chkI (l.take m) = 0 := by
  have hl := chk_len h
  unfold chkI
  rw [if_neg (by rw [List.length_take]; omega), List.length_take, fe_take _ (by omega)]
  by_cases hm : m ≤ l.length
  · rw [Nat.min_eq_left hm]
    apply Classical.byContradiction
    intro hn
    have := fe_stays hn l.length hm
    rw [chk_fe h] at this
    exact hn this.symm
  · rw [Nat.min_eq_right (by omega)]
    exact chk_fe h
/-- what is in force -/
theorem force_iff {l : List Ent} (hc : chkI l = 0) : ∀ {i : Nat}, i ≤ l.length → ∀ m, m ∈ forceI (l.take i) ↔ ∃ j, ∃ h : j < l.length, j < i ∧ m = j + 1 ∧ l[j].kind ≠ 2 ∧ ∀ k (hk : k < l.length), k < i → l[k].kind = 1 ∨ l[k].of_ ≠ m
  | 0, _, m => by simp [forceI]
  | i + 1, hi, m => by
    have hlt : i < l.length := by omega
    have ih := force_iff hc (i := i) (by omega) m
    have hfm := force_mem (l := l) (i := i) (by omega) (fun j h _ => chk_num hc j h)
    have hnum := chk_num hc i hlt
    have hof : l[i].kind ≠ 1 → ∃ j, ∃ hj : j < l.length, j < i ∧ l[i].of_ = j + 1 ∧ l[j].kind ≠ 2 := chk_of hc i hlt
    rw [force_step hlt]
    have hold : m ∈ (if l[i].kind = 1 then forceI (l.take i) else dropI l[i].of_ (forceI (l.take i))) ↔ m ∈ forceI (l.take i) ∧ (l[i].kind = 1 ∨ l[i].of_ ≠ m) := by
      split
      · rename_i hk; simp [hk]
      · rename_i hk
        unfold dropI
        rw [List.mem_filter]
        simp only [hk, false_or, Bool.not_eq_true', beq_eq_false_iff_ne, ne_eq]
        constructor
        · rintro ⟨h1, h2⟩; exact ⟨h1, fun e => h2 e.symm⟩
        · rintro ⟨h1, h2⟩; exact ⟨h1, fun e => h2 e.symm⟩
    have key : m ∈ stepI (forceI (l.take i)) l[i] ↔ (m ∈ forceI (l.take i) ∧ (l[i].kind = 1 ∨ l[i].of_ ≠ m)) ∨ (m = i + 1 ∧ l[i].kind ≠ 2) := by
      rw [← hold]
      unfold stepI
      simp only
      by_cases h2 : l[i].kind = 2
      · rw [if_pos h2]; simp [h2]
      · rw [if_neg h2, List.mem_append]
        simp only [List.mem_cons, List.not_mem_nil, or_false, hnum]
        simp [h2]
    rw [key, ih]
    constructor
    · rintro (⟨⟨j, h, h1, h2, h3, h4⟩, h5⟩ | ⟨h1, h2⟩)
      · refine ⟨j, h, by omega, h2, h3, fun k hk hki => ?_⟩
        by_cases e : k = i
        · subst e; exact h5
        · exact h4 k hk (by omega)
      · refine ⟨i, hlt, by omega, h1, h2, fun k hk hki => ?_⟩
        by_cases hk1 : l[k].kind = 1
        · exact .inl hk1
        · obtain ⟨j, hj, hjk, ho, _⟩ := chk_of hc k hk hk1
          refine .inr (by omega)
    · rintro ⟨j, h, h1, h2, h3, h4⟩
      by_cases e : j = i
      · subst e; exact .inr ⟨h2, h3⟩
      · exact .inl ⟨⟨j, h, by omega, h2, h3, fun k hk hki => h4 k hk (by omega)⟩, h4 i hlt (by omega)⟩
theorem forceA_iff {l : List Ent} (hc : chkI l = 0) (m : Int) : m ∈ forceA l ↔ ∃ j, ∃ h : j < l.length, m = j + 1 ∧ l[j].kind ≠ 2 ∧ ∀ k (hk : k < l.length), l[k].kind = 1 ∨ l[k].of_ ≠ m := by
  rw [forceA, if_pos hc]
  have := force_iff hc (Nat.le_refl _) m
  rw [List.take_length] at this
  rw [this]
  constructor
  · rintro ⟨j, h, _, h2, h3, h4⟩
    exact ⟨j, h, h2, h3, fun k hk => h4 k hk hk⟩
  · rintro ⟨j, h, h2, h3, h4⟩
    exact ⟨j, h, h, h2, h3, fun k hk _ => h4 k hk⟩
theorem force_asc {l : List Ent} (hc : chkI l = 0) : ∀ {i : Nat}, i ≤ l.length → (forceI (l.take i)).Pairwise (· < ·)
  | 0, _ => by simp [forceI]
  | i + 1, hi => by
    have hlt : i < l.length := by omega
    have ih := force_asc hc (i := i) (by omega)
    have hfm := force_mem (l := l) (i := i) (by omega) (fun j h _ => chk_num hc j h)
    rw [force_step hlt]
    have hd : (if l[i].kind = 1 then forceI (l.take i) else dropI l[i].of_ (forceI (l.take i))).Pairwise (· < ·) := by
      split
      · exact ih
      · exact ih.filter _
    have hsub : ∀ m ∈ (if l[i].kind = 1 then forceI (l.take i) else dropI l[i].of_ (forceI (l.take i))), m ∈ forceI (l.take i) := by
      intro m hm
      split at hm
      · exact hm
      · exact (List.mem_filter.1 hm).1
    unfold stepI
    simp only
    split
    · exact hd
    · rw [List.pairwise_append]
      refine ⟨hd, by simp, fun a ha b hb => ?_⟩
      simp only [List.mem_cons, List.not_mem_nil, or_false] at hb
      obtain ⟨j, h, h1, h2, _⟩ := hfm a (hsub a ha)
      rw [hb, chk_num hc i hlt]
      omega
theorem forceA_asc {l : List Ent} (hc : chkI l = 0) : (forceA l).Pairwise (· < ·) := by
  rw [forceA, if_pos hc]
  have := force_asc hc (Nat.le_refl l.length)
  rwa [List.take_length] at this
theorem forceA_len {l : List Ent} (hc : chkI l = 0) : (forceA l).length ≤ 60 := by
  rw [forceA, if_pos hc]
  have := force_len l l.length (Nat.le_refl _)
  rw [List.take_length] at this
  have := chk_len hc
  omega
/-- each output is found at the entry that has it -/
theorem find_own {l : List Ent} (hc : chkI l = 0) {i : Nat} (hi : i < l.length) (ho : l[i].out > 0) : findA l l[i].out = l[i].num := by
  rw [findA, if_neg (by simp [hc]; omega)]
  have h1 : (l.take i).any (fun x => x.out == l[i].out) = false := by
    have hok := chk_ok hc l[i] (List.getElem_mem _)
    have hk : l[i].kind ≠ 2 := fun hk => by have := hok.2.1 hk; omega
    exact (about_of (chk_about hc i hi)).2.2 hk
  rw [find_atQ hi h1 (by simp)]
theorem find_pos {l : List Ent} (hc : chkI l = 0) {n : Int} (hn : 1 ≤ n) : decide (findA l n > 0) = l.any (fun x => x.out == n) := by
  rw [findA, if_neg (by simp [hc]; omega)]
  cases h : l.any (fun x => x.out == n)
  · rw [find_noneQ h]; rfl
  · obtain ⟨i, hi, h1, h2⟩ : ∃ i, ∃ h : i < l.length, (l.take i).any (fun x => x.out == n) = false ∧ (l[i].out == n) = true := by
      have hlt : l.findIdx (fun x => x.out == n) < l.length := List.findIdx_lt_length.2 (by simpa using h)
      refine ⟨_, hlt, ?_, List.findIdx_getElem (p := fun x : Ent => x.out == n)⟩
      rw [List.any_eq_false]
      intro x hx
      obtain ⟨j, hj, rfl⟩ := List.getElem_of_mem hx
      rw [List.length_take] at hj
      rw [List.getElem_take]
      have := List.not_of_lt_findIdx (p := fun x : Ent => x.out == n) (xs := l) (i := j) (by omega)
      simpa using this
    rw [find_atQ hi h1 h2]
    simp only [chk_num hc i hi]
    simp
/-- what Add says -/
theorem add_err {l : List Ent} (hc : chkI l = 0) (hl : l.length ≤ 8) (kind of_ out : Int) (text : ByteArray) : (addA l kind of_ out text).2 = aboutI l (newE l kind of_ out text) := by
  unfold addA
  rw [if_neg (fun h => h hc), if_neg (by omega)]
  split
  · rfl
  · rename_i h
    exact (Classical.byContradiction h : aboutI l (newE l kind of_ out text) = 0).symm
theorem force_zero {l : List Ent} (hc : chkI l = 0) {n : Int} : (forceI l).contains n = (forceA l).contains n := by rw [forceA, if_pos hc]
theorem add_release {l : List Ent} (hc : chkI l = 0) (hl : l.length ≤ 8) {k : Int} (hk : 1 ≤ k ∧ k ≤ 9) : ((addA l 1 0 k ⟨#[116]⟩).2 == 0) = !(l.any (fun x => x.out == k)) := by
  rw [add_err hc hl]
  have e : aboutI l (newE l 1 0 k ⟨#[116]⟩) = if l.any (fun y => y.out == k) = true then 11 else 0 := by
    unfold aboutI newE
    have e1 : (decide (k < 1) || decide (k > 40)) = false := by simp; omega
    simp only [e1]
    rfl
  rw [e]
  cases l.any (fun x => x.out == k) <;> rfl
theorem add_withdraw {l : List Ent} (hc : chkI l = 0) (hl : l.length ≤ 8) (n : Int) : (addA l 2 n 0 ⟨#[]⟩).2 = if (forceA l).contains n = true then 0 else 56 := by
  rw [add_err hc hl, ← force_zero hc]
  unfold aboutI newE
  dsimp only
  cases h : (forceI l).contains n
  · rfl
  · rw [show (⟨#[]⟩ : ByteArray).toList = [] by simp [ByteArray.toList_mk]]
    rfl
theorem add_super {l : List Ent} (hc : chkI l = 0) (hl : l.length ≤ 8) (n : Int) {k : Int} (hk : 1 ≤ k ∧ k ≤ 9) : (addA l 3 n k ⟨#[116]⟩).2 = if (forceA l).contains n = true then (if l.any (fun x => x.out == k) = true then 11 else 0) else 56 := by
  rw [add_err hc hl, ← force_zero hc]
  have e1 : (decide (k < 1) || decide (k > 40)) = false := by simp; omega
  unfold aboutI newE
  simp only [e1]
  cases h : (forceI l).contains n
  · rfl
  · rfl

end Go.Proofs

