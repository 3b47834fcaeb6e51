import Derived.Test.YtnhhmfplebpipaaB
set_option linter.unusedSimpArgs false
set_option linter.unusedVariables false
namespace Go.Proofs
open Go Go.TL
def spB (r c : Int) : Bool := decide (r < 1) || decide (c < 1) || decide (r > 12) || decide (c > 12) || decide (r * c > 12)
def checkE (r c : Int) (t : List Int) (b : Int) : Int := if spB r c = true then 55 else if (t.length : Int) ≠ r * c then 17 else if rightB t b = true then 0 else 2
theorem sp_ok {r c : Int} (h : spB r c = false) : (1 ≤ r ∧ r ≤ 12) ∧ (1 ≤ c ∧ c ≤ 12) ∧ r * c ≤ 12 := by
  simp only [spB, Bool.or_eq_false_iff, decide_eq_false_iff_not] at h
  omega
theorem sp_eq (r c : Int) : (decide (r < 1) || decide (c < 1) || decide (r > (12 : Int).tdiv (minI c 13))) = spB r c := by
  unfold spB
  by_cases h1 : r < 1
  · simp [h1]
  by_cases h2 : c < 1
  · simp [h1, h2]
  simp only [h1, h2, decide_false, Bool.false_or]
  by_cases h3 : c > 12
  · have : minI c 13 = 13 := by unfold minI; split <;> omega
    rw [this]
    have e : (12 : Int).tdiv 13 = 0 := by decide
    rw [e]
    have : decide (r > 0) = true := by simp; omega
    rw [this]
    simp [h3]
  · have hm : minI c 13 = c := by unfold minI; split <;> omega
    rw [hm, Int.tdiv_eq_ediv_of_nonneg (by omega)]
    have h4 : (r > 12 / c) ↔ r * c > 12 := by
      constructor
      · intro h; exact (Int.ediv_lt_iff_lt_mul (by omega)).1 h
      · intro h; exact (Int.ediv_lt_iff_lt_mul (by omega)).2 h
    have h5 : r > 12 → r * c > 12 := fun h => by
      have : r * 1 ≤ r * c := Int.mul_le_mul_of_nonneg_left (by omega) (by omega)
      omega
    simp only [h3, decide_false, Bool.or_false]
    by_cases h6 : r * c > 12
    · simp [h4.2 h6, h6]
    · have : ¬ r > 12 := fun h => h6 (h5 h)
      have h7 : ¬ r > 12 / c := fun h => h6 (h4.1 h)
      simp [h6, this, h7]
theorem sp_eq2 (r c : Int) : (decide (r < 1) || decide (c < 1) || decide (r > 12) || decide (c > 12) || decide (IntKind.i64.wrap (r * c) > 12)) = spB r c := by
  unfold spB
  by_cases h : (decide (r < 1) || decide (c < 1) || decide (r > 12) || decide (c > 12)) = true
  · rw [h]; rfl
  · simp only [Bool.not_eq_true] at h
    rw [h]
    simp only [Bool.or_eq_false_iff, decide_eq_false_iff_not] at h
    have h1 : 0 ≤ r * c := Int.mul_nonneg (by omega) (by omega)
    have h2 : r * c ≤ 12 * 12 := Int.mul_le_mul (by omega) (by omega) (by omega) (by omega)
    rw [IntWalk.i64_in _ (by omega)]
theorem c20 (r c : Int) (t : List Int) (b : Int) (hl : t.length < 4611686018427387904) : Spc Try.prog 20 [vI r, vI c, vIs t, vI b] [] (vI (checkE r c t b)) [] := by
  refine spec_of_ir fn20 mixm (by simp) fun e _ hst => W_start ?_
  unfold ir20
  simp only [tl, tl2, isCallR, entX, argFr, ret, retI, retB, intT, unT, endR, ressR, resR, tupT, bslR, boxR, lenAll, ↓reduceIte, Nat.reduceEqDiff, Nat.reduceAdd, Nat.reduceMul, Nat.reduceLT, Nat.reduceLeDiff, reduceCtorEq, Int.reduceLE, Int.reduceLT, ne_eq, Int.reduceEq, not_false_eq_true, decide_true, decide_false, Int.reduceToNat, tl3, Int.reduceBNe, Int.reduceBEq]
  have hc : IntKind.i64.wrap ((12 : Int).tdiv (minI c 13)) = (12 : Int).tdiv (minI c 13) := by
    apply IntWalk.i64_in
    have h := Int.natAbs_tdiv 12 (minI c 13)
    have h2 : (12 : Int).natAbs.div (minI c 13).natAbs ≤ 12 := Nat.div_le_self _ _
    rw [← h] at h2
    generalize Int.tdiv 12 (minI c 13) = q at h2
    omega
  simp only [hc, sp_eq]
  refine ⟨fun h => ?_, fun h => ?_, fun h => ?_⟩
  · simp at h
    unfold minI
    split <;> omega
  · rw [checkE, if_pos h]
    exact .imR rfl rfl
  obtain ⟨h1, h2, h3⟩ := sp_ok h
  have h4 : 0 ≤ r * c := Int.mul_nonneg (by omega) (by omega)
  rw [IntWalk.i64_in _ (by omega)]
  simp only [bne_iff_ne, bne_eq_false_iff_eq]
  refine ⟨fun h5 => ?_, fun h5 => ?_⟩
  · rw [checkE, if_neg (by rw [h]; simp), if_pos h5]
    exact .imR rfl rfl
  · refine C1.im (c28 t b hl) rfl (by rfl) ?_
    simp only [tl, tl2, isCallR, entX, argFr, ret, retI, retB, intT, unT, endR, ressR, resR, tupT, bslR, boxR, lenAll, ↓reduceIte, Nat.reduceEqDiff, Nat.reduceAdd, Nat.reduceMul, Nat.reduceLT, Nat.reduceLeDiff, reduceCtorEq, Int.reduceLE, Int.reduceLT, ne_eq, Int.reduceEq, not_false_eq_true, decide_true, decide_false, Int.reduceToNat, tl3, Int.reduceBNe, Int.reduceBEq, Bool.not_eq_true', Bool.not_eq_false']
    refine ⟨fun h6 => ?_, fun h6 => ?_⟩
    · rw [checkE, if_neg (by rw [h]; simp), if_neg (by omega), if_neg (by rw [h6]; simp)]
      exact .imR rfl rfl
    · rw [checkE, if_neg (by rw [h]; simp), if_neg (by omega), if_pos h6]
      exact .imR rfl rfl
theorem c24 (r c : Int) (t : List Int) (b : Int) (hl : t.length < 4611686018427387904) : Spc Try.prog 24 [vI r, vI c, vIs t, vI b] [] (vI (checkE r c t b)) [] := by
  refine spec_of_ir fn24 mixm (by simp) fun e _ hst => W_start ?_
  unfold ir24
  simp only [tl, tl2, isCallR, entX, argFr, ret, retI, retB, intT, unT, endR, ressR, resR, tupT, bslR, boxR, lenAll, ↓reduceIte, Nat.reduceEqDiff, Nat.reduceAdd, Nat.reduceMul, Nat.reduceLT, Nat.reduceLeDiff, reduceCtorEq, Int.reduceLE, Int.reduceLT, ne_eq, Int.reduceEq, not_false_eq_true, decide_true, decide_false, Int.reduceToNat, tl3, Int.reduceBNe, Int.reduceBEq]
  rw [sp_eq2]
  refine ⟨fun h => ?_, fun h => ?_⟩
  · rw [checkE, if_pos h]
    exact .imR rfl rfl
  obtain ⟨h1, h2, h3⟩ := sp_ok h
  have h4 : 0 ≤ r * c := Int.mul_nonneg (by omega) (by omega)
  rw [IntWalk.i64_in _ (by omega)]
  simp only [bne_iff_ne, bne_eq_false_iff_eq]
  refine ⟨fun h5 => ?_, fun h5 => ?_⟩
  · rw [checkE, if_neg (by rw [h]; simp), if_pos h5]
    exact .imR rfl rfl
  · refine C1.im (c26 t b hl) rfl (by rfl) ?_
    simp only [tl, tl2, isCallR, entX, argFr, ret, retI, retB, intT, unT, endR, ressR, resR, tupT, bslR, boxR, lenAll, ↓reduceIte, Nat.reduceEqDiff, Nat.reduceAdd, Nat.reduceMul, Nat.reduceLT, Nat.reduceLeDiff, reduceCtorEq, Int.reduceLE, Int.reduceLT, ne_eq, Int.reduceEq, not_false_eq_true, decide_true, decide_false, Int.reduceToNat, tl3, Int.reduceBNe, Int.reduceBEq]
    have e : checkE r c t b = if rightB t b = true then 0 else 2 := by
      unfold checkE
      rw [if_neg (by rw [h]; simp), if_neg (by omega)]
    rw [e]
    exact .imR rfl (by rfl)
theorem c13 (l m : List Int) (hl : l.length ≤ 1048576) (hm : m.length ≤ 1048576) : Spc Try.prog 13 [vIs l, vIs m] [] (vB (l == m)) [] := by
  refine spec_of_ir fn13 mixm (by simp) fun e _ hst => W_start ?_
  unfold ir13
  simp only [tl, tl2, isCallR, entX, argFr, ret, retI, retB, intT, unT, endR, ressR, resR, tupT, bslR, boxR, lenAll, ↓reduceIte, Nat.reduceEqDiff, Nat.reduceAdd, Nat.reduceMul, Nat.reduceLT, Nat.reduceLeDiff, reduceCtorEq, Int.reduceLE, Int.reduceLT, ne_eq, Int.reduceEq, not_false_eq_true, decide_true, decide_false, Int.reduceToNat, tl3, Int.reduceBNe, Int.reduceBEq]
  refine ⟨fun h => ?_, fun h => ?_⟩
  · have : (l == m) = false := by
      simp only [bne_iff_ne, ne_eq] at h
      simp only [beq_eq_false_iff_ne, ne_eq]
      rintro rfl
      exact h rfl
    rw [this]
    exact .imR rfl rfl
  simp only [bne_eq_false_iff_eq] at h
  refine W_loop mixm (α := Nat) (fun i => i ≤ l.length ∧ l.take i = m.take i) (fun i => [(0, vIs l), (1, vIs m), (12, vI l.length), (13, vI i)]) (fun _ => []) (fun i => l.length - i) 0 ⟨by omega, by simp⟩ (.ofFr (by simp [hasFr, TL.get])) fun i hi => ?_
  simp only [tl, tl2, isCallR, entX, argFr, ret, retI, retB, intT, unT, endR, ressR, resR, tupT, bslR, boxR, lenAll, ↓reduceIte, Nat.reduceEqDiff, Nat.reduceAdd, Nat.reduceMul, Nat.reduceLT, Nat.reduceLeDiff, reduceCtorEq, Int.reduceLE, Int.reduceLT, ne_eq, Int.reduceEq, not_false_eq_true, decide_true, decide_false, Int.reduceToNat, tl3, Int.reduceBNe, Int.reduceBEq, decide_eq_true_eq, decide_eq_false_iff_not]
  refine ⟨fun h1 => ?_, fun h1 => ?_⟩
  · have h2 : i < l.length := by omega
    have h3 : i < m.length := by omega
    simp only [tl, tl2, isCallR, entX, argFr, ret, retI, retB, intT, unT, endR, ressR, resR, tupT, bslR, boxR, lenAll, ↓reduceIte, Nat.reduceEqDiff, Nat.reduceAdd, Nat.reduceMul, Nat.reduceLT, Nat.reduceLeDiff, reduceCtorEq, Int.reduceLE, Int.reduceLT, ne_eq, Int.reduceEq, not_false_eq_true, decide_true, decide_false, Int.reduceToNat, tl3, Int.reduceBNe, Int.reduceBEq, Int.toNat_natCast, getD_ints h2, getD_ints h3, decide_eq_true_eq, decide_eq_false_iff_not]
    refine ⟨by omega, by omega, by kernel_rfl, fun h4 => ?_, fun h4 => ?_⟩
    · have : (l == m) = false := by
        simp only [bne_iff_ne, ne_eq] at h4
        simp only [beq_eq_false_iff_ne, ne_eq]
        rintro rfl
        exact h4 rfl
      rw [this]
      exact .imR rfl rfl
    · refine ⟨i + 1, ⟨by omega, ?_⟩, by omega, .ofFr ?_⟩
      · simp only [bne_eq_false_iff_eq] at h4
        rw [List.take_succ_eq_append_getElem h2, List.take_succ_eq_append_getElem h3, hi.2, h4]
      · simp only [ltSto, ltO2, ltO1, ltAs, ltA, ltC, ltCs, ltT, ltFr, ltS, wrOk, wrO, TL.get, hasFr, ↓reduceIte, Nat.reduceEqDiff, reduceCtorEq, Option.getD_some, Option.isSome_some, List.length_map, List.length_append, List.length_cons, List.length_nil, List.append_nil, List.mem_singleton, List.mem_cons, List.not_mem_nil, and_true, true_and, and_self, imp_self, forall_const, false_implies, implies_true, true_implies, or_false, Bool.false_eq_true, Bool.true_eq_false, ImXs_nil, true_or, or_true, false_or, false_and, and_false]
        rw [IntWalk.i64_in _ (by omega)]
        rfl
  · have h2 : i = l.length := by omega
    have h3 : l = m := by
      have := hi.2
      rw [h2, List.take_length, show l.length = m.length by omega, List.take_length] at this
      exact this
    subst h3
    refine .imR ?_ rfl
    simp
def nearAll (l m : List Int) (b : Int) : Bool := (List.zip l m).all fun p => nearB p.1 p.2 b
theorem near_no {l m : List Int} {b : Int} {i : Nat} (h1 : i < l.length) (h2 : i < m.length) (h : nearB l[i] m[i] b = false) : nearAll l m b = false := by
  rw [nearAll, List.all_eq_false]
  refine ⟨(l[i], m[i]), ?_, by simp [h]⟩
  have : (List.zip l m)[i]'(by simp; omega) = (l[i], m[i]) := by simp
  rw [← this]
  exact List.getElem_mem _
theorem c23 (l m : List Int) (b : Int) (hl : ∀ n ∈ l, sm n) (hlm : m.length = l.length) (hb : 1 ≤ b ∧ b ≤ 1000000) (hs : l.length < 4611686018427387904) : Spc Try.prog 23 [vIs l, vIs m, vI b] [] (vB (nearAll l m b)) [] := by
  refine spec_of_ir fn23 mixm (by simp) fun e _ hst => W_start ?_
  unfold ir23
  simp only [tl, tl2, isCallR, entX, argFr, ret, retI, retB, intT, unT, endR, ressR, resR, tupT, bslR, boxR, lenAll, ↓reduceIte, Nat.reduceEqDiff, Nat.reduceAdd, Nat.reduceMul, Nat.reduceLT, Nat.reduceLeDiff, reduceCtorEq, Int.reduceLE, Int.reduceLT, ne_eq, Int.reduceEq, not_false_eq_true, decide_true, decide_false, Int.reduceToNat, tl3, Int.reduceBNe, Int.reduceBEq]
  refine W_loop mixm (α := Nat) (fun i => i ≤ l.length ∧ nearAll (l.take i) (m.take i) b = true) (fun i => [(1, vIs m), (2, vI b), (9, vIs l), (10, vI l.length), (11, vI i)]) (fun _ => []) (fun i => l.length - i) 0 ⟨by omega, by simp [nearAll]⟩ (.ofFr (by simp [hasFr, TL.get])) fun i hi => ?_
  simp only [tl, tl2, isCallR, entX, argFr, ret, retI, retB, intT, unT, endR, ressR, resR, tupT, bslR, boxR, lenAll, ↓reduceIte, Nat.reduceEqDiff, Nat.reduceAdd, Nat.reduceMul, Nat.reduceLT, Nat.reduceLeDiff, reduceCtorEq, Int.reduceLE, Int.reduceLT, ne_eq, Int.reduceEq, not_false_eq_true, decide_true, decide_false, Int.reduceToNat, tl3, Int.reduceBNe, Int.reduceBEq, decide_eq_true_eq, decide_eq_false_iff_not]
  refine ⟨fun h1 => ?_, fun h1 => ?_⟩
  · have h2 : i < l.length := by omega
    have h3 : i < m.length := by omega
    simp only [tl, tl2, isCallR, entX, argFr, ret, retI, retB, intT, unT, endR, ressR, resR, tupT, bslR, boxR, lenAll, ↓reduceIte, Nat.reduceEqDiff, Nat.reduceAdd, Nat.reduceMul, Nat.reduceLT, Nat.reduceLeDiff, reduceCtorEq, Int.reduceLE, Int.reduceLT, ne_eq, Int.reduceEq, not_false_eq_true, decide_true, decide_false, Int.reduceToNat, tl3, Int.reduceBNe, Int.reduceBEq, Int.toNat_natCast, getD_ints h2, getD_ints h3]
    refine ⟨by omega, by omega, ?_⟩
    refine C1.im (c30 l[i] m[i] b (hl _ (List.getElem_mem h2)) hb) rfl (by rfl) ?_
    simp only [tl, tl2, isCallR, entX, argFr, ret, retI, retB, intT, unT, endR, ressR, resR, tupT, bslR, boxR, lenAll, ↓reduceIte, Nat.reduceEqDiff, Nat.reduceAdd, Nat.reduceMul, Nat.reduceLT, Nat.reduceLeDiff, reduceCtorEq, Int.reduceLE, Int.reduceLT, ne_eq, Int.reduceEq, not_false_eq_true, decide_true, decide_false, Int.reduceToNat, tl3, Int.reduceBNe, Int.reduceBEq, Bool.not_eq_true', Bool.not_eq_false']
    refine ⟨fun h4 => ?_, fun h4 => ?_⟩
    · rw [near_no h2 h3 h4]
      exact .imR rfl rfl
    · refine ⟨i + 1, ⟨by omega, ?_⟩, by omega, .ofFr ?_⟩
      · rw [List.take_succ_eq_append_getElem h2, List.take_succ_eq_append_getElem h3, nearAll, List.zip_append (by simp; omega), List.all_append]
        have := hi.2
        unfold nearAll at this
        rw [this]
        simp [h4]
      · simp only [ltSto, ltO2, ltO1, ltAs, ltA, ltC, ltCs, ltT, ltFr, ltS, wrOk, wrO, TL.get, hasFr, ↓reduceIte, Nat.reduceEqDiff, reduceCtorEq, Option.getD_some, Option.isSome_some, List.length_map, List.length_append, List.length_cons, List.length_nil, List.append_nil, List.mem_singleton, List.mem_cons, List.not_mem_nil, and_true, true_and, and_self, imp_self, forall_const, false_implies, implies_true, true_implies, or_false, Bool.false_eq_true, Bool.true_eq_false, ImXs_nil, true_or, or_true, false_or, false_and, and_false]
        rw [IntWalk.i64_in _ (by omega)]
        rfl
  · have h2 : i = l.length := by omega
    have h3 := hi.2
    rw [h2, List.take_length, ← hlm, List.take_length] at h3
    rw [h3]
    exact .imR rfl rfl
end Go.Proofs

