import Derived.Test.YtnhhmfplebpipaaD
set_option linter.unusedSimpArgs false
set_option linter.unusedVariables false
namespace Go.Proofs
open Go Go.TL
/-! ltSto, ltO2, ltO1, ltAs, ltA, ltC, ltCs, ltT, ltFr, ltS, wrOk, wrO, TL.get, hasFr, ↓reduceIte, Nat.reduceEqDiff, reduceCtorEq, Option.getD_some, Option.isSome_some, List.length_map, List.length_append, List.length_cons, List.length_nil, List.append_nil, List.mem_singleton, List.mem_cons, List.not_mem_nil, and_true, true_and, and_self, imp_self, forall_const, false_implies, implies_true, true_implies, or_false, Bool.false_eq_true, Bool.true_eq_false, ImXs_nil, true_or, or_true, false_or, false_and, and_false# what fits -/
def sumsB (r c : Nat) (t x : List Int) (b : Int) : Bool := (List.range (r + c + 1)).all fun j => nearB (gS t c r (r * c) j) (gS x c r (r * c) j) b
theorem nearAll_range {n : Nat} {f g : Nat → Int} {b : Int} : nearAll ((List.range n).map f) ((List.range n).map g) b = (List.range n).all fun j => nearB (f j) (g j) b := by
  unfold nearAll
  rw [List.zip_map', List.all_map]
  rfl
theorem sumsB_eq {r c : Nat} {t x : List Int} {b : Int} (ht : t.length = r * c) (hx : x.length = r * c) : nearAll (sumsL t c r) (sumsL x c r) b = sumsB r c t x b := by
  unfold sumsL pS sumsB
  rw [nearAll_range, ht, hx]
def solB (r c : Nat) (t x : List Int) (b : Int) : Bool := nearAll t x b && sumsB r c t x b
theorem near_small {n r b : Int} (h : nearB n r b = true) : n - b < r ∧ r < n + b := by
  simp only [nearB, Bool.and_eq_true, decide_eq_true_eq] at h
  omega
theorem near_okT {t x : List Int} {b : Int} (h : nearAll t x b = true) (hl : x.length = t.length) (ht : ∀ n ∈ t, 0 ≤ n ∧ n ≤ 1000000) (hb : 1 ≤ b ∧ b ≤ 1000000) : okT x := by
  intro y hy
  obtain ⟨i, hi, rfl⟩ := List.getElem_of_mem hy
  have hi2 : i < t.length := by omega
  have h1 := List.all_eq_true.1 h (t[i], x[i]) (by
    have : (List.zip t x)[i]'(by simp; omega) = (t[i], x[i]) := by simp
    rw [← this]; exact List.getElem_mem _)
  have h2 := near_small h1
  have h3 := ht _ (List.getElem_mem hi2)
  simp only at h2
  omega
theorem okT_of {t : List Int} (h : ∀ n ∈ t, 0 ≤ n ∧ n ≤ 1000000) : okT t := fun n hn => by have := h n hn; omega
theorem gS_sm {t : List Int} (h : okT t) (c r i j : Nat) (hi : i ≤ 144) : sm (gS t c r i j) := by have := gS_bound h c r i j hi; unfold sm; omega
def chkT (r c : Int) (t x : List Int) (b : Int) : T :=
  if spB r c = true then .tup [vB false, vI 55] else if (x.length : Int) ≠ r * c then .tup [vB false, vI 17] else if checkE r c t b = 0 then .tup [vB (solB r.toNat c.toNat t x b), vI 0] else .tup [vB false, vI (checkE r c t b)]
theorem check_55 {r c : Int} {t : List Int} {b : Int} : checkE r c t b = 55 ↔ spB r c = true := by
  unfold checkE
  split
  · rename_i h; simp [h]
  · rename_i h
    simp only [h]
    split
    · simp
    · split <;> simp
theorem check_0 {r c : Int} {t : List Int} {b : Int} (h : checkE r c t b = 0) : spB r c = false ∧ (t.length : Int) = r * c ∧ rightB t b = true := by
  unfold checkE at h
  split at h
  · cases h
  · rename_i h1
    split at h
    · cases h
    · rename_i h2
      split at h
      · rename_i h3
        exact ⟨by simpa using h1, by omega, h3⟩
      · cases h
theorem nat_of {r : Int} (h : 1 ≤ r ∧ r ≤ 12) : ∃ n : Nat, r = n ∧ 1 ≤ n ∧ n ≤ 12 := ⟨r.toNat, by omega, by omega, by omega⟩
theorem c11 (r c : Int) (t x : List Int) (b : Int) (hl : t.length < 4611686018427387904) (hx : x.length < 4611686018427387904) :
    Spc Try.prog 11 [vI r, vI c, vIs t, vIs x, vI b] [] (chkT r c t x b) [] := by
  refine spec_of_ir fn11 mixm (by simp) fun e _ hst => W_start ?_
  unfold ir11
  simp only [tl, tl2, isCallR, entX, argFr, ret, retI, retB, intT, unT, endR, ressR, resR, tupT, bslR, boxR, lenAll, ↓reduceIte, Nat.reduceEqDiff, Nat.reduceAdd, Nat.reduceMul, Nat.reduceLT, Nat.reduceLeDiff, reduceCtorEq, Int.reduceLE, Int.reduceLT, ne_eq, Int.reduceEq, not_false_eq_true, decide_true, decide_false, Int.reduceToNat, tl3, Int.reduceBNe, Int.reduceBEq]
  refine C1.im (c20 r c t b hl) rfl (by rfl) ?_
  simp only [tl, tl2, isCallR, entX, argFr, ret, retI, retB, intT, unT, endR, ressR, resR, tupT, bslR, boxR, lenAll, ↓reduceIte, Nat.reduceEqDiff, Nat.reduceAdd, Nat.reduceMul, Nat.reduceLT, Nat.reduceLeDiff, reduceCtorEq, Int.reduceLE, Int.reduceLT, ne_eq, Int.reduceEq, not_false_eq_true, decide_true, decide_false, Int.reduceToNat, tl3, Int.reduceBNe, Int.reduceBEq, beq_iff_eq, beq_eq_false_iff_ne, bne_iff_ne, bne_eq_false_iff_eq]
  refine ⟨fun h1 => ?_, fun h1 => ?_⟩
  · rw [chkT, if_pos (check_55.1 h1), h1]
    exact .imR rfl rfl
  have hs : spB r c = false := by
    cases h : spB r c
    · rfl
    · exact absurd (check_55.2 h) h1
  obtain ⟨s1, s2, s3⟩ := sp_ok hs
  have s4 : 0 ≤ r * c := Int.mul_nonneg (by omega) (by omega)
  rw [IntWalk.i64_in _ (by omega)]
  refine ⟨fun h2 => ?_, fun h2 => ⟨fun h3 => ?_, fun h3 => ?_⟩⟩
  · rw [chkT, if_neg (by rw [hs]; simp), if_pos h2]
    exact .imR rfl rfl
  · rw [chkT, if_neg (by rw [hs]; simp), if_neg (by omega), if_neg h3]
    exact .imR rfl rfl
  rw [chkT, if_neg (by rw [hs]; simp), if_neg (by omega), if_pos h3]
  obtain ⟨_, t1, t2⟩ := check_0 h3
  obtain ⟨hb, hn⟩ := right_all t2
  obtain ⟨r, rfl, r1, r2⟩ := nat_of s1
  obtain ⟨c, rfl, c1, c2⟩ := nat_of s2
  have hrc : r * c ≤ 12 := by exact_mod_cast s3
  have htl : t.length = r * c := by exact_mod_cast t1
  have hxl : x.length = r * c := by exact_mod_cast h2
  refine C1.im (c23 t x b (fun n h => by have := hn n h; unfold sm; omega) (by omega) (by omega) hl) rfl (by rfl) ?_
  simp only [tl, tl2, isCallR, entX, argFr, ret, retI, retB, intT, unT, endR, ressR, resR, tupT, bslR, boxR, lenAll, ↓reduceIte, Nat.reduceEqDiff, Nat.reduceAdd, Nat.reduceMul, Nat.reduceLT, Nat.reduceLeDiff, reduceCtorEq, Int.reduceLE, Int.reduceLT, ne_eq, Int.reduceEq, not_false_eq_true, decide_true, decide_false, Int.reduceToNat, tl3, Int.reduceBNe, Int.reduceBEq, Int.toNat_natCast]
  refine C2.im (fun _ => c21 t c r (by omega) (by omega) htl (okT_of hn)) (fun _ => rfl) (by rfl) ?_
  simp only [tl, tl2, isCallR, entX, argFr, ret, retI, retB, intT, unT, endR, ressR, resR, tupT, bslR, boxR, lenAll, ↓reduceIte, Nat.reduceEqDiff, Nat.reduceAdd, Nat.reduceMul, Nat.reduceLT, Nat.reduceLeDiff, reduceCtorEq, Int.reduceLE, Int.reduceLT, ne_eq, Int.reduceEq, not_false_eq_true, decide_true, decide_false, Int.reduceToNat, tl3, Int.reduceBNe, Int.reduceBEq]
  refine C2.im (fun h4 => c21 x c r (by omega) (by omega) hxl (near_okT h4 (by omega) hn (by omega))) (fun _ => rfl) (by rfl) ?_
  simp only [tl, tl2, isCallR, entX, argFr, ret, retI, retB, intT, unT, endR, ressR, resR, tupT, bslR, boxR, lenAll, ↓reduceIte, Nat.reduceEqDiff, Nat.reduceAdd, Nat.reduceMul, Nat.reduceLT, Nat.reduceLeDiff, reduceCtorEq, Int.reduceLE, Int.reduceLT, ne_eq, Int.reduceEq, not_false_eq_true, decide_true, decide_false, Int.reduceToNat, tl3, Int.reduceBNe, Int.reduceBEq]
  refine C2.im (fun h4 => c23 (sumsL t c r) (sumsL x c r) b ?_ (by simp [sumsL, pS_len]) (by omega) (by simp [sumsL, pS_len]; omega)) (fun _ => rfl) (by rfl) ?_
  · intro n hn2
    unfold sumsL pS at hn2
    obtain ⟨j, _, rfl⟩ := List.mem_map.1 hn2
    exact gS_sm (okT_of hn) _ _ _ _ (by omega)
  simp only [tl, tl2, isCallR, entX, argFr, ret, retI, retB, intT, unT, endR, ressR, resR, tupT, bslR, boxR, lenAll, ↓reduceIte, Nat.reduceEqDiff, Nat.reduceAdd, Nat.reduceMul, Nat.reduceLT, Nat.reduceLeDiff, reduceCtorEq, Int.reduceLE, Int.reduceLT, ne_eq, Int.reduceEq, not_false_eq_true, decide_true, decide_false, Int.reduceToNat, tl3, Int.reduceBNe, Int.reduceBEq]
  refine .imR ?_ rfl
  rw [sumsB_eq htl hxl]
  rfl
end Go.Proofs

