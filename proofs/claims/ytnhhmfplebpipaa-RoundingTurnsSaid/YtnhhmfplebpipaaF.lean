import Derived.Test.YtnhhmfplebpipaaE
set_option linter.unusedSimpArgs false
set_option linter.unusedVariables false
namespace Go.Proofs
open Go Go.TL
def rS (t : List Int) (c i k : Nat) : Int := sumN (fun q => at0 t (i * c + q)) k
def cS (t : List Int) (c k i : Nat) : Int := sumN (fun q => at0 t (q * c + k)) i
def tS (t : List Int) (c i : Nat) : Int := sumN (fun q => rS t c q c) i
def fitR (r c : Nat) (t x : List Int) (b : Int) : Bool :=
  (List.range r).all (fun i => (List.range c).all (fun k => nearB (at0 t (i * c + k)) (at0 x (i * c + k)) b) && nearB (rS t c i c) (rS x c i c) b) &&
  ((List.range c).all (fun k => nearB (cS t c k r) (cS x c k r) b) && nearB (tS t c r) (tS x c r) b)
theorem fitR_iff {r c : Nat} {t x : List Int} {b : Int} : fitR r c t x b = true ↔ (∀ i, i < r → (∀ k, k < c → nearB (at0 t (i * c + k)) (at0 x (i * c + k)) b = true) ∧ nearB (rS t c i c) (rS x c i c) b = true) ∧
    (∀ k, k < c → nearB (cS t c k r) (cS x c k r) b = true) ∧ nearB (tS t c r) (tS x c r) b = true := by
  simp only [fitR, Bool.and_eq_true, List.all_eq_true, List.mem_range]
theorem not_fit {r c : Nat} {t x : List Int} {b : Int} (h : ¬ fitR r c t x b = true) : fitR r c t x b = false := by simpa using h
theorem rS_bound {t : List Int} (h : okT t) (c i k : Nat) (hk : k ≤ 12) : -12000000000 ≤ rS t c i k ∧ rS t c i k ≤ 12000000000 := by
  have h1 := sumN_bound (f := fun q => at0 t (i * c + q)) (b := 1000000000) (by omega) (fun q => at0_bound h _) k
  unfold rS
  omega
theorem cS_bound {t : List Int} (h : okT t) (c k i : Nat) (hk : i ≤ 12) : -12000000000 ≤ cS t c k i ∧ cS t c k i ≤ 12000000000 := by
  have h1 := sumN_bound (f := fun q => at0 t (q * c + k)) (b := 1000000000) (by omega) (fun q => at0_bound h _) i
  unfold cS
  omega
theorem tS_bound {t : List Int} (h : okT t) (c i : Nat) (hc : c ≤ 12) (hk : i ≤ 12) : -144000000000 ≤ tS t c i ∧ tS t c i ≤ 144000000000 := by
  have h1 := sumN_bound (f := fun q => rS t c q c) (b := 12000000000) (by omega) (fun q => rS_bound h _ _ _ hc) i
  unfold tS
  omega
theorem idx_lt {r c i k : Nat} (hi : i < r) (hk : k < c) : i * c + k < r * c := by
  have : (i + 1) * c ≤ r * c := Nat.mul_le_mul_right c hi
  rw [Nat.add_mul] at this
  omega
theorem c25 (r c : Nat) (t x : List Int) (b : Int) (hr : r ≤ 12) (hc : c ≤ 12) (hrc : r * c ≤ 144) (htl : t.length = r * c) (hxl : x.length = r * c) (ht : okT t) (hx : okT x) (hb : 1 ≤ b ∧ b ≤ 1000000) :
    Spc Try.prog 25 [vI r, vI c, vIs t, vIs x, vI b] [] (vB (fitR r c t x b)) [] := by
  refine spec_of_ir fn25 mixm (by simp) fun e _ hst => W_start ?_
  unfold ir25
  simp only [tl, tl2, isCallR, entX, argFr, ret, retI, retB, intT, unT, endR, ressR, resR, tupT, bslR, boxR, lenAll, ↓reduceIte, Nat.reduceEqDiff, Nat.reduceAdd, Nat.reduceMul, Nat.reduceLT, Nat.reduceLeDiff, reduceCtorEq, Int.reduceLE, Int.reduceLT, ne_eq, Int.reduceEq, not_false_eq_true, decide_true, decide_false, Int.reduceToNat, tl3, Int.reduceBNe, Int.reduceBEq]
  refine W_loop mixm (α := Nat) (fun i => i ≤ r ∧ ∀ j, j < i → (∀ k, k < c → nearB (at0 t (j * c + k)) (at0 x (j * c + k)) b = true) ∧ nearB (rS t c j c) (rS x c j c) b = true)
    (fun i => [(0, vI r), (1, vI c), (2, vIs t), (3, vIs x), (4, vI b), (11, vI (tS x c i)), (12, vI (tS t c i)), (13, vI i)]) (fun _ => []) (fun i => r - i) 0 ⟨by omega, by omega⟩ (.ofFr (by simp [hasFr, TL.get, tS, sumN])) fun i hi => ?_
  simp only [tl, tl2, isCallR, entX, argFr, ret, retI, retB, intT, unT, endR, ressR, resR, tupT, bslR, boxR, lenAll, ↓reduceIte, Nat.reduceEqDiff, Nat.reduceAdd, Nat.reduceMul, Nat.reduceLT, Nat.reduceLeDiff, reduceCtorEq, Int.reduceLE, Int.reduceLT, ne_eq, Int.reduceEq, not_false_eq_true, decide_true, decide_false, Int.reduceToNat, tl3, Int.reduceBNe, Int.reduceBEq, decide_eq_true_eq, decide_eq_false_iff_not]
  refine ⟨fun h1 => ?_, fun h1 => ?_⟩
  · have h1 : i < r := by omega
    refine W_loop mixm (α := Nat) (fun k => k ≤ c ∧ ∀ q, q < k → nearB (at0 t (i * c + q)) (at0 x (i * c + q)) b = true)
      (fun k => [(0, vI r), (1, vI c), (2, vIs t), (3, vIs x), (4, vI b), (11, vI (tS x c i)), (12, vI (tS t c i)), (13, vI i), (14, vI (rS t c i k)), (15, vI (rS x c i k)), (16, vI k)]) (fun _ => []) (fun k => c - k) 0 ⟨by omega, by omega⟩ (.ofFr (by simp [hasFr, TL.get, rS, sumN])) fun k hk => ?_
    simp only [tl, tl2, isCallR, entX, argFr, ret, retI, retB, intT, unT, endR, ressR, resR, tupT, bslR, boxR, lenAll, ↓reduceIte, Nat.reduceEqDiff, Nat.reduceAdd, Nat.reduceMul, Nat.reduceLT, Nat.reduceLeDiff, reduceCtorEq, Int.reduceLE, Int.reduceLT, ne_eq, Int.reduceEq, not_false_eq_true, decide_true, decide_false, Int.reduceToNat, tl3, Int.reduceBNe, Int.reduceBEq, decide_eq_true_eq, decide_eq_false_iff_not]
    refine ⟨fun h2 => ?_, fun h2 => ?_⟩
    · have h2 : k < c := by omega
      have h3 := idx_lt h1 h2
      have hw0 : i * c ≤ r * c := Nat.mul_le_mul_right c (by omega)
      have hw1 : IntKind.i64.wrap ((i : Int) * c) = ((i * c : Nat) : Int) := by
        rw [← Int.natCast_mul]; exact IntWalk.i64_in _ (by omega)
      have hw2 : IntKind.i64.wrap (((i * c : Nat) : Int) + k) = ((i * c + k : Nat) : Int) := by rw [IntWalk.i64_in _ (by omega)]; omega
      have b1 := at0_bound ht (i * c + k)
      have b2 := at0_bound hx (i * c + k)
      have b3 := rS_bound ht c i k (by omega)
      have b4 := rS_bound hx c i k (by omega)
      have e1 : t[i * c + k]'(by omega) = at0 t (i * c + k) := (getD_get _).symm
      have e2 : x[i * c + k]'(by omega) = at0 x (i * c + k) := (getD_get _).symm
      simp only [tl, tl2, isCallR, entX, argFr, ret, retI, retB, intT, unT, endR, ressR, resR, tupT, bslR, boxR, lenAll, ↓reduceIte, Nat.reduceEqDiff, Nat.reduceAdd, Nat.reduceMul, Nat.reduceLT, Nat.reduceLeDiff, reduceCtorEq, Int.reduceLE, Int.reduceLT, ne_eq, Int.reduceEq, not_false_eq_true, decide_true, decide_false, Int.reduceToNat, tl3, Int.reduceBNe, Int.reduceBEq, hw1, hw2, Int.toNat_natCast, getD_ints (show i * c + k < t.length by omega), getD_ints (show i * c + k < x.length by omega), e1, e2]
      refine ⟨by omega, by omega, ?_⟩
      refine C1.im (c27 _ _ b (by unfold sm; omega) hb) rfl (by rfl) ?_
      simp only [tl, tl2, isCallR, entX, argFr, ret, retI, retB, intT, unT, endR, ressR, resR, tupT, bslR, boxR, lenAll, ↓reduceIte, Nat.reduceEqDiff, Nat.reduceAdd, Nat.reduceMul, Nat.reduceLT, Nat.reduceLeDiff, reduceCtorEq, Int.reduceLE, Int.reduceLT, ne_eq, Int.reduceEq, not_false_eq_true, decide_true, decide_false, Int.reduceToNat, tl3, Int.reduceBNe, Int.reduceBEq, Bool.not_eq_true', Bool.not_eq_false', hw1, hw2, Int.toNat_natCast, getD_ints (show i * c + k < t.length by omega), getD_ints (show i * c + k < x.length by omega), e1, e2]
      have hv1 : IntKind.i64.wrap (rS t c i k + at0 t (i * c + k)) = rS t c i (k + 1) := IntWalk.i64_in _ (by omega)
      have hv2 : IntKind.i64.wrap (rS x c i k + at0 x (i * c + k)) = rS x c i (k + 1) := IntWalk.i64_in _ (by omega)
      refine ⟨by kernel_rfl, fun h4 => ?_, fun h4 => ⟨by omega, by omega, by kernel_rfl, k + 1, ⟨by omega, fun q hq => ?_⟩, by omega, .ofFr ?_⟩⟩
      · rw [not_fit fun hf => ?_]
        · exact .imR rfl rfl
        · have := ((fitR_iff.1 hf).1 i h1).1 k h2
          rw [h4] at this
          cases this
      · by_cases e : q = k
        · subst e; exact h4
        · exact hk.2 q (by omega)
      · rw [hv1, hv2]
        simp only [ltSto, ltO2, ltO1, ltAs, ltA, ltC, ltCs, ltT, ltFr, ltS, wrOk, wrO, TL.get, hasFr, ↓reduceIte, Nat.reduceEqDiff, reduceCtorEq, Option.getD_some, Option.isSome_some, List.length_map, List.length_append, List.length_cons, List.length_nil, List.append_nil, List.mem_singleton, List.mem_cons, List.not_mem_nil, and_true, true_and, and_self, imp_self, forall_const, false_implies, implies_true, true_implies, or_false, Bool.false_eq_true, Bool.true_eq_false, ImXs_nil, true_or, or_true, false_or, false_and, and_false]
        rw [IntWalk.i64_in _ (by omega)]
        rfl
    · have h3 : k = c := by omega
      subst h3
      have b3 := rS_bound ht k i k (by omega)
      have b4 := rS_bound hx k i k (by omega)
      have b5 := tS_bound ht k i (by omega) (by omega)
      have b6 := tS_bound hx k i (by omega) (by omega)
      refine C1.im (c27 _ _ b (by unfold sm; omega) hb) rfl (by rfl) ?_
      simp only [tl, tl2, isCallR, entX, argFr, ret, retI, retB, intT, unT, endR, ressR, resR, tupT, bslR, boxR, lenAll, ↓reduceIte, Nat.reduceEqDiff, Nat.reduceAdd, Nat.reduceMul, Nat.reduceLT, Nat.reduceLeDiff, reduceCtorEq, Int.reduceLE, Int.reduceLT, ne_eq, Int.reduceEq, not_false_eq_true, decide_true, decide_false, Int.reduceToNat, tl3, Int.reduceBNe, Int.reduceBEq, Bool.not_eq_true', Bool.not_eq_false']
      refine ⟨fun h4 => ?_, fun h4 => ⟨i + 1, ⟨by omega, fun j hj => ?_⟩, by omega, .ofFr ?_⟩⟩
      · rw [not_fit fun hf => ?_]
        · exact .imR rfl rfl
        · have := ((fitR_iff.1 hf).1 i h1).2
          rw [h4] at this
          cases this
      · by_cases e : j = i
        · subst e; exact ⟨hk.2, h4⟩
        · exact hi.2 j (by omega)
      · have hv1 : IntKind.i64.wrap (tS t k i + rS t k i k) = tS t k (i + 1) := IntWalk.i64_in _ (by omega)
        have hv2 : IntKind.i64.wrap (tS x k i + rS x k i k) = tS x k (i + 1) := IntWalk.i64_in _ (by omega)
        rw [hv1, hv2]
        simp only [ltSto, ltO2, ltO1, ltAs, ltA, ltC, ltCs, ltT, ltFr, ltS, wrOk, wrO, TL.get, hasFr, ↓reduceIte, Nat.reduceEqDiff, reduceCtorEq, Option.getD_some, Option.isSome_some, List.length_map, List.length_append, List.length_cons, List.length_nil, List.append_nil, List.mem_singleton, List.mem_cons, List.not_mem_nil, and_true, true_and, and_self, imp_self, forall_const, false_implies, implies_true, true_implies, or_false, Bool.false_eq_true, Bool.true_eq_false, ImXs_nil, true_or, or_true, false_or, false_and, and_false]
        rw [IntWalk.i64_in _ (by omega)]
        rfl
  · have h2 : i = r := by omega
    subst h2
    refine W_loop mixm (α := Nat) (fun k => k ≤ c ∧ ∀ q, q < k → nearB (cS t c q i) (cS x c q i) b = true)
      (fun k => [(0, vI i), (1, vI c), (2, vIs t), (3, vIs x), (4, vI b), (11, vI (tS x c i)), (12, vI (tS t c i)), (17, vI k)]) (fun _ => []) (fun k => c - k) 0 ⟨by omega, by omega⟩ (.ofFr (by simp [hasFr, TL.get])) fun k hk => ?_
    simp only [tl, tl2, isCallR, entX, argFr, ret, retI, retB, intT, unT, endR, ressR, resR, tupT, bslR, boxR, lenAll, ↓reduceIte, Nat.reduceEqDiff, Nat.reduceAdd, Nat.reduceMul, Nat.reduceLT, Nat.reduceLeDiff, reduceCtorEq, Int.reduceLE, Int.reduceLT, ne_eq, Int.reduceEq, not_false_eq_true, decide_true, decide_false, Int.reduceToNat, tl3, Int.reduceBNe, Int.reduceBEq, decide_eq_true_eq, decide_eq_false_iff_not]
    refine ⟨fun h2 => ?_, fun h2 => ?_⟩
    · have h2 : k < c := by omega
      refine W_loop mixm (α := Nat) (fun j => j ≤ i)
        (fun j => [(0, vI i), (1, vI c), (2, vIs t), (3, vIs x), (4, vI b), (11, vI (tS x c i)), (12, vI (tS t c i)), (17, vI k), (18, vI (cS t c k j)), (19, vI (cS x c k j)), (20, vI j)]) (fun _ => []) (fun j => i - j) 0 (by omega) (.ofFr (by simp [hasFr, TL.get, cS, sumN])) fun j hj => ?_
      simp only [tl, tl2, isCallR, entX, argFr, ret, retI, retB, intT, unT, endR, ressR, resR, tupT, bslR, boxR, lenAll, ↓reduceIte, Nat.reduceEqDiff, Nat.reduceAdd, Nat.reduceMul, Nat.reduceLT, Nat.reduceLeDiff, reduceCtorEq, Int.reduceLE, Int.reduceLT, ne_eq, Int.reduceEq, not_false_eq_true, decide_true, decide_false, Int.reduceToNat, tl3, Int.reduceBNe, Int.reduceBEq, decide_eq_true_eq, decide_eq_false_iff_not]
      refine ⟨fun h3 => ?_, fun h3 => ?_⟩
      · have h4 : j < i := by omega
        have h3 := idx_lt h4 h2
        have hw0 : j * c ≤ i * c := Nat.mul_le_mul_right c (by omega)
        have hw1 : IntKind.i64.wrap ((j : Int) * c) = ((j * c : Nat) : Int) := by
          rw [← Int.natCast_mul]; exact IntWalk.i64_in _ (by omega)
        have hw2 : IntKind.i64.wrap (((j * c : Nat) : Int) + k) = ((j * c + k : Nat) : Int) := by rw [IntWalk.i64_in _ (by omega)]; omega
        have b1 := at0_bound ht (j * c + k)
        have b2 := at0_bound hx (j * c + k)
        have b3 := cS_bound ht c k j (by omega)
        have b4 := cS_bound hx c k j (by omega)
        have e1 : t[j * c + k]'(by omega) = at0 t (j * c + k) := (getD_get _).symm
        have e2 : x[j * c + k]'(by omega) = at0 x (j * c + k) := (getD_get _).symm
        have hv1 : IntKind.i64.wrap (cS t c k j + at0 t (j * c + k)) = cS t c k (j + 1) := IntWalk.i64_in _ (by omega)
        have hv2 : IntKind.i64.wrap (cS x c k j + at0 x (j * c + k)) = cS x c k (j + 1) := IntWalk.i64_in _ (by omega)
        simp only [tl, tl2, isCallR, entX, argFr, ret, retI, retB, intT, unT, endR, ressR, resR, tupT, bslR, boxR, lenAll, ↓reduceIte, Nat.reduceEqDiff, Nat.reduceAdd, Nat.reduceMul, Nat.reduceLT, Nat.reduceLeDiff, reduceCtorEq, Int.reduceLE, Int.reduceLT, ne_eq, Int.reduceEq, not_false_eq_true, decide_true, decide_false, Int.reduceToNat, tl3, Int.reduceBNe, Int.reduceBEq, hw1, hw2, Int.toNat_natCast, getD_ints (show j * c + k < t.length by omega), getD_ints (show j * c + k < x.length by omega), e1, e2, hv1, hv2]
        refine ⟨by omega, by omega, by kernel_rfl, j + 1, by omega, by omega, .ofFr ?_⟩
        simp only [ltSto, ltO2, ltO1, ltAs, ltA, ltC, ltCs, ltT, ltFr, ltS, wrOk, wrO, TL.get, hasFr, ↓reduceIte, Nat.reduceEqDiff, reduceCtorEq, Option.getD_some, Option.isSome_some, List.length_map, List.length_append, List.length_cons, List.length_nil, List.append_nil, List.mem_singleton, List.mem_cons, List.not_mem_nil, and_true, true_and, and_self, imp_self, forall_const, false_implies, implies_true, true_implies, or_false, Bool.false_eq_true, Bool.true_eq_false, ImXs_nil, true_or, or_true, false_or, false_and, and_false]
        rw [IntWalk.i64_in _ (by omega)]
        rfl
      · have h4 : j = i := by omega
        subst h4
        have b3 := cS_bound ht c k j (by omega)
        refine C1.im (c27 _ _ b (by unfold sm; omega) hb) rfl (by rfl) ?_
        simp only [tl, tl2, isCallR, entX, argFr, ret, retI, retB, intT, unT, endR, ressR, resR, tupT, bslR, boxR, lenAll, ↓reduceIte, Nat.reduceEqDiff, Nat.reduceAdd, Nat.reduceMul, Nat.reduceLT, Nat.reduceLeDiff, reduceCtorEq, Int.reduceLE, Int.reduceLT, ne_eq, Int.reduceEq, not_false_eq_true, decide_true, decide_false, Int.reduceToNat, tl3, Int.reduceBNe, Int.reduceBEq, Bool.not_eq_true', Bool.not_eq_false']
        refine ⟨fun h4 => ?_, fun h4 => ⟨k + 1, ⟨by omega, fun q hq => ?_⟩, by omega, .ofFr ?_⟩⟩
        · rw [not_fit fun hf => ?_]
          · exact .imR rfl rfl
          · have := (fitR_iff.1 hf).2.1 k h2
            rw [h4] at this
            cases this
        · by_cases e : q = k
          · subst e; exact h4
          · exact hk.2 q (by omega)
        · simp only [ltSto, ltO2, ltO1, ltAs, ltA, ltC, ltCs, ltT, ltFr, ltS, wrOk, wrO, TL.get, hasFr, ↓reduceIte, Nat.reduceEqDiff, reduceCtorEq, Option.getD_some, Option.isSome_some, List.length_map, List.length_append, List.length_cons, List.length_nil, List.append_nil, List.mem_singleton, List.mem_cons, List.not_mem_nil, and_true, true_and, and_self, imp_self, forall_const, false_implies, implies_true, true_implies, or_false, Bool.false_eq_true, Bool.true_eq_false, ImXs_nil, true_or, or_true, false_or, false_and, and_false]
          rw [IntWalk.i64_in _ (by omega)]
          rfl
    · have h3 : k = c := by omega
      subst h3
      have b5 := tS_bound ht k i (by omega) (by omega)
      refine C1.im (c27 _ _ b (by unfold sm; omega) hb) rfl (by rfl) ?_
      simp only [tl, tl2, isCallR, entX, argFr, ret, retI, retB, intT, unT, endR, ressR, resR, tupT, bslR, boxR, lenAll, ↓reduceIte, Nat.reduceEqDiff, Nat.reduceAdd, Nat.reduceMul, Nat.reduceLT, Nat.reduceLeDiff, reduceCtorEq, Int.reduceLE, Int.reduceLT, ne_eq, Int.reduceEq, not_false_eq_true, decide_true, decide_false, Int.reduceToNat, tl3, Int.reduceBNe, Int.reduceBEq]
      refine .imR ?_ rfl
      congr 2
      cases hn : nearB (tS t k i) (tS x k i) b
      · symm
        refine not_fit fun hf => ?_
        have := (fitR_iff.1 hf).2.2
        rw [hn] at this
        cases this
      · symm
        exact fitR_iff.2 ⟨hi.2, hk.2, hn⟩
end Go.Proofs

