import Derived.Test.YtflkecekknmkkaaA
set_option linter.unusedSimpArgs false
namespace Go.Proofs
open Go Go.TL
def secI (s : Int) : Int := IntKind.i64.wrap (shrI .u64 (IntKind.u64.wrap s) 4)
theorem sec_range (s : Int) : 0 ≤ secI s ∧ secI s < 1152921504606846976 := by
  unfold secI
  have h : 0 ≤ IntKind.u64.wrap s ∧ IntKind.u64.wrap s < 18446744073709551616 := by rw [IntKind.wrap_u64]; omega
  have h1 : shrI .u64 (IntKind.u64.wrap s) 4 = IntKind.u64.wrap s / 16 := by
    unfold shrI
    rw [Int.fdiv_eq_ediv_of_nonneg _ (by decide)]
    rfl
  rw [h1, IntWalk.i64_in _ (by omega)]
  omega
theorem key_range {s n : Int} (h : rightI s n = true) : 0 ≤ keyI s n ∧ keyI s n < 1048576 := by
  have hn : 0 ≤ n ∧ n < 1048576 := by simp [rightI] at h; omega
  rw [keyI, if_pos h]; exact tie_range (fwd_range (cut_range hn) 8)
theorem id_range {s n : Int} (h : rightI s n = true) : 0 ≤ idI s n ∧ idI s n < 1048576 := by
  have hn : 0 ≤ n ∧ n < 1048576 := by simp [rightI] at h; omega
  rw [idI, if_pos h]; exact tie_range (bwd_range 8 (cut_range hn))
theorem right_of {s n : Int} (hs : 0 ≤ s ∧ s < 1152921504606846976) (hn : 0 ≤ n ∧ n < 1048576) : rightI s n = true := by simp [rightI]; omega
theorem id_key {s n : Int} (h : rightI s n = true) : idI s (keyI s n) = n := by
  have hn : 0 ≤ n ∧ n < 1048576 := by simp [rightI] at h; omega
  have hs : 0 ≤ s ∧ s < 1152921504606846976 := by simp [rightI] at h; omega
  have := key_range h
  rw [idI, if_pos (right_of hs this), keyI, if_pos h, cut_tie (fwd_range (cut_range hn) 8), bwd_fwd (cut_range hn), tie_cut]
theorem key_id {s n : Int} (h : rightI s n = true) : keyI s (idI s n) = n := by
  have hn : 0 ≤ n ∧ n < 1048576 := by simp [rightI] at h; omega
  have hs : 0 ≤ s ∧ s < 1152921504606846976 := by simp [rightI] at h; omega
  have := id_range h
  rw [keyI, if_pos (right_of hs this), idI, if_pos h, cut_tie (bwd_range 8 (cut_range hn)), fwd_bwd 8 (cut_range hn), tie_cut]

theorem c8' (a : Int) : Spc Try.prog 8 [vI a] [] (vI (secI a)) [] := c8 a
theorem c3 (s n : Int) (hn : 0 ≤ n) : Spc Try.prog 3 [vI s, vU32 n] [] (vB true) [] := by
  refine spec_of_ir fn3 mixm (by simp) fun e _ hst => W_start ?_
  unfold ir3
  simp only [tl, tl2, isCallR, entX, argFr, ret, retI, retB, intT, unT, endR, ressR, resR, tupT, bslR, boxR, lenAll, ↓reduceIte, Nat.reduceEqDiff, Nat.reduceAdd, Nat.reduceMul, Nat.reduceLT, Nat.reduceLeDiff, reduceCtorEq, Int.reduceLE, Int.reduceLT, ne_eq, Int.reduceEq, not_false_eq_true, decide_true, decide_false, Int.reduceToNat]
  refine C1.im (c8' s) rfl rfl ?_
  simp only [tl, tl2, isCallR, entX, argFr, ret, retI, retB, intT, unT, endR, ressR, resR, tupT, bslR, boxR, lenAll, ↓reduceIte, Nat.reduceEqDiff, Nat.reduceAdd, Nat.reduceMul, Nat.reduceLT, Nat.reduceLeDiff, reduceCtorEq, Int.reduceLE, Int.reduceLT, ne_eq, Int.reduceEq, not_false_eq_true, decide_true, decide_false, Int.reduceToNat]
  rw [Int.tmod_eq_emod_of_nonneg hn, IntWalk.i64_in _ (by omega)]
  have hr := right_of (sec_range s) (n := n % 1048576) (by omega)
  have h1 := key_range hr
  have h2 := id_range hr
  refine C1.im (c9 _ _) rfl rfl ?_
  simp only [tl, tl2, isCallR, entX, argFr, ret, retI, retB, intT, unT, endR, ressR, resR, tupT, bslR, boxR, lenAll, ↓reduceIte, Nat.reduceEqDiff, Nat.reduceAdd, Nat.reduceMul, Nat.reduceLT, Nat.reduceLeDiff, reduceCtorEq, Int.reduceLE, Int.reduceLT, ne_eq, Int.reduceEq, not_false_eq_true, decide_true, decide_false, Int.reduceToNat]
  refine C1.im (c10 _ _) rfl rfl ?_
  simp only [tl, tl2, isCallR, entX, argFr, ret, retI, retB, intT, unT, endR, ressR, resR, tupT, bslR, boxR, lenAll, ↓reduceIte, Nat.reduceEqDiff, Nat.reduceAdd, Nat.reduceMul, Nat.reduceLT, Nat.reduceLeDiff, reduceCtorEq, Int.reduceLE, Int.reduceLT, ne_eq, Int.reduceEq, not_false_eq_true, decide_true, decide_false, Int.reduceToNat]
  refine C2.im (fun _ => c10 _ _) (fun _ => rfl) rfl ?_
  simp only [tl, tl2, isCallR, entX, argFr, ret, retI, retB, intT, unT, endR, ressR, resR, tupT, bslR, boxR, lenAll, ↓reduceIte, Nat.reduceEqDiff, Nat.reduceAdd, Nat.reduceMul, Nat.reduceLT, Nat.reduceLeDiff, reduceCtorEq, Int.reduceLE, Int.reduceLT, ne_eq, Int.reduceEq, not_false_eq_true, decide_true, decide_false, Int.reduceToNat]
  refine C2.im (fun _ => c9 _ _) (fun _ => rfl) rfl ?_
  simp only [tl, tl2, isCallR, entX, argFr, ret, retI, retB, intT, unT, endR, ressR, resR, tupT, bslR, boxR, lenAll, ↓reduceIte, Nat.reduceEqDiff, Nat.reduceAdd, Nat.reduceMul, Nat.reduceLT, Nat.reduceLeDiff, reduceCtorEq, Int.reduceLE, Int.reduceLT, ne_eq, Int.reduceEq, not_false_eq_true, decide_true, decide_false, Int.reduceToNat]
  refine C2.im (fun _ => c11) (fun _ => rfl) rfl ?_
  simp only [tl, tl2, isCallR, entX, argFr, ret, retI, retB, intT, unT, endR, ressR, resR, tupT, bslR, boxR, lenAll, ↓reduceIte, Nat.reduceEqDiff, Nat.reduceAdd, Nat.reduceMul, Nat.reduceLT, Nat.reduceLeDiff, reduceCtorEq, Int.reduceLE, Int.reduceLT, ne_eq, Int.reduceEq, not_false_eq_true, decide_true, decide_false, Int.reduceToNat]
  refine .imR ?_ rfl
  simp [id_key hr, key_id hr, h1, h2]
def walkK (s : Int) (k : Int) (i : Nat) : Int := iter (keyI s) i k
theorem walkK_range {s k : Int} (hs : 0 ≤ s ∧ s < 1152921504606846976) (hk : 0 ≤ k ∧ k < 1048576) : ∀ i, 0 ≤ iter (keyI s) i k ∧ iter (keyI s) i k < 1048576
  | 0 => hk
  | i + 1 => key_range (right_of hs (walkK_range hs hk i))
theorem c5 (s n m : Int) (hn : 0 ≤ n) (hm : 0 ≤ m ∧ m < 256) : Spc Try.prog 5 [vI s, vU32 n, vU8 m] [] (vB true) [] := by
  refine spec_of_ir fn5 mixm (by simp) fun e _ hst => W_start ?_
  unfold ir5
  simp only [tl, tl2, isCallR, entX, argFr, ret, retI, retB, intT, unT, endR, ressR, resR, tupT, bslR, boxR, lenAll, ↓reduceIte, Nat.reduceEqDiff, Nat.reduceAdd, Nat.reduceMul, Nat.reduceLT, Nat.reduceLeDiff, reduceCtorEq, Int.reduceLE, Int.reduceLT, ne_eq, Int.reduceEq, not_false_eq_true, decide_true, decide_false, Int.reduceToNat]
  refine C1.im (c8' s) rfl rfl ?_
  simp only [tl, tl2, isCallR, entX, argFr, ret, retI, retB, intT, unT, endR, ressR, resR, tupT, bslR, boxR, lenAll, ↓reduceIte, Nat.reduceEqDiff, Nat.reduceAdd, Nat.reduceMul, Nat.reduceLT, Nat.reduceLeDiff, reduceCtorEq, Int.reduceLE, Int.reduceLT, ne_eq, Int.reduceEq, not_false_eq_true, decide_true, decide_false, Int.reduceToNat]
  rw [Int.tmod_eq_emod_of_nonneg hn, IntWalk.i64_in _ (by omega), IntWalk.i64_in m (by omega), Int.tmod_eq_emod_of_nonneg hm.1]
  have hs := sec_range s
  have hk : 0 ≤ n % 1048576 ∧ n % 1048576 < 1048576 := by omega
  generalize n % 1048576 = k at hk
  generalize secI s = x at hs
  obtain ⟨t, ht⟩ : ∃ t : Nat, m % 40 = t := ⟨(m % 40).toNat, by omega⟩
  rw [ht]
  have hr := walkK_range hs hk
  refine W_loop mixm (α := Nat) (fun i => i ≤ t) (fun i => [(7, vI x), (8, vI k), (9, vI t), (10, vI (iter (keyI x) i k)), (11, vI i)]) (fun _ => []) (fun i => t - i) 0 (by omega) (.ofFr (by simp [hasFr, TL.get, iter])) fun i hi => ?_
  simp only [tl, tl2, isCallR, entX, argFr, ret, retI, retB, intT, unT, endR, ressR, resR, tupT, bslR, boxR, lenAll, ↓reduceIte, Nat.reduceEqDiff, Nat.reduceAdd, Nat.reduceMul, Nat.reduceLT, Nat.reduceLeDiff, reduceCtorEq, Int.reduceLE, Int.reduceLT, ne_eq, Int.reduceEq, not_false_eq_true, decide_true, decide_false, Int.reduceToNat, decide_eq_true_eq, decide_eq_false_iff_not]
  refine ⟨fun h1 => ?_, fun h1 => ?_⟩
  · refine C1.im (c9 _ _) rfl rfl ?_
    simp only [tl, tl2, isCallR, entX, argFr, ret, retI, retB, intT, unT, endR, ressR, resR, tupT, bslR, boxR, lenAll, ↓reduceIte, Nat.reduceEqDiff, Nat.reduceAdd, Nat.reduceMul, Nat.reduceLT, Nat.reduceLeDiff, reduceCtorEq, Int.reduceLE, Int.reduceLT, ne_eq, Int.reduceEq, not_false_eq_true, decide_true, decide_false, Int.reduceToNat]
    refine ⟨i + 1, by omega, by omega, .ofFr ?_⟩
    simp [hasFr, TL.get, iter]
    exact IntWalk.i64_in _ (by omega)
  · have : i = t := by omega
    subst this
    refine W_loop mixm (α := Nat) (fun j => j ≤ i) (fun j => [(7, vI x), (8, vI k), (9, vI i), (10, vI (iter (keyI x) (i - j) k)), (12, vI j)]) (fun _ => []) (fun j => i - j) 0 (by omega) (.ofFr (by simp [hasFr, TL.get])) fun j hj => ?_
    simp only [tl, tl2, isCallR, entX, argFr, ret, retI, retB, intT, unT, endR, ressR, resR, tupT, bslR, boxR, lenAll, ↓reduceIte, Nat.reduceEqDiff, Nat.reduceAdd, Nat.reduceMul, Nat.reduceLT, Nat.reduceLeDiff, reduceCtorEq, Int.reduceLE, Int.reduceLT, ne_eq, Int.reduceEq, not_false_eq_true, decide_true, decide_false, Int.reduceToNat, decide_eq_true_eq, decide_eq_false_iff_not]
    refine ⟨fun h1 => ?_, fun h1 => ?_⟩
    · refine C1.im (c10 _ _) rfl rfl ?_
      simp only [tl, tl2, isCallR, entX, argFr, ret, retI, retB, intT, unT, endR, ressR, resR, tupT, bslR, boxR, lenAll, ↓reduceIte, Nat.reduceEqDiff, Nat.reduceAdd, Nat.reduceMul, Nat.reduceLT, Nat.reduceLeDiff, reduceCtorEq, Int.reduceLE, Int.reduceLT, ne_eq, Int.reduceEq, not_false_eq_true, decide_true, decide_false, Int.reduceToNat]
      refine ⟨j + 1, by omega, by omega, .ofFr ?_⟩
      obtain ⟨d, hd⟩ : ∃ d, i - j = d + 1 := ⟨i - j - 1, by omega⟩
      have hd' : i - (j + 1) = d := by omega
      simp only [hd, hd', iter, id_key (right_of hs (hr d))]
      simp [hasFr, TL.get]
      exact IntWalk.i64_in _ (by omega)
    · have : j = i := by omega
      subst this
      refine C2.im (fun _ => c11) (fun _ => rfl) rfl ?_
      simp only [tl, tl2, isCallR, entX, argFr, ret, retI, retB, intT, unT, endR, ressR, resR, tupT, bslR, boxR, lenAll, ↓reduceIte, Nat.reduceEqDiff, Nat.reduceAdd, Nat.reduceMul, Nat.reduceLT, Nat.reduceLeDiff, reduceCtorEq, Int.reduceLE, Int.reduceLT, ne_eq, Int.reduceEq, not_false_eq_true, decide_true, decide_false, Int.reduceToNat]
      refine .imR ?_ rfl
      simp [iter]
end Go.Proofs

