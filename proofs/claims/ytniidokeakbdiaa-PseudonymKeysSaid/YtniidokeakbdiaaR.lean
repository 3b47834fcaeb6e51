import Derived.Test.YtniidokeakbdiaaL
set_option linter.unusedSimpArgs false
namespace Go.Proofs
open Go Go.TL
theorem and_nat {a b : Int} (ha : 0 ≤ a ∧ a < 9223372036854775808) (hb : 0 ≤ b ∧ b < 9223372036854775808) : andI .i64 a b = ((a.toNat &&& b.toNat : Nat) : Int) := by
  have h1 : a.toNat < 2 ^ 63 := by omega
  have h2 : b.toNat < 2 ^ 63 := by omega
  have h3 : a.toNat &&& b.toNat < 2 ^ 63 := Nat.and_lt_two_pow _ h2
  unfold andI
  rw [show IntKind.i64.bits = 64 from rfl, bits_nat ha.1, bits_nat hb.1, BitVec.toNat_and, BitVec.toNat_ofNat, BitVec.toNat_ofNat, Nat.mod_eq_of_lt (by omega), Nat.mod_eq_of_lt (by omega)]
  exact IntWalk.i64_in _ (by omega)
theorem or_nat {a b : Int} (ha : 0 ≤ a ∧ a < 9223372036854775808) (hb : 0 ≤ b ∧ b < 9223372036854775808) : orI .i64 a b = ((a.toNat ||| b.toNat : Nat) : Int) := by
  have h1 : a.toNat < 2 ^ 63 := by omega
  have h2 : b.toNat < 2 ^ 63 := by omega
  have h3 : a.toNat ||| b.toNat < 2 ^ 63 := Nat.or_lt_two_pow h1 h2
  unfold orI
  rw [show IntKind.i64.bits = 64 from rfl, bits_nat ha.1, bits_nat hb.1, BitVec.toNat_or, BitVec.toNat_ofNat, BitVec.toNat_ofNat, Nat.mod_eq_of_lt (by omega), Nat.mod_eq_of_lt (by omega)]
  exact IntWalk.i64_in _ (by omega)
theorem and_1023 {k : Int} (h : 0 ≤ k ∧ k < 1048576) : andI .i64 k 1023 = k % 1024 := by
  rw [and_nat (by omega) (by omega), show (1023 : Int).toNat = 2 ^ 10 - 1 from rfl, Nat.and_two_pow_sub_one_eq_mod]
  omega
theorem shr_10 {k : Int} : shrI .i64 k 10 = k / 1024 := by
  unfold shrI
  rw [Int.fdiv_eq_ediv_of_nonneg _ (by decide)]
  rfl
theorem shl_or {a b : Int} (ha : 0 ≤ a ∧ a < 1024) (hb : 0 ≤ b ∧ b < 1024) : orI .i64 (shlI .i64 a 10) b = a * 1024 + b := by
  have h1 : shlI .i64 a 10 = a * 1024 := by
    unfold shlI
    exact IntWalk.i64_in _ (by
      have : (2 : Int) ^ (min (Int.toNat 10) IntKind.i64.bits) = 1024 := by decide
      rw [this]; omega)
  rw [h1, or_nat (by omega) (by omega)]
  have h2 : (a * 1024).toNat = a.toNat <<< 10 := by rw [Nat.shiftLeft_eq]; omega
  rw [h2, ← Nat.shiftLeft_add_eq_or_of_lt (by omega), Nat.shiftLeft_eq]
  omega
theorem c7 (s n : Int) (hn : 0 ≤ n) : Spc Try.prog 7 [vI s, vU32 n] [] (vB true) [] := by
  refine spec_of_ir fn7 mixm (by simp) fun e _ hst => W_start ?_
  unfold ir7
  simp only [tl, tl2, isCallR, entX, argFr, ret, retI, retB, intT, unT, endR, ressR, resR, tupT, bslR, boxR, lenAll, ↓reduceIte, Nat.reduceEqDiff, Nat.reduceAdd, Nat.reduceMul, Nat.reduceLT, Nat.reduceLeDiff, reduceCtorEq, Int.reduceLE, Int.reduceLT, ne_eq, Int.reduceEq, not_false_eq_true, decide_true, decide_false, Int.reduceToNat]
  refine C1.im (c8' s) rfl rfl ?_
  simp only [tl, tl2, isCallR, entX, argFr, ret, retI, retB, intT, unT, endR, ressR, resR, tupT, bslR, boxR, lenAll, ↓reduceIte, Nat.reduceEqDiff, Nat.reduceAdd, Nat.reduceMul, Nat.reduceLT, Nat.reduceLeDiff, reduceCtorEq, Int.reduceLE, Int.reduceLT, ne_eq, Int.reduceEq, not_false_eq_true, decide_true, decide_false, Int.reduceToNat]
  rw [Int.tmod_eq_emod_of_nonneg hn, IntWalk.i64_in _ (by omega)]
  have hs := sec_range s
  have hk : 0 ≤ n % 1048576 ∧ n % 1048576 < 1048576 := by omega
  generalize n % 1048576 = k at hk
  generalize secI s = x at hs
  rw [and_1023 hk, shr_10]
  have hr := fwd_range (s := x) (cut_range hk)
  refine W_loop mixm (α := Nat) (fun i => i ≤ 8) (fun i => [(5, vI x), (6, vI k), (7, vI (fwd x i (cut k)).1), (8, vI (fwd x i (cut k)).2), (9, vI i)]) (fun _ => []) (fun i => 8 - i) 0 (by omega) (.ofFr (by simp [hasFr, TL.get, fwd, cut])) fun i hi => ?_
  simp only [tl, tl2, isCallR, entX, argFr, ret, retI, retB, intT, unT, endR, ressR, resR, tupT, bslR, boxR, lenAll, ↓reduceIte, Nat.reduceEqDiff, Nat.reduceAdd, Nat.reduceMul, Nat.reduceLT, Nat.reduceLeDiff, reduceCtorEq, Int.reduceLE, Int.reduceLT, ne_eq, Int.reduceEq, not_false_eq_true, decide_true, decide_false, Int.reduceToNat, decide_eq_true_eq, decide_eq_false_iff_not]
  refine ⟨fun h1 => ?_, fun h1 => ?_⟩
  · refine C1.im (c15 _ _ _) rfl rfl ?_
    rw [round_in (right_of hs hk) (by omega) (hr i).2]
    have hm := mix_range x i (fwd x i (cut k)).2
    simp only [tl, tl2, isCallR, entX, argFr, ret, retI, retB, intT, unT, endR, ressR, resR, tupT, bslR, boxR, lenAll, ↓reduceIte, Nat.reduceEqDiff, Nat.reduceAdd, Nat.reduceMul, Nat.reduceLT, Nat.reduceLeDiff, reduceCtorEq, Int.reduceLE, Int.reduceLT, ne_eq, Int.reduceEq, not_false_eq_true, decide_true, decide_false, Int.reduceToNat]
    refine ⟨fun h => ?_, fun _ => ⟨i + 1, by omega, by omega, .ofFr ?_⟩⟩
    · simp at h; omega
    · simp [hasFr, TL.get, fwd]
      exact IntWalk.i64_in _ (by omega)
  · have : i = 8 := by omega
    subst this
    refine C1.im (c9 _ _) rfl rfl ?_
    simp only [tl, tl2, isCallR, entX, argFr, ret, retI, retB, intT, unT, endR, ressR, resR, tupT, bslR, boxR, lenAll, ↓reduceIte, Nat.reduceEqDiff, Nat.reduceAdd, Nat.reduceMul, Nat.reduceLT, Nat.reduceLeDiff, reduceCtorEq, Int.reduceLE, Int.reduceLT, ne_eq, Int.reduceEq, not_false_eq_true, decide_true, decide_false, Int.reduceToNat]
    refine C2.im (fun _ => c11) (fun _ => rfl) rfl ?_
    simp only [tl, tl2, isCallR, entX, argFr, ret, retI, retB, intT, unT, endR, ressR, resR, tupT, bslR, boxR, lenAll, ↓reduceIte, Nat.reduceEqDiff, Nat.reduceAdd, Nat.reduceMul, Nat.reduceLT, Nat.reduceLeDiff, reduceCtorEq, Int.reduceLE, Int.reduceLT, ne_eq, Int.reduceEq, not_false_eq_true, decide_true, decide_false, Int.reduceToNat]
    refine .imR ?_ rfl
    rw [shl_or (hr 8).1 (hr 8).2, keyI, if_pos (right_of hs hk)]
    simp [tie]
end Go.Proofs

