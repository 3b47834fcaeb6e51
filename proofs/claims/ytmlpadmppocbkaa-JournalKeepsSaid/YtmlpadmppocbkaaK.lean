import Derived.Test.YtmlpadmppocbkaaJ
set_option linter.unusedSimpArgs false
set_option linter.unusedVariables false
namespace Go.Proofs
open Go Go.TL
theorem zeros (n : Nat) : List.replicate n (T.v (.int .u8 0)) = (List.replicate n (0 : UInt8)).map byteT := by simp [byteT]
theorem c4 (n : Int) (h0 : 0 ≤ n ∧ n < 256) : Spc Try.prog 4 [vU8 n] [] (vB true) [] := by
  refine spec_of_ir fn4 mixm (by simp) fun e _ hst => W_start ?_
  unfold ir4
  obtain ⟨m, hm, hm2⟩ : ∃ m : Nat, IntKind.i64.wrap (4094 + (IntKind.i64.wrap n).tmod 5) = m ∧ 4094 ≤ m ∧ m ≤ 4098 := by
    rw [IntWalk.i64_in n (by omega), Int.tmod_eq_emod_of_nonneg h0.1, IntWalk.i64_in _ (by omega)]
    exact ⟨(4094 + n % 5).toNat, by omega, by omega, by omega⟩
  obtain ⟨k, hk, hk2⟩ : ∃ m : Nat, IntKind.i64.wrap (262124 + (IntKind.i64.wrap n).tmod 25) = m ∧ 262124 ≤ m ∧ m ≤ 262148 := by
    rw [IntWalk.i64_in n (by omega), Int.tmod_eq_emod_of_nonneg h0.1, IntWalk.i64_in _ (by omega)]
    exact ⟨(262124 + n % 25).toNat, by omega, by omega, by omega⟩
  simp only [tl, tl2, isCallR, entX, argFr, ret, retI, retB, intT, unT, endR, ressR, resR, tupT, bslR, boxR, lenAll, ↓reduceIte, Nat.reduceEqDiff, Nat.reduceAdd, Nat.reduceMul, Nat.reduceLT, Nat.reduceLeDiff, reduceCtorEq, Int.reduceLE, Int.reduceLT, ne_eq, Int.reduceEq, not_false_eq_true, decide_true, decide_false, Int.reduceToNat, tl3, Int.reduceBNe, Int.reduceBEq, hm, hk, Int.toNat_natCast, zeros]
  refine ⟨by omega, ?_⟩
  have hz : (List.replicate m (0 : UInt8)).length = m := by simp
  generalize List.replicate m (0 : UInt8) = z at *
  have h9 := c9 z (by omega)
  obtain ⟨r, q, hr, hr2, hq⟩ : ∃ r q, frameR z = .tup [vL r, vI q] ∧ True ∧ (q == 1) = decide ((m : Int) > 4096) := by
    unfold frameR
    split
    · exact ⟨_, _, rfl, trivial, by simp; omega⟩
    · exact ⟨_, _, rfl, trivial, by simp; omega⟩
  rw [hr] at h9
  refine C1.shut [12292] h9 ?_ (by rfl) (by rfl) ?_
  · simp only [ltSto, ltO2, ltO1, ltAs, ltA, ltC, ltCs, ltT, ltFr, ltS, wrOk, wrO, TL.get, hasFr, ↓reduceIte, Nat.reduceEqDiff, reduceCtorEq, Option.getD_some, Option.isSome_some, List.length_map, List.length_append, List.length_cons, List.length_nil, List.append_nil, List.mem_singleton, List.mem_cons, List.not_mem_nil, and_true, true_and, and_self, imp_self, forall_const, false_implies, implies_true, true_implies, or_false, Bool.false_eq_true, Bool.true_eq_false, ImXs_nil, true_or, or_true, false_or, false_and, and_false, hz]
    exact bytes_v z
  simp only [tl, tl2, isCallR, entX, argFr, ret, retI, retB, intT, unT, endR, ressR, resR, tupT, bslR, boxR, lenAll, ↓reduceIte, Nat.reduceEqDiff, Nat.reduceAdd, Nat.reduceMul, Nat.reduceLT, Nat.reduceLeDiff, reduceCtorEq, Int.reduceLE, Int.reduceLT, ne_eq, Int.reduceEq, not_false_eq_true, decide_true, decide_false, Int.reduceToNat, tl3, Int.reduceBNe, Int.reduceBEq, hm, hk, Int.toNat_natCast, zeros]
  have hy : (List.replicate k (0 : UInt8)).length = k := by simp
  generalize List.replicate k (0 : UInt8) = y at *
  have h11 := c11 [] y [1] (by simp) (by omega) (by simp)
  have he : errOf [] [1] y.length = if 262144 < k + 9 then 42 else 0 := by
    unfold errOf
    rw [readB_nil, frame_length, hy]
    simp
  rw [appS_eq, he] at h11
  simp only [List.length_map, hy]
  refine ⟨by omega, trivial, ?_⟩
  refine C1.shut [16400, 20488] h11 ?_ (by rfl) (by rfl) ?_
  · simp only [ltSto, ltO2, ltO1, ltAs, ltA, ltC, ltCs, ltT, ltFr, ltS, wrOk, wrO, TL.get, hasFr, ↓reduceIte, Nat.reduceEqDiff, reduceCtorEq, Option.getD_some, Option.isSome_some, List.length_map, List.length_append, List.length_cons, List.length_nil, List.append_nil, List.mem_singleton, List.mem_cons, List.not_mem_nil, and_true, true_and, and_self, imp_self, forall_const, false_implies, implies_true, true_implies, or_false, Bool.false_eq_true, Bool.true_eq_false, ImXs_nil, true_or, or_true, false_or, false_and, and_false, hy, List.map_nil, List.map_cons]
    exact ⟨bytes_v y, rfl, bytes_v [1]⟩
  have hwk : IntKind.i64.wrap ((k : Int) + 9) = ((k + 9 : Nat) : Int) := by rw [IntWalk.i64_in _ (by omega)]; omega
  have hfin : ((if 262144 < k + 9 then (42 : Int) else 0) == 42) = decide (((k + 9 : Nat) : Int) > 262144) := by
    split
    · simp; omega
    · simp; omega
  simp only [tl, tl2, isCallR, entX, argFr, ret, retI, retB, intT, unT, endR, ressR, resR, tupT, bslR, boxR, lenAll, ↓reduceIte, Nat.reduceEqDiff, Nat.reduceAdd, Nat.reduceMul, Nat.reduceLT, Nat.reduceLeDiff, reduceCtorEq, Int.reduceLE, Int.reduceLT, ne_eq, Int.reduceEq, not_false_eq_true, decide_true, decide_false, Int.reduceToNat, tl3, Int.reduceBNe, Int.reduceBEq, hm, hk, hq, hwk, hfin, beq_self_eq_true]
  refine ⟨hy, ?_⟩
  refine C2.im (fun _ => c8) (fun _ => rfl) rfl ?_
  simp only [tl, tl2, isCallR, entX, argFr, ret, retI, retB, intT, unT, endR, ressR, resR, tupT, bslR, boxR, lenAll, ↓reduceIte, Nat.reduceEqDiff, Nat.reduceAdd, Nat.reduceMul, Nat.reduceLT, Nat.reduceLeDiff, reduceCtorEq, Int.reduceLE, Int.reduceLT, ne_eq, Int.reduceEq, not_false_eq_true, decide_true, decide_false, Int.reduceToNat, tl3, Int.reduceBNe, Int.reduceBEq]
  exact .imR rfl rfl
end Go.Proofs

