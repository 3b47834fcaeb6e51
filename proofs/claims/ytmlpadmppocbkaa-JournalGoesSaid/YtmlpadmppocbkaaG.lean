import Derived.Test.YtmlpadmppocbkaaF2
set_option linter.unusedSimpArgs false
namespace Go.Proofs
open Go Go.TL
def appS (a p l : List UInt8) : T :=
  if 4096 < l.length then .tup [vF a p, vI 1]
  else if (readB a).2 ≠ a.length then .tup [vF a p, vI 40]
  else if 262144 < a.length + p.length + (frame l).length then .tup [vF a p, vI 42]
  else .tup [vF a (p ++ frame l), vI 0]
theorem frame_length (l : List UInt8) : (frame l).length = l.length + 8 := by simp [frame, four_length]; omega
theorem rdL_le : ∀ (f : Nat) (r : List UInt8), (rdL f r).2 ≤ r.length
  | 0, r => by simp [rdL]
  | f + 1, r => by
    simp only [rdL]
    split
    · rename_i h
      have := rdL_le f (r.drop ((num r).toNat + 8))
      simp only [good, Bool.and_eq_true, decide_eq_true_eq] at h
      have h2 := h.2.2.1
      have h3 := num_range r
      simp only [List.length_drop] at this ⊢
      omega
    · simp
theorem readB_le (b : List UInt8) : (readB b).2 ≤ b.length := rdL_le _ _
theorem c11 (a p l : List UInt8) (ha : a.length ≤ 600000) (hp : p.length ≤ 300000) (hl : l.length ≤ 1048576) : Spc Try.prog 11 [vF a p, vL l] [] (appS a p l) [] := by
  refine spec_of_ir fn11 mixm (by simp) fun e _ hst => W_start ?_
  unfold ir11
  simp only [tl, tl2, isCallR, entX, argFr, ret, retI, retB, intT, unT, endR, ressR, resR, tupT, bslR, boxR, lenAll, ↓reduceIte, Nat.reduceEqDiff, Nat.reduceAdd, Nat.reduceMul, Nat.reduceLT, Nat.reduceLeDiff, reduceCtorEq, Int.reduceLE, Int.reduceLT, ne_eq, Int.reduceEq, not_false_eq_true, decide_true, decide_false, Int.reduceToNat, tl3, Int.reduceBNe, Int.reduceBEq]
  refine C1.im (c28 a p (by omega) (by omega)) rfl rfl ?_
  simp only [tl, tl2, isCallR, entX, argFr, ret, retI, retB, intT, unT, endR, ressR, resR, tupT, bslR, boxR, lenAll, ↓reduceIte, Nat.reduceEqDiff, Nat.reduceAdd, Nat.reduceMul, Nat.reduceLT, Nat.reduceLeDiff, reduceCtorEq, Int.reduceLE, Int.reduceLT, ne_eq, Int.reduceEq, not_false_eq_true, decide_true, decide_false, Int.reduceToNat, tl3, Int.reduceBNe, Int.reduceBEq]
  refine C1.im (c9 l hl) rfl (by unfold frameR; split <;> rfl) ?_
  unfold frameR
  split
  · rename_i h
    simp only [tl, tl2, isCallR, entX, argFr, ret, retI, retB, intT, unT, endR, ressR, resR, tupT, bslR, boxR, lenAll, ↓reduceIte, Nat.reduceEqDiff, Nat.reduceAdd, Nat.reduceMul, Nat.reduceLT, Nat.reduceLeDiff, reduceCtorEq, Int.reduceLE, Int.reduceLT, ne_eq, Int.reduceEq, not_false_eq_true, decide_true, decide_false, Int.reduceToNat, tl3, Int.reduceBNe, Int.reduceBEq, decide_eq_true_eq, decide_eq_false_iff_not]
    refine C1.im (c10 a (by omega)) (by rfl) (by rfl) ?_
    have hle := readB_le a
    have hf := frame_length l
    have hw : IntKind.i64.wrap (IntKind.i64.wrap ((a.length : Int) + p.length) + (frame l).length) = ((a.length + p.length + (frame l).length : Nat) : Int) := by
      rw [IntWalk.i64_in ((a.length : Int) + p.length) (by omega), IntWalk.i64_in _ (by omega)]; omega
    simp only [tl, tl2, isCallR, entX, argFr, ret, retI, retB, intT, unT, endR, ressR, resR, tupT, bslR, boxR, lenAll, ↓reduceIte, Nat.reduceEqDiff, Nat.reduceAdd, Nat.reduceMul, Nat.reduceLT, Nat.reduceLeDiff, reduceCtorEq, Int.reduceLE, Int.reduceLT, ne_eq, Int.reduceEq, not_false_eq_true, decide_true, decide_false, Int.reduceToNat, tl3, Int.reduceBNe, Int.reduceBEq, decide_eq_true_eq, decide_eq_false_iff_not, hw, bne_iff_ne, bne_eq_false_iff_eq]
    refine ⟨fun h1 => ?_, fun h1 => ⟨fun h2 => ?_, fun h2 => ?_⟩⟩
    · rw [appS, if_neg (by omega), if_pos (by omega)]
      exact .imR rfl rfl
    · rw [appS, if_neg (by omega), if_neg (by omega), if_pos (by omega)]
      exact .imR rfl rfl
    · rw [appS, if_neg (by omega), if_neg (by omega), if_neg (by omega)]
      refine C1.im (c29 p (frame l) (by omega) (by omega)) (by rfl) (by rfl) ?_
      simp only [tl, tl2, isCallR, entX, argFr, ret, retI, retB, intT, unT, endR, ressR, resR, tupT, bslR, boxR, lenAll, ↓reduceIte, Nat.reduceEqDiff, Nat.reduceAdd, Nat.reduceMul, Nat.reduceLT, Nat.reduceLeDiff, reduceCtorEq, Int.reduceLE, Int.reduceLT, ne_eq, Int.reduceEq, not_false_eq_true, decide_true, decide_false, Int.reduceToNat, tl3, Int.reduceBNe, Int.reduceBEq]
      exact .imR rfl rfl
  · rename_i h
    simp only [tl, tl2, isCallR, entX, argFr, ret, retI, retB, intT, unT, endR, ressR, resR, tupT, bslR, boxR, lenAll, ↓reduceIte, Nat.reduceEqDiff, Nat.reduceAdd, Nat.reduceMul, Nat.reduceLT, Nat.reduceLeDiff, reduceCtorEq, Int.reduceLE, Int.reduceLT, ne_eq, Int.reduceEq, not_false_eq_true, decide_true, decide_false, Int.reduceToNat, tl3, Int.reduceBNe, Int.reduceBEq, decide_eq_true_eq, decide_eq_false_iff_not]
    rw [appS, if_pos (by omega)]
    exact .imR rfl rfl
theorem c32o (a p : List UInt8) (ha : a.length ≤ 1048576) (hp : p.length ≤ 1048576) : Spc Try.prog 32 [vF a p] [] (.agg [.asl 0 a.length, .asl 1 p.length]) [(0, .arr 1 (a.map byteT) false), (1, .arr 1 (p.map byteT) false)] := by
  refine spec_of_ir fn32 mixm (by simp) fun e _ hst => W_start ?_
  unfold ir32
  simp only [tl, tl2, isCallR, entX, argFr, ret, retI, retB, intT, unT, endR, ressR, resR, tupT, bslR, boxR, lenAll, ↓reduceIte, Nat.reduceEqDiff, Nat.reduceAdd, Nat.reduceMul, Nat.reduceLT, Nat.reduceLeDiff, reduceCtorEq, Int.reduceLE, Int.reduceLT, ne_eq, Int.reduceEq, not_false_eq_true, decide_true, decide_false, Int.reduceToNat, tl3, Int.reduceBNe, Int.reduceBEq]
  refine ⟨by omega, by omega, by kernel_rfl, .of [(0, some 8192), (1, some 8208)] [] rfl rfl ?_ ?_⟩
  · simp only [ltSto, ltO2, ltO1, ltAs, ltA, ltC, ltCs, ltT, ltFr, ltS, wrOk, wrO, TL.get, hasFr, ↓reduceIte, Nat.reduceEqDiff, reduceCtorEq, Option.getD_some, Option.isSome_some, List.length_map, List.length_append, List.length_cons, List.length_nil, List.append_nil, List.mem_singleton, List.mem_cons, List.not_mem_nil, and_true, true_and, and_self, imp_self, forall_const, false_implies, implies_true, true_implies, or_false, Bool.false_eq_true, Bool.true_eq_false, ImXs_nil, true_or, or_true, false_or, false_and, and_false]
    exact ⟨ltXs_bytes a, ltXs_bytes p⟩
  · simp only [ltSto, ltO2, ltO1, ltAs, ltA, ltC, ltCs, ltT, ltFr, ltS, wrOk, wrO, TL.get, hasFr, ↓reduceIte, Nat.reduceEqDiff, reduceCtorEq, Option.getD_some, Option.isSome_some, List.length_map, List.length_append, List.length_cons, List.length_nil, List.append_nil, List.mem_singleton, List.mem_cons, List.not_mem_nil, and_true, true_and, and_self, imp_self, forall_const, false_implies, implies_true, true_implies, or_false, Bool.false_eq_true, Bool.true_eq_false, ImXs_nil, true_or, or_true, false_or, false_and, and_false]
theorem c14 (a p l : List UInt8) (ha : a.length ≤ 600000) (hp : p.length ≤ 300000) (hl : l.length ≤ 1048576) : Spc Try.prog 14 [vF a p, vL l] [] (appS a p l) [] := by
  refine spec_of_ir fn14 mixm (by simp) fun e _ hst => W_start ?_
  unfold ir14
  simp only [tl, tl2, isCallR, entX, argFr, ret, retI, retB, intT, unT, endR, ressR, resR, tupT, bslR, boxR, lenAll, ↓reduceIte, Nat.reduceEqDiff, Nat.reduceAdd, Nat.reduceMul, Nat.reduceLT, Nat.reduceLeDiff, reduceCtorEq, Int.reduceLE, Int.reduceLT, ne_eq, Int.reduceEq, not_false_eq_true, decide_true, decide_false, Int.reduceToNat, tl3, Int.reduceBNe, Int.reduceBEq]
  refine C1.im (c13 l hl) rfl (by unfold frameR; split <;> rfl) ?_
  unfold frameR
  split
  · rename_i h
    simp only [tl, tl2, isCallR, entX, argFr, ret, retI, retB, intT, unT, endR, ressR, resR, tupT, bslR, boxR, lenAll, ↓reduceIte, Nat.reduceEqDiff, Nat.reduceAdd, Nat.reduceMul, Nat.reduceLT, Nat.reduceLeDiff, reduceCtorEq, Int.reduceLE, Int.reduceLT, ne_eq, Int.reduceEq, not_false_eq_true, decide_true, decide_false, Int.reduceToNat, tl3, Int.reduceBNe, Int.reduceBEq, decide_eq_true_eq, decide_eq_false_iff_not]
    refine C1.im (c17 a (by omega)) (by rfl) (by rfl) ?_
    have hle := readB_le a
    have hf := frame_length l
    have hw : IntKind.i64.wrap (IntKind.i64.wrap ((a.length : Int) + p.length) + (frame l).length) = ((a.length + p.length + (frame l).length : Nat) : Int) := by
      rw [IntWalk.i64_in ((a.length : Int) + p.length) (by omega), IntWalk.i64_in _ (by omega)]; omega
    simp only [tl, tl2, isCallR, entX, argFr, ret, retI, retB, intT, unT, endR, ressR, resR, tupT, bslR, boxR, lenAll, ↓reduceIte, Nat.reduceEqDiff, Nat.reduceAdd, Nat.reduceMul, Nat.reduceLT, Nat.reduceLeDiff, reduceCtorEq, Int.reduceLE, Int.reduceLT, ne_eq, Int.reduceEq, not_false_eq_true, decide_true, decide_false, Int.reduceToNat, tl3, Int.reduceBNe, Int.reduceBEq, decide_eq_true_eq, decide_eq_false_iff_not, hw, bne_iff_ne, bne_eq_false_iff_eq]
    refine ⟨fun h1 => ?_, fun h1 => ⟨fun h2 => ?_, fun h2 => ?_⟩⟩
    · rw [appS, if_neg (by omega), if_pos (by omega)]
      refine C1.im (c32 a p (by omega) (by omega)) (by rfl) (by rfl) ?_
      simp only [tl, tl2, isCallR, entX, argFr, ret, retI, retB, intT, unT, endR, ressR, resR, tupT, bslR, boxR, lenAll, ↓reduceIte, Nat.reduceEqDiff, Nat.reduceAdd, Nat.reduceMul, Nat.reduceLT, Nat.reduceLeDiff, reduceCtorEq, Int.reduceLE, Int.reduceLT, ne_eq, Int.reduceEq, not_false_eq_true, decide_true, decide_false, Int.reduceToNat, tl3, Int.reduceBNe, Int.reduceBEq]
      exact .imR rfl rfl
    · rw [appS, if_neg (by omega), if_neg (by omega), if_pos (by omega)]
      refine C1.im (c32 a p (by omega) (by omega)) (by rfl) (by rfl) ?_
      simp only [tl, tl2, isCallR, entX, argFr, ret, retI, retB, intT, unT, endR, ressR, resR, tupT, bslR, boxR, lenAll, ↓reduceIte, Nat.reduceEqDiff, Nat.reduceAdd, Nat.reduceMul, Nat.reduceLT, Nat.reduceLeDiff, reduceCtorEq, Int.reduceLE, Int.reduceLT, ne_eq, Int.reduceEq, not_false_eq_true, decide_true, decide_false, Int.reduceToNat, tl3, Int.reduceBNe, Int.reduceBEq]
      exact .imR rfl rfl
    · rw [appS, if_neg (by omega), if_neg (by omega), if_neg (by omega)]
      refine C1.of [] [(10, some 0), (11, some 1)] [] [(10, .arr 1 (a.map byteT) false), (11, .arr 1 (p.map byteT) false)] (val := .agg [.asl 10 a.length, .asl 11 p.length]) (c32o a p (by omega) (by omega)) ?_ rfl trivial rfl rfl ?_ rfl rfl ?_ (.inl rfl) ?_
      · simp only [ltSto, ltO2, ltO1, ltAs, ltA, ltC, ltCs, ltT, ltFr, ltS, wrOk, wrO, TL.get, hasFr, ↓reduceIte, Nat.reduceEqDiff, reduceCtorEq, Option.getD_some, Option.isSome_some, List.length_map, List.length_append, List.length_cons, List.length_nil, List.append_nil, List.mem_singleton, List.mem_cons, List.not_mem_nil, and_true, true_and, and_self, imp_self, forall_const, false_implies, implies_true, true_implies, or_false, Bool.false_eq_true, Bool.true_eq_false, ImXs_nil, true_or, or_true, false_or, false_and, and_false]
      · simp only [ltSto, ltO2, ltO1, ltAs, ltA, ltC, ltCs, ltT, ltFr, ltS, wrOk, wrO, TL.get, hasFr, ↓reduceIte, Nat.reduceEqDiff, reduceCtorEq, Option.getD_some, Option.isSome_some, List.length_map, List.length_append, List.length_cons, List.length_nil, List.append_nil, List.mem_singleton, List.mem_cons, List.not_mem_nil, and_true, true_and, and_self, imp_self, forall_const, false_implies, implies_true, true_implies, or_false, Bool.false_eq_true, Bool.true_eq_false, ImXs_nil, true_or, or_true, false_or, false_and, and_false]
        exact ⟨ltXs_bytes a, ltXs_bytes p⟩
      · simp only [ltSto, ltO2, ltO1, ltAs, ltA, ltC, ltCs, ltT, ltFr, ltS, wrOk, wrO, TL.get, hasFr, ↓reduceIte, Nat.reduceEqDiff, reduceCtorEq, Option.getD_some, Option.isSome_some, List.length_map, List.length_append, List.length_cons, List.length_nil, List.append_nil, List.mem_singleton, List.mem_cons, List.not_mem_nil, and_true, true_and, and_self, imp_self, forall_const, false_implies, implies_true, true_implies, or_false, Bool.false_eq_true, Bool.true_eq_false, ImXs_nil, true_or, or_true, false_or, false_and, and_false]
      simp only [tl, tl2, isCallR, entX, argFr, ret, retI, retB, intT, unT, endR, ressR, resR, tupT, bslR, boxR, lenAll, ↓reduceIte, Nat.reduceEqDiff, Nat.reduceAdd, Nat.reduceMul, Nat.reduceLT, Nat.reduceLeDiff, reduceCtorEq, Int.reduceLE, Int.reduceLT, ne_eq, Int.reduceEq, not_false_eq_true, decide_true, decide_false, Int.reduceToNat, tl3, Int.reduceBNe, Int.reduceBEq]
      refine ⟨by omega, .of [] [10, 11] rfl rfl trivial ?_⟩
      simp only [ltSto, ltO2, ltO1, ltAs, ltA, ltC, ltCs, ltT, ltFr, ltS, wrOk, wrO, TL.get, hasFr, ↓reduceIte, Nat.reduceEqDiff, reduceCtorEq, Option.getD_some, Option.isSome_some, List.length_map, List.length_append, List.length_cons, List.length_nil, List.append_nil, List.mem_singleton, List.mem_cons, List.not_mem_nil, and_true, true_and, and_self, imp_self, forall_const, false_implies, implies_true, true_implies, or_false, Bool.false_eq_true, Bool.true_eq_false, ImXs_nil, true_or, or_true, false_or, false_and, and_false, ← List.map_append]
      exact ⟨bytes_v a, bytes_v (p ++ frame l)⟩
  · rename_i h
    simp only [tl, tl2, isCallR, entX, argFr, ret, retI, retB, intT, unT, endR, ressR, resR, tupT, bslR, boxR, lenAll, ↓reduceIte, Nat.reduceEqDiff, Nat.reduceAdd, Nat.reduceMul, Nat.reduceLT, Nat.reduceLeDiff, reduceCtorEq, Int.reduceLE, Int.reduceLT, ne_eq, Int.reduceEq, not_false_eq_true, decide_true, decide_false, Int.reduceToNat, tl3, Int.reduceBNe, Int.reduceBEq, decide_eq_true_eq, decide_eq_false_iff_not]
    rw [appS, if_pos (by omega)]
    refine C1.im (c32 a p (by omega) (by omega)) (by rfl) (by rfl) ?_
    simp only [tl, tl2, isCallR, entX, argFr, ret, retI, retB, intT, unT, endR, ressR, resR, tupT, bslR, boxR, lenAll, ↓reduceIte, Nat.reduceEqDiff, Nat.reduceAdd, Nat.reduceMul, Nat.reduceLT, Nat.reduceLeDiff, reduceCtorEq, Int.reduceLE, Int.reduceLT, ne_eq, Int.reduceEq, not_false_eq_true, decide_true, decide_false, Int.reduceToNat, tl3, Int.reduceBNe, Int.reduceBEq]
    exact .imR rfl rfl
def kp (p : List UInt8) (keep : Int) : Nat := (minI (maxI 0 keep) p.length).toNat
theorem kp_eq (p : List UInt8) (keep : Int) : minI (maxI 0 keep) p.length = kp p keep ∧ kp p keep ≤ p.length := by
  unfold kp minI maxI
  split <;> split <;> omega
theorem max_comm (a b : Int) : maxI a b = maxI b a := by unfold maxI; split <;> split <;> omega
def crashS (a p : List UInt8) (keep : Int) : T := vF (a ++ p.take (kp p keep)) []
theorem c22 (a p : List UInt8) (keep : Int) (ha : a.length ≤ 1000000) (hp : p.length ≤ 1000000) : Spc Try.prog 22 [vF a p, vI keep] [] (crashS a p keep) [] := by
  refine spec_of_ir fn22 mixm (by simp) fun e _ hst => W_start ?_
  unfold ir22
  obtain ⟨h1, h2⟩ := kp_eq p keep
  simp only [tl, tl2, isCallR, entX, argFr, ret, retI, retB, intT, unT, endR, ressR, resR, tupT, bslR, boxR, lenAll, ↓reduceIte, Nat.reduceEqDiff, Nat.reduceAdd, Nat.reduceMul, Nat.reduceLT, Nat.reduceLeDiff, reduceCtorEq, Int.reduceLE, Int.reduceLT, ne_eq, Int.reduceEq, not_false_eq_true, decide_true, decide_false, Int.reduceToNat, tl3, Int.reduceBNe, Int.reduceBEq, h1, cut_map, cut_to]
  refine ⟨by omega, ?_⟩
  refine C1.im (c29 a (p.take (kp p keep)) (by omega) (by simp; omega)) (by rfl) (by rfl) ?_
  simp only [tl, tl2, isCallR, entX, argFr, ret, retI, retB, intT, unT, endR, ressR, resR, tupT, bslR, boxR, lenAll, ↓reduceIte, Nat.reduceEqDiff, Nat.reduceAdd, Nat.reduceMul, Nat.reduceLT, Nat.reduceLeDiff, reduceCtorEq, Int.reduceLE, Int.reduceLT, ne_eq, Int.reduceEq, not_false_eq_true, decide_true, decide_false, Int.reduceToNat, tl3, Int.reduceBNe, Int.reduceBEq]
  refine ⟨by kernel_rfl, .of [] [] rfl rfl trivial ?_⟩
  simp only [ltSto, ltO2, ltO1, ltAs, ltA, ltC, ltCs, ltT, ltFr, ltS, wrOk, wrO, TL.get, hasFr, ↓reduceIte, Nat.reduceEqDiff, reduceCtorEq, Option.getD_some, Option.isSome_some, List.length_map, List.length_append, List.length_cons, List.length_nil, List.append_nil, List.mem_singleton, List.mem_cons, List.not_mem_nil, and_true, true_and, and_self, imp_self, forall_const, false_implies, implies_true, true_implies, or_false, Bool.false_eq_true, Bool.true_eq_false, ImXs_nil, true_or, or_true, false_or, false_and, and_false, crashS, List.map_nil]
theorem c20 (a p : List UInt8) (ha : a.length ≤ 1000000) (hp : p.length ≤ 1000000) : Spc Try.prog 20 [vF a p] [] (crashS a p p.length) [] := by
  refine spec_of_ir fn20 mixm (by simp) fun e _ hst => W_start ?_
  unfold ir20
  simp only [tl, tl2, isCallR, entX, argFr, ret, retI, retB, intT, unT, endR, ressR, resR, tupT, bslR, boxR, lenAll, ↓reduceIte, Nat.reduceEqDiff, Nat.reduceAdd, Nat.reduceMul, Nat.reduceLT, Nat.reduceLeDiff, reduceCtorEq, Int.reduceLE, Int.reduceLT, ne_eq, Int.reduceEq, not_false_eq_true, decide_true, decide_false, Int.reduceToNat, tl3, Int.reduceBNe, Int.reduceBEq]
  refine C1.im (c22 a p p.length ha hp) (by rfl) (by rfl) ?_
  simp only [tl, tl2, isCallR, entX, argFr, ret, retI, retB, intT, unT, endR, ressR, resR, tupT, bslR, boxR, lenAll, ↓reduceIte, Nat.reduceEqDiff, Nat.reduceAdd, Nat.reduceMul, Nat.reduceLT, Nat.reduceLeDiff, reduceCtorEq, Int.reduceLE, Int.reduceLT, ne_eq, Int.reduceEq, not_false_eq_true, decide_true, decide_false, Int.reduceToNat, tl3, Int.reduceBNe, Int.reduceBEq, crashS]
  exact .imR rfl rfl
theorem c23 (a p : List UInt8) (keep : Int) (ha : a.length ≤ 1000000) (hp : p.length ≤ 1000000) : Spc Try.prog 23 [vF a p, vI keep] [] (crashS a p keep) [] := by
  refine spec_of_ir fn23 mixm (by simp) fun e _ hst => W_start ?_
  unfold ir23
  obtain ⟨h1, h2⟩ := kp_eq p keep
  rw [max_comm] at h1
  simp only [tl, tl2, isCallR, entX, argFr, ret, retI, retB, intT, unT, endR, ressR, resR, tupT, bslR, boxR, lenAll, ↓reduceIte, Nat.reduceEqDiff, Nat.reduceAdd, Nat.reduceMul, Nat.reduceLT, Nat.reduceLeDiff, reduceCtorEq, Int.reduceLE, Int.reduceLT, ne_eq, Int.reduceEq, not_false_eq_true, decide_true, decide_false, Int.reduceToNat, tl3, Int.reduceBNe, Int.reduceBEq, h1, cut_map, cut_to, List.length_take]
  refine ⟨by omega, by omega, by omega, by kernel_rfl, .of [] [12288] rfl rfl trivial ?_⟩
  simp only [ltSto, ltO2, ltO1, ltAs, ltA, ltC, ltCs, ltT, ltFr, ltS, wrOk, wrO, TL.get, hasFr, ↓reduceIte, Nat.reduceEqDiff, reduceCtorEq, Option.getD_some, Option.isSome_some, List.length_map, List.length_append, List.length_cons, List.length_nil, List.append_nil, List.mem_singleton, List.mem_cons, List.not_mem_nil, and_true, true_and, and_self, imp_self, forall_const, false_implies, implies_true, true_implies, or_false, Bool.false_eq_true, Bool.true_eq_false, ImXs_nil, true_or, or_true, false_or, false_and, and_false, crashS, List.map_nil, ← List.map_append, List.length_take]
  exact bytes_v (a ++ p.take (kp p keep))
theorem c21 (a p : List UInt8) (ha : a.length ≤ 1000000) (hp : p.length ≤ 1000000) : Spc Try.prog 21 [vF a p] [] (crashS a p p.length) [] := by
  refine spec_of_ir fn21 mixm (by simp) fun e _ hst => W_start ?_
  unfold ir21
  simp only [tl, tl2, isCallR, entX, argFr, ret, retI, retB, intT, unT, endR, ressR, resR, tupT, bslR, boxR, lenAll, ↓reduceIte, Nat.reduceEqDiff, Nat.reduceAdd, Nat.reduceMul, Nat.reduceLT, Nat.reduceLeDiff, reduceCtorEq, Int.reduceLE, Int.reduceLT, ne_eq, Int.reduceEq, not_false_eq_true, decide_true, decide_false, Int.reduceToNat, tl3, Int.reduceBNe, Int.reduceBEq]
  refine C1.im (c23 a p p.length ha hp) (by rfl) (by rfl) ?_
  simp only [tl, tl2, isCallR, entX, argFr, ret, retI, retB, intT, unT, endR, ressR, resR, tupT, bslR, boxR, lenAll, ↓reduceIte, Nat.reduceEqDiff, Nat.reduceAdd, Nat.reduceMul, Nat.reduceLT, Nat.reduceLeDiff, reduceCtorEq, Int.reduceLE, Int.reduceLT, ne_eq, Int.reduceEq, not_false_eq_true, decide_true, decide_false, Int.reduceToNat, tl3, Int.reduceBNe, Int.reduceBEq, crashS]
  exact .imR rfl rfl
def recS (a : List UInt8) : T := .tup [vF (a.take (readB a).2) [], .sl 1 ((readB a).1.map vL)]
theorem c15 (a p : List UInt8) (ha : a.length ≤ 1000000) (hp : p.length ≤ 1000000) : Spc Try.prog 15 [vF a p] [] (recS a) [] := by
  refine spec_of_ir fn15 mixm (by simp) fun e _ hst => W_start ?_
  unfold ir15
  simp only [tl, tl2, isCallR, entX, argFr, ret, retI, retB, intT, unT, endR, ressR, resR, tupT, bslR, boxR, lenAll, ↓reduceIte, Nat.reduceEqDiff, Nat.reduceAdd, Nat.reduceMul, Nat.reduceLT, Nat.reduceLeDiff, reduceCtorEq, Int.reduceLE, Int.reduceLT, ne_eq, Int.reduceEq, not_false_eq_true, decide_true, decide_false, Int.reduceToNat, tl3, Int.reduceBNe, Int.reduceBEq]
  refine C1.im (c10 a (by omega)) (by rfl) (by rfl) ?_
  have hle := readB_le a
  simp only [tl, tl2, isCallR, entX, argFr, ret, retI, retB, intT, unT, endR, ressR, resR, tupT, bslR, boxR, lenAll, ↓reduceIte, Nat.reduceEqDiff, Nat.reduceAdd, Nat.reduceMul, Nat.reduceLT, Nat.reduceLeDiff, reduceCtorEq, Int.reduceLE, Int.reduceLT, ne_eq, Int.reduceEq, not_false_eq_true, decide_true, decide_false, Int.reduceToNat, tl3, Int.reduceBNe, Int.reduceBEq, cut_map, cut_to]
  refine ⟨by omega, ?_⟩
  refine C1.im (c27p (a.take (readB a).2) (by simp; omega)) (by rfl) (by rfl) ?_
  simp only [tl, tl2, isCallR, entX, argFr, ret, retI, retB, intT, unT, endR, ressR, resR, tupT, bslR, boxR, lenAll, ↓reduceIte, Nat.reduceEqDiff, Nat.reduceAdd, Nat.reduceMul, Nat.reduceLT, Nat.reduceLeDiff, reduceCtorEq, Int.reduceLE, Int.reduceLT, ne_eq, Int.reduceEq, not_false_eq_true, decide_true, decide_false, Int.reduceToNat, tl3, Int.reduceBNe, Int.reduceBEq]
  refine .of [] [] rfl rfl trivial ?_
  simp only [ltSto, ltO2, ltO1, ltAs, ltA, ltC, ltCs, ltT, ltFr, ltS, wrOk, wrO, TL.get, hasFr, ↓reduceIte, Nat.reduceEqDiff, reduceCtorEq, Option.getD_some, Option.isSome_some, List.length_map, List.length_append, List.length_cons, List.length_nil, List.append_nil, List.mem_singleton, List.mem_cons, List.not_mem_nil, and_true, true_and, and_self, imp_self, forall_const, false_implies, implies_true, true_implies, or_false, Bool.false_eq_true, Bool.true_eq_false, ImXs_nil, true_or, or_true, false_or, false_and, and_false, recS, List.map_nil]
theorem c16 (a p : List UInt8) (ha : a.length ≤ 1000000) (hp : p.length ≤ 1000000) : Spc Try.prog 16 [vF a p] [] (recS a) [] := by
  refine spec_of_ir fn16 mixm (by simp) fun e _ hst => W_start ?_
  unfold ir16
  simp only [tl, tl2, isCallR, entX, argFr, ret, retI, retB, intT, unT, endR, ressR, resR, tupT, bslR, boxR, lenAll, ↓reduceIte, Nat.reduceEqDiff, Nat.reduceAdd, Nat.reduceMul, Nat.reduceLT, Nat.reduceLeDiff, reduceCtorEq, Int.reduceLE, Int.reduceLT, ne_eq, Int.reduceEq, not_false_eq_true, decide_true, decide_false, Int.reduceToNat, tl3, Int.reduceBNe, Int.reduceBEq]
  refine C1.im (c17 a (by omega)) (by rfl) (by rfl) ?_
  have hle := readB_le a
  simp only [tl, tl2, isCallR, entX, argFr, ret, retI, retB, intT, unT, endR, ressR, resR, tupT, bslR, boxR, lenAll, ↓reduceIte, Nat.reduceEqDiff, Nat.reduceAdd, Nat.reduceMul, Nat.reduceLT, Nat.reduceLeDiff, reduceCtorEq, Int.reduceLE, Int.reduceLT, ne_eq, Int.reduceEq, not_false_eq_true, decide_true, decide_false, Int.reduceToNat, tl3, Int.reduceBNe, Int.reduceBEq, cut_map, cut_to]
  have h1 : (a.take (readB a).2).length ≤ 1000000 := by simp; omega
  refine ⟨by omega, by omega, .of [] [12288] rfl rfl trivial ?_⟩
  simp only [ltSto, ltO2, ltO1, ltAs, ltA, ltC, ltCs, ltT, ltFr, ltS, wrOk, wrO, TL.get, hasFr, ↓reduceIte, Nat.reduceEqDiff, reduceCtorEq, Option.getD_some, Option.isSome_some, List.length_map, List.length_append, List.length_cons, List.length_nil, List.append_nil, List.mem_singleton, List.mem_cons, List.not_mem_nil, and_true, true_and, and_self, imp_self, forall_const, false_implies, implies_true, true_implies, or_false, Bool.false_eq_true, Bool.true_eq_false, ImXs_nil, true_or, or_true, false_or, false_and, and_false, recS, List.map_nil]
  exact bytes_v (a.take (readB a).2)
theorem c18 (a p b q : List UInt8) : Spc Try.prog 18 [vF a p, vF b q] [] (vB (a == b && p == q)) [] := by
  refine spec_of_ir fn18 mixm (by simp) fun e _ hst => W_start ?_
  unfold ir18
  simp only [tl, tl2, isCallR, entX, argFr, ret, retI, retB, intT, unT, endR, ressR, resR, tupT, bslR, boxR, lenAll, ↓reduceIte, Nat.reduceEqDiff, Nat.reduceAdd, Nat.reduceMul, Nat.reduceLT, Nat.reduceLeDiff, reduceCtorEq, Int.reduceLE, Int.reduceLT, ne_eq, Int.reduceEq, not_false_eq_true, decide_true, decide_false, Int.reduceToNat, tl3, Int.reduceBNe, Int.reduceBEq]
  exact .imR rfl rfl
theorem getD_get {α : Type} {l : List α} {i : Nat} {d : α} (h : i < l.length) : l.getD i d = l[i] := by simp [List.getD, h]
theorem c19 (l m : List (List UInt8)) (hl : l.length ≤ 1048576) (hm : m.length ≤ 1048576) : Spc Try.prog 19 [.sl 1 (l.map vL), .sl 1 (m.map vL)] [] (vB (l == m)) [] := by
  refine spec_of_ir fn19 mixm (by simp) fun e _ hst => W_start ?_
  unfold ir19
  simp only [tl, tl2, isCallR, entX, argFr, ret, retI, retB, intT, unT, endR, ressR, resR, tupT, bslR, boxR, lenAll, ↓reduceIte, Nat.reduceEqDiff, Nat.reduceAdd, Nat.reduceMul, Nat.reduceLT, Nat.reduceLeDiff, reduceCtorEq, Int.reduceLE, Int.reduceLT, ne_eq, Int.reduceEq, not_false_eq_true, decide_true, decide_false, Int.reduceToNat, tl3, Int.reduceBNe, Int.reduceBEq]
  refine ⟨fun h => ?_, fun h => ?_⟩
  · have : (l == m) = false := by
      simp only [bne_iff_ne, ne_eq] at h
      simp only [beq_eq_false_iff_ne, ne_eq]
      rintro rfl
      exact h rfl
    rw [this]
    exact .imR rfl rfl
  simp only [bne_eq_false_iff_eq] at h
  refine W_loop mixm (α := Nat) (fun i => i ≤ l.length ∧ l.take i = m.take i) (fun i => [(0, .sl 1 (l.map vL)), (1, .sl 1 (m.map vL)), (12, vI l.length), (13, vI i)]) (fun _ => []) (fun i => l.length - i) 0 ⟨by omega, by simp⟩ (.ofFr (by simp [hasFr, TL.get])) fun i hi => ?_
  simp only [tl, tl2, isCallR, entX, argFr, ret, retI, retB, intT, unT, endR, ressR, resR, tupT, bslR, boxR, lenAll, ↓reduceIte, Nat.reduceEqDiff, Nat.reduceAdd, Nat.reduceMul, Nat.reduceLT, Nat.reduceLeDiff, reduceCtorEq, Int.reduceLE, Int.reduceLT, ne_eq, Int.reduceEq, not_false_eq_true, decide_true, decide_false, Int.reduceToNat, tl3, Int.reduceBNe, Int.reduceBEq, decide_eq_true_eq, decide_eq_false_iff_not]
  refine ⟨fun h1 => ?_, fun h1 => ?_⟩
  · have h2 : i < l.length := by omega
    have h3 : i < m.length := by omega
    simp only [tl, tl2, isCallR, entX, argFr, ret, retI, retB, intT, unT, endR, ressR, resR, tupT, bslR, boxR, lenAll, ↓reduceIte, Nat.reduceEqDiff, Nat.reduceAdd, Nat.reduceMul, Nat.reduceLT, Nat.reduceLeDiff, reduceCtorEq, Int.reduceLE, Int.reduceLT, ne_eq, Int.reduceEq, not_false_eq_true, decide_true, decide_false, Int.reduceToNat, tl3, Int.reduceBNe, Int.reduceBEq, Int.toNat_natCast, getD_map h2, getD_map h3, decide_eq_true_eq, decide_eq_false_iff_not]
    rw [getD_get h2, getD_get h3]
    refine ⟨by omega, by omega, by kernel_rfl, fun h4 => ?_, fun h4 => ?_⟩
    · have : (l == m) = false := by
        simp only [Bool.not_eq_true', beq_eq_false_iff_ne, ne_eq] at h4
        simp only [beq_eq_false_iff_ne, ne_eq]
        rintro rfl
        exact h4 rfl
      rw [this]
      exact .imR rfl rfl
    · refine ⟨i + 1, ⟨by omega, ?_⟩, by omega, .ofFr ?_⟩
      · simp only [Bool.not_eq_false', beq_iff_eq] at h4
        rw [List.take_succ_eq_append_getElem h2, List.take_succ_eq_append_getElem h3, hi.2, h4]
      · simp only [ltSto, ltO2, ltO1, ltAs, ltA, ltC, ltCs, ltT, ltFr, ltS, wrOk, wrO, TL.get, hasFr, ↓reduceIte, Nat.reduceEqDiff, reduceCtorEq, Option.getD_some, Option.isSome_some, List.length_map, List.length_append, List.length_cons, List.length_nil, List.append_nil, List.mem_singleton, List.mem_cons, List.not_mem_nil, and_true, true_and, and_self, imp_self, forall_const, false_implies, implies_true, true_implies, or_false, Bool.false_eq_true, Bool.true_eq_false, ImXs_nil, true_or, or_true, false_or, false_and, and_false]
        rw [IntWalk.i64_in _ (by omega)]
        rfl
  · have h2 : i = l.length := by omega
    have h3 : l = m := by
      have := hi.2
      rw [h2, List.take_length, show l.length = m.length by omega, List.take_length] at this
      exact this
    subst h3
    refine .imR ?_ rfl
    simp
theorem c12 (l : List (List UInt8)) (hl : l.length ≤ 1048576) : Spc Try.prog 12 [.sl 1 (l.map vL)] [] (vB (l.all fun b => decide (b.length ≤ 4000))) [] := by
  refine spec_of_ir fn12 mixm (by simp) fun e _ hst => W_start ?_
  unfold ir12
  simp only [tl, tl2, isCallR, entX, argFr, ret, retI, retB, intT, unT, endR, ressR, resR, tupT, bslR, boxR, lenAll, ↓reduceIte, Nat.reduceEqDiff, Nat.reduceAdd, Nat.reduceMul, Nat.reduceLT, Nat.reduceLeDiff, reduceCtorEq, Int.reduceLE, Int.reduceLT, ne_eq, Int.reduceEq, not_false_eq_true, decide_true, decide_false, Int.reduceToNat, tl3, Int.reduceBNe, Int.reduceBEq]
  refine W_loop mixm (α := Nat) (fun i => i ≤ l.length ∧ (l.take i).all (fun b => decide (b.length ≤ 4000)) = true) (fun i => [(5, .sl 1 (l.map vL)), (6, vI l.length), (7, vI i)]) (fun _ => []) (fun i => l.length - i) 0 ⟨by omega, by simp⟩ (.ofFr (by simp [hasFr, TL.get])) fun i hi => ?_
  simp only [tl, tl2, isCallR, entX, argFr, ret, retI, retB, intT, unT, endR, ressR, resR, tupT, bslR, boxR, lenAll, ↓reduceIte, Nat.reduceEqDiff, Nat.reduceAdd, Nat.reduceMul, Nat.reduceLT, Nat.reduceLeDiff, reduceCtorEq, Int.reduceLE, Int.reduceLT, ne_eq, Int.reduceEq, not_false_eq_true, decide_true, decide_false, Int.reduceToNat, tl3, Int.reduceBNe, Int.reduceBEq, decide_eq_true_eq, decide_eq_false_iff_not]
  refine ⟨fun h1 => ?_, fun h1 => ?_⟩
  · have h2 : i < l.length := by omega
    simp only [tl, tl2, isCallR, entX, argFr, ret, retI, retB, intT, unT, endR, ressR, resR, tupT, bslR, boxR, lenAll, ↓reduceIte, Nat.reduceEqDiff, Nat.reduceAdd, Nat.reduceMul, Nat.reduceLT, Nat.reduceLeDiff, reduceCtorEq, Int.reduceLE, Int.reduceLT, ne_eq, Int.reduceEq, not_false_eq_true, decide_true, decide_false, Int.reduceToNat, tl3, Int.reduceBNe, Int.reduceBEq, Int.toNat_natCast, getD_map h2, decide_eq_true_eq, decide_eq_false_iff_not]
    rw [getD_get h2]
    refine ⟨by omega, fun h4 => ?_, fun h4 => ?_⟩
    · have : (l.all fun b => decide (b.length ≤ 4000)) = false := by
        rw [List.all_eq_false]
        exact ⟨l[i], List.getElem_mem h2, by simp; omega⟩
      rw [this]
      exact .imR rfl rfl
    · refine ⟨i + 1, ⟨by omega, ?_⟩, by omega, .ofFr ?_⟩
      · rw [List.take_succ_eq_append_getElem h2, List.all_append, hi.2]
        simp; omega
      · simp only [ltSto, ltO2, ltO1, ltAs, ltA, ltC, ltCs, ltT, ltFr, ltS, wrOk, wrO, TL.get, hasFr, ↓reduceIte, Nat.reduceEqDiff, reduceCtorEq, Option.getD_some, Option.isSome_some, List.length_map, List.length_append, List.length_cons, List.length_nil, List.append_nil, List.mem_singleton, List.mem_cons, List.not_mem_nil, and_true, true_and, and_self, imp_self, forall_const, false_implies, implies_true, true_implies, or_false, Bool.false_eq_true, Bool.true_eq_false, ImXs_nil, true_or, or_true, false_or, false_and, and_false]
        rw [IntWalk.i64_in _ (by omega)]
        rfl
  · have h2 : i = l.length := by omega
    have h3 := hi.2
    rw [h2, List.take_length] at h3
    rw [h3]
    exact .imR rfl rfl
end Go.Proofs

