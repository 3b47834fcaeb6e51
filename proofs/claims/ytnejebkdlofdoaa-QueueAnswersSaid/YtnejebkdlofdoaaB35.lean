import Derived.Test.YtnejebkdlofdoaaA35
set_option linter.unusedSimpArgs false
set_option linter.unusedVariables false
namespace Go.Proofs
open Go Go.TL
def appS (a p l : List UInt8) : T :=
  if 4096 < l.length then .tup [vF a p, vI 1]
  else if (readB a).2 ≠ a.length then .tup [vF a p, vI 40]
  else if 262144 < a.length + p.length + (frame l).length then .tup [vF a p, vI 42]
  else .tup [vF a (p ++ frame l), vI 0]
theorem frame_length (l : List UInt8) : (frame l).length = l.length + 8 := by simp [frame, four_length]; omega
theorem rdL_le : ∀ (f : Nat) (r : List UInt8), (rdL f r).2 ≤ r.length
  | 0, r => by simp [rdL]
  | f + 1, r => by
    simp only [rdL]
    split
    · rename_i h
      have := rdL_le f (r.drop ((num r).toNat + 8))
      simp only [good, Bool.and_eq_true, decide_eq_true_eq] at h
      have h2 := h.2.2.1
      have h3 := num_range r
      simp only [List.length_drop] at this ⊢
      omega
    · simp
theorem readB_le (b : List UInt8) : (readB b).2 ≤ b.length := rdL_le _ _
theorem c_journal_Append (a p l : List UInt8) (ha : a.length ≤ 600000) (hp : p.length ≤ 300000) (hl : l.length ≤ 1048576) : Spc Try.prog F_journal_Append [vF a p, vL l] [] (appS a p l) [] := by
  refine spec_of_ir fn_journal_Append mixm (by simp) fun e _ hst => W_start ?_
  unfold ir_journal_Append
  simp only [tl, tl2, tl4, ↓un_u, isCallR, entX, argFr, ret, retI, retB, intT, unT, endR, ressR, resR, tupT, bslR, boxR, lenAll, ↓reduceIte, Nat.reduceEqDiff, Nat.reduceAdd, Nat.reduceMul, Nat.reduceLT, Nat.reduceLeDiff, reduceCtorEq, Int.reduceLE, Int.reduceLT, ne_eq, Int.reduceEq, not_false_eq_true, decide_true, decide_false, Int.reduceToNat, tl3, Int.reduceBNe, Int.reduceBEq, rmK, rm1, not_true_eq_false]
  refine C1.im (c_journal_copied a p (by omega) (by omega)) rfl rfl ?_
  simp only [tl, tl2, tl4, ↓un_u, isCallR, entX, argFr, ret, retI, retB, intT, unT, endR, ressR, resR, tupT, bslR, boxR, lenAll, ↓reduceIte, Nat.reduceEqDiff, Nat.reduceAdd, Nat.reduceMul, Nat.reduceLT, Nat.reduceLeDiff, reduceCtorEq, Int.reduceLE, Int.reduceLT, ne_eq, Int.reduceEq, not_false_eq_true, decide_true, decide_false, Int.reduceToNat, tl3, Int.reduceBNe, Int.reduceBEq, rmK, rm1, not_true_eq_false]
  refine C1.im (c_journal_Frame l hl) rfl (by unfold frameR; split <;> rfl) ?_
  unfold frameR
  split
  · rename_i h
    simp only [tl, tl2, tl4, ↓un_u, isCallR, entX, argFr, ret, retI, retB, intT, unT, endR, ressR, resR, tupT, bslR, boxR, lenAll, ↓reduceIte, Nat.reduceEqDiff, Nat.reduceAdd, Nat.reduceMul, Nat.reduceLT, Nat.reduceLeDiff, reduceCtorEq, Int.reduceLE, Int.reduceLT, ne_eq, Int.reduceEq, not_false_eq_true, decide_true, decide_false, Int.reduceToNat, tl3, Int.reduceBNe, Int.reduceBEq, rmK, rm1, not_true_eq_false, decide_eq_true_eq, decide_eq_false_iff_not]
    refine C1.im (c_journal_Read a (by omega)) (by rfl) (by rfl) ?_
    have hle := readB_le a
    have hf := frame_length l
    have hw : IntKind.i64.wrap (IntKind.i64.wrap ((a.length : Int) + p.length) + (frame l).length) = ((a.length + p.length + (frame l).length : Nat) : Int) := by
      rw [IntWalk.i64_in ((a.length : Int) + p.length) (by omega), IntWalk.i64_in _ (by omega)]; omega
    simp only [tl, tl2, tl4, ↓un_u, isCallR, entX, argFr, ret, retI, retB, intT, unT, endR, ressR, resR, tupT, bslR, boxR, lenAll, ↓reduceIte, Nat.reduceEqDiff, Nat.reduceAdd, Nat.reduceMul, Nat.reduceLT, Nat.reduceLeDiff, reduceCtorEq, Int.reduceLE, Int.reduceLT, ne_eq, Int.reduceEq, not_false_eq_true, decide_true, decide_false, Int.reduceToNat, tl3, Int.reduceBNe, Int.reduceBEq, rmK, rm1, not_true_eq_false, decide_eq_true_eq, decide_eq_false_iff_not, hw, bne_iff_ne, bne_eq_false_iff_eq]
    refine ⟨fun h1 => ?_, fun h1 => ⟨fun h2 => ?_, fun h2 => ?_⟩⟩
    · rw [appS, if_neg (by omega), if_pos (by omega)]
      exact .imR rfl rfl
    · rw [appS, if_neg (by omega), if_neg (by omega), if_pos (by omega)]
      exact .imR rfl rfl
    · rw [appS, if_neg (by omega), if_neg (by omega), if_neg (by omega)]
      refine C1.im (c_journal_joined p (frame l) (by omega) (by omega)) (by rfl) (by rfl) ?_
      simp only [tl, tl2, tl4, ↓un_u, isCallR, entX, argFr, ret, retI, retB, intT, unT, endR, ressR, resR, tupT, bslR, boxR, lenAll, ↓reduceIte, Nat.reduceEqDiff, Nat.reduceAdd, Nat.reduceMul, Nat.reduceLT, Nat.reduceLeDiff, reduceCtorEq, Int.reduceLE, Int.reduceLT, ne_eq, Int.reduceEq, not_false_eq_true, decide_true, decide_false, Int.reduceToNat, tl3, Int.reduceBNe, Int.reduceBEq, rmK, rm1, not_true_eq_false]
      exact .imR rfl rfl
  · rename_i h
    simp only [tl, tl2, tl4, ↓un_u, isCallR, entX, argFr, ret, retI, retB, intT, unT, endR, ressR, resR, tupT, bslR, boxR, lenAll, ↓reduceIte, Nat.reduceEqDiff, Nat.reduceAdd, Nat.reduceMul, Nat.reduceLT, Nat.reduceLeDiff, reduceCtorEq, Int.reduceLE, Int.reduceLT, ne_eq, Int.reduceEq, not_false_eq_true, decide_true, decide_false, Int.reduceToNat, tl3, Int.reduceBNe, Int.reduceBEq, rmK, rm1, not_true_eq_false, decide_eq_true_eq, decide_eq_false_iff_not]
    rw [appS, if_pos (by omega)]
    exact .imR rfl rfl
theorem c32o (a p : List UInt8) (ha : a.length ≤ 1048576) (hp : p.length ≤ 1048576) : Spc Try.prog F_ref23_Copy [vF a p] [] (.agg [.asl 0 a.length, .asl 1 p.length]) [(0, .arr 1 (a.map byteT) false), (1, .arr 1 (p.map byteT) false)] := by
  refine spec_of_ir fn_ref23_Copy mixm (by simp) fun e _ hst => W_start ?_
  unfold ir_ref23_Copy
  simp only [tl, tl2, tl4, ↓un_u, isCallR, entX, argFr, ret, retI, retB, intT, unT, endR, ressR, resR, tupT, bslR, boxR, lenAll, ↓reduceIte, Nat.reduceEqDiff, Nat.reduceAdd, Nat.reduceMul, Nat.reduceLT, Nat.reduceLeDiff, reduceCtorEq, Int.reduceLE, Int.reduceLT, ne_eq, Int.reduceEq, not_false_eq_true, decide_true, decide_false, Int.reduceToNat, tl3, Int.reduceBNe, Int.reduceBEq, rmK, rm1, not_true_eq_false]
  refine ⟨by omega, by omega, by kernel_rfl, .of [(0, some 8192), (1, some 8208)] [] rfl rfl ?_ ?_⟩
  · simp only [ltSto, ltO2, ltO1, ltAs, ltA, ltC, ltC0, ltC0s, ltCs, ltT, ltFr, ltS, wrOk, wrO, TL.get, hasFr, ↓reduceIte, Nat.reduceEqDiff, reduceCtorEq, Option.getD_some, Option.isSome_some, List.length_map, List.length_append, List.length_cons, List.length_nil, List.append_nil, List.mem_singleton, List.mem_cons, List.not_mem_nil, and_true, true_and, and_self, imp_self, forall_const, false_implies, implies_true, true_implies, or_false, Bool.false_eq_true, Bool.true_eq_false, ImXs_nil, true_or, or_true, false_or, false_and, and_false, rmK, rm1]
    exact ⟨ltXs_bytes a, ltXs_bytes p⟩
  · simp only [ltSto, ltO2, ltO1, ltAs, ltA, ltC, ltC0, ltC0s, ltCs, ltT, ltFr, ltS, wrOk, wrO, TL.get, hasFr, ↓reduceIte, Nat.reduceEqDiff, reduceCtorEq, Option.getD_some, Option.isSome_some, List.length_map, List.length_append, List.length_cons, List.length_nil, List.append_nil, List.mem_singleton, List.mem_cons, List.not_mem_nil, and_true, true_and, and_self, imp_self, forall_const, false_implies, implies_true, true_implies, or_false, Bool.false_eq_true, Bool.true_eq_false, ImXs_nil, true_or, or_true, false_or, false_and, and_false, rmK, rm1]
theorem c_ref23_Append (a p l : List UInt8) (ha : a.length ≤ 600000) (hp : p.length ≤ 300000) (hl : l.length ≤ 1048576) : Spc Try.prog F_ref23_Append [vF a p, vL l] [] (appS a p l) [] := by
  refine spec_of_ir fn_ref23_Append mixm (by simp) fun e _ hst => W_start ?_
  unfold ir_ref23_Append
  simp only [tl, tl2, tl4, ↓un_u, isCallR, entX, argFr, ret, retI, retB, intT, unT, endR, ressR, resR, tupT, bslR, boxR, lenAll, ↓reduceIte, Nat.reduceEqDiff, Nat.reduceAdd, Nat.reduceMul, Nat.reduceLT, Nat.reduceLeDiff, reduceCtorEq, Int.reduceLE, Int.reduceLT, ne_eq, Int.reduceEq, not_false_eq_true, decide_true, decide_false, Int.reduceToNat, tl3, Int.reduceBNe, Int.reduceBEq, rmK, rm1, not_true_eq_false]
  refine C1.im (c_ref23_Frame l hl) rfl (by unfold frameR; split <;> rfl) ?_
  unfold frameR
  split
  · rename_i h
    simp only [tl, tl2, tl4, ↓un_u, isCallR, entX, argFr, ret, retI, retB, intT, unT, endR, ressR, resR, tupT, bslR, boxR, lenAll, ↓reduceIte, Nat.reduceEqDiff, Nat.reduceAdd, Nat.reduceMul, Nat.reduceLT, Nat.reduceLeDiff, reduceCtorEq, Int.reduceLE, Int.reduceLT, ne_eq, Int.reduceEq, not_false_eq_true, decide_true, decide_false, Int.reduceToNat, tl3, Int.reduceBNe, Int.reduceBEq, rmK, rm1, not_true_eq_false, decide_eq_true_eq, decide_eq_false_iff_not]
    refine C1.im (c_ref23_Read a (by omega)) (by rfl) (by rfl) ?_
    have hle := readB_le a
    have hf := frame_length l
    have hw : IntKind.i64.wrap (IntKind.i64.wrap ((a.length : Int) + p.length) + (frame l).length) = ((a.length + p.length + (frame l).length : Nat) : Int) := by
      rw [IntWalk.i64_in ((a.length : Int) + p.length) (by omega), IntWalk.i64_in _ (by omega)]; omega
    simp only [tl, tl2, tl4, ↓un_u, isCallR, entX, argFr, ret, retI, retB, intT, unT, endR, ressR, resR, tupT, bslR, boxR, lenAll, ↓reduceIte, Nat.reduceEqDiff, Nat.reduceAdd, Nat.reduceMul, Nat.reduceLT, Nat.reduceLeDiff, reduceCtorEq, Int.reduceLE, Int.reduceLT, ne_eq, Int.reduceEq, not_false_eq_true, decide_true, decide_false, Int.reduceToNat, tl3, Int.reduceBNe, Int.reduceBEq, rmK, rm1, not_true_eq_false, decide_eq_true_eq, decide_eq_false_iff_not, hw, bne_iff_ne, bne_eq_false_iff_eq]
    refine ⟨fun h1 => ?_, fun h1 => ⟨fun h2 => ?_, fun h2 => ?_⟩⟩
    · rw [appS, if_neg (by omega), if_pos (by omega)]
      refine C1.im (c_ref23_Copy a p (by omega) (by omega)) (by rfl) (by rfl) ?_
      simp only [tl, tl2, tl4, ↓un_u, isCallR, entX, argFr, ret, retI, retB, intT, unT, endR, ressR, resR, tupT, bslR, boxR, lenAll, ↓reduceIte, Nat.reduceEqDiff, Nat.reduceAdd, Nat.reduceMul, Nat.reduceLT, Nat.reduceLeDiff, reduceCtorEq, Int.reduceLE, Int.reduceLT, ne_eq, Int.reduceEq, not_false_eq_true, decide_true, decide_false, Int.reduceToNat, tl3, Int.reduceBNe, Int.reduceBEq, rmK, rm1, not_true_eq_false]
      exact .imR rfl rfl
    · rw [appS, if_neg (by omega), if_neg (by omega), if_pos (by omega)]
      refine C1.im (c_ref23_Copy a p (by omega) (by omega)) (by rfl) (by rfl) ?_
      simp only [tl, tl2, tl4, ↓un_u, isCallR, entX, argFr, ret, retI, retB, intT, unT, endR, ressR, resR, tupT, bslR, boxR, lenAll, ↓reduceIte, Nat.reduceEqDiff, Nat.reduceAdd, Nat.reduceMul, Nat.reduceLT, Nat.reduceLeDiff, reduceCtorEq, Int.reduceLE, Int.reduceLT, ne_eq, Int.reduceEq, not_false_eq_true, decide_true, decide_false, Int.reduceToNat, tl3, Int.reduceBNe, Int.reduceBEq, rmK, rm1, not_true_eq_false]
      exact .imR rfl rfl
    · rw [appS, if_neg (by omega), if_neg (by omega), if_neg (by omega)]
      refine C1.of [] [(10, some 0), (11, some 1)] [] [(10, .arr 1 (a.map byteT) false), (11, .arr 1 (p.map byteT) false)] (val := .agg [.asl 10 a.length, .asl 11 p.length]) (c32o a p (by omega) (by omega)) ?_ rfl trivial rfl rfl ?_ rfl rfl ?_ (.inl rfl) ?_
      · simp only [ltSto, ltO2, ltO1, ltAs, ltA, ltC, ltC0, ltC0s, ltCs, ltT, ltFr, ltS, wrOk, wrO, TL.get, hasFr, ↓reduceIte, Nat.reduceEqDiff, reduceCtorEq, Option.getD_some, Option.isSome_some, List.length_map, List.length_append, List.length_cons, List.length_nil, List.append_nil, List.mem_singleton, List.mem_cons, List.not_mem_nil, and_true, true_and, and_self, imp_self, forall_const, false_implies, implies_true, true_implies, or_false, Bool.false_eq_true, Bool.true_eq_false, ImXs_nil, true_or, or_true, false_or, false_and, and_false, rmK, rm1]
      · simp only [ltSto, ltO2, ltO1, ltAs, ltA, ltC, ltC0, ltC0s, ltCs, ltT, ltFr, ltS, wrOk, wrO, TL.get, hasFr, ↓reduceIte, Nat.reduceEqDiff, reduceCtorEq, Option.getD_some, Option.isSome_some, List.length_map, List.length_append, List.length_cons, List.length_nil, List.append_nil, List.mem_singleton, List.mem_cons, List.not_mem_nil, and_true, true_and, and_self, imp_self, forall_const, false_implies, implies_true, true_implies, or_false, Bool.false_eq_true, Bool.true_eq_false, ImXs_nil, true_or, or_true, false_or, false_and, and_false, rmK, rm1]
        exact ⟨ltXs_bytes a, ltXs_bytes p⟩
      · simp only [ltSto, ltO2, ltO1, ltAs, ltA, ltC, ltC0, ltC0s, ltCs, ltT, ltFr, ltS, wrOk, wrO, TL.get, hasFr, ↓reduceIte, Nat.reduceEqDiff, reduceCtorEq, Option.getD_some, Option.isSome_some, List.length_map, List.length_append, List.length_cons, List.length_nil, List.append_nil, List.mem_singleton, List.mem_cons, List.not_mem_nil, and_true, true_and, and_self, imp_self, forall_const, false_implies, implies_true, true_implies, or_false, Bool.false_eq_true, Bool.true_eq_false, ImXs_nil, true_or, or_true, false_or, false_and, and_false, rmK, rm1]
      simp only [tl, tl2, tl4, ↓un_u, isCallR, entX, argFr, ret, retI, retB, intT, unT, endR, ressR, resR, tupT, bslR, boxR, lenAll, ↓reduceIte, Nat.reduceEqDiff, Nat.reduceAdd, Nat.reduceMul, Nat.reduceLT, Nat.reduceLeDiff, reduceCtorEq, Int.reduceLE, Int.reduceLT, ne_eq, Int.reduceEq, not_false_eq_true, decide_true, decide_false, Int.reduceToNat, tl3, Int.reduceBNe, Int.reduceBEq, rmK, rm1, not_true_eq_false]
      refine ⟨by omega, .of [] [10, 11] rfl rfl trivial ?_⟩
      simp only [ltSto, ltO2, ltO1, ltAs, ltA, ltC, ltC0, ltC0s, ltCs, ltT, ltFr, ltS, wrOk, wrO, TL.get, hasFr, ↓reduceIte, Nat.reduceEqDiff, reduceCtorEq, Option.getD_some, Option.isSome_some, List.length_map, List.length_append, List.length_cons, List.length_nil, List.append_nil, List.mem_singleton, List.mem_cons, List.not_mem_nil, and_true, true_and, and_self, imp_self, forall_const, false_implies, implies_true, true_implies, or_false, Bool.false_eq_true, Bool.true_eq_false, ImXs_nil, true_or, or_true, false_or, false_and, and_false, rmK, rm1, ← List.map_append]
      exact ⟨bytes_v a, bytes_v (p ++ frame l)⟩
  · rename_i h
    simp only [tl, tl2, tl4, ↓un_u, isCallR, entX, argFr, ret, retI, retB, intT, unT, endR, ressR, resR, tupT, bslR, boxR, lenAll, ↓reduceIte, Nat.reduceEqDiff, Nat.reduceAdd, Nat.reduceMul, Nat.reduceLT, Nat.reduceLeDiff, reduceCtorEq, Int.reduceLE, Int.reduceLT, ne_eq, Int.reduceEq, not_false_eq_true, decide_true, decide_false, Int.reduceToNat, tl3, Int.reduceBNe, Int.reduceBEq, rmK, rm1, not_true_eq_false, decide_eq_true_eq, decide_eq_false_iff_not]
    rw [appS, if_pos (by omega)]
    refine C1.im (c_ref23_Copy a p (by omega) (by omega)) (by rfl) (by rfl) ?_
    simp only [tl, tl2, tl4, ↓un_u, isCallR, entX, argFr, ret, retI, retB, intT, unT, endR, ressR, resR, tupT, bslR, boxR, lenAll, ↓reduceIte, Nat.reduceEqDiff, Nat.reduceAdd, Nat.reduceMul, Nat.reduceLT, Nat.reduceLeDiff, reduceCtorEq, Int.reduceLE, Int.reduceLT, ne_eq, Int.reduceEq, not_false_eq_true, decide_true, decide_false, Int.reduceToNat, tl3, Int.reduceBNe, Int.reduceBEq, rmK, rm1, not_true_eq_false]
    exact .imR rfl rfl
def kp (p : List UInt8) (keep : Int) : Nat := (minI (maxI 0 keep) p.length).toNat
theorem kp_eq (p : List UInt8) (keep : Int) : minI (maxI 0 keep) p.length = kp p keep ∧ kp p keep ≤ p.length := by
  unfold kp minI maxI
  split <;> split <;> omega
theorem max_comm (a b : Int) : maxI a b = maxI b a := by unfold maxI; split <;> split <;> omega
def crashS (a p : List UInt8) (keep : Int) : T := vF (a ++ p.take (kp p keep)) []
theorem c_journal_Crash (a p : List UInt8) (keep : Int) (ha : a.length ≤ 1000000) (hp : p.length ≤ 1000000) : Spc Try.prog F_journal_Crash [vF a p, vI keep] [] (crashS a p keep) [] := by
  refine spec_of_ir fn_journal_Crash mixm (by simp) fun e _ hst => W_start ?_
  unfold ir_journal_Crash
  obtain ⟨h1, h2⟩ := kp_eq p keep
  simp only [tl, tl2, tl4, ↓un_u, isCallR, entX, argFr, ret, retI, retB, intT, unT, endR, ressR, resR, tupT, bslR, boxR, lenAll, ↓reduceIte, Nat.reduceEqDiff, Nat.reduceAdd, Nat.reduceMul, Nat.reduceLT, Nat.reduceLeDiff, reduceCtorEq, Int.reduceLE, Int.reduceLT, ne_eq, Int.reduceEq, not_false_eq_true, decide_true, decide_false, Int.reduceToNat, tl3, Int.reduceBNe, Int.reduceBEq, rmK, rm1, not_true_eq_false, h1, cut_map, cut_to]
  refine ⟨by omega, ?_⟩
  refine C1.im (c_journal_joined a (p.take (kp p keep)) (by omega) (by simp; omega)) (by rfl) (by rfl) ?_
  simp only [tl, tl2, tl4, ↓un_u, isCallR, entX, argFr, ret, retI, retB, intT, unT, endR, ressR, resR, tupT, bslR, boxR, lenAll, ↓reduceIte, Nat.reduceEqDiff, Nat.reduceAdd, Nat.reduceMul, Nat.reduceLT, Nat.reduceLeDiff, reduceCtorEq, Int.reduceLE, Int.reduceLT, ne_eq, Int.reduceEq, not_false_eq_true, decide_true, decide_false, Int.reduceToNat, tl3, Int.reduceBNe, Int.reduceBEq, rmK, rm1, not_true_eq_false]
  refine ⟨by kernel_rfl, .of [] [] rfl rfl trivial ?_⟩
  simp only [ltSto, ltO2, ltO1, ltAs, ltA, ltC, ltC0, ltC0s, ltCs, ltT, ltFr, ltS, wrOk, wrO, TL.get, hasFr, ↓reduceIte, Nat.reduceEqDiff, reduceCtorEq, Option.getD_some, Option.isSome_some, List.length_map, List.length_append, List.length_cons, List.length_nil, List.append_nil, List.mem_singleton, List.mem_cons, List.not_mem_nil, and_true, true_and, and_self, imp_self, forall_const, false_implies, implies_true, true_implies, or_false, Bool.false_eq_true, Bool.true_eq_false, ImXs_nil, true_or, or_true, false_or, false_and, and_false, rmK, rm1, crashS, List.map_nil]
theorem c_journal_Sync (a p : List UInt8) (ha : a.length ≤ 1000000) (hp : p.length ≤ 1000000) : Spc Try.prog F_journal_Sync [vF a p] [] (crashS a p p.length) [] := by
  refine spec_of_ir fn_journal_Sync mixm (by simp) fun e _ hst => W_start ?_
  unfold ir_journal_Sync
  simp only [tl, tl2, tl4, ↓un_u, isCallR, entX, argFr, ret, retI, retB, intT, unT, endR, ressR, resR, tupT, bslR, boxR, lenAll, ↓reduceIte, Nat.reduceEqDiff, Nat.reduceAdd, Nat.reduceMul, Nat.reduceLT, Nat.reduceLeDiff, reduceCtorEq, Int.reduceLE, Int.reduceLT, ne_eq, Int.reduceEq, not_false_eq_true, decide_true, decide_false, Int.reduceToNat, tl3, Int.reduceBNe, Int.reduceBEq, rmK, rm1, not_true_eq_false]
  refine C1.im (c_journal_Crash a p p.length ha hp) (by rfl) (by rfl) ?_
  simp only [tl, tl2, tl4, ↓un_u, isCallR, entX, argFr, ret, retI, retB, intT, unT, endR, ressR, resR, tupT, bslR, boxR, lenAll, ↓reduceIte, Nat.reduceEqDiff, Nat.reduceAdd, Nat.reduceMul, Nat.reduceLT, Nat.reduceLeDiff, reduceCtorEq, Int.reduceLE, Int.reduceLT, ne_eq, Int.reduceEq, not_false_eq_true, decide_true, decide_false, Int.reduceToNat, tl3, Int.reduceBNe, Int.reduceBEq, rmK, rm1, not_true_eq_false, crashS]
  exact .imR rfl rfl
theorem c_ref23_Crash (a p : List UInt8) (keep : Int) (ha : a.length ≤ 1000000) (hp : p.length ≤ 1000000) : Spc Try.prog F_ref23_Crash [vF a p, vI keep] [] (crashS a p keep) [] := by
  refine spec_of_ir fn_ref23_Crash mixm (by simp) fun e _ hst => W_start ?_
  unfold ir_ref23_Crash
  obtain ⟨h1, h2⟩ := kp_eq p keep
  rw [max_comm] at h1
  simp only [tl, tl2, tl4, ↓un_u, isCallR, entX, argFr, ret, retI, retB, intT, unT, endR, ressR, resR, tupT, bslR, boxR, lenAll, ↓reduceIte, Nat.reduceEqDiff, Nat.reduceAdd, Nat.reduceMul, Nat.reduceLT, Nat.reduceLeDiff, reduceCtorEq, Int.reduceLE, Int.reduceLT, ne_eq, Int.reduceEq, not_false_eq_true, decide_true, decide_false, Int.reduceToNat, tl3, Int.reduceBNe, Int.reduceBEq, rmK, rm1, not_true_eq_false, h1, cut_map, cut_to, List.length_take]
  refine ⟨by omega, by omega, by omega, by kernel_rfl, .of [] [12288] rfl rfl trivial ?_⟩
  simp only [ltSto, ltO2, ltO1, ltAs, ltA, ltC, ltC0, ltC0s, ltCs, ltT, ltFr, ltS, wrOk, wrO, TL.get, hasFr, ↓reduceIte, Nat.reduceEqDiff, reduceCtorEq, Option.getD_some, Option.isSome_some, List.length_map, List.length_append, List.length_cons, List.length_nil, List.append_nil, List.mem_singleton, List.mem_cons, List.not_mem_nil, and_true, true_and, and_self, imp_self, forall_const, false_implies, implies_true, true_implies, or_false, Bool.false_eq_true, Bool.true_eq_false, ImXs_nil, true_or, or_true, false_or, false_and, and_false, rmK, rm1, crashS, List.map_nil, ← List.map_append, List.length_take]
  exact bytes_v (a ++ p.take (kp p keep))
theorem c_ref23_Sync (a p : List UInt8) (ha : a.length ≤ 1000000) (hp : p.length ≤ 1000000) : Spc Try.prog F_ref23_Sync [vF a p] [] (crashS a p p.length) [] := by
  refine spec_of_ir fn_ref23_Sync mixm (by simp) fun e _ hst => W_start ?_
  unfold ir_ref23_Sync
  simp only [tl, tl2, tl4, ↓un_u, isCallR, entX, argFr, ret, retI, retB, intT, unT, endR, ressR, resR, tupT, bslR, boxR, lenAll, ↓reduceIte, Nat.reduceEqDiff, Nat.reduceAdd, Nat.reduceMul, Nat.reduceLT, Nat.reduceLeDiff, reduceCtorEq, Int.reduceLE, Int.reduceLT, ne_eq, Int.reduceEq, not_false_eq_true, decide_true, decide_false, Int.reduceToNat, tl3, Int.reduceBNe, Int.reduceBEq, rmK, rm1, not_true_eq_false]
  refine C1.im (c_ref23_Crash a p p.length ha hp) (by rfl) (by rfl) ?_
  simp only [tl, tl2, tl4, ↓un_u, isCallR, entX, argFr, ret, retI, retB, intT, unT, endR, ressR, resR, tupT, bslR, boxR, lenAll, ↓reduceIte, Nat.reduceEqDiff, Nat.reduceAdd, Nat.reduceMul, Nat.reduceLT, Nat.reduceLeDiff, reduceCtorEq, Int.reduceLE, Int.reduceLT, ne_eq, Int.reduceEq, not_false_eq_true, decide_true, decide_false, Int.reduceToNat, tl3, Int.reduceBNe, Int.reduceBEq, rmK, rm1, not_true_eq_false, crashS]
  exact .imR rfl rfl
def recS (a : List UInt8) : T := .tup [vF (a.take (readB a).2) [], .sl 1 ((readB a).1.map vL)]
theorem c_journal_Recover (a p : List UInt8) (ha : a.length ≤ 1000000) (hp : p.length ≤ 1000000) : Spc Try.prog F_journal_Recover [vF a p] [] (recS a) [] := by
  refine spec_of_ir fn_journal_Recover mixm (by simp) fun e _ hst => W_start ?_
  unfold ir_journal_Recover
  simp only [tl, tl2, tl4, ↓un_u, isCallR, entX, argFr, ret, retI, retB, intT, unT, endR, ressR, resR, tupT, bslR, boxR, lenAll, ↓reduceIte, Nat.reduceEqDiff, Nat.reduceAdd, Nat.reduceMul, Nat.reduceLT, Nat.reduceLeDiff, reduceCtorEq, Int.reduceLE, Int.reduceLT, ne_eq, Int.reduceEq, not_false_eq_true, decide_true, decide_false, Int.reduceToNat, tl3, Int.reduceBNe, Int.reduceBEq, rmK, rm1, not_true_eq_false]
  refine C1.im (c_journal_Read a (by omega)) (by rfl) (by rfl) ?_
  have hle := readB_le a
  simp only [tl, tl2, tl4, ↓un_u, isCallR, entX, argFr, ret, retI, retB, intT, unT, endR, ressR, resR, tupT, bslR, boxR, lenAll, ↓reduceIte, Nat.reduceEqDiff, Nat.reduceAdd, Nat.reduceMul, Nat.reduceLT, Nat.reduceLeDiff, reduceCtorEq, Int.reduceLE, Int.reduceLT, ne_eq, Int.reduceEq, not_false_eq_true, decide_true, decide_false, Int.reduceToNat, tl3, Int.reduceBNe, Int.reduceBEq, rmK, rm1, not_true_eq_false, cut_map, cut_to]
  refine ⟨by omega, ?_⟩
  refine C1.im (c27p (a.take (readB a).2) (by simp; omega)) (by rfl) (by rfl) ?_
  simp only [tl, tl2, tl4, ↓un_u, isCallR, entX, argFr, ret, retI, retB, intT, unT, endR, ressR, resR, tupT, bslR, boxR, lenAll, ↓reduceIte, Nat.reduceEqDiff, Nat.reduceAdd, Nat.reduceMul, Nat.reduceLT, Nat.reduceLeDiff, reduceCtorEq, Int.reduceLE, Int.reduceLT, ne_eq, Int.reduceEq, not_false_eq_true, decide_true, decide_false, Int.reduceToNat, tl3, Int.reduceBNe, Int.reduceBEq, rmK, rm1, not_true_eq_false]
  refine .of [] [] rfl rfl trivial ?_
  simp only [ltSto, ltO2, ltO1, ltAs, ltA, ltC, ltC0, ltC0s, ltCs, ltT, ltFr, ltS, wrOk, wrO, TL.get, hasFr, ↓reduceIte, Nat.reduceEqDiff, reduceCtorEq, Option.getD_some, Option.isSome_some, List.length_map, List.length_append, List.length_cons, List.length_nil, List.append_nil, List.mem_singleton, List.mem_cons, List.not_mem_nil, and_true, true_and, and_self, imp_self, forall_const, false_implies, implies_true, true_implies, or_false, Bool.false_eq_true, Bool.true_eq_false, ImXs_nil, true_or, or_true, false_or, false_and, and_false, rmK, rm1, recS, List.map_nil]
theorem c_ref23_Recover (a p : List UInt8) (ha : a.length ≤ 1000000) (hp : p.length ≤ 1000000) : Spc Try.prog F_ref23_Recover [vF a p] [] (recS a) [] := by
  refine spec_of_ir fn_ref23_Recover mixm (by simp) fun e _ hst => W_start ?_
  unfold ir_ref23_Recover
  simp only [tl, tl2, tl4, ↓un_u, isCallR, entX, argFr, ret, retI, retB, intT, unT, endR, ressR, resR, tupT, bslR, boxR, lenAll, ↓reduceIte, Nat.reduceEqDiff, Nat.reduceAdd, Nat.reduceMul, Nat.reduceLT, Nat.reduceLeDiff, reduceCtorEq, Int.reduceLE, Int.reduceLT, ne_eq, Int.reduceEq, not_false_eq_true, decide_true, decide_false, Int.reduceToNat, tl3, Int.reduceBNe, Int.reduceBEq, rmK, rm1, not_true_eq_false]
  refine C1.im (c_ref23_Read a (by omega)) (by rfl) (by rfl) ?_
  have hle := readB_le a
  simp only [tl, tl2, tl4, ↓un_u, isCallR, entX, argFr, ret, retI, retB, intT, unT, endR, ressR, resR, tupT, bslR, boxR, lenAll, ↓reduceIte, Nat.reduceEqDiff, Nat.reduceAdd, Nat.reduceMul, Nat.reduceLT, Nat.reduceLeDiff, reduceCtorEq, Int.reduceLE, Int.reduceLT, ne_eq, Int.reduceEq, not_false_eq_true, decide_true, decide_false, Int.reduceToNat, tl3, Int.reduceBNe, Int.reduceBEq, rmK, rm1, not_true_eq_false, cut_map, cut_to]
  have h1 : (a.take (readB a).2).length ≤ 1000000 := by simp; omega
  refine ⟨by omega, by omega, .of [] [12288] rfl rfl trivial ?_⟩
  simp only [ltSto, ltO2, ltO1, ltAs, ltA, ltC, ltC0, ltC0s, ltCs, ltT, ltFr, ltS, wrOk, wrO, TL.get, hasFr, ↓reduceIte, Nat.reduceEqDiff, reduceCtorEq, Option.getD_some, Option.isSome_some, List.length_map, List.length_append, List.length_cons, List.length_nil, List.append_nil, List.mem_singleton, List.mem_cons, List.not_mem_nil, and_true, true_and, and_self, imp_self, forall_const, false_implies, implies_true, true_implies, or_false, Bool.false_eq_true, Bool.true_eq_false, ImXs_nil, true_or, or_true, false_or, false_and, and_false, rmK, rm1, recS, List.map_nil]
  exact bytes_v (a.take (readB a).2)
theorem c_ref23_Same (a p b q : List UInt8) : Spc Try.prog F_ref23_Same [vF a p, vF b q] [] (vB (a == b && p == q)) [] := by
  refine spec_of_ir fn_ref23_Same mixm (by simp) fun e _ hst => W_start ?_
  unfold ir_ref23_Same
  simp only [tl, tl2, tl4, ↓un_u, isCallR, entX, argFr, ret, retI, retB, intT, unT, endR, ressR, resR, tupT, bslR, boxR, lenAll, ↓reduceIte, Nat.reduceEqDiff, Nat.reduceAdd, Nat.reduceMul, Nat.reduceLT, Nat.reduceLeDiff, reduceCtorEq, Int.reduceLE, Int.reduceLT, ne_eq, Int.reduceEq, not_false_eq_true, decide_true, decide_false, Int.reduceToNat, tl3, Int.reduceBNe, Int.reduceBEq, rmK, rm1, not_true_eq_false]
  exact .imR rfl rfl
/-! ltSto, ltO2, ltO1, ltAs, ltA, ltC, ltC0, ltC0s, ltCs, ltT, ltFr, ltS, wrOk, wrO, TL.get, hasFr, ↓reduceIte, Nat.reduceEqDiff, reduceCtorEq, Option.getD_some, Option.isSome_some, List.length_map, List.length_append, List.length_cons, List.length_nil, List.append_nil, List.mem_singleton, List.mem_cons, List.not_mem_nil, and_true, true_and, and_self, imp_self, forall_const, false_implies, implies_true, true_implies, or_false, Bool.false_eq_true, Bool.true_eq_false, ImXs_nil, true_or, or_true, false_or, false_and, and_false, rmK, rm1# frames, read back -/
theorem num_four (x : Int) (h : 0 ≤ x ∧ x < 4294967296) (r : List UInt8) : num (four x ++ r) = x := by
  have e24 : shrI .i64 x 24 = x / 16777216 := by unfold shrI; rw [Int.fdiv_eq_ediv_of_nonneg _ (by decide)]; rfl
  have e16 : shrI .i64 x 16 = x / 65536 := by unfold shrI; rw [Int.fdiv_eq_ediv_of_nonneg _ (by decide)]; rfl
  have e8 : shrI .i64 x 8 = x / 256 := by unfold shrI; rw [Int.fdiv_eq_ediv_of_nonneg _ (by decide)]; rfl
  have h0 := u8_nat (shrI .i64 x 24)
  have h1 := u8_nat (shrI .i64 x 16)
  have h2 := u8_nat (shrI .i64 x 8)
  have h3 := u8_nat x
  have g0 : (four x ++ r).getD 0 0 = u8 (shrI .i64 x 24) := rfl
  have g1 : (four x ++ r).getD 1 0 = u8 (shrI .i64 x 16) := rfl
  have g2 : (four x ++ r).getD 2 0 = u8 (shrI .i64 x 8) := rfl
  have g3 : (four x ++ r).getD 3 0 = u8 x := rfl
  unfold num
  rw [g0, g1, g2, g3, h0, h1, h2, h3, e24, e16, e8]
  omega
theorem frame_num (a r : List UInt8) (h : a.length ≤ 4096) : num (frame a ++ r) = a.length := by
  unfold frame
  rw [List.append_assoc, List.append_assoc]
  exact num_four _ (by omega) _
theorem frame_drop (a r : List UInt8) : (frame a ++ r).drop (4 + a.length) = four (val (four a.length ++ a)) ++ r := by
  unfold frame
  rw [List.append_assoc, List.drop_append]
  simp [four_length]
theorem frame_take (a r : List UInt8) : (frame a ++ r).take (4 + a.length) = four a.length ++ a := by
  unfold frame
  have hl : (four a.length ++ a).length = 4 + a.length := by simp [four_length]
  rw [List.append_assoc, List.take_append, hl, List.take_of_length_le (by omega)]
  simp
theorem frame_drop8 (a r : List UInt8) : (frame a ++ r).drop (a.length + 8) = r := by
  have h := frame_length a
  rw [List.drop_append, show a.length + 8 - (frame a).length = 0 by omega, List.drop_of_length_le (by omega)]
  rfl
theorem frame_good (a r : List UInt8) (h : a.length ≤ 4096) : good (frame a ++ r) = true := by
  have hl : (frame a ++ r).length = a.length + 8 + r.length := by rw [List.length_append, frame_length]
  have hv := val_range (four a.length ++ a)
  simp only [good, Bool.and_eq_true, decide_eq_true_eq, frame_num a r h, Int.toNat_natCast, frame_drop, frame_take, num_four _ ⟨hv.1, by omega⟩]
  rw [hl]
  refine ⟨by omega, by omega, by omega, trivial⟩
theorem rdL_frame (f : Nat) (a r : List UInt8) (h : a.length ≤ 4096) : rdL (f + 1) (frame a ++ r) = (a :: (rdL f r).1, a.length + 8 + (rdL f r).2) := by
  simp only [rdL, frame_good a r h, if_true, frame_num a r h, Int.toNat_natCast, frame_take, frame_drop8]
  rw [List.drop_append, four_length]
  rfl
theorem rdL_fuel : ∀ (f g : Nat) (r : List UInt8), r.length < f → r.length < g → rdL f r = rdL g r
  | 0, _, _, h, _ => by omega
  | _, 0, _, _, h => by omega
  | f + 1, g + 1, r, h1, h2 => by
    simp only [rdL]
    split
    · rename_i hg
      simp only [good, Bool.and_eq_true, decide_eq_true_eq] at hg
      rw [rdL_fuel f g (r.drop ((num r).toNat + 8)) (by simp; omega) (by simp; omega)]
    · rfl
theorem readB_frame (a r : List UInt8) (h : a.length ≤ 4096) : readB (frame a ++ r) = (a :: (readB r).1, a.length + 8 + (readB r).2) := by
  unfold readB
  rw [rdL_frame _ a r h, rdL_fuel _ (r.length + 1) r (by rw [List.length_append, frame_length]; omega) (by omega)]
theorem readB_nil : readB [] = ([], 0) := by simp [readB, rdL, good]
theorem readB_short (a : List UInt8) (c : Nat) (h : a.length ≤ 4096) (hc : c < a.length + 8) : readB ((frame a).take c) = ([], 0) := by
  have hg : good ((frame a).take c) = false := by
    have hl : ((frame a).take c).length = c := by rw [List.length_take, frame_length]; omega
    by_cases h8 : 8 ≤ c
    · have hn : num ((frame a).take c) = a.length := by
        have : (frame a).take c = four a.length ++ (a ++ four (val (four a.length ++ a))).take (c - 4) := by
          unfold frame
          rw [List.append_assoc, List.take_append, four_length, List.take_of_length_le (by simp [four_length]; omega)]
        rw [this]
        exact num_four _ (by omega) _
      have : decide (((frame a).take c).length < num ((frame a).take c) + 8) = true := by rw [hn, hl]; simp; omega
      simp only [good, hn, hl]
      have h2 : decide ((a.length : Int) + 8 ≤ c) = false := by simp; omega
      rw [h2]
      simp
    · simp only [good, hl]
      have : decide (8 ≤ c) = false := by simp; omega
      rw [this]; rfl
  simp only [readB, rdL, hg]
  rfl
theorem c_journal_Frame' (a : List UInt8) (h : a.length ≤ 4096) : Spc Try.prog F_journal_Frame [vL a] [] (.tup [vL (frame a), vI 0]) [] := by
  have := c_journal_Frame a (by omega)
  rwa [frameR, if_pos h] at this
def errOf (x l : List UInt8) (p : Nat) : Int := if 4096 < l.length then 1 else if (readB x).2 ≠ x.length then 40 else if 262144 < x.length + p + (frame l).length then 42 else 0
theorem appS_eq (a p l : List UInt8) : appS a p l = .tup [vF a (if errOf a l p.length = 0 then p ++ frame l else p), vI (errOf a l p.length)] := by
  unfold appS errOf
  split
  · simp
  · split
    · simp
    · split <;> simp
def whole (ls : List (List UInt8)) : List UInt8 := ls.flatMap frame
def small (ls : List (List UInt8)) : Prop := ∀ l ∈ ls, l.length ≤ 4096
theorem readB_whole : ∀ (ls : List (List UInt8)) (x : List UInt8), small ls → readB (whole ls ++ x) = (ls ++ (readB x).1, (whole ls).length + (readB x).2)
  | [], x, _ => by simp [whole]
  | l :: ls, x, h => by
    have h1 : whole (l :: ls) ++ x = frame l ++ (whole ls ++ x) := by simp [whole]
    rw [h1, readB_frame l _ (h l (by simp)), readB_whole ls x fun y hy => h y (by simp [hy])]
    have h2 := frame_length l
    have h3 : (whole (l :: ls)).length = (frame l).length + (whole ls).length := by simp [whole]
    simp only [List.cons_append, Prod.mk.injEq, true_and]
    omega
theorem readB_whole' (ls : List (List UInt8)) (h : small ls) : readB (whole ls) = (ls, (whole ls).length) := by
  have := readB_whole ls [] h
  rw [List.append_nil, readB_nil] at this
  simpa using this
/-- a file of whole frames is not torn -/
theorem errOf_whole (ls : List (List UInt8)) (h : small ls) (l : List UInt8) (p : Nat) (hl : l.length ≤ 4096) (hs : (whole ls).length + p + l.length + 8 ≤ 262144) : errOf (whole ls) l p = 0 := by
  unfold errOf
  rw [if_neg (by omega), readB_whole' ls h, if_neg (by simp), if_neg (by rw [frame_length]; omega)]
theorem app_whole (ls : List (List UInt8)) (h : small ls) (p l : List UInt8) (hl : l.length ≤ 4096) (hs : (whole ls).length + p.length + l.length + 8 ≤ 262144) : Spc Try.prog F_journal_Append [vF (whole ls) p, vL l] [] (.tup [vF (whole ls) (p ++ frame l), vI 0]) [] := by
  have := c_journal_Append (whole ls) p l (by omega) (by omega) (by omega)
  rwa [appS_eq, errOf_whole ls h l p.length hl hs, if_pos rfl] at this
/-- what a crash leaves of one frame -/
theorem crash_one (ls : List (List UInt8)) (h : small ls) (l : List UInt8) (hl : l.length ≤ 4096) (k : Nat) (hk : k ≤ (frame l).length) :
    ∃ ms, (ms = ls ∨ ms = ls ++ [l]) ∧ small ms ∧ (whole ls ++ (frame l).take k).take (readB (whole ls ++ (frame l).take k)).2 = whole ms ∧ (readB (whole ls ++ (frame l).take k)).1 = ms := by
  have hf := frame_length l
  rw [readB_whole ls _ h]
  by_cases hk2 : k < (frame l).length
  · refine ⟨ls, .inl rfl, h, ?_⟩
    rw [readB_short l k hl (by omega)]
    simp
  · have : readB ((frame l).take k) = ([l], (frame l).length) := by
      rw [List.take_of_length_le (by omega)]
      have := readB_frame l [] hl
      rw [List.append_nil, readB_nil] at this
      rw [this, hf]
      simp
    refine ⟨ls ++ [l], .inr rfl, fun y hy => ?_, ?_, by rw [this]⟩
    · rcases List.mem_append.1 hy with hy | hy
      · exact h y hy
      · simp at hy; subst hy; exact hl
    · rw [this, List.take_of_length_le (i := k) (by omega), List.take_of_length_le (by simp)]
      simp [whole]

end Go.Proofs

