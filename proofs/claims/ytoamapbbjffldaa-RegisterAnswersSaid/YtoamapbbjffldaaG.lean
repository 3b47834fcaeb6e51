import Derived.Test.YtoamapbbjffldaaF
set_option linter.unusedSimpArgs false
set_option linter.unusedVariables false
namespace Go.Proofs
open Go Go.TL
/-! ltSto, ltO2, ltO1, ltAs, ltA, ltC, ltCs, ltT, ltFr, ltS, wrOk, wrO, TL.get, hasFr, ↓reduceIte, Nat.reduceEqDiff, reduceCtorEq, Option.getD_some, Option.isSome_some, List.length_map, List.length_append, List.length_cons, List.length_nil, List.append_nil, List.mem_singleton, List.mem_cons, List.not_mem_nil, and_true, true_and, and_self, imp_self, forall_const, false_implies, implies_true, true_implies, or_false, Bool.false_eq_true, Bool.true_eq_false, ImXs_nil, true_or, or_true, false_or, false_and, and_false, rmK, rm1# InForce, Find of the reference -/
def forceA (l : List Ent) : List Int := if chkI l = 0 then forceI l else []
theorem chk_len {l : List Ent} (h : chkI l = 0) : l.length ≤ 60 := by
  unfold chkI at h
  split at h
  · cases h
  · omega
theorem c_ref38_InForce (l : List Ent) (hl : l.length < 4611686018427387904) (hs : small l) : Spc Try.prog F_ref38_InForce [vEs l] [] (vIs (forceA l)) [] := by
  refine spec_of_ir fn_ref38_InForce mixm (by simp) fun e _ hst => W_start ?_
  unfold ir_ref38_InForce
  simp only [tl, tl2, isCallR, entX, argFr, ret, retI, retB, intT, unT, endR, ressR, resR, tupT, bslR, boxR, lenAll, ↓reduceIte, Nat.reduceEqDiff, Nat.reduceAdd, Nat.reduceMul, Nat.reduceLT, Nat.reduceLeDiff, reduceCtorEq, Int.reduceLE, Int.reduceLT, ne_eq, Int.reduceEq, not_false_eq_true, decide_true, decide_false, Int.reduceToNat, tl3, Int.reduceBNe, Int.reduceBEq, rmK, rm1, not_true_eq_false]
  refine C1.im (c_ref38_Check l hl hs) rfl (by rfl) ?_
  simp only [tl, tl2, isCallR, entX, argFr, ret, retI, retB, intT, unT, endR, ressR, resR, tupT, bslR, boxR, lenAll, ↓reduceIte, Nat.reduceEqDiff, Nat.reduceAdd, Nat.reduceMul, Nat.reduceLT, Nat.reduceLeDiff, reduceCtorEq, Int.reduceLE, Int.reduceLT, ne_eq, Int.reduceEq, not_false_eq_true, decide_true, decide_false, Int.reduceToNat, tl3, Int.reduceBNe, Int.reduceBEq, rmK, rm1, not_true_eq_false, bne_iff_ne, bne_eq_false_iff_eq]
  refine ⟨fun h => ?_, fun h => ?_⟩
  · rw [forceA, if_neg h]
    refine .of [] [] rfl rfl trivial ?_
    simp only [ltSto, ltO2, ltO1, ltAs, ltA, ltC, ltCs, ltT, ltFr, ltS, wrOk, wrO, TL.get, hasFr, ↓reduceIte, Nat.reduceEqDiff, reduceCtorEq, Option.getD_some, Option.isSome_some, List.length_map, List.length_append, List.length_cons, List.length_nil, List.append_nil, List.mem_singleton, List.mem_cons, List.not_mem_nil, and_true, true_and, and_self, imp_self, forall_const, false_implies, implies_true, true_implies, or_false, Bool.false_eq_true, Bool.true_eq_false, ImXs_nil, true_or, or_true, false_or, false_and, and_false, rmK, rm1]
    rfl
  · rw [forceA, if_pos h]
    have := chk_len h
    refine C1.im (c_ref38_inForce l (by omega)) rfl (by rfl) ?_
    simp only [tl, tl2, isCallR, entX, argFr, ret, retI, retB, intT, unT, endR, ressR, resR, tupT, bslR, boxR, lenAll, ↓reduceIte, Nat.reduceEqDiff, Nat.reduceAdd, Nat.reduceMul, Nat.reduceLT, Nat.reduceLeDiff, reduceCtorEq, Int.reduceLE, Int.reduceLT, ne_eq, Int.reduceEq, not_false_eq_true, decide_true, decide_false, Int.reduceToNat, tl3, Int.reduceBNe, Int.reduceBEq, rmK, rm1, not_true_eq_false]
    exact .imR rfl rfl
def findA (l : List Ent) (n : Int) : Int := if ((chkI l != 0) || decide (n < 1)) = true then 0 else match l.find? (fun x => x.out == n) with | some x => x.num | none => 0
theorem find_none {l : List Ent} {n : Int} (h : l.any (fun x => x.out == n) = false) : l.find? (fun x => x.out == n) = none := by
  rw [List.find?_eq_none]
  intro x hx h2
  have := List.any_eq_false.1 h x hx
  exact this h2
theorem find_at {l : List Ent} {n : Int} {i : Nat} (h : i < l.length) (h1 : (l.take i).any (fun x => x.out == n) = false) (h2 : (l[i].out == n) = true) : l.find? (fun x => x.out == n) = some l[i] := by
  have e : l.find? (fun x => x.out == n) = (l.take i ++ l.drop i).find? (fun x => x.out == n) := by rw [List.take_append_drop]
  rw [e, List.find?_append, find_none h1, List.drop_eq_getElem_cons h, List.find?_cons, h2]
  rfl
theorem c_ref38_Find (l : List Ent) (n : Int) (hl : l.length < 4611686018427387904) (hs : small l) : Spc Try.prog F_ref38_Find [vEs l, vI n] [] (vI (findA l n)) [] := by
  refine spec_of_ir fn_ref38_Find mixm (by simp) fun e _ hst => W_start ?_
  unfold ir_ref38_Find
  simp only [tl, tl2, isCallR, entX, argFr, ret, retI, retB, intT, unT, endR, ressR, resR, tupT, bslR, boxR, lenAll, ↓reduceIte, Nat.reduceEqDiff, Nat.reduceAdd, Nat.reduceMul, Nat.reduceLT, Nat.reduceLeDiff, reduceCtorEq, Int.reduceLE, Int.reduceLT, ne_eq, Int.reduceEq, not_false_eq_true, decide_true, decide_false, Int.reduceToNat, tl3, Int.reduceBNe, Int.reduceBEq, rmK, rm1, not_true_eq_false]
  refine C1.im (c_ref38_Check l hl hs) rfl (by rfl) ?_
  simp only [tl, tl2, isCallR, entX, argFr, ret, retI, retB, intT, unT, endR, ressR, resR, tupT, bslR, boxR, lenAll, ↓reduceIte, Nat.reduceEqDiff, Nat.reduceAdd, Nat.reduceMul, Nat.reduceLT, Nat.reduceLeDiff, reduceCtorEq, Int.reduceLE, Int.reduceLT, ne_eq, Int.reduceEq, not_false_eq_true, decide_true, decide_false, Int.reduceToNat, tl3, Int.reduceBNe, Int.reduceBEq, rmK, rm1, not_true_eq_false]
  refine ⟨fun h => ?_, fun h => ?_⟩
  · rw [findA, if_pos h]
    exact .imR rfl rfl
  rw [findA, if_neg (by rw [h]; simp)]
  refine W_loop mixm (α := Nat) (fun i => i ≤ l.length ∧ (l.take i).any (fun y => y.out == n) = false) (fun i => [(1, vI n), (14, vEs l), (15, vI l.length), (16, vI i)]) (fun _ => []) (fun i => l.length - i) 0 ⟨by omega, by simp⟩ ?_ fun i hi => ?_
  · refine .of [] [] rfl (by rw [hst]; rfl) trivial ?_
    simp only [ltSto, ltO2, ltO1, ltAs, ltA, ltC, ltCs, ltT, ltFr, ltS, wrOk, wrO, TL.get, hasFr, ↓reduceIte, Nat.reduceEqDiff, reduceCtorEq, Option.getD_some, Option.isSome_some, List.length_map, List.length_append, List.length_cons, List.length_nil, List.append_nil, List.mem_singleton, List.mem_cons, List.not_mem_nil, and_true, true_and, and_self, imp_self, forall_const, false_implies, implies_true, true_implies, or_false, Bool.false_eq_true, Bool.true_eq_false, ImXs_nil, true_or, or_true, false_or, false_and, and_false, rmK, rm1]
    rfl
  simp only [tl, tl2, isCallR, entX, argFr, ret, retI, retB, intT, unT, endR, ressR, resR, tupT, bslR, boxR, lenAll, ↓reduceIte, Nat.reduceEqDiff, Nat.reduceAdd, Nat.reduceMul, Nat.reduceLT, Nat.reduceLeDiff, reduceCtorEq, Int.reduceLE, Int.reduceLT, ne_eq, Int.reduceEq, not_false_eq_true, decide_true, decide_false, Int.reduceToNat, tl3, Int.reduceBNe, Int.reduceBEq, rmK, rm1, not_true_eq_false, decide_eq_true_eq, decide_eq_false_iff_not]
  refine ⟨fun h => ?_, fun h => ?_⟩
  · have h7 : i < l.length := by omega
    have hfa := fun h2 => find_at (n := n) h7 hi.2 h2
    have hsn := fun h2 => any_snocE (p := fun y => y.out == n) h7 hi.2 h2
    simp only [tl, tl2, isCallR, entX, argFr, ret, retI, retB, intT, unT, endR, ressR, resR, tupT, bslR, boxR, lenAll, ↓reduceIte, Nat.reduceEqDiff, Nat.reduceAdd, Nat.reduceMul, Nat.reduceLT, Nat.reduceLeDiff, reduceCtorEq, Int.reduceLE, Int.reduceLT, ne_eq, Int.reduceEq, not_false_eq_true, decide_true, decide_false, Int.reduceToNat, tl3, Int.reduceBNe, Int.reduceBEq, rmK, rm1, not_true_eq_false, Int.toNat_natCast, getD_es h7, entT]
    refine ⟨by omega, fun h8 => ?_, fun h8 => ⟨i + 1, ⟨by omega, hsn h8⟩, by omega, ?_⟩⟩
    · rw [hfa h8]
      exact .imR rfl rfl
    · refine .of [] [] rfl (by rw [hst]; rfl) trivial ?_
      simp only [ltSto, ltO2, ltO1, ltAs, ltA, ltC, ltCs, ltT, ltFr, ltS, wrOk, wrO, TL.get, hasFr, ↓reduceIte, Nat.reduceEqDiff, reduceCtorEq, Option.getD_some, Option.isSome_some, List.length_map, List.length_append, List.length_cons, List.length_nil, List.append_nil, List.mem_singleton, List.mem_cons, List.not_mem_nil, and_true, true_and, and_self, imp_self, forall_const, false_implies, implies_true, true_implies, or_false, Bool.false_eq_true, Bool.true_eq_false, ImXs_nil, true_or, or_true, false_or, false_and, and_false, rmK, rm1]
      rw [IntWalk.i64_in _ (by omega)]
      rfl
  · have h7 : i = l.length := by omega
    have h8 := hi.2
    rw [h7, List.take_length] at h8
    rw [find_none h8]
    exact .imR rfl rfl
end Go.Proofs

