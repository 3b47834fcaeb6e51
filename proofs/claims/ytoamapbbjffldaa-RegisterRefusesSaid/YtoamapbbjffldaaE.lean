import Derived.Test.YtoamapbbjffldaaD
set_option linter.unusedSimpArgs false
set_option linter.unusedVariables false
namespace Go.Proofs
open Go Go.TL
/-! ltSto, ltO2, ltO1, ltAs, ltA, ltC, ltCs, ltT, ltFr, ltS, wrOk, wrO, TL.get, hasFr, ↓reduceIte, Nat.reduceEqDiff, reduceCtorEq, Option.getD_some, Option.isSome_some, List.length_map, List.length_append, List.length_cons, List.length_nil, List.append_nil, List.mem_singleton, List.mem_cons, List.not_mem_nil, and_true, true_and, and_self, imp_self, forall_const, false_implies, implies_true, true_implies, or_false, Bool.false_eq_true, Bool.true_eq_false, ImXs_nil, true_or, or_true, false_or, false_and, and_false, rmK, rm1# what an entry is about -/
def aboutI (l : List Ent) (x : Ent) : Int :=
  if (x.text.size : Int) > 4096 then 1
  else if (decide (x.kind < 1) || decide (x.kind > 3)) = true then 4
  else if ((x.kind != 1) && !((forceI l).contains x.of_)) = true then 56
  else if ((x.kind == 1) && (x.of_ != 0)) = true then 11
  else if (x.kind == 2) = true then (if ((x.out != 0) || !(x.text.toList == [])) = true then 11 else 0)
  else if (decide (x.out < 1) || decide (x.out > 40)) = true then 11
  else if l.any (fun y => y.out == x.out) = true then 11 else 0
theorem c_ref38_about (l : List Ent) (x : Ent) (hl : l.length ≤ 1000000) : Spc Try.prog F_ref38_about [vEs l, entT x] [] (vI (aboutI l x)) [] := by
  refine spec_of_ir fn_ref38_about mixm (by simp) fun e _ hst => W_start ?_
  unfold ir_ref38_about
  simp only [tl, tl2, isCallR, entX, argFr, ret, retI, retB, intT, unT, endR, ressR, resR, tupT, bslR, boxR, lenAll, ↓reduceIte, Nat.reduceEqDiff, Nat.reduceAdd, Nat.reduceMul, Nat.reduceLT, Nat.reduceLeDiff, reduceCtorEq, Int.reduceLE, Int.reduceLT, ne_eq, Int.reduceEq, not_false_eq_true, decide_true, decide_false, Int.reduceToNat, tl3, Int.reduceBNe, Int.reduceBEq, rmK, rm1, not_true_eq_false, entT, decide_eq_true_eq, decide_eq_false_iff_not]
  refine ⟨fun h1 => ?_, fun h1 => ?_⟩
  · rw [aboutI, if_pos h1]
    exact .imR rfl rfl
  refine ⟨fun h2 => ?_, fun h2 => ?_⟩
  · rw [aboutI, if_neg h1, if_pos h2]
    exact .imR rfl rfl
  refine C2.im (fun _ => c_ref38_inForce l hl) (fun _ => rfl) (by rfl) ?_
  simp only [tl, tl2, isCallR, entX, argFr, ret, retI, retB, intT, unT, endR, ressR, resR, tupT, bslR, boxR, lenAll, ↓reduceIte, Nat.reduceEqDiff, Nat.reduceAdd, Nat.reduceMul, Nat.reduceLT, Nat.reduceLeDiff, reduceCtorEq, Int.reduceLE, Int.reduceLT, ne_eq, Int.reduceEq, not_false_eq_true, decide_true, decide_false, Int.reduceToNat, tl3, Int.reduceBNe, Int.reduceBEq, rmK, rm1, not_true_eq_false]
  refine C2.im (fun _ => c_ref38_has (forceI l) x.of_ ?_) (fun _ => rfl) (by rfl) ?_
  · have := force_len l l.length (Nat.le_refl _)
    rw [List.take_length] at this
    omega
  simp only [tl, tl2, isCallR, entX, argFr, ret, retI, retB, intT, unT, endR, ressR, resR, tupT, bslR, boxR, lenAll, ↓reduceIte, Nat.reduceEqDiff, Nat.reduceAdd, Nat.reduceMul, Nat.reduceLT, Nat.reduceLeDiff, reduceCtorEq, Int.reduceLE, Int.reduceLT, ne_eq, Int.reduceEq, not_false_eq_true, decide_true, decide_false, Int.reduceToNat, tl3, Int.reduceBNe, Int.reduceBEq, rmK, rm1, not_true_eq_false]
  refine ⟨by kernel_rfl, fun h3 => ?_, fun h3 => ?_⟩
  · rw [aboutI, if_neg h1, if_neg (by rw [h2]; simp), if_pos h3]
    exact .imR rfl rfl
  refine ⟨fun h4 => ?_, fun h4 => ?_⟩
  · rw [aboutI, if_neg h1, if_neg (by rw [h2]; simp), if_neg (by rw [h3]; simp), if_pos h4]
    exact .imR rfl rfl
  refine ⟨fun h5 => ⟨fun h6 => ?_, fun h6 => ?_⟩, fun h5 => ?_⟩
  · rw [aboutI, if_neg h1, if_neg (by rw [h2]; simp), if_neg (by rw [h3]; simp), if_neg (by rw [h4]; simp), if_pos h5, if_pos h6]
    exact .imR rfl rfl
  · rw [aboutI, if_neg h1, if_neg (by rw [h2]; simp), if_neg (by rw [h3]; simp), if_neg (by rw [h4]; simp), if_pos h5, if_neg (by rw [h6]; simp)]
    exact .imR rfl rfl
  refine ⟨fun h6 => ?_, fun h6 => ?_⟩
  · rw [aboutI, if_neg h1, if_neg (by rw [h2]; simp), if_neg (by rw [h3]; simp), if_neg (by rw [h4]; simp), if_neg (by rw [h5]; simp), if_pos h6]
    exact .imR rfl rfl
  have hE : aboutI l x = if l.any (fun y => y.out == x.out) = true then 11 else 0 := by
    rw [aboutI, if_neg h1, if_neg (by rw [h2]; simp), if_neg (by rw [h3]; simp), if_neg (by rw [h4]; simp), if_neg (by rw [h5]; simp), if_neg (by rw [h6]; simp)]
  rw [hE]
  refine W_loop mixm (α := Nat) (fun i => i ≤ l.length ∧ (l.take i).any (fun y => y.out == x.out) = false) (fun i => [(3, .ptr 1 1 0 0), (60, vEs l), (61, vI l.length), (62, vI i)]) (fun _ => [(1, oE x)]) (fun i => l.length - i) 0 ⟨by omega, by simp⟩ ?_ fun i hi => ?_
  · refine .of [(1, some 4096)] [] rfl (by rw [hst]; rfl) ?_ ?_
    · simp only [ltSto, ltO2, ltO1, ltAs, ltA, ltC, ltCs, ltT, ltFr, ltS, wrOk, wrO, TL.get, hasFr, ↓reduceIte, Nat.reduceEqDiff, reduceCtorEq, Option.getD_some, Option.isSome_some, List.length_map, List.length_append, List.length_cons, List.length_nil, List.append_nil, List.mem_singleton, List.mem_cons, List.not_mem_nil, and_true, true_and, and_self, imp_self, forall_const, false_implies, implies_true, true_implies, or_false, Bool.false_eq_true, Bool.true_eq_false, ImXs_nil, true_or, or_true, false_or, false_and, and_false, rmK, rm1]
      exact ltXs_refl (imXs_ent x)
    · simp only [ltSto, ltO2, ltO1, ltAs, ltA, ltC, ltCs, ltT, ltFr, ltS, wrOk, wrO, TL.get, hasFr, ↓reduceIte, Nat.reduceEqDiff, reduceCtorEq, Option.getD_some, Option.isSome_some, List.length_map, List.length_append, List.length_cons, List.length_nil, List.append_nil, List.mem_singleton, List.mem_cons, List.not_mem_nil, and_true, true_and, and_self, imp_self, forall_const, false_implies, implies_true, true_implies, or_false, Bool.false_eq_true, Bool.true_eq_false, ImXs_nil, true_or, or_true, false_or, false_and, and_false, rmK, rm1]
      rfl
  simp only [tl, tl2, isCallR, entX, argFr, ret, retI, retB, intT, unT, endR, ressR, resR, tupT, bslR, boxR, lenAll, ↓reduceIte, Nat.reduceEqDiff, Nat.reduceAdd, Nat.reduceMul, Nat.reduceLT, Nat.reduceLeDiff, reduceCtorEq, Int.reduceLE, Int.reduceLT, ne_eq, Int.reduceEq, not_false_eq_true, decide_true, decide_false, Int.reduceToNat, tl3, Int.reduceBNe, Int.reduceBEq, rmK, rm1, not_true_eq_false, decide_eq_true_eq, decide_eq_false_iff_not]
  refine ⟨fun h => ?_, fun h => ?_⟩
  · have h7 : i < l.length := by omega
    simp only [tl, tl2, isCallR, entX, argFr, ret, retI, retB, intT, unT, endR, ressR, resR, tupT, bslR, boxR, lenAll, ↓reduceIte, Nat.reduceEqDiff, Nat.reduceAdd, Nat.reduceMul, Nat.reduceLT, Nat.reduceLeDiff, reduceCtorEq, Int.reduceLE, Int.reduceLT, ne_eq, Int.reduceEq, not_false_eq_true, decide_true, decide_false, Int.reduceToNat, tl3, Int.reduceBNe, Int.reduceBEq, rmK, rm1, not_true_eq_false, Int.toNat_natCast, getD_es h7, entT, ent4]
    refine ⟨by omega, fun h8 => ?_, fun h8 => ⟨i + 1, ⟨by omega, any_snocE h7 hi.2 h8⟩, by omega, ?_⟩⟩
    · rw [if_pos (any_ofE (p := fun y => y.out == x.out) h7 h8)]
      exact .imR rfl rfl
    · refine .of [(1, some 1)] [] rfl (by rw [hst]; rfl) ?_ ?_
      · simp only [ltSto, ltO2, ltO1, ltAs, ltA, ltC, ltCs, ltT, ltFr, ltS, wrOk, wrO, TL.get, hasFr, ↓reduceIte, Nat.reduceEqDiff, reduceCtorEq, Option.getD_some, Option.isSome_some, List.length_map, List.length_append, List.length_cons, List.length_nil, List.append_nil, List.mem_singleton, List.mem_cons, List.not_mem_nil, and_true, true_and, and_self, imp_self, forall_const, false_implies, implies_true, true_implies, or_false, Bool.false_eq_true, Bool.true_eq_false, ImXs_nil, true_or, or_true, false_or, false_and, and_false, rmK, rm1]
        exact ltXs_refl (imXs_ent x)
      · simp only [ltSto, ltO2, ltO1, ltAs, ltA, ltC, ltCs, ltT, ltFr, ltS, wrOk, wrO, TL.get, hasFr, ↓reduceIte, Nat.reduceEqDiff, reduceCtorEq, Option.getD_some, Option.isSome_some, List.length_map, List.length_append, List.length_cons, List.length_nil, List.append_nil, List.mem_singleton, List.mem_cons, List.not_mem_nil, and_true, true_and, and_self, imp_self, forall_const, false_implies, implies_true, true_implies, or_false, Bool.false_eq_true, Bool.true_eq_false, ImXs_nil, true_or, or_true, false_or, false_and, and_false, rmK, rm1]
        rw [IntWalk.i64_in _ (by omega)]
        rfl
  · have h7 : i = l.length := by omega
    have h8 := hi.2
    rw [h7, List.take_length] at h8
    rw [if_neg (by rw [h8]; simp)]
    exact .imR rfl rfl
end Go.Proofs

