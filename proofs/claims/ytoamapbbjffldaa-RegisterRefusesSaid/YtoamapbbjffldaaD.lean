import Derived.Test.YtoamapbbjffldaaC
set_option linter.unusedSimpArgs false
set_option linter.unusedVariables false
namespace Go.Proofs
open Go Go.TL
/-! ltSto, ltO2, ltO1, ltAs, ltA, ltC, ltCs, ltT, ltFr, ltS, wrOk, wrO, TL.get, hasFr, ↓reduceIte, Nat.reduceEqDiff, reduceCtorEq, Option.getD_some, Option.isSome_some, List.length_map, List.length_append, List.length_cons, List.length_nil, List.append_nil, List.mem_singleton, List.mem_cons, List.not_mem_nil, and_true, true_and, and_self, imp_self, forall_const, false_implies, implies_true, true_implies, or_false, Bool.false_eq_true, Bool.true_eq_false, ImXs_nil, true_or, or_true, false_or, false_and, and_false, rmK, rm1# what is in force -/
def dropI (n : Int) (l : List Int) : List Int := l.filter fun m => !(m == n)
def stepI (out : List Int) (x : Ent) : List Int :=
  let o := if x.kind = 1 then out else dropI x.of_ out
  if x.kind = 2 then o else o ++ [x.num]
def forceI (l : List Ent) : List Int := l.foldl stepI []
theorem force_step {l : List Ent} {i : Nat} (h : i < l.length) : forceI (l.take (i + 1)) = stepI (forceI (l.take i)) l[i] := by
  unfold forceI
  rw [List.take_succ_eq_append_getElem h, List.foldl_append]
  rfl
theorem drop_len (n : Int) (l : List Int) : (dropI n l).length ≤ l.length := List.length_filter_le _ _
theorem step_len (out : List Int) (x : Ent) : (stepI out x).length ≤ out.length + 1 := by
  have := drop_len x.of_ out
  unfold stepI
  simp only
  split <;> split <;> simp <;> omega
theorem force_len (l : List Ent) : ∀ i, i ≤ l.length → (forceI (l.take i)).length ≤ i
  | 0, _ => by simp [forceI]
  | i + 1, h => by
    rw [force_step (by omega)]
    have h1 := force_len l i (by omega)
    have h2 := step_len (forceI (l.take i)) l[i]
    omega
theorem drop_step {n : Int} {l : List Int} {j : Nat} (h : j < l.length) : dropI n (l.take (j + 1)) = dropI n (l.take j) ++ (if l[j] = n then [] else [l[j]]) := by
  unfold dropI
  rw [List.take_succ_eq_append_getElem h, List.filter_append]
  congr 1
  by_cases e : l[j] = n
  · simp [e]
  · simp [e]
theorem c_ref38_inForce (l : List Ent) (hl : l.length ≤ 1000000) : Spc Try.prog F_ref38_inForce [vEs l] [] (vIs (forceI l)) [] := by
  refine spec_of_ir fn_ref38_inForce mixm (by simp) fun e _ hst => W_start ?_
  unfold ir_ref38_inForce
  simp only [tl, tl2, isCallR, entX, argFr, ret, retI, retB, intT, unT, endR, ressR, resR, tupT, bslR, boxR, lenAll, ↓reduceIte, Nat.reduceEqDiff, Nat.reduceAdd, Nat.reduceMul, Nat.reduceLT, Nat.reduceLeDiff, reduceCtorEq, Int.reduceLE, Int.reduceLT, ne_eq, Int.reduceEq, not_false_eq_true, decide_true, decide_false, Int.reduceToNat, tl3, Int.reduceBNe, Int.reduceBEq, rmK, rm1, not_true_eq_false]
  refine W_loop mixm (α := Nat) (fun i => i ≤ l.length) (fun i => [(3, .asl 1 (forceI (l.take i)).length), (9, vEs l), (10, vI l.length), (11, vI i)]) (fun i => [(1, .arr 1 ((forceI (l.take i)).map vI) false)]) (fun i => l.length - i) 0 (by omega) ?_ fun i hi => ?_
  · refine .of [(1, none)] [] rfl (by rw [hst]; rfl) ?_ ?_
    · simp only [ltSto, ltO2, ltO1, ltAs, ltA, ltC, ltCs, ltT, ltFr, ltS, wrOk, wrO, TL.get, hasFr, ↓reduceIte, Nat.reduceEqDiff, reduceCtorEq, Option.getD_some, Option.isSome_some, List.length_map, List.length_append, List.length_cons, List.length_nil, List.append_nil, List.mem_singleton, List.mem_cons, List.not_mem_nil, and_true, true_and, and_self, imp_self, forall_const, false_implies, implies_true, true_implies, or_false, Bool.false_eq_true, Bool.true_eq_false, ImXs_nil, true_or, or_true, false_or, false_and, and_false, rmK, rm1]
      rfl
    · simp only [ltSto, ltO2, ltO1, ltAs, ltA, ltC, ltCs, ltT, ltFr, ltS, wrOk, wrO, TL.get, hasFr, ↓reduceIte, Nat.reduceEqDiff, reduceCtorEq, Option.getD_some, Option.isSome_some, List.length_map, List.length_append, List.length_cons, List.length_nil, List.append_nil, List.mem_singleton, List.mem_cons, List.not_mem_nil, and_true, true_and, and_self, imp_self, forall_const, false_implies, implies_true, true_implies, or_false, Bool.false_eq_true, Bool.true_eq_false, ImXs_nil, true_or, or_true, false_or, false_and, and_false, rmK, rm1]
      exact ⟨rfl, rfl⟩
  have hfl := force_len l i hi
  simp only [tl, tl2, isCallR, entX, argFr, ret, retI, retB, intT, unT, endR, ressR, resR, tupT, bslR, boxR, lenAll, ↓reduceIte, Nat.reduceEqDiff, Nat.reduceAdd, Nat.reduceMul, Nat.reduceLT, Nat.reduceLeDiff, reduceCtorEq, Int.reduceLE, Int.reduceLT, ne_eq, Int.reduceEq, not_false_eq_true, decide_true, decide_false, Int.reduceToNat, tl3, Int.reduceBNe, Int.reduceBEq, rmK, rm1, not_true_eq_false, decide_eq_true_eq, decide_eq_false_iff_not]
  refine ⟨fun h => ?_, fun h => ?_⟩
  · have h2 : i < l.length := by omega
    have hfs := force_step h2
    simp only [tl, tl2, isCallR, entX, argFr, ret, retI, retB, intT, unT, endR, ressR, resR, tupT, bslR, boxR, lenAll, ↓reduceIte, Nat.reduceEqDiff, Nat.reduceAdd, Nat.reduceMul, Nat.reduceLT, Nat.reduceLeDiff, reduceCtorEq, Int.reduceLE, Int.reduceLT, ne_eq, Int.reduceEq, not_false_eq_true, decide_true, decide_false, Int.reduceToNat, tl3, Int.reduceBNe, Int.reduceBEq, rmK, rm1, not_true_eq_false, Int.toNat_natCast, getD_es h2, entT]
    generalize forceI (l.take i) = o at *
    generalize l[i] = x at *
    refine ⟨by omega, fun h3 => ?_, fun h3 => ⟨fun h4 => ?_, fun h4 => ?_⟩⟩
    · have h3 : ¬ x.kind = 1 := by simpa using h3
      refine W_loop mixm (α := Nat) (fun j => j ≤ o.length) (fun j => [(5, .ptr 2 1 0 0), (6, .asl 3 (dropI x.of_ (o.take j)).length), (9, vEs l), (10, vI l.length), (11, vI i), (18, vIs o), (19, vI o.length), (20, vI j)]) (fun j => [(2, oE x), (3, .arr 1 ((dropI x.of_ (o.take j)).map vI) false)]) (fun j => o.length - j) 0 (by omega) ?_ fun j hj => ?_
      · refine .of [(2, some 20488), (3, none)] [1] rfl (by rw [hst]; rfl) ?_ ?_
        · simp only [ltSto, ltO2, ltO1, ltAs, ltA, ltC, ltCs, ltT, ltFr, ltS, wrOk, wrO, TL.get, hasFr, ↓reduceIte, Nat.reduceEqDiff, reduceCtorEq, Option.getD_some, Option.isSome_some, List.length_map, List.length_append, List.length_cons, List.length_nil, List.append_nil, List.mem_singleton, List.mem_cons, List.not_mem_nil, and_true, true_and, and_self, imp_self, forall_const, false_implies, implies_true, true_implies, or_false, Bool.false_eq_true, Bool.true_eq_false, ImXs_nil, true_or, or_true, false_or, false_and, and_false, rmK, rm1]
          exact ⟨ltXs_refl (imXs_ent x), rfl⟩
        · simp only [ltSto, ltO2, ltO1, ltAs, ltA, ltC, ltCs, ltT, ltFr, ltS, wrOk, wrO, TL.get, hasFr, ↓reduceIte, Nat.reduceEqDiff, reduceCtorEq, Option.getD_some, Option.isSome_some, List.length_map, List.length_append, List.length_cons, List.length_nil, List.append_nil, List.mem_singleton, List.mem_cons, List.not_mem_nil, and_true, true_and, and_self, imp_self, forall_const, false_implies, implies_true, true_implies, or_false, Bool.false_eq_true, Bool.true_eq_false, ImXs_nil, true_or, or_true, false_or, false_and, and_false, rmK, rm1]
          exact ⟨rfl, ints_v _, rfl⟩
      have hdl := drop_len x.of_ (o.take j)
      rw [List.length_take] at hdl
      simp only [tl, tl2, isCallR, entX, argFr, ret, retI, retB, intT, unT, endR, ressR, resR, tupT, bslR, boxR, lenAll, ↓reduceIte, Nat.reduceEqDiff, Nat.reduceAdd, Nat.reduceMul, Nat.reduceLT, Nat.reduceLeDiff, reduceCtorEq, Int.reduceLE, Int.reduceLT, ne_eq, Int.reduceEq, not_false_eq_true, decide_true, decide_false, Int.reduceToNat, tl3, Int.reduceBNe, Int.reduceBEq, rmK, rm1, not_true_eq_false, decide_eq_true_eq, decide_eq_false_iff_not]
      refine ⟨fun h5 => ?_, fun h5 => ?_⟩
      · have h6 : j < o.length := by omega
        simp only [tl, tl2, isCallR, entX, argFr, ret, retI, retB, intT, unT, endR, ressR, resR, tupT, bslR, boxR, lenAll, ↓reduceIte, Nat.reduceEqDiff, Nat.reduceAdd, Nat.reduceMul, Nat.reduceLT, Nat.reduceLeDiff, reduceCtorEq, Int.reduceLE, Int.reduceLT, ne_eq, Int.reduceEq, not_false_eq_true, decide_true, decide_false, Int.reduceToNat, tl3, Int.reduceBNe, Int.reduceBEq, rmK, rm1, not_true_eq_false, Int.toNat_natCast, getD_ints h6, ent3]
        have hds := drop_step (n := x.of_) h6
        refine ⟨by omega, fun h7 => ?_, fun h7 => ?_⟩
        · rw [if_neg (by simpa using h7)] at hds
          refine ⟨by omega, j + 1, by omega, by omega, .of [(2, some 2), (3, some 3)] [] rfl (by rw [hst]; rfl) ?_ ?_⟩
          · simp only [ltSto, ltO2, ltO1, ltAs, ltA, ltC, ltCs, ltT, ltFr, ltS, wrOk, wrO, TL.get, hasFr, ↓reduceIte, Nat.reduceEqDiff, reduceCtorEq, Option.getD_some, Option.isSome_some, List.length_map, List.length_append, List.length_cons, List.length_nil, List.append_nil, List.mem_singleton, List.mem_cons, List.not_mem_nil, and_true, true_and, and_self, imp_self, forall_const, false_implies, implies_true, true_implies, or_false, Bool.false_eq_true, Bool.true_eq_false, ImXs_nil, true_or, or_true, false_or, false_and, and_false, rmK, rm1, hds, List.map_append, List.map_cons, List.map_nil]
            exact ⟨ltXs_refl (imXs_ent x), ltXs_append (ltXs_ints _) (ltXs_ints [_])⟩
          · simp only [ltSto, ltO2, ltO1, ltAs, ltA, ltC, ltCs, ltT, ltFr, ltS, wrOk, wrO, TL.get, hasFr, ↓reduceIte, Nat.reduceEqDiff, reduceCtorEq, Option.getD_some, Option.isSome_some, List.length_map, List.length_append, List.length_cons, List.length_nil, List.append_nil, List.mem_singleton, List.mem_cons, List.not_mem_nil, and_true, true_and, and_self, imp_self, forall_const, false_implies, implies_true, true_implies, or_false, Bool.false_eq_true, Bool.true_eq_false, ImXs_nil, true_or, or_true, false_or, false_and, and_false, rmK, rm1, hds, List.length_append, List.length_cons, List.length_nil]
            rw [IntWalk.i64_in _ (by omega)]
            rfl
        · rw [if_pos (by simpa using h7), List.append_nil] at hds
          refine ⟨j + 1, by omega, by omega, .of [(2, some 2), (3, some 3)] [] rfl (by rw [hst]; rfl) ?_ ?_⟩
          · simp only [ltSto, ltO2, ltO1, ltAs, ltA, ltC, ltCs, ltT, ltFr, ltS, wrOk, wrO, TL.get, hasFr, ↓reduceIte, Nat.reduceEqDiff, reduceCtorEq, Option.getD_some, Option.isSome_some, List.length_map, List.length_append, List.length_cons, List.length_nil, List.append_nil, List.mem_singleton, List.mem_cons, List.not_mem_nil, and_true, true_and, and_self, imp_self, forall_const, false_implies, implies_true, true_implies, or_false, Bool.false_eq_true, Bool.true_eq_false, ImXs_nil, true_or, or_true, false_or, false_and, and_false, rmK, rm1, hds]
            exact ⟨ltXs_refl (imXs_ent x), ltXs_ints _⟩
          · simp only [ltSto, ltO2, ltO1, ltAs, ltA, ltC, ltCs, ltT, ltFr, ltS, wrOk, wrO, TL.get, hasFr, ↓reduceIte, Nat.reduceEqDiff, reduceCtorEq, Option.getD_some, Option.isSome_some, List.length_map, List.length_append, List.length_cons, List.length_nil, List.append_nil, List.mem_singleton, List.mem_cons, List.not_mem_nil, and_true, true_and, and_self, imp_self, forall_const, false_implies, implies_true, true_implies, or_false, Bool.false_eq_true, Bool.true_eq_false, ImXs_nil, true_or, or_true, false_or, false_and, and_false, rmK, rm1, hds]
            rw [IntWalk.i64_in _ (by omega)]
            rfl
      · have h6 : j = o.length := by omega
        subst h6
        rw [List.take_length] at hdl ⊢
        simp only [tl, tl2, isCallR, entX, argFr, ret, retI, retB, intT, unT, endR, ressR, resR, tupT, bslR, boxR, lenAll, ↓reduceIte, Nat.reduceEqDiff, Nat.reduceAdd, Nat.reduceMul, Nat.reduceLT, Nat.reduceLeDiff, reduceCtorEq, Int.reduceLE, Int.reduceLT, ne_eq, Int.reduceEq, not_false_eq_true, decide_true, decide_false, Int.reduceToNat, tl3, Int.reduceBNe, Int.reduceBEq, rmK, rm1, not_true_eq_false, ent0, ent2]
        refine ⟨fun h7 => ?_, fun h7 => ?_⟩
        · have h7 : ¬ x.kind = 2 := by simpa using h7
          have hs : stepI o x = dropI x.of_ o ++ [x.num] := by
            unfold stepI; rw [if_neg h3, if_neg h7]
          rw [hs] at hfs
          refine ⟨by omega, i + 1, by omega, by omega, .of [(1, some 3)] [] rfl (by rw [hst]; rfl) ?_ ?_⟩
          · simp only [ltSto, ltO2, ltO1, ltAs, ltA, ltC, ltCs, ltT, ltFr, ltS, wrOk, wrO, TL.get, hasFr, ↓reduceIte, Nat.reduceEqDiff, reduceCtorEq, Option.getD_some, Option.isSome_some, List.length_map, List.length_append, List.length_cons, List.length_nil, List.append_nil, List.mem_singleton, List.mem_cons, List.not_mem_nil, and_true, true_and, and_self, imp_self, forall_const, false_implies, implies_true, true_implies, or_false, Bool.false_eq_true, Bool.true_eq_false, ImXs_nil, true_or, or_true, false_or, false_and, and_false, rmK, rm1, hfs, List.map_append, List.map_cons, List.map_nil]
            exact ltXs_append (ltXs_ints _) (ltXs_ints [_])
          · simp only [ltSto, ltO2, ltO1, ltAs, ltA, ltC, ltCs, ltT, ltFr, ltS, wrOk, wrO, TL.get, hasFr, ↓reduceIte, Nat.reduceEqDiff, reduceCtorEq, Option.getD_some, Option.isSome_some, List.length_map, List.length_append, List.length_cons, List.length_nil, List.append_nil, List.mem_singleton, List.mem_cons, List.not_mem_nil, and_true, true_and, and_self, imp_self, forall_const, false_implies, implies_true, true_implies, or_false, Bool.false_eq_true, Bool.true_eq_false, ImXs_nil, true_or, or_true, false_or, false_and, and_false, rmK, rm1, hfs, List.length_append, List.length_cons, List.length_nil]
            rw [IntWalk.i64_in _ (by omega)]
            rfl
        · have h7 : x.kind = 2 := by simpa using h7
          have hs : stepI o x = dropI x.of_ o := by
            unfold stepI; rw [if_neg h3, if_pos h7]
          rw [hs] at hfs
          refine ⟨i + 1, by omega, by omega, .of [(1, some 3)] [] rfl (by rw [hst]; rfl) ?_ ?_⟩
          · simp only [ltSto, ltO2, ltO1, ltAs, ltA, ltC, ltCs, ltT, ltFr, ltS, wrOk, wrO, TL.get, hasFr, ↓reduceIte, Nat.reduceEqDiff, reduceCtorEq, Option.getD_some, Option.isSome_some, List.length_map, List.length_append, List.length_cons, List.length_nil, List.append_nil, List.mem_singleton, List.mem_cons, List.not_mem_nil, and_true, true_and, and_self, imp_self, forall_const, false_implies, implies_true, true_implies, or_false, Bool.false_eq_true, Bool.true_eq_false, ImXs_nil, true_or, or_true, false_or, false_and, and_false, rmK, rm1, hfs]
            exact ltXs_ints _
          · simp only [ltSto, ltO2, ltO1, ltAs, ltA, ltC, ltCs, ltT, ltFr, ltS, wrOk, wrO, TL.get, hasFr, ↓reduceIte, Nat.reduceEqDiff, reduceCtorEq, Option.getD_some, Option.isSome_some, List.length_map, List.length_append, List.length_cons, List.length_nil, List.append_nil, List.mem_singleton, List.mem_cons, List.not_mem_nil, and_true, true_and, and_self, imp_self, forall_const, false_implies, implies_true, true_implies, or_false, Bool.false_eq_true, Bool.true_eq_false, ImXs_nil, true_or, or_true, false_or, false_and, and_false, rmK, rm1, hfs]
            rw [IntWalk.i64_in _ (by omega)]
            rfl
    · have h3 : x.kind = 1 := by simpa using h3
      have h4 : ¬ x.kind = 2 := by simpa using h4
      have hs : stepI o x = o ++ [x.num] := by unfold stepI; simp [h3]
      rw [hs] at hfs
      refine ⟨by omega, i + 1, by omega, by omega, .of [(1, some 1)] [] rfl (by rw [hst]; rfl) ?_ ?_⟩
      · simp only [ltSto, ltO2, ltO1, ltAs, ltA, ltC, ltCs, ltT, ltFr, ltS, wrOk, wrO, TL.get, hasFr, ↓reduceIte, Nat.reduceEqDiff, reduceCtorEq, Option.getD_some, Option.isSome_some, List.length_map, List.length_append, List.length_cons, List.length_nil, List.append_nil, List.mem_singleton, List.mem_cons, List.not_mem_nil, and_true, true_and, and_self, imp_self, forall_const, false_implies, implies_true, true_implies, or_false, Bool.false_eq_true, Bool.true_eq_false, ImXs_nil, true_or, or_true, false_or, false_and, and_false, rmK, rm1, hfs, List.map_append, List.map_cons, List.map_nil]
        exact ltXs_append (ltXs_ints _) (ltXs_ints [_])
      · simp only [ltSto, ltO2, ltO1, ltAs, ltA, ltC, ltCs, ltT, ltFr, ltS, wrOk, wrO, TL.get, hasFr, ↓reduceIte, Nat.reduceEqDiff, reduceCtorEq, Option.getD_some, Option.isSome_some, List.length_map, List.length_append, List.length_cons, List.length_nil, List.append_nil, List.mem_singleton, List.mem_cons, List.not_mem_nil, and_true, true_and, and_self, imp_self, forall_const, false_implies, implies_true, true_implies, or_false, Bool.false_eq_true, Bool.true_eq_false, ImXs_nil, true_or, or_true, false_or, false_and, and_false, rmK, rm1, hfs, List.length_append, List.length_cons, List.length_nil]
        rw [IntWalk.i64_in _ (by omega)]
        rfl
    · have h3 : x.kind = 1 := by simpa using h3
      simp [h3] at h4
  · have h2 : i = l.length := by omega
    subst h2
    rw [List.take_length]
    refine .of [] [1] rfl rfl trivial ?_
    simp only [ltSto, ltO2, ltO1, ltAs, ltA, ltC, ltCs, ltT, ltFr, ltS, wrOk, wrO, TL.get, hasFr, ↓reduceIte, Nat.reduceEqDiff, reduceCtorEq, Option.getD_some, Option.isSome_some, List.length_map, List.length_append, List.length_cons, List.length_nil, List.append_nil, List.mem_singleton, List.mem_cons, List.not_mem_nil, and_true, true_and, and_self, imp_self, forall_const, false_implies, implies_true, true_implies, or_false, Bool.false_eq_true, Bool.true_eq_false, ImXs_nil, true_or, or_true, false_or, false_and, and_false, rmK, rm1]
    exact ints_v _
end Go.Proofs

