import Derived.Test.YtmlpadmppocbkaaM
set_option linter.unusedSimpArgs false
set_option linter.unusedVariables false
namespace Go.Proofs
open Go Go.TL
theorem whole_len : ∀ (ls : List (List UInt8)), (∀ x ∈ ls, x.length ≤ 300) → (whole ls).length ≤ 308 * ls.length
  | [], _ => by simp [whole]
  | l :: ls, h => by
    have h1 := whole_len ls fun x hx => h x (by simp [hx])
    have h2 := h l (by simp)
    have h3 : (whole (l :: ls)).length = (frame l).length + (whole ls).length := by simp [whole]
    have h4 := frame_length l
    simp only [List.length_cons]
    omega
theorem whole_snoc (ls : List (List UInt8)) (x : List UInt8) : whole (ls ++ [x]) = whole ls ++ frame x := by simp [whole]
theorem kp_all (p : List UInt8) : kp p p.length = p.length := by
  unfold kp minI maxI
  split <;> split <;> omega
theorem c6 (l : List (List UInt8)) (more : List UInt8) (keep : Int) (hl : l.length ≤ 140737488351232) : Spc Try.prog 6 [.sl 1 (l.map vL), vL more, vI keep] [] (vB true) [] := by
  refine spec_of_ir fn6 mixm (by simp) fun e _ hst => W_start ?_
  unfold ir6
  simp only [tl, tl2, isCallR, entX, argFr, ret, retI, retB, intT, unT, endR, ressR, resR, tupT, bslR, boxR, lenAll, ↓reduceIte, Nat.reduceEqDiff, Nat.reduceAdd, Nat.reduceMul, Nat.reduceLT, Nat.reduceLeDiff, reduceCtorEq, Int.reduceLE, Int.reduceLT, ne_eq, Int.reduceEq, not_false_eq_true, decide_true, decide_false, Int.reduceToNat, tl3, Int.reduceBNe, Int.reduceBEq]
  refine W_loop mixm (α := Nat) (fun i => i ≤ l.length ∧ i ≤ 12 ∧ ∀ x ∈ l.take i, x.length ≤ 300)
    (fun i => [(0, .sl 1 (l.map vL)), (1, vL more), (2, vI keep), (7, .ptr 1 1 0 0), (8, vI i), (9, vI i)]) (fun i => [(1, .arr 2 [vF (whole (l.take i)) []] false)]) (fun i => 12 - i) 0 ⟨by omega, by omega, by simp⟩ ?_ fun i hi => ?_
  · refine .of [(1, some 8192)] [] rfl (by rw [hst]; rfl) ?_ ?_
    · simp only [ltSto, ltO2, ltO1, ltAs, ltA, ltC, ltCs, ltT, ltFr, ltS, wrOk, wrO, TL.get, hasFr, ↓reduceIte, Nat.reduceEqDiff, reduceCtorEq, Option.getD_some, Option.isSome_some, List.length_map, List.length_append, List.length_cons, List.length_nil, List.append_nil, List.mem_singleton, List.mem_cons, List.not_mem_nil, and_true, true_and, and_self, imp_self, forall_const, false_implies, implies_true, true_implies, or_false, Bool.false_eq_true, Bool.true_eq_false, ImXs_nil, true_or, or_true, false_or, false_and, and_false]
      exact ltXs_cons ⟨rfl, rfl, rfl, rfl, trivial⟩ ltXs_nil
    · simp only [ltSto, ltO2, ltO1, ltAs, ltA, ltC, ltCs, ltT, ltFr, ltS, wrOk, wrO, TL.get, hasFr, ↓reduceIte, Nat.reduceEqDiff, reduceCtorEq, Option.getD_some, Option.isSome_some, List.length_map, List.length_append, List.length_cons, List.length_nil, List.append_nil, List.mem_singleton, List.mem_cons, List.not_mem_nil, and_true, true_and, and_self, imp_self, forall_const, false_implies, implies_true, true_implies, or_false, Bool.false_eq_true, Bool.true_eq_false, ImXs_nil, true_or, or_true, false_or, false_and, and_false]; rfl
  obtain ⟨hi1, hi2, hi3⟩ := hi
  have hls : small (l.take i) := fun x hx => by have := hi3 x hx; omega
  have hwl := whole_len (l.take i) hi3
  have htl : (l.take i).length = i := by simp; omega
  simp only [tl, tl2, isCallR, entX, argFr, ret, retI, retB, intT, unT, endR, ressR, resR, tupT, bslR, boxR, lenAll, ↓reduceIte, Nat.reduceEqDiff, Nat.reduceAdd, Nat.reduceMul, Nat.reduceLT, Nat.reduceLeDiff, reduceCtorEq, Int.reduceLE, Int.reduceLT, ne_eq, Int.reduceEq, not_false_eq_true, decide_true, decide_false, Int.reduceToNat, tl3, Int.reduceBNe, Int.reduceBEq, Bool.and_eq_true, Bool.and_eq_false_iff, decide_eq_true_eq, decide_eq_false_iff_not]
  refine ⟨fun h1 => ?_, fun h1 => ?_⟩
  · have h2 : i < l.length := by omega
    have htk : l.take (i + 1) = l.take i ++ [l[i]] := List.take_succ_eq_append_getElem h2
    simp only [tl, tl2, isCallR, entX, argFr, ret, retI, retB, intT, unT, endR, ressR, resR, tupT, bslR, boxR, lenAll, ↓reduceIte, Nat.reduceEqDiff, Nat.reduceAdd, Nat.reduceMul, Nat.reduceLT, Nat.reduceLeDiff, reduceCtorEq, Int.reduceLE, Int.reduceLT, ne_eq, Int.reduceEq, not_false_eq_true, decide_true, decide_false, Int.reduceToNat, tl3, Int.reduceBNe, Int.reduceBEq, Int.toNat_natCast, getD_map h2, getD_get h2, decide_eq_true_eq, decide_eq_false_iff_not]
    generalize l[i] = x at htk ⊢
    refine ⟨by omega, fun h3 => ?_, fun h3 => ?_⟩
    · refine C1.im c8 rfl rfl ?_
      simp only [tl, tl2, isCallR, entX, argFr, ret, retI, retB, intT, unT, endR, ressR, resR, tupT, bslR, boxR, lenAll, ↓reduceIte, Nat.reduceEqDiff, Nat.reduceAdd, Nat.reduceMul, Nat.reduceLT, Nat.reduceLeDiff, reduceCtorEq, Int.reduceLE, Int.reduceLT, ne_eq, Int.reduceEq, not_false_eq_true, decide_true, decide_false, Int.reduceToNat, tl3, Int.reduceBNe, Int.reduceBEq]
      exact .imR rfl rfl
    have ha := app_whole (l.take i) hls [] x (by omega) (by simp; omega)
    have hx := frame_length x
    refine ⟨by omega, ?_⟩
    refine C1.im ha rfl (by rfl) ?_
    have hc := c20 (whole (l.take i)) (frame x) (by omega) (by omega)
    rw [crashS, kp_all, List.take_length, ← whole_snoc, ← htk] at hc
    simp only [tl, tl2, isCallR, entX, argFr, ret, retI, retB, intT, unT, endR, ressR, resR, tupT, bslR, boxR, lenAll, ↓reduceIte, Nat.reduceEqDiff, Nat.reduceAdd, Nat.reduceMul, Nat.reduceLT, Nat.reduceLeDiff, reduceCtorEq, Int.reduceLE, Int.reduceLT, ne_eq, Int.reduceEq, not_false_eq_true, decide_true, decide_false, Int.reduceToNat, tl3, Int.reduceBNe, Int.reduceBEq]
    refine ⟨by kernel_rfl, ?_⟩
    refine C1.im hc rfl (by rfl) ?_
    simp only [tl, tl2, isCallR, entX, argFr, ret, retI, retB, intT, unT, endR, ressR, resR, tupT, bslR, boxR, lenAll, ↓reduceIte, Nat.reduceEqDiff, Nat.reduceAdd, Nat.reduceMul, Nat.reduceLT, Nat.reduceLeDiff, reduceCtorEq, Int.reduceLE, Int.reduceLT, ne_eq, Int.reduceEq, not_false_eq_true, decide_true, decide_false, Int.reduceToNat, tl3, Int.reduceBNe, Int.reduceBEq]
    refine ⟨i + 1, ⟨by omega, by omega, ?_⟩, by omega, .of [(1, some 1)] [] rfl (by rw [hst]; rfl) ?_ ?_⟩
    · intro y hy
      rw [htk] at hy
      rcases List.mem_append.1 hy with hy | hy
      · exact hi3 y hy
      · simp at hy; subst hy; omega
    · simp only [ltSto, ltO2, ltO1, ltAs, ltA, ltC, ltCs, ltT, ltFr, ltS, wrOk, wrO, TL.get, hasFr, ↓reduceIte, Nat.reduceEqDiff, reduceCtorEq, Option.getD_some, Option.isSome_some, List.length_map, List.length_append, List.length_cons, List.length_nil, List.append_nil, List.mem_singleton, List.mem_cons, List.not_mem_nil, and_true, true_and, and_self, imp_self, forall_const, false_implies, implies_true, true_implies, or_false, Bool.false_eq_true, Bool.true_eq_false, ImXs_nil, true_or, or_true, false_or, false_and, and_false]
      exact ltXs_refl (imXs_map (f := fun y => vF y []) (fun _ => ⟨rfl, rfl⟩) [whole (l.take (i + 1))])
    · simp only [ltSto, ltO2, ltO1, ltAs, ltA, ltC, ltCs, ltT, ltFr, ltS, wrOk, wrO, TL.get, hasFr, ↓reduceIte, Nat.reduceEqDiff, reduceCtorEq, Option.getD_some, Option.isSome_some, List.length_map, List.length_append, List.length_cons, List.length_nil, List.append_nil, List.mem_singleton, List.mem_cons, List.not_mem_nil, and_true, true_and, and_self, imp_self, forall_const, false_implies, implies_true, true_implies, or_false, Bool.false_eq_true, Bool.true_eq_false, ImXs_nil, true_or, or_true, false_or, false_and, and_false]
      rw [IntWalk.i64_in _ (by omega)]
      rfl
  · refine ⟨fun h3 => ?_, fun h3 => ?_⟩
    · refine C1.im c8 rfl rfl ?_
      simp only [tl, tl2, isCallR, entX, argFr, ret, retI, retB, intT, unT, endR, ressR, resR, tupT, bslR, boxR, lenAll, ↓reduceIte, Nat.reduceEqDiff, Nat.reduceAdd, Nat.reduceMul, Nat.reduceLT, Nat.reduceLeDiff, reduceCtorEq, Int.reduceLE, Int.reduceLT, ne_eq, Int.reduceEq, not_false_eq_true, decide_true, decide_false, Int.reduceToNat, tl3, Int.reduceBNe, Int.reduceBEq]
      exact .imR rfl rfl
    have hfm := frame_length more
    have ha := app_whole (l.take i) hls [] more (by omega) (by simp; omega)
    refine C1.im ha rfl (by rfl) ?_
    simp only [tl, tl2, isCallR, entX, argFr, ret, retI, retB, intT, unT, endR, ressR, resR, tupT, bslR, boxR, lenAll, ↓reduceIte, Nat.reduceEqDiff, Nat.reduceAdd, Nat.reduceMul, Nat.reduceLT, Nat.reduceLeDiff, reduceCtorEq, Int.reduceLE, Int.reduceLT, ne_eq, Int.reduceEq, not_false_eq_true, decide_true, decide_false, Int.reduceToNat, tl3, Int.reduceBNe, Int.reduceBEq]
    have hc := c22 (whole (l.take i)) (frame more) keep (by omega) (by omega)
    obtain ⟨k1, k2⟩ := kp_eq (frame more) keep
    obtain ⟨ms, q1, q2, q3, q4⟩ := crash_one (l.take i) hls more (by omega) (kp (frame more) keep) k2
    have hr := c15 (whole (l.take i) ++ (frame more).take (kp (frame more) keep)) [] (by simp; omega) (by simp)
    simp only [recS, q3, q4] at hr
    refine C1.im hc rfl (by rfl) ?_
    simp only [tl, tl2, isCallR, entX, argFr, ret, retI, retB, intT, unT, endR, ressR, resR, tupT, bslR, boxR, lenAll, ↓reduceIte, Nat.reduceEqDiff, Nat.reduceAdd, Nat.reduceMul, Nat.reduceLT, Nat.reduceLeDiff, reduceCtorEq, Int.reduceLE, Int.reduceLT, ne_eq, Int.reduceEq, not_false_eq_true, decide_true, decide_false, Int.reduceToNat, tl3, Int.reduceBNe, Int.reduceBEq, crashS]
    refine C1.shut [] hr ?_ (by rfl) rfl ?_
    · simp only [ltSto, ltO2, ltO1, ltAs, ltA, ltC, ltCs, ltT, ltFr, ltS, wrOk, wrO, TL.get, hasFr, ↓reduceIte, Nat.reduceEqDiff, reduceCtorEq, Option.getD_some, Option.isSome_some, List.length_map, List.length_append, List.length_cons, List.length_nil, List.append_nil, List.mem_singleton, List.mem_cons, List.not_mem_nil, and_true, true_and, and_self, imp_self, forall_const, false_implies, implies_true, true_implies, or_false, Bool.false_eq_true, Bool.true_eq_false, ImXs_nil, true_or, or_true, false_or, false_and, and_false]
    have hml : ms.length = i ∨ ms.length = i + 1 := by rcases q1 with rfl | rfl <;> simp <;> omega
    have hw1 : IntKind.i64.wrap ((i : Int) + 1) = ((i + 1 : Nat) : Int) := by rw [IntWalk.i64_in _ (by omega)]; omega
    have g1 : decide ((ms.length : Int) < i) = false := by simp; omega
    have g2 : decide ((ms.length : Int) > ((i + 1 : Nat) : Int)) = false := by simp; omega
    simp only [tl, tl2, isCallR, entX, argFr, ret, retI, retB, intT, unT, endR, ressR, resR, tupT, bslR, boxR, lenAll, ↓reduceIte, Nat.reduceEqDiff, Nat.reduceAdd, Nat.reduceMul, Nat.reduceLT, Nat.reduceLeDiff, reduceCtorEq, Int.reduceLE, Int.reduceLT, ne_eq, Int.reduceEq, not_false_eq_true, decide_true, decide_false, Int.reduceToNat, tl3, Int.reduceBNe, Int.reduceBEq, hw1, g1, g2, bne_self_eq_false]
    refine W_loop mixm (α := Nat) (fun j => j ≤ i)
      (fun j => [(0, .sl 1 (l.map vL)), (1, vL more), (7, .ptr 1 1 0 0), (8, vI i), (14, .ptr 2 1 0 0), (15, .sl 1 (ms.map vL)), (16, vI j)])
      (fun j => [(1, .arr 2 [vF (whole (l.take i)) []] false), (2, .arr 2 [vF (whole ms) []] false)]) (fun j => i - j) 0 (by omega) ?_ fun j hj => ?_
    · refine .of [(1, some 1), (2, some 69660)] [] rfl (by rw [hst]; rfl) ?_ ?_
      · simp only [ltSto, ltO2, ltO1, ltAs, ltA, ltC, ltCs, ltT, ltFr, ltS, wrOk, wrO, TL.get, hasFr, ↓reduceIte, Nat.reduceEqDiff, reduceCtorEq, Option.getD_some, Option.isSome_some, List.length_map, List.length_append, List.length_cons, List.length_nil, List.append_nil, List.mem_singleton, List.mem_cons, List.not_mem_nil, and_true, true_and, and_self, imp_self, forall_const, false_implies, implies_true, true_implies, or_false, Bool.false_eq_true, Bool.true_eq_false, ImXs_nil, true_or, or_true, false_or, false_and, and_false]
        exact ⟨ltXs_refl (imXs_map (f := fun y => vF y []) (fun _ => ⟨rfl, rfl⟩) [whole (l.take i)]), ltXs_refl (imXs_map (f := fun y => vF y []) (fun _ => ⟨rfl, rfl⟩) [whole ms])⟩
      · simp only [ltSto, ltO2, ltO1, ltAs, ltA, ltC, ltCs, ltT, ltFr, ltS, wrOk, wrO, TL.get, hasFr, ↓reduceIte, Nat.reduceEqDiff, reduceCtorEq, Option.getD_some, Option.isSome_some, List.length_map, List.length_append, List.length_cons, List.length_nil, List.append_nil, List.mem_singleton, List.mem_cons, List.not_mem_nil, and_true, true_and, and_self, imp_self, forall_const, false_implies, implies_true, true_implies, or_false, Bool.false_eq_true, Bool.true_eq_false, ImXs_nil, true_or, or_true, false_or, false_and, and_false]; rfl
    simp only [tl, tl2, isCallR, entX, argFr, ret, retI, retB, intT, unT, endR, ressR, resR, tupT, bslR, boxR, lenAll, ↓reduceIte, Nat.reduceEqDiff, Nat.reduceAdd, Nat.reduceMul, Nat.reduceLT, Nat.reduceLeDiff, reduceCtorEq, Int.reduceLE, Int.reduceLT, ne_eq, Int.reduceEq, not_false_eq_true, decide_true, decide_false, Int.reduceToNat, tl3, Int.reduceBNe, Int.reduceBEq, decide_eq_true_eq, decide_eq_false_iff_not]
    refine ⟨fun h5 => ?_, fun h5 => ?_⟩
    · have h6 : j < ms.length := by omega
      have h7 : j < l.length := by omega
      have h8 : ms[j] = l[j] := by
        rcases q1 with rfl | rfl
        · simp
        · rw [List.getElem_append_left (by omega)]; simp
      simp only [tl, tl2, isCallR, entX, argFr, ret, retI, retB, intT, unT, endR, ressR, resR, tupT, bslR, boxR, lenAll, ↓reduceIte, Nat.reduceEqDiff, Nat.reduceAdd, Nat.reduceMul, Nat.reduceLT, Nat.reduceLeDiff, reduceCtorEq, Int.reduceLE, Int.reduceLT, ne_eq, Int.reduceEq, not_false_eq_true, decide_true, decide_false, Int.reduceToNat, tl3, Int.reduceBNe, Int.reduceBEq, Int.toNat_natCast, getD_map h6, getD_get h6, getD_map h7, getD_get h7, h8, beq_self_eq_true]
      refine ⟨by omega, by omega, by kernel_rfl, j + 1, by omega, by omega, .of [(1, some 1), (2, some 2)] [] rfl (by rw [hst]; rfl) ?_ ?_⟩
      · simp only [ltSto, ltO2, ltO1, ltAs, ltA, ltC, ltCs, ltT, ltFr, ltS, wrOk, wrO, TL.get, hasFr, ↓reduceIte, Nat.reduceEqDiff, reduceCtorEq, Option.getD_some, Option.isSome_some, List.length_map, List.length_append, List.length_cons, List.length_nil, List.append_nil, List.mem_singleton, List.mem_cons, List.not_mem_nil, and_true, true_and, and_self, imp_self, forall_const, false_implies, implies_true, true_implies, or_false, Bool.false_eq_true, Bool.true_eq_false, ImXs_nil, true_or, or_true, false_or, false_and, and_false]
        exact ⟨ltXs_refl (imXs_map (f := fun y => vF y []) (fun _ => ⟨rfl, rfl⟩) [whole (l.take i)]), ltXs_refl (imXs_map (f := fun y => vF y []) (fun _ => ⟨rfl, rfl⟩) [whole ms])⟩
      · simp only [ltSto, ltO2, ltO1, ltAs, ltA, ltC, ltCs, ltT, ltFr, ltS, wrOk, wrO, TL.get, hasFr, ↓reduceIte, Nat.reduceEqDiff, reduceCtorEq, Option.getD_some, Option.isSome_some, List.length_map, List.length_append, List.length_cons, List.length_nil, List.append_nil, List.mem_singleton, List.mem_cons, List.not_mem_nil, and_true, true_and, and_self, imp_self, forall_const, false_implies, implies_true, true_implies, or_false, Bool.false_eq_true, Bool.true_eq_false, ImXs_nil, true_or, or_true, false_or, false_and, and_false]
        rw [IntWalk.i64_in _ (by omega)]
        rfl
    · simp only [hw1]
      rcases q1 with rfl | rfl
      · have g3 : (((l.take i).length : Int) == ((i + 1 : Nat) : Int)) = false := by rw [htl]; simp; omega
        simp only [tl, tl2, isCallR, entX, argFr, ret, retI, retB, intT, unT, endR, ressR, resR, tupT, bslR, boxR, lenAll, ↓reduceIte, Nat.reduceEqDiff, Nat.reduceAdd, Nat.reduceMul, Nat.reduceLT, Nat.reduceLeDiff, reduceCtorEq, Int.reduceLE, Int.reduceLT, ne_eq, Int.reduceEq, not_false_eq_true, decide_true, decide_false, Int.reduceToNat, tl3, Int.reduceBNe, Int.reduceBEq, g3]
        refine C1.im (c18 _ _ _ _) rfl (by rfl) ?_
        simp only [tl, tl2, isCallR, entX, argFr, ret, retI, retB, intT, unT, endR, ressR, resR, tupT, bslR, boxR, lenAll, ↓reduceIte, Nat.reduceEqDiff, Nat.reduceAdd, Nat.reduceMul, Nat.reduceLT, Nat.reduceLeDiff, reduceCtorEq, Int.reduceLE, Int.reduceLT, ne_eq, Int.reduceEq, not_false_eq_true, decide_true, decide_false, Int.reduceToNat, tl3, Int.reduceBNe, Int.reduceBEq, beq_self_eq_true]
        refine C2.im (fun _ => c8) (fun _ => rfl) rfl ?_
        simp only [tl, tl2, isCallR, entX, argFr, ret, retI, retB, intT, unT, endR, ressR, resR, tupT, bslR, boxR, lenAll, ↓reduceIte, Nat.reduceEqDiff, Nat.reduceAdd, Nat.reduceMul, Nat.reduceLT, Nat.reduceLeDiff, reduceCtorEq, Int.reduceLE, Int.reduceLT, ne_eq, Int.reduceEq, not_false_eq_true, decide_true, decide_false, Int.reduceToNat, tl3, Int.reduceBNe, Int.reduceBEq]
        exact .imR rfl rfl
      · have h6 : i < (l.take i ++ [more]).length := by simp; omega
        have g3 : (((l.take i ++ [more]).length : Int) == ((i + 1 : Nat) : Int)) = true := by simp; omega
        have g4 : (l.take i ++ [more])[i]'h6 = more := by rw [List.getElem_append_right (by omega)]; simp
        simp only [tl, tl2, isCallR, entX, argFr, ret, retI, retB, intT, unT, endR, ressR, resR, tupT, bslR, boxR, lenAll, ↓reduceIte, Nat.reduceEqDiff, Nat.reduceAdd, Nat.reduceMul, Nat.reduceLT, Nat.reduceLeDiff, reduceCtorEq, Int.reduceLE, Int.reduceLT, ne_eq, Int.reduceEq, not_false_eq_true, decide_true, decide_false, Int.reduceToNat, tl3, Int.reduceBNe, Int.reduceBEq, g3, Int.toNat_natCast, getD_map h6, getD_get h6, g4, beq_self_eq_true]
        refine ⟨fun h => ⟨by omega, ?_⟩, fun h => ?_⟩
        · refine C2.im (fun _ => c8) (fun _ => rfl) rfl ?_
          simp only [tl, tl2, isCallR, entX, argFr, ret, retI, retB, intT, unT, endR, ressR, resR, tupT, bslR, boxR, lenAll, ↓reduceIte, Nat.reduceEqDiff, Nat.reduceAdd, Nat.reduceMul, Nat.reduceLT, Nat.reduceLeDiff, reduceCtorEq, Int.reduceLE, Int.reduceLT, ne_eq, Int.reduceEq, not_false_eq_true, decide_true, decide_false, Int.reduceToNat, tl3, Int.reduceBNe, Int.reduceBEq]
          exact ⟨by kernel_rfl, .imR rfl rfl⟩
        · exfalso
          rw [htl] at h
          simp at h
end Go.Proofs

