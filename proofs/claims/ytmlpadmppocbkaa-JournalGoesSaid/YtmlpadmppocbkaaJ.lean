import Derived.Test.YtmlpadmppocbkaaI
set_option linter.unusedSimpArgs false
set_option linter.unusedVariables false
namespace Go.Proofs
open Go Go.TL
def whole (ls : List (List UInt8)) : List UInt8 := ls.flatMap frame
def small (ls : List (List UInt8)) : Prop := ∀ l ∈ ls, l.length ≤ 4096
theorem readB_whole : ∀ (ls : List (List UInt8)) (x : List UInt8), small ls → readB (whole ls ++ x) = (ls ++ (readB x).1, (whole ls).length + (readB x).2)
  | [], x, _ => by simp [whole]
  | l :: ls, x, h => by
    have h1 : whole (l :: ls) ++ x = frame l ++ (whole ls ++ x) := by simp [whole]
    rw [h1, readB_frame l _ (h l (by simp)), readB_whole ls x fun y hy => h y (by simp [hy])]
    have h2 := frame_length l
    have h3 : (whole (l :: ls)).length = (frame l).length + (whole ls).length := by simp [whole]
    simp only [List.cons_append, Prod.mk.injEq, true_and]
    omega
theorem readB_whole' (ls : List (List UInt8)) (h : small ls) : readB (whole ls) = (ls, (whole ls).length) := by
  have := readB_whole ls [] h
  rw [List.append_nil, readB_nil] at this
  simpa using this
/-- a file of whole frames is not torn -/
theorem errOf_whole (ls : List (List UInt8)) (h : small ls) (l : List UInt8) (p : Nat) (hl : l.length ≤ 4096) (hs : (whole ls).length + p + l.length + 8 ≤ 262144) : errOf (whole ls) l p = 0 := by
  unfold errOf
  rw [if_neg (by omega), readB_whole' ls h, if_neg (by simp), if_neg (by rw [frame_length]; omega)]
theorem app_whole (ls : List (List UInt8)) (h : small ls) (p l : List UInt8) (hl : l.length ≤ 4096) (hs : (whole ls).length + p.length + l.length + 8 ≤ 262144) : Spc Try.prog 11 [vF (whole ls) p, vL l] [] (.tup [vF (whole ls) (p ++ frame l), vI 0]) [] := by
  have := c11 (whole ls) p l (by omega) (by omega) (by omega)
  rwa [appS_eq, errOf_whole ls h l p.length hl hs, if_pos rfl] at this
/-- what a crash leaves of one frame -/
theorem crash_one (ls : List (List UInt8)) (h : small ls) (l : List UInt8) (hl : l.length ≤ 4096) (k : Nat) (hk : k ≤ (frame l).length) :
    ∃ ms, (ms = ls ∨ ms = ls ++ [l]) ∧ small ms ∧ (whole ls ++ (frame l).take k).take (readB (whole ls ++ (frame l).take k)).2 = whole ms ∧ (readB (whole ls ++ (frame l).take k)).1 = ms := by
  have hf := frame_length l
  rw [readB_whole ls _ h]
  by_cases hk2 : k < (frame l).length
  · refine ⟨ls, .inl rfl, h, ?_⟩
    rw [readB_short l k hl (by omega)]
    simp
  · have : readB ((frame l).take k) = ([l], (frame l).length) := by
      rw [List.take_of_length_le (by omega)]
      have := readB_frame l [] hl
      rw [List.append_nil, readB_nil] at this
      rw [this, hf]
      simp
    refine ⟨ls ++ [l], .inr rfl, fun y hy => ?_, ?_, by rw [this]⟩
    · rcases List.mem_append.1 hy with hy | hy
      · exact h y hy
      · simp at hy; subst hy; exact hl
    · rw [this, List.take_of_length_le (i := k) (by omega), List.take_of_length_le (by simp)]
      simp [whole]
theorem c7 (a b : List UInt8) (keep : Int) : Spc Try.prog 7 [vL a, vL b, vI keep] [] (vB true) [] := by
  refine spec_of_ir fn7 mixm (by simp) fun e _ hst => W_start ?_
  unfold ir7
  simp only [tl, tl2, isCallR, entX, argFr, ret, retI, retB, intT, unT, endR, ressR, resR, tupT, bslR, boxR, lenAll, ↓reduceIte, Nat.reduceEqDiff, Nat.reduceAdd, Nat.reduceMul, Nat.reduceLT, Nat.reduceLeDiff, reduceCtorEq, Int.reduceLE, Int.reduceLT, ne_eq, Int.reduceEq, not_false_eq_true, decide_true, decide_false, Int.reduceToNat, tl3, Int.reduceBNe, Int.reduceBEq, Bool.or_eq_true, Bool.or_eq_false_iff, decide_eq_true_eq, decide_eq_false_iff_not]
  refine ⟨fun h => ?_, fun h => ?_⟩
  · refine C1.im c8 rfl rfl ?_
    simp only [tl, tl2, isCallR, entX, argFr, ret, retI, retB, intT, unT, endR, ressR, resR, tupT, bslR, boxR, lenAll, ↓reduceIte, Nat.reduceEqDiff, Nat.reduceAdd, Nat.reduceMul, Nat.reduceLT, Nat.reduceLeDiff, reduceCtorEq, Int.reduceLE, Int.reduceLT, ne_eq, Int.reduceEq, not_false_eq_true, decide_true, decide_false, Int.reduceToNat, tl3, Int.reduceBNe, Int.reduceBEq]
    exact .imR rfl rfl
  have hfa := frame_length a
  have hfb := frame_length b
  have h1 : Spc Try.prog 11 [vF [] [], vL a] [] (.tup [vF [] (frame a), vI 0]) [] := app_whole [] (by simp [small]) [] a (by omega) (by simp [whole]; omega)
  refine C1.shut [] h1 ?_ (by rfl) rfl ?_
  · simp only [ltSto, ltO2, ltO1, ltAs, ltA, ltC, ltCs, ltT, ltFr, ltS, wrOk, wrO, TL.get, hasFr, ↓reduceIte, Nat.reduceEqDiff, reduceCtorEq, Option.getD_some, Option.isSome_some, List.length_map, List.length_append, List.length_cons, List.length_nil, List.append_nil, List.mem_singleton, List.mem_cons, List.not_mem_nil, and_true, true_and, and_self, imp_self, forall_const, false_implies, implies_true, true_implies, or_false, Bool.false_eq_true, Bool.true_eq_false, ImXs_nil, true_or, or_true, false_or, false_and, and_false, List.map_nil]
  simp only [tl, tl2, isCallR, entX, argFr, ret, retI, retB, intT, unT, endR, ressR, resR, tupT, bslR, boxR, lenAll, ↓reduceIte, Nat.reduceEqDiff, Nat.reduceAdd, Nat.reduceMul, Nat.reduceLT, Nat.reduceLeDiff, reduceCtorEq, Int.reduceLE, Int.reduceLT, ne_eq, Int.reduceEq, not_false_eq_true, decide_true, decide_false, Int.reduceToNat, tl3, Int.reduceBNe, Int.reduceBEq]
  have h2 := c22 [] (frame a) keep (by simp) (by omega)
  obtain ⟨k1, k2⟩ := kp_eq (frame a) keep
  refine C1.shut [] h2 ?_ (by rfl) rfl ?_
  · simp only [ltSto, ltO2, ltO1, ltAs, ltA, ltC, ltCs, ltT, ltFr, ltS, wrOk, wrO, TL.get, hasFr, ↓reduceIte, Nat.reduceEqDiff, reduceCtorEq, Option.getD_some, Option.isSome_some, List.length_map, List.length_append, List.length_cons, List.length_nil, List.append_nil, List.mem_singleton, List.mem_cons, List.not_mem_nil, and_true, true_and, and_self, imp_self, forall_const, false_implies, implies_true, true_implies, or_false, Bool.false_eq_true, Bool.true_eq_false, ImXs_nil, true_or, or_true, false_or, false_and, and_false, List.map_nil]; trivial
  obtain ⟨ms, q1, q2, q3, q4⟩ := crash_one [] (by simp [small]) a (by omega) (kp (frame a) keep) k2
  have e0 : whole [] = [] := rfl
  rw [e0, List.nil_append] at q3 q4
  have h3 := c15 ((frame a).take (kp (frame a) keep)) [] (by simp; omega) (by simp)
  simp only [recS, q3, q4] at h3
  simp only [tl, tl2, isCallR, entX, argFr, ret, retI, retB, intT, unT, endR, ressR, resR, tupT, bslR, boxR, lenAll, ↓reduceIte, Nat.reduceEqDiff, Nat.reduceAdd, Nat.reduceMul, Nat.reduceLT, Nat.reduceLeDiff, reduceCtorEq, Int.reduceLE, Int.reduceLT, ne_eq, Int.reduceEq, not_false_eq_true, decide_true, decide_false, Int.reduceToNat, tl3, Int.reduceBNe, Int.reduceBEq, crashS]
  refine C1.shut [] h3 ?_ (by rfl) rfl ?_
  · simp only [ltSto, ltO2, ltO1, ltAs, ltA, ltC, ltCs, ltT, ltFr, ltS, wrOk, wrO, TL.get, hasFr, ↓reduceIte, Nat.reduceEqDiff, reduceCtorEq, Option.getD_some, Option.isSome_some, List.length_map, List.length_append, List.length_cons, List.length_nil, List.append_nil, List.mem_singleton, List.mem_cons, List.not_mem_nil, and_true, true_and, and_self, imp_self, forall_const, false_implies, implies_true, true_implies, or_false, Bool.false_eq_true, Bool.true_eq_false, ImXs_nil, true_or, or_true, false_or, false_and, and_false]
  simp only [tl, tl2, isCallR, entX, argFr, ret, retI, retB, intT, unT, endR, ressR, resR, tupT, bslR, boxR, lenAll, ↓reduceIte, Nat.reduceEqDiff, Nat.reduceAdd, Nat.reduceMul, Nat.reduceLT, Nat.reduceLeDiff, reduceCtorEq, Int.reduceLE, Int.reduceLT, ne_eq, Int.reduceEq, not_false_eq_true, decide_true, decide_false, Int.reduceToNat, tl3, Int.reduceBNe, Int.reduceBEq]
  have hml : (whole ms).length ≤ 308 := by
    rcases q1 with rfl | rfl
    · simp [whole]
    · simp [whole]; omega
  have h4 := app_whole ms q2 [] b (by omega) (by simp; omega)
  refine C1.shut [] h4 ?_ (by rfl) rfl ?_
  · simp only [ltSto, ltO2, ltO1, ltAs, ltA, ltC, ltCs, ltT, ltFr, ltS, wrOk, wrO, TL.get, hasFr, ↓reduceIte, Nat.reduceEqDiff, reduceCtorEq, Option.getD_some, Option.isSome_some, List.length_map, List.length_append, List.length_cons, List.length_nil, List.append_nil, List.mem_singleton, List.mem_cons, List.not_mem_nil, and_true, true_and, and_self, imp_self, forall_const, false_implies, implies_true, true_implies, or_false, Bool.false_eq_true, Bool.true_eq_false, ImXs_nil, true_or, or_true, false_or, false_and, and_false]
  simp only [tl, tl2, isCallR, entX, argFr, ret, retI, retB, intT, unT, endR, ressR, resR, tupT, bslR, boxR, lenAll, ↓reduceIte, Nat.reduceEqDiff, Nat.reduceAdd, Nat.reduceMul, Nat.reduceLT, Nat.reduceLeDiff, reduceCtorEq, Int.reduceLE, Int.reduceLT, ne_eq, Int.reduceEq, not_false_eq_true, decide_true, decide_false, Int.reduceToNat, tl3, Int.reduceBNe, Int.reduceBEq]
  have h5 := c20 (whole ms) (frame b) (by omega) (by omega)
  refine C1.shut [] h5 ?_ (by rfl) rfl ?_
  · simp only [ltSto, ltO2, ltO1, ltAs, ltA, ltC, ltCs, ltT, ltFr, ltS, wrOk, wrO, TL.get, hasFr, ↓reduceIte, Nat.reduceEqDiff, reduceCtorEq, Option.getD_some, Option.isSome_some, List.length_map, List.length_append, List.length_cons, List.length_nil, List.append_nil, List.mem_singleton, List.mem_cons, List.not_mem_nil, and_true, true_and, and_self, imp_self, forall_const, false_implies, implies_true, true_implies, or_false, Bool.false_eq_true, Bool.true_eq_false, ImXs_nil, true_or, or_true, false_or, false_and, and_false]
  have hk : kp (frame b) (frame b).length = (frame b).length := by
    have := (kp_eq (frame b) (frame b).length).2
    unfold kp minI maxI
    split <;> split <;> omega
  have hwb : whole ms ++ (frame b).take (kp (frame b) (frame b).length) = whole (ms ++ [b]) := by
    rw [hk, List.take_of_length_le (by omega)]
    simp [whole]
  have hsb : small (ms ++ [b]) := fun y hy => by
    rcases List.mem_append.1 hy with hy | hy
    · exact q2 y hy
    · simp at hy; subst hy; omega
  have h6 := c15 (whole (ms ++ [b])) [] (by rw [← hwb]; simp; omega) (by simp)
  simp only [recS, readB_whole' _ hsb] at h6
  have hml2 : ms.length ≤ 1 := by rcases q1 with rfl | rfl <;> simp
  have hL : (ms ++ [b]).length = ms.length + 1 := by simp
  have hw1 : IntKind.i64.wrap ((ms.length : Int) + 1) = ((ms.length + 1 : Nat) : Int) := by rw [IntWalk.i64_in _ (by omega)]; omega
  have hw2 : IntKind.i64.wrap (((ms.length + 1 : Nat) : Int) - 1) = (ms.length : Int) := by rw [IntWalk.i64_in _ (by omega)]; omega
  have hg : ((ms ++ [b]).map vL).getD ms.length .junk = vL b := by simp [List.getD]
  generalize hLL : ms ++ [b] = L at *
  simp only [tl, tl2, isCallR, entX, argFr, ret, retI, retB, intT, unT, endR, ressR, resR, tupT, bslR, boxR, lenAll, ↓reduceIte, Nat.reduceEqDiff, Nat.reduceAdd, Nat.reduceMul, Nat.reduceLT, Nat.reduceLeDiff, reduceCtorEq, Int.reduceLE, Int.reduceLT, ne_eq, Int.reduceEq, not_false_eq_true, decide_true, decide_false, Int.reduceToNat, tl3, Int.reduceBNe, Int.reduceBEq, crashS, hwb]
  refine C1.shut [] h6 ?_ (by rfl) rfl ?_
  · simp only [ltSto, ltO2, ltO1, ltAs, ltA, ltC, ltCs, ltT, ltFr, ltS, wrOk, wrO, TL.get, hasFr, ↓reduceIte, Nat.reduceEqDiff, reduceCtorEq, Option.getD_some, Option.isSome_some, List.length_map, List.length_append, List.length_cons, List.length_nil, List.append_nil, List.mem_singleton, List.mem_cons, List.not_mem_nil, and_true, true_and, and_self, imp_self, forall_const, false_implies, implies_true, true_implies, or_false, Bool.false_eq_true, Bool.true_eq_false, ImXs_nil, true_or, or_true, false_or, false_and, and_false]
  simp only [tl, tl2, isCallR, entX, argFr, ret, retI, retB, intT, unT, endR, ressR, resR, tupT, bslR, boxR, lenAll, ↓reduceIte, Nat.reduceEqDiff, Nat.reduceAdd, Nat.reduceMul, Nat.reduceLT, Nat.reduceLeDiff, reduceCtorEq, Int.reduceLE, Int.reduceLT, ne_eq, Int.reduceEq, not_false_eq_true, decide_true, decide_false, Int.reduceToNat, tl3, Int.reduceBNe, Int.reduceBEq, hL, hw1, hw2, hg, Int.toNat_natCast, beq_self_eq_true]
  refine ⟨by omega, ?_⟩
  refine C2.im (fun _ => c8) (fun _ => rfl) rfl ?_
  simp only [tl, tl2, isCallR, entX, argFr, ret, retI, retB, intT, unT, endR, ressR, resR, tupT, bslR, boxR, lenAll, ↓reduceIte, Nat.reduceEqDiff, Nat.reduceAdd, Nat.reduceMul, Nat.reduceLT, Nat.reduceLeDiff, reduceCtorEq, Int.reduceLE, Int.reduceLT, ne_eq, Int.reduceEq, not_false_eq_true, decide_true, decide_false, Int.reduceToNat, tl3, Int.reduceBNe, Int.reduceBEq]
  exact ⟨by kernel_rfl, .imR rfl rfl⟩
end Go.Proofs

