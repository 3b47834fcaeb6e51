import Derived.Test.YtnejebkdlofdoaaL35
set_option linter.unusedSimpArgs false
set_option linter.unusedVariables false
namespace Go.Proofs
open Go Go.TL
/-! ltSto, ltO2, ltO1, ltAs, ltA, ltC, ltC0, ltC0s, ltCs, ltT, ltFr, ltS, wrOk, wrO, TL.get, hasFr, ↓reduceIte, Nat.reduceEqDiff, reduceCtorEq, Option.getD_some, Option.isSome_some, List.length_map, List.length_append, List.length_cons, List.length_nil, List.append_nil, List.mem_singleton, List.mem_cons, List.not_mem_nil, and_true, true_and, and_self, imp_self, forall_const, false_implies, implies_true, true_implies, or_false, Bool.false_eq_true, Bool.true_eq_false, ImXs_nil, true_or, or_true, false_or, false_and, and_false, rmK, rm1# an output is put -/
theorem c_queue_copied (a p : List UInt8) (ha : a.length ≤ 1048576) (hp : p.length ≤ 1048576) : Spc Try.prog F_queue_copied [vF a p] [] (vF a p) [] := by
  refine spec_of_ir fn_queue_copied mixm (by simp) fun e _ hst => W_start ?_
  unfold ir_queue_copied
  simp only [tl, tl2, tl4, ↓un_u, isCallR, entX, argFr, ret, retI, retB, intT, unT, endR, ressR, resR, tupT, bslR, boxR, lenAll, ↓reduceIte, Nat.reduceEqDiff, Nat.reduceAdd, Nat.reduceMul, Nat.reduceLT, Nat.reduceLeDiff, reduceCtorEq, Int.reduceLE, Int.reduceLT, ne_eq, Int.reduceEq, not_false_eq_true, decide_true, decide_false, Int.reduceToNat, tl3, Int.reduceBNe, Int.reduceBEq, rmK, rm1, not_true_eq_false]
  refine C1.im (c27p a ha) rfl rfl ?_
  simp only [tl, tl2, tl4, ↓un_u, isCallR, entX, argFr, ret, retI, retB, intT, unT, endR, ressR, resR, tupT, bslR, boxR, lenAll, ↓reduceIte, Nat.reduceEqDiff, Nat.reduceAdd, Nat.reduceMul, Nat.reduceLT, Nat.reduceLeDiff, reduceCtorEq, Int.reduceLE, Int.reduceLT, ne_eq, Int.reduceEq, not_false_eq_true, decide_true, decide_false, Int.reduceToNat, tl3, Int.reduceBNe, Int.reduceBEq, rmK, rm1, not_true_eq_false]
  refine C1.im (c27p p hp) rfl rfl ?_
  simp only [tl, tl2, tl4, ↓un_u, isCallR, entX, argFr, ret, retI, retB, intT, unT, endR, ressR, resR, tupT, bslR, boxR, lenAll, ↓reduceIte, Nat.reduceEqDiff, Nat.reduceAdd, Nat.reduceMul, Nat.reduceLT, Nat.reduceLeDiff, reduceCtorEq, Int.reduceLE, Int.reduceLT, ne_eq, Int.reduceEq, not_false_eq_true, decide_true, decide_false, Int.reduceToNat, tl3, Int.reduceBNe, Int.reduceBEq, rmK, rm1, not_true_eq_false]
  exact ⟨by kernel_rfl, .imR rfl rfl⟩
theorem crash_all (a p : List UInt8) : crashS a p p.length = vF (a ++ p) [] := by
  unfold crashS
  have : kp p p.length = p.length := by unfold kp minI maxI; split <;> split <;> omega
  rw [this, List.take_length]
def putE (a p : List UInt8) (x : Out) : Int :=
  if validO x = false then 11 else if errOf a (encB x) p.length ≠ 0 then errOf a (encB x) p.length
  else if (outsL (readB a).1 []).1 ≠ 0 then (outsL (readB a).1 []).1 else if x.num > ((outsL (readB a).1 []).2.length : Int) + 1 then 48 else 0
def putS (a p : List UInt8) (x : Out) : T := .tup [if putE a p x = 0 then vF (a ++ (p ++ frame (encB x))) [] else vF a p, vI (putE a p x)]
theorem encB_length {x : Out} (h : validO x = true) : (encB x).length ≤ 3000 := by
  have := encI_length h (i := x.sigs.length) (Nat.le_refl _)
  have he : encI x x.sigs.length = encB x := by simp [encI, encB]
  rwa [he] at this
theorem outsL_length : ∀ (ls : List (List UInt8)) (l : List Out), (outsL ls l).2.length ≤ ls.length + l.length
  | [], l => by simp [outsL]
  | b :: bs, l => by
    unfold outsL
    cases decP b with
    | none => simp
    | some x =>
      dsimp only
      split
      · simp
      · split
        · have := outsL_length bs (l ++ [x]); simp at this ⊢; omega
        · have := outsL_length bs (l.set (x.num - 1).toNat x); simp at this ⊢; omega
theorem c_queue_Put (a p : List UInt8) (x : Out) (hl : x.sigs.length < 4611686018427387904) (ha : a.length ≤ 600000) (hp : p.length ≤ 300000) : Spc Try.prog F_queue_Put [vF a p, outT x] [] (putS a p x) [] := by
  have he := c_queue_Encode x hl
  have hc := c_queue_copied a p (by omega) (by omega)
  unfold encT at he
  refine spec_of_ir fn_queue_Put mixm (by simp) fun e _ hst => W_start ?_
  unfold ir_queue_Put
  simp only [tl, tl2, tl4, ↓un_u, isCallR, entX, argFr, ret, retI, retB, intT, unT, endR, ressR, resR, tupT, bslR, boxR, lenAll, ↓reduceIte, Nat.reduceEqDiff, Nat.reduceAdd, Nat.reduceMul, Nat.reduceLT, Nat.reduceLeDiff, reduceCtorEq, Int.reduceLE, Int.reduceLT, ne_eq, Int.reduceEq, not_false_eq_true, decide_true, decide_false, Int.reduceToNat, tl3, Int.reduceBNe, Int.reduceBEq, rmK, rm1, not_true_eq_false]
  cases hv : validO x with
  | false =>
    have hpe : putE a p x = 11 := by rw [putE, if_pos hv]
    rw [putS, hpe]
    rw [hv] at he
    refine C1.im he (by rfl) (by rfl) ?_
    simp only [tl, tl2, tl4, ↓un_u, isCallR, entX, argFr, ret, retI, retB, intT, unT, endR, ressR, resR, tupT, bslR, boxR, lenAll, ↓reduceIte, Nat.reduceEqDiff, Nat.reduceAdd, Nat.reduceMul, Nat.reduceLT, Nat.reduceLeDiff, reduceCtorEq, Int.reduceLE, Int.reduceLT, ne_eq, Int.reduceEq, not_false_eq_true, decide_true, decide_false, Int.reduceToNat, tl3, Int.reduceBNe, Int.reduceBEq, rmK, rm1, not_true_eq_false]
    refine C1.im hc (by rfl) (by rfl) ?_
    simp only [tl, tl2, tl4, ↓un_u, isCallR, entX, argFr, ret, retI, retB, intT, unT, endR, ressR, resR, tupT, bslR, boxR, lenAll, ↓reduceIte, Nat.reduceEqDiff, Nat.reduceAdd, Nat.reduceMul, Nat.reduceLT, Nat.reduceLeDiff, reduceCtorEq, Int.reduceLE, Int.reduceLT, ne_eq, Int.reduceEq, not_false_eq_true, decide_true, decide_false, Int.reduceToNat, tl3, Int.reduceBNe, Int.reduceBEq, rmK, rm1, not_true_eq_false]
    refine .of [] [] rfl (by first | rfl | (rw [hst]; rfl)) ?_ ?_
    all_goals (try exact clA)
  | true =>
    rw [hv] at he
    have hvf : ¬ validO x = false := by rw [hv]; simp
    have hel := encB_length hv
    have hap := c_journal_Append a p (encB x) ha hp (by omega)
    have hld := c_queue_Load a p (by omega) (by omega)
    have hsy := c_journal_Sync a (p ++ frame (encB x)) (by omega) (by rw [List.length_append, frame_length]; omega)
    have hfl : (p ++ frame (encB x)).length = p.length + ((encB x).length + 8) := by rw [List.length_append, frame_length]
    rw [crash_all] at hsy
    have hoe := outsL_err (readB a).1 []
    have hol := outsL_length (readB a).1 []
    have hrs := (readB_small a).2
    rw [appS_eq] at hap
    unfold loadT at hld
    refine C1.im he (by rfl) (by rfl) ?_
    simp only [tl, tl2, tl4, ↓un_u, isCallR, entX, argFr, ret, retI, retB, intT, unT, endR, ressR, resR, tupT, bslR, boxR, lenAll, ↓reduceIte, Nat.reduceEqDiff, Nat.reduceAdd, Nat.reduceMul, Nat.reduceLT, Nat.reduceLeDiff, reduceCtorEq, Int.reduceLE, Int.reduceLT, ne_eq, Int.reduceEq, not_false_eq_true, decide_true, decide_false, Int.reduceToNat, tl3, Int.reduceBNe, Int.reduceBEq, rmK, rm1, not_true_eq_false]
    by_cases h0 : errOf a (encB x) p.length = 0
    · rw [if_pos h0, h0] at hap
      refine C1.im hap (by rfl) (by rfl) ?_
      simp only [tl, tl2, tl4, ↓un_u, isCallR, entX, argFr, ret, retI, retB, intT, unT, endR, ressR, resR, tupT, bslR, boxR, lenAll, ↓reduceIte, Nat.reduceEqDiff, Nat.reduceAdd, Nat.reduceMul, Nat.reduceLT, Nat.reduceLeDiff, reduceCtorEq, Int.reduceLE, Int.reduceLT, ne_eq, Int.reduceEq, not_false_eq_true, decide_true, decide_false, Int.reduceToNat, tl3, Int.reduceBNe, Int.reduceBEq, rmK, rm1, not_true_eq_false]
      by_cases h1 : (outsL (readB a).1 []).1 = 0
      · rw [if_pos h1] at hld
        refine C1.im hld (by rfl) (by rfl) ?_
        have hwl := i64_succ (i := (outsL (readB a).1 []).2.length) (by simp at hol; omega)
        simp only [tl, tl2, tl4, ↓un_u, isCallR, entX, argFr, ret, retI, retB, intT, unT, endR, ressR, resR, tupT, bslR, boxR, lenAll, ↓reduceIte, Nat.reduceEqDiff, Nat.reduceAdd, Nat.reduceMul, Nat.reduceLT, Nat.reduceLeDiff, reduceCtorEq, Int.reduceLE, Int.reduceLT, ne_eq, Int.reduceEq, not_false_eq_true, decide_true, decide_false, Int.reduceToNat, tl3, Int.reduceBNe, Int.reduceBEq, rmK, rm1, not_true_eq_false, decide_eq_true_eq, decide_eq_false_iff_not, Bool.or_eq_true, Bool.or_eq_false_iff, Bool.and_eq_true, Bool.and_eq_false_iff, hwl]
        refine ⟨fun h2 => ?_, fun h2 => ?_⟩
        · have hpe : putE a p x = 48 := by rw [putE, if_neg hvf, if_neg (by omega), if_neg (by omega), if_pos (by omega)]
          rw [putS, hpe]
          refine C1.im hc (by rfl) (by rfl) ?_
          simp only [tl, tl2, tl4, ↓un_u, isCallR, entX, argFr, ret, retI, retB, intT, unT, endR, ressR, resR, tupT, bslR, boxR, lenAll, ↓reduceIte, Nat.reduceEqDiff, Nat.reduceAdd, Nat.reduceMul, Nat.reduceLT, Nat.reduceLeDiff, reduceCtorEq, Int.reduceLE, Int.reduceLT, ne_eq, Int.reduceEq, not_false_eq_true, decide_true, decide_false, Int.reduceToNat, tl3, Int.reduceBNe, Int.reduceBEq, rmK, rm1, not_true_eq_false]
          refine .of [] [] rfl (by first | rfl | (rw [hst]; rfl)) ?_ ?_
          all_goals (try exact clA)
        · have hpe : putE a p x = 0 := by rw [putE, if_neg hvf, if_neg (by omega), if_neg (by omega), if_neg (by omega)]
          rw [putS, hpe]
          refine C1.im hsy (by rfl) (by rfl) ?_
          simp only [tl, tl2, tl4, ↓un_u, isCallR, entX, argFr, ret, retI, retB, intT, unT, endR, ressR, resR, tupT, bslR, boxR, lenAll, ↓reduceIte, Nat.reduceEqDiff, Nat.reduceAdd, Nat.reduceMul, Nat.reduceLT, Nat.reduceLeDiff, reduceCtorEq, Int.reduceLE, Int.reduceLT, ne_eq, Int.reduceEq, not_false_eq_true, decide_true, decide_false, Int.reduceToNat, tl3, Int.reduceBNe, Int.reduceBEq, rmK, rm1, not_true_eq_false]
          refine .of [] [] rfl (by first | rfl | (rw [hst]; rfl)) ?_ ?_
          all_goals (try simp only [ltSto, ltO2, ltO1, ltAs, ltA, ltC, ltC0, ltC0s, ltCs, ltT, ltFr, ltS, wrOk, wrO, TL.get, hasFr, ↓reduceIte, Nat.reduceEqDiff, reduceCtorEq, Option.getD_some, Option.isSome_some, List.length_map, List.length_append, List.length_cons, List.length_nil, List.append_nil, List.mem_singleton, List.mem_cons, List.not_mem_nil, and_true, true_and, and_self, imp_self, forall_const, false_implies, implies_true, true_implies, or_false, Bool.false_eq_true, Bool.true_eq_false, ImXs_nil, true_or, or_true, false_or, false_and, and_false, rmK, rm1, List.map_append, List.map_cons, List.map_nil, List.cons_append, List.nil_append])
          all_goals (try (repeat' (first | exact ltXs_nil | (apply ltXs_map; intro _; exact ⟨rfl, rfl⟩) | (apply imXs_map; intro _; exact ⟨rfl, rfl⟩) | with_reducible apply imXs_append | with_reducible refine imXs_cons ⟨rfl, rfl⟩ ?_ | exact imXs_nil | with_reducible apply ltXs_append | with_reducible refine ltXs_cons ⟨rfl, rfl, ?_⟩ ?_ | with_reducible apply And.intro | exact ltCs_im rfl | exact ltCs_im (by assumption) | (refine ⟨⟨?_, rfl, ?_, rfl, ?_⟩, trivial⟩ <;> first | (simp; done) | (apply imXs_map; intro _; exact ⟨rfl, rfl⟩)) | trivial | rfl | (rw [i64_succ (by omega)]) | omega)))
          all_goals simp only [vL, List.map_append]
      · rw [if_neg h1] at hld
        have hpe : putE a p x = (outsL (readB a).1 []).1 := by rw [putE, if_neg hvf, if_neg (by omega), if_pos h1]
        rw [putS, hpe, if_neg h1]
        refine C1.im hld (by rfl) (by rfl) ?_
        have hb : ((outsL (readB a).1 []).1 != 0) = true := by rw [bne_iff_ne]; exact h1
        simp only [tl, tl2, tl4, ↓un_u, isCallR, entX, argFr, ret, retI, retB, intT, unT, endR, ressR, resR, tupT, bslR, boxR, lenAll, ↓reduceIte, Nat.reduceEqDiff, Nat.reduceAdd, Nat.reduceMul, Nat.reduceLT, Nat.reduceLeDiff, reduceCtorEq, Int.reduceLE, Int.reduceLT, ne_eq, Int.reduceEq, not_false_eq_true, decide_true, decide_false, Int.reduceToNat, tl3, Int.reduceBNe, Int.reduceBEq, rmK, rm1, not_true_eq_false, hb]
        refine C1.im hc (by rfl) (by rfl) ?_
        simp only [tl, tl2, tl4, ↓un_u, isCallR, entX, argFr, ret, retI, retB, intT, unT, endR, ressR, resR, tupT, bslR, boxR, lenAll, ↓reduceIte, Nat.reduceEqDiff, Nat.reduceAdd, Nat.reduceMul, Nat.reduceLT, Nat.reduceLeDiff, reduceCtorEq, Int.reduceLE, Int.reduceLT, ne_eq, Int.reduceEq, not_false_eq_true, decide_true, decide_false, Int.reduceToNat, tl3, Int.reduceBNe, Int.reduceBEq, rmK, rm1, not_true_eq_false]
        refine .of [] [] rfl (by first | rfl | (rw [hst]; rfl)) ?_ ?_
        all_goals (try exact clA)
    · have hpe : putE a p x = errOf a (encB x) p.length := by rw [putE, if_neg hvf, if_pos h0]
      rw [putS, hpe, if_neg h0]
      rw [if_neg h0] at hap
      refine C1.im hap (by rfl) (by rfl) ?_
      have hb : (errOf a (encB x) p.length != 0) = true := by rw [bne_iff_ne]; exact h0
      simp only [tl, tl2, tl4, ↓un_u, isCallR, entX, argFr, ret, retI, retB, intT, unT, endR, ressR, resR, tupT, bslR, boxR, lenAll, ↓reduceIte, Nat.reduceEqDiff, Nat.reduceAdd, Nat.reduceMul, Nat.reduceLT, Nat.reduceLeDiff, reduceCtorEq, Int.reduceLE, Int.reduceLT, ne_eq, Int.reduceEq, not_false_eq_true, decide_true, decide_false, Int.reduceToNat, tl3, Int.reduceBNe, Int.reduceBEq, rmK, rm1, not_true_eq_false, hb]
      refine C1.im hc (by rfl) (by rfl) ?_
      simp only [tl, tl2, tl4, ↓un_u, isCallR, entX, argFr, ret, retI, retB, intT, unT, endR, ressR, resR, tupT, bslR, boxR, lenAll, ↓reduceIte, Nat.reduceEqDiff, Nat.reduceAdd, Nat.reduceMul, Nat.reduceLT, Nat.reduceLeDiff, reduceCtorEq, Int.reduceLE, Int.reduceLT, ne_eq, Int.reduceEq, not_false_eq_true, decide_true, decide_false, Int.reduceToNat, tl3, Int.reduceBNe, Int.reduceBEq, rmK, rm1, not_true_eq_false]
      refine .of [] [] rfl (by first | rfl | (rw [hst]; rfl)) ?_ ?_
      all_goals (try exact clA)
theorem c_ref35_Put (a p : List UInt8) (x : Out) (hl : x.sigs.length < 4611686018427387904) (ha : a.length ≤ 600000) (hp : p.length ≤ 300000) : Spc Try.prog F_ref35_Put [vF a p, outT x] [] (putS a p x) [] := by
  have he := c_ref35_Encode x hl
  have hc := c_ref23_Copy a p (by omega) (by omega)
  unfold encT at he
  refine spec_of_ir fn_ref35_Put mixm (by simp) fun e _ hst => W_start ?_
  unfold ir_ref35_Put
  simp only [tl, tl2, tl4, ↓un_u, isCallR, entX, argFr, ret, retI, retB, intT, unT, endR, ressR, resR, tupT, bslR, boxR, lenAll, ↓reduceIte, Nat.reduceEqDiff, Nat.reduceAdd, Nat.reduceMul, Nat.reduceLT, Nat.reduceLeDiff, reduceCtorEq, Int.reduceLE, Int.reduceLT, ne_eq, Int.reduceEq, not_false_eq_true, decide_true, decide_false, Int.reduceToNat, tl3, Int.reduceBNe, Int.reduceBEq, rmK, rm1, not_true_eq_false]
  cases hv : validO x with
  | false =>
    have hpe : putE a p x = 11 := by rw [putE, if_pos hv]
    rw [putS, hpe]
    rw [hv] at he
    refine C1.im he (by rfl) (by rfl) ?_
    simp only [tl, tl2, tl4, ↓un_u, isCallR, entX, argFr, ret, retI, retB, intT, unT, endR, ressR, resR, tupT, bslR, boxR, lenAll, ↓reduceIte, Nat.reduceEqDiff, Nat.reduceAdd, Nat.reduceMul, Nat.reduceLT, Nat.reduceLeDiff, reduceCtorEq, Int.reduceLE, Int.reduceLT, ne_eq, Int.reduceEq, not_false_eq_true, decide_true, decide_false, Int.reduceToNat, tl3, Int.reduceBNe, Int.reduceBEq, rmK, rm1, not_true_eq_false]
    refine C1.im hc (by rfl) (by rfl) ?_
    simp only [tl, tl2, tl4, ↓un_u, isCallR, entX, argFr, ret, retI, retB, intT, unT, endR, ressR, resR, tupT, bslR, boxR, lenAll, ↓reduceIte, Nat.reduceEqDiff, Nat.reduceAdd, Nat.reduceMul, Nat.reduceLT, Nat.reduceLeDiff, reduceCtorEq, Int.reduceLE, Int.reduceLT, ne_eq, Int.reduceEq, not_false_eq_true, decide_true, decide_false, Int.reduceToNat, tl3, Int.reduceBNe, Int.reduceBEq, rmK, rm1, not_true_eq_false]
    refine .of [] [] rfl (by first | rfl | (rw [hst]; rfl)) ?_ ?_
    all_goals (try exact clA)
  | true =>
    rw [hv] at he
    have hvf : ¬ validO x = false := by rw [hv]; simp
    have hel := encB_length hv
    have hap := c_ref23_Append a p (encB x) ha hp (by omega)
    have hld := c_ref35_Load a p (by omega) (by omega)
    have hsy := c_ref23_Sync a (p ++ frame (encB x)) (by omega) (by rw [List.length_append, frame_length]; omega)
    have hfl : (p ++ frame (encB x)).length = p.length + ((encB x).length + 8) := by rw [List.length_append, frame_length]
    rw [crash_all] at hsy
    have hoe := outsL_err (readB a).1 []
    have hol := outsL_length (readB a).1 []
    have hrs := (readB_small a).2
    rw [appS_eq] at hap
    unfold loadT at hld
    refine C1.im he (by rfl) (by rfl) ?_
    simp only [tl, tl2, tl4, ↓un_u, isCallR, entX, argFr, ret, retI, retB, intT, unT, endR, ressR, resR, tupT, bslR, boxR, lenAll, ↓reduceIte, Nat.reduceEqDiff, Nat.reduceAdd, Nat.reduceMul, Nat.reduceLT, Nat.reduceLeDiff, reduceCtorEq, Int.reduceLE, Int.reduceLT, ne_eq, Int.reduceEq, not_false_eq_true, decide_true, decide_false, Int.reduceToNat, tl3, Int.reduceBNe, Int.reduceBEq, rmK, rm1, not_true_eq_false]
    by_cases h0 : errOf a (encB x) p.length = 0
    · rw [if_pos h0, h0] at hap
      refine C1.im hap (by rfl) (by rfl) ?_
      simp only [tl, tl2, tl4, ↓un_u, isCallR, entX, argFr, ret, retI, retB, intT, unT, endR, ressR, resR, tupT, bslR, boxR, lenAll, ↓reduceIte, Nat.reduceEqDiff, Nat.reduceAdd, Nat.reduceMul, Nat.reduceLT, Nat.reduceLeDiff, reduceCtorEq, Int.reduceLE, Int.reduceLT, ne_eq, Int.reduceEq, not_false_eq_true, decide_true, decide_false, Int.reduceToNat, tl3, Int.reduceBNe, Int.reduceBEq, rmK, rm1, not_true_eq_false]
      by_cases h1 : (outsL (readB a).1 []).1 = 0
      · rw [if_pos h1] at hld
        refine C1.im hld (by rfl) (by rfl) ?_
        have hwl := i64_succ (i := (outsL (readB a).1 []).2.length) (by simp at hol; omega)
        simp only [tl, tl2, tl4, ↓un_u, isCallR, entX, argFr, ret, retI, retB, intT, unT, endR, ressR, resR, tupT, bslR, boxR, lenAll, ↓reduceIte, Nat.reduceEqDiff, Nat.reduceAdd, Nat.reduceMul, Nat.reduceLT, Nat.reduceLeDiff, reduceCtorEq, Int.reduceLE, Int.reduceLT, ne_eq, Int.reduceEq, not_false_eq_true, decide_true, decide_false, Int.reduceToNat, tl3, Int.reduceBNe, Int.reduceBEq, rmK, rm1, not_true_eq_false, decide_eq_true_eq, decide_eq_false_iff_not, Bool.or_eq_true, Bool.or_eq_false_iff, Bool.and_eq_true, Bool.and_eq_false_iff, hwl]
        refine ⟨fun h2 => ?_, fun h2 => ?_⟩
        · have hpe : putE a p x = 48 := by rw [putE, if_neg hvf, if_neg (by omega), if_neg (by omega), if_pos (by omega)]
          rw [putS, hpe]
          refine C1.im hc (by rfl) (by rfl) ?_
          simp only [tl, tl2, tl4, ↓un_u, isCallR, entX, argFr, ret, retI, retB, intT, unT, endR, ressR, resR, tupT, bslR, boxR, lenAll, ↓reduceIte, Nat.reduceEqDiff, Nat.reduceAdd, Nat.reduceMul, Nat.reduceLT, Nat.reduceLeDiff, reduceCtorEq, Int.reduceLE, Int.reduceLT, ne_eq, Int.reduceEq, not_false_eq_true, decide_true, decide_false, Int.reduceToNat, tl3, Int.reduceBNe, Int.reduceBEq, rmK, rm1, not_true_eq_false]
          refine .of [] [] rfl (by first | rfl | (rw [hst]; rfl)) ?_ ?_
          all_goals (try exact clA)
        · have hpe : putE a p x = 0 := by rw [putE, if_neg hvf, if_neg (by omega), if_neg (by omega), if_neg (by omega)]
          rw [putS, hpe]
          refine C1.im hsy (by rfl) (by rfl) ?_
          simp only [tl, tl2, tl4, ↓un_u, isCallR, entX, argFr, ret, retI, retB, intT, unT, endR, ressR, resR, tupT, bslR, boxR, lenAll, ↓reduceIte, Nat.reduceEqDiff, Nat.reduceAdd, Nat.reduceMul, Nat.reduceLT, Nat.reduceLeDiff, reduceCtorEq, Int.reduceLE, Int.reduceLT, ne_eq, Int.reduceEq, not_false_eq_true, decide_true, decide_false, Int.reduceToNat, tl3, Int.reduceBNe, Int.reduceBEq, rmK, rm1, not_true_eq_false]
          refine .of [] [] rfl (by first | rfl | (rw [hst]; rfl)) ?_ ?_
          all_goals (try simp only [ltSto, ltO2, ltO1, ltAs, ltA, ltC, ltC0, ltC0s, ltCs, ltT, ltFr, ltS, wrOk, wrO, TL.get, hasFr, ↓reduceIte, Nat.reduceEqDiff, reduceCtorEq, Option.getD_some, Option.isSome_some, List.length_map, List.length_append, List.length_cons, List.length_nil, List.append_nil, List.mem_singleton, List.mem_cons, List.not_mem_nil, and_true, true_and, and_self, imp_self, forall_const, false_implies, implies_true, true_implies, or_false, Bool.false_eq_true, Bool.true_eq_false, ImXs_nil, true_or, or_true, false_or, false_and, and_false, rmK, rm1, List.map_append, List.map_cons, List.map_nil, List.cons_append, List.nil_append])
          all_goals (try (repeat' (first | exact ltXs_nil | (apply ltXs_map; intro _; exact ⟨rfl, rfl⟩) | (apply imXs_map; intro _; exact ⟨rfl, rfl⟩) | with_reducible apply imXs_append | with_reducible refine imXs_cons ⟨rfl, rfl⟩ ?_ | exact imXs_nil | with_reducible apply ltXs_append | with_reducible refine ltXs_cons ⟨rfl, rfl, ?_⟩ ?_ | with_reducible apply And.intro | exact ltCs_im rfl | exact ltCs_im (by assumption) | (refine ⟨⟨?_, rfl, ?_, rfl, ?_⟩, trivial⟩ <;> first | (simp; done) | (apply imXs_map; intro _; exact ⟨rfl, rfl⟩)) | trivial | rfl | (rw [i64_succ (by omega)]) | omega)))
          all_goals simp only [vL, List.map_append]
      · rw [if_neg h1] at hld
        have hpe : putE a p x = (outsL (readB a).1 []).1 := by rw [putE, if_neg hvf, if_neg (by omega), if_pos h1]
        rw [putS, hpe, if_neg h1]
        refine C1.im hld (by rfl) (by rfl) ?_
        have hb : ((outsL (readB a).1 []).1 != 0) = true := by rw [bne_iff_ne]; exact h1
        simp only [tl, tl2, tl4, ↓un_u, isCallR, entX, argFr, ret, retI, retB, intT, unT, endR, ressR, resR, tupT, bslR, boxR, lenAll, ↓reduceIte, Nat.reduceEqDiff, Nat.reduceAdd, Nat.reduceMul, Nat.reduceLT, Nat.reduceLeDiff, reduceCtorEq, Int.reduceLE, Int.reduceLT, ne_eq, Int.reduceEq, not_false_eq_true, decide_true, decide_false, Int.reduceToNat, tl3, Int.reduceBNe, Int.reduceBEq, rmK, rm1, not_true_eq_false, hb]
        refine C1.im hc (by rfl) (by rfl) ?_
        simp only [tl, tl2, tl4, ↓un_u, isCallR, entX, argFr, ret, retI, retB, intT, unT, endR, ressR, resR, tupT, bslR, boxR, lenAll, ↓reduceIte, Nat.reduceEqDiff, Nat.reduceAdd, Nat.reduceMul, Nat.reduceLT, Nat.reduceLeDiff, reduceCtorEq, Int.reduceLE, Int.reduceLT, ne_eq, Int.reduceEq, not_false_eq_true, decide_true, decide_false, Int.reduceToNat, tl3, Int.reduceBNe, Int.reduceBEq, rmK, rm1, not_true_eq_false]
        refine .of [] [] rfl (by first | rfl | (rw [hst]; rfl)) ?_ ?_
        all_goals (try exact clA)
    · have hpe : putE a p x = errOf a (encB x) p.length := by rw [putE, if_neg hvf, if_pos h0]
      rw [putS, hpe, if_neg h0]
      rw [if_neg h0] at hap
      refine C1.im hap (by rfl) (by rfl) ?_
      have hb : (errOf a (encB x) p.length != 0) = true := by rw [bne_iff_ne]; exact h0
      simp only [tl, tl2, tl4, ↓un_u, isCallR, entX, argFr, ret, retI, retB, intT, unT, endR, ressR, resR, tupT, bslR, boxR, lenAll, ↓reduceIte, Nat.reduceEqDiff, Nat.reduceAdd, Nat.reduceMul, Nat.reduceLT, Nat.reduceLeDiff, reduceCtorEq, Int.reduceLE, Int.reduceLT, ne_eq, Int.reduceEq, not_false_eq_true, decide_true, decide_false, Int.reduceToNat, tl3, Int.reduceBNe, Int.reduceBEq, rmK, rm1, not_true_eq_false, hb]
      refine C1.im hc (by rfl) (by rfl) ?_
      simp only [tl, tl2, tl4, ↓un_u, isCallR, entX, argFr, ret, retI, retB, intT, unT, endR, ressR, resR, tupT, bslR, boxR, lenAll, ↓reduceIte, Nat.reduceEqDiff, Nat.reduceAdd, Nat.reduceMul, Nat.reduceLT, Nat.reduceLeDiff, reduceCtorEq, Int.reduceLE, Int.reduceLT, ne_eq, Int.reduceEq, not_false_eq_true, decide_true, decide_false, Int.reduceToNat, tl3, Int.reduceBNe, Int.reduceBEq, rmK, rm1, not_true_eq_false]
      refine .of [] [] rfl (by first | rfl | (rw [hst]; rfl)) ?_ ?_
      all_goals (try exact clA)

end Go.Proofs

