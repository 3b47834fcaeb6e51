import Derived.Test.YtnejebkdlofdoaaE35
set_option linter.unusedSimpArgs false
set_option linter.unusedVariables false
namespace Go.Proofs
open Go Go.TL
/-! ltSto, ltO2, ltO1, ltAs, ltA, ltC, ltC0, ltC0s, ltCs, ltT, ltFr, ltS, wrOk, wrO, TL.get, hasFr, ↓reduceIte, Nat.reduceEqDiff, reduceCtorEq, Option.getD_some, Option.isSome_some, List.length_map, List.length_append, List.length_cons, List.length_nil, List.append_nil, List.mem_singleton, List.mem_cons, List.not_mem_nil, and_true, true_and, and_self, imp_self, forall_const, false_implies, implies_true, true_implies, or_false, Bool.false_eq_true, Bool.true_eq_false, ImXs_nil, true_or, or_true, false_or, false_and, and_false, rmK, rm1# valid outputs -/
theorem c_queue_time (n : Int) : Spc Try.prog F_queue_time [vI n] [] (vB (timeB n)) [] := by
  refine spec_of_ir fn_queue_time mixm (by simp) fun e _ hst => W_start ?_
  unfold ir_queue_time
  simp only [tl, tl2, tl4, ↓un_u, isCallR, entX, argFr, ret, retI, retB, intT, unT, endR, ressR, resR, tupT, bslR, boxR, lenAll, ↓reduceIte, Nat.reduceEqDiff, Nat.reduceAdd, Nat.reduceMul, Nat.reduceLT, Nat.reduceLeDiff, reduceCtorEq, Int.reduceLE, Int.reduceLT, ne_eq, Int.reduceEq, not_false_eq_true, decide_true, decide_false, Int.reduceToNat, tl3, Int.reduceBNe, Int.reduceBEq, rmK, rm1, not_true_eq_false]
  refine .of [] [] rfl (by first | rfl | (rw [hst]; rfl)) ?_ ?_
  all_goals (try exact clA)
theorem c_queue_Valid_1 (s : Sig) : Spc Try.prog F_queue_Valid_1 [sigT s] [] (vB (!sigOK s)) [] := by
  have h2 := c_queue_time s.tm
  refine spec_of_ir fn_queue_Valid_1 mixm (by simp) fun e _ hst => W_start ?_
  unfold ir_queue_Valid_1
  simp only [tl, tl2, tl4, ↓un_u, isCallR, entX, argFr, ret, retI, retB, intT, unT, endR, ressR, resR, tupT, bslR, boxR, lenAll, ↓reduceIte, Nat.reduceEqDiff, Nat.reduceAdd, Nat.reduceMul, Nat.reduceLT, Nat.reduceLeDiff, reduceCtorEq, Int.reduceLE, Int.reduceLT, ne_eq, Int.reduceEq, not_false_eq_true, decide_true, decide_false, Int.reduceToNat, tl3, Int.reduceBNe, Int.reduceBEq, rmK, rm1, not_true_eq_false]
  refine C1.im (c_codes_Name s.pers) rfl (by rfl) ?_
  simp only [tl, tl2, tl4, ↓un_u, isCallR, entX, argFr, ret, retI, retB, intT, unT, endR, ressR, resR, tupT, bslR, boxR, lenAll, ↓reduceIte, Nat.reduceEqDiff, Nat.reduceAdd, Nat.reduceMul, Nat.reduceLT, Nat.reduceLeDiff, reduceCtorEq, Int.reduceLE, Int.reduceLT, ne_eq, Int.reduceEq, not_false_eq_true, decide_true, decide_false, Int.reduceToNat, tl3, Int.reduceBNe, Int.reduceBEq, rmK, rm1, not_true_eq_false]
  refine C2.im (fun _ => h2) (fun _ => rfl) (by rfl) ?_
  simp only [tl, tl2, tl4, ↓un_u, isCallR, entX, argFr, ret, retI, retB, intT, unT, endR, ressR, resR, tupT, bslR, boxR, lenAll, ↓reduceIte, Nat.reduceEqDiff, Nat.reduceAdd, Nat.reduceMul, Nat.reduceLT, Nat.reduceLeDiff, reduceCtorEq, Int.reduceLE, Int.reduceLT, ne_eq, Int.reduceEq, not_false_eq_true, decide_true, decide_false, Int.reduceToNat, tl3, Int.reduceBNe, Int.reduceBEq, rmK, rm1, not_true_eq_false]
  have : (!nameB s.pers || !timeB s.tm) = !sigOK s := by simp [sigOK]
  rw [this]
  refine .of [] [] rfl (by first | rfl | (rw [hst]; rfl)) ?_ ?_
  all_goals (try exact clA)
/-! ltSto, ltO2, ltO1, ltAs, ltA, ltC, ltC0, ltC0s, ltCs, ltT, ltFr, ltS, wrOk, wrO, TL.get, hasFr, ↓reduceIte, Nat.reduceEqDiff, reduceCtorEq, Option.getD_some, Option.isSome_some, List.length_map, List.length_append, List.length_cons, List.length_nil, List.append_nil, List.mem_singleton, List.mem_cons, List.not_mem_nil, and_true, true_and, and_self, imp_self, forall_const, false_implies, implies_true, true_implies, or_false, Bool.false_eq_true, Bool.true_eq_false, ImXs_nil, true_or, or_true, false_or, false_and, and_false, rmK, rm1# slices of Signature -/
theorem c_slices_IndexFunc_Signature (p : Sig → Bool) (f : FuncId) (caps : List T) (hcap : imL caps = true) (l : List Sig) (hf : ∀ y ∈ l, Spc Try.prog f (sigT y :: caps) [] (vB (p y)) []) (hl : l.length < 4611686018427387904) :
    Spc Try.prog F_slices_IndexFunc_Signature [.sl 2 (l.map sigT), .clo f caps] [] (vI (idxI p l)) [] := by
  refine spec_of_ir fn_slices_IndexFunc_Signature mixm (by simp) fun e _ hst => W_start ?_
  unfold ir_slices_IndexFunc_Signature
  simp only [tl, tl2, tl4, ↓un_u, isCallR, entX, argFr, ret, retI, retB, intT, unT, endR, ressR, resR, tupT, bslR, boxR, lenAll, ↓reduceIte, Nat.reduceEqDiff, Nat.reduceAdd, Nat.reduceMul, Nat.reduceLT, Nat.reduceLeDiff, reduceCtorEq, Int.reduceLE, Int.reduceLT, ne_eq, Int.reduceEq, not_false_eq_true, decide_true, decide_false, Int.reduceToNat, tl3, Int.reduceBNe, Int.reduceBEq, rmK, rm1, not_true_eq_false]
  refine W_loopF mixm (α := Nat) [8] (fun i => i ≤ l.length ∧ ((l.take i).any p = false)) (fun i => [(8, vI i)]) (fun i => []) (fun i => l.length - i) 0 ⟨by omega, ?_⟩ ?_ fun i hi => ?_
  · simp
  · refine .of [] [] rfl (by first | rfl | (rw [hst]; rfl)) ?_ ?_
    all_goals (try exact clA)
  simp only [tl, tl2, tl4, ↓un_u, isCallR, entX, argFr, ret, retI, retB, intT, unT, endR, ressR, resR, tupT, bslR, boxR, lenAll, ↓reduceIte, Nat.reduceEqDiff, Nat.reduceAdd, Nat.reduceMul, Nat.reduceLT, Nat.reduceLeDiff, reduceCtorEq, Int.reduceLE, Int.reduceLT, ne_eq, Int.reduceEq, not_false_eq_true, decide_true, decide_false, Int.reduceToNat, tl3, Int.reduceBNe, Int.reduceBEq, rmK, rm1, not_true_eq_false, decide_eq_true_eq, decide_eq_false_iff_not]
  refine ⟨fun h => ?_, fun h => ?_⟩
  · have hi2 : i < l.length := by omega
    have hwi := i64_succ (i := i) (by omega)
    simp only [tl, tl2, tl4, ↓un_u, isCallR, entX, argFr, ret, retI, retB, intT, unT, endR, ressR, resR, tupT, bslR, boxR, lenAll, ↓reduceIte, Nat.reduceEqDiff, Nat.reduceAdd, Nat.reduceMul, Nat.reduceLT, Nat.reduceLeDiff, reduceCtorEq, Int.reduceLE, Int.reduceLT, ne_eq, Int.reduceEq, not_false_eq_true, decide_true, decide_false, Int.reduceToNat, tl3, Int.reduceBNe, Int.reduceBEq, rmK, rm1, not_true_eq_false, Int.toNat_natCast, getD_mapT hi2, hwi, cells_v]
    refine ⟨by omega, ?_⟩
    refine C1.im (hf l[i] (List.getElem_mem hi2)) (imAL_cons rfl hcap) rfl ?_
    simp only [tl, tl2, tl4, ↓un_u, isCallR, entX, argFr, ret, retI, retB, intT, unT, endR, ressR, resR, tupT, bslR, boxR, lenAll, ↓reduceIte, Nat.reduceEqDiff, Nat.reduceAdd, Nat.reduceMul, Nat.reduceLT, Nat.reduceLeDiff, reduceCtorEq, Int.reduceLE, Int.reduceLT, ne_eq, Int.reduceEq, not_false_eq_true, decide_true, decide_false, Int.reduceToNat, tl3, Int.reduceBNe, Int.reduceBEq, rmK, rm1, not_true_eq_false]
    refine ⟨fun h3 => ?_, fun h3 => ⟨i + 1, ⟨by omega, any_snoc hi2 hi.2 h3⟩, by omega, ?_⟩⟩
    · rw [idxI, if_pos (any_at hi2 h3), findIdx_at hi2 hi.2 h3]
      exact .imR rfl rfl
    · refine .of [] [] rfl (by first | rfl | (rw [hst]; rfl)) ?_ ?_
      all_goals (try exact clA)
  · have h2 : i = l.length := by omega
    have h3 := hi.2
    rw [h2, List.take_length] at h3
    rw [idxI, if_neg (by rw [h3]; simp)]
    exact .imR rfl rfl

theorem c_slices_ContainsFunc_Signature (p : Sig → Bool) (f : FuncId) (caps : List T) (hcap : imL caps = true) (l : List Sig) (hf : ∀ y ∈ l, Spc Try.prog f (sigT y :: caps) [] (vB (p y)) []) (hl : l.length < 4611686018427387904) :
    Spc Try.prog F_slices_ContainsFunc_Signature [.sl 2 (l.map sigT), .clo f caps] [] (vB (l.any p)) [] := by
  refine spec_of_ir fn_slices_ContainsFunc_Signature mixm (by simp) fun e _ hst => W_start ?_
  unfold ir_slices_ContainsFunc_Signature
  simp only [tl, tl2, tl4, ↓un_u, isCallR, entX, argFr, ret, retI, retB, intT, unT, endR, ressR, resR, tupT, bslR, boxR, lenAll, ↓reduceIte, Nat.reduceEqDiff, Nat.reduceAdd, Nat.reduceMul, Nat.reduceLT, Nat.reduceLeDiff, reduceCtorEq, Int.reduceLE, Int.reduceLT, ne_eq, Int.reduceEq, not_false_eq_true, decide_true, decide_false, Int.reduceToNat, tl3, Int.reduceBNe, Int.reduceBEq, rmK, rm1, not_true_eq_false]
  refine C1.im (c_slices_IndexFunc_Signature p f caps hcap l hf hl) (imAL_clo rfl hcap) rfl ?_
  simp only [tl, tl2, tl4, ↓un_u, isCallR, entX, argFr, ret, retI, retB, intT, unT, endR, ressR, resR, tupT, bslR, boxR, lenAll, ↓reduceIte, Nat.reduceEqDiff, Nat.reduceAdd, Nat.reduceMul, Nat.reduceLT, Nat.reduceLeDiff, reduceCtorEq, Int.reduceLE, Int.reduceLT, ne_eq, Int.reduceEq, not_false_eq_true, decide_true, decide_false, Int.reduceToNat, tl3, Int.reduceBNe, Int.reduceBEq, rmK, rm1, not_true_eq_false]
  rw [show decide (idxI p l ≥ 0) = l.any p from idxI_ge p l]
  exact .imR rfl rfl

theorem c_queue_Valid (x : Out) (hl : x.sigs.length < 4611686018427387904) : Spc Try.prog F_queue_Valid [outT x] [] (vB (validO x)) [] := by
  have h1 := c_codes_Name x.proj
  have h2 := c_codes_Name x.res
  have h3 := c_queue_time x.tm
  have hc := c_slices_ContainsFunc_Signature (fun s => !sigOK s) F_queue_Valid_1 [] rfl x.sigs (fun s _ => c_queue_Valid_1 s) hl
  refine spec_of_ir fn_queue_Valid mixm (by simp) fun e _ hst => W_start ?_
  unfold ir_queue_Valid
  simp only [tl, tl2, tl4, ↓un_u, isCallR, entX, argFr, ret, retI, retB, intT, unT, endR, ressR, resR, tupT, bslR, boxR, lenAll, ↓reduceIte, Nat.reduceEqDiff, Nat.reduceAdd, Nat.reduceMul, Nat.reduceLT, Nat.reduceLeDiff, reduceCtorEq, Int.reduceLE, Int.reduceLT, ne_eq, Int.reduceEq, not_false_eq_true, decide_true, decide_false, Int.reduceToNat, tl3, Int.reduceBNe, Int.reduceBEq, rmK, rm1, not_true_eq_false]
  refine C2.im (fun _ => h1) (fun _ => rfl) (by rfl) ?_
  simp only [tl, tl2, tl4, ↓un_u, isCallR, entX, argFr, ret, retI, retB, intT, unT, endR, ressR, resR, tupT, bslR, boxR, lenAll, ↓reduceIte, Nat.reduceEqDiff, Nat.reduceAdd, Nat.reduceMul, Nat.reduceLT, Nat.reduceLeDiff, reduceCtorEq, Int.reduceLE, Int.reduceLT, ne_eq, Int.reduceEq, not_false_eq_true, decide_true, decide_false, Int.reduceToNat, tl3, Int.reduceBNe, Int.reduceBEq, rmK, rm1, not_true_eq_false]
  refine C2.im (fun _ => h2) (fun _ => rfl) (by rfl) ?_
  simp only [tl, tl2, tl4, ↓un_u, isCallR, entX, argFr, ret, retI, retB, intT, unT, endR, ressR, resR, tupT, bslR, boxR, lenAll, ↓reduceIte, Nat.reduceEqDiff, Nat.reduceAdd, Nat.reduceMul, Nat.reduceLT, Nat.reduceLeDiff, reduceCtorEq, Int.reduceLE, Int.reduceLT, ne_eq, Int.reduceEq, not_false_eq_true, decide_true, decide_false, Int.reduceToNat, tl3, Int.reduceBNe, Int.reduceBEq, rmK, rm1, not_true_eq_false]
  refine C2.im (fun _ => h3) (fun _ => rfl) (by rfl) ?_
  simp only [tl, tl2, tl4, ↓un_u, isCallR, entX, argFr, ret, retI, retB, intT, unT, endR, ressR, resR, tupT, bslR, boxR, lenAll, ↓reduceIte, Nat.reduceEqDiff, Nat.reduceAdd, Nat.reduceMul, Nat.reduceLT, Nat.reduceLeDiff, reduceCtorEq, Int.reduceLE, Int.reduceLT, ne_eq, Int.reduceEq, not_false_eq_true, decide_true, decide_false, Int.reduceToNat, tl3, Int.reduceBNe, Int.reduceBEq, rmK, rm1, not_true_eq_false]
  refine ⟨fun h => ?_, fun h => ⟨fun h4 => ?_, fun h4 => ?_⟩⟩
  · have : validO x = false := by
      unfold validO headOK
      simp only [gt_iff_lt] at h ⊢
      rw [h]; rfl
    rw [this]
    refine .of [] [] rfl (by first | rfl | (rw [hst]; rfl)) ?_ ?_
    all_goals (try exact clA)
  · have : validO x = false := by
      unfold validO tailOK
      simp only [gt_iff_lt] at h4 ⊢
      rw [h4]; simp
    rw [this]
    refine .of [] [] rfl (by first | rfl | (rw [hst]; rfl)) ?_ ?_
    all_goals (try exact clA)
  · refine C1.im hc (by rfl) (by rfl) ?_
    simp only [tl, tl2, tl4, ↓un_u, isCallR, entX, argFr, ret, retI, retB, intT, unT, endR, ressR, resR, tupT, bslR, boxR, lenAll, ↓reduceIte, Nat.reduceEqDiff, Nat.reduceAdd, Nat.reduceMul, Nat.reduceLT, Nat.reduceLeDiff, reduceCtorEq, Int.reduceLE, Int.reduceLT, ne_eq, Int.reduceEq, not_false_eq_true, decide_true, decide_false, Int.reduceToNat, tl3, Int.reduceBNe, Int.reduceBEq, rmK, rm1, not_true_eq_false]
    have : (!x.sigs.any fun s => !sigOK s) = validO x := by
      unfold validO headOK tailOK
      simp only [gt_iff_lt] at h h4 ⊢
      rw [h, h4]; simp
    rw [this]
    refine .of [] [] rfl (by first | rfl | (rw [hst]; rfl)) ?_ ?_
    all_goals (try exact clA)
theorem c_ref35_Valid (x : Out) (hl : x.sigs.length < 4611686018427387904) : Spc Try.prog F_ref35_Valid [outT x] [] (vB (validO x)) [] := by
  have h1 := c_ref35_Name x.proj
  have h2 := c_ref35_Name x.res
  refine spec_of_ir fn_ref35_Valid mixm (by simp) fun e _ hst => W_start ?_
  unfold ir_ref35_Valid
  simp only [tl, tl2, tl4, ↓un_u, isCallR, entX, argFr, ret, retI, retB, intT, unT, endR, ressR, resR, tupT, bslR, boxR, lenAll, ↓reduceIte, Nat.reduceEqDiff, Nat.reduceAdd, Nat.reduceMul, Nat.reduceLT, Nat.reduceLeDiff, reduceCtorEq, Int.reduceLE, Int.reduceLT, ne_eq, Int.reduceEq, not_false_eq_true, decide_true, decide_false, Int.reduceToNat, tl3, Int.reduceBNe, Int.reduceBEq, rmK, rm1, not_true_eq_false]
  refine C2.im (fun _ => h1) (fun _ => rfl) (by rfl) ?_
  simp only [tl, tl2, tl4, ↓un_u, isCallR, entX, argFr, ret, retI, retB, intT, unT, endR, ressR, resR, tupT, bslR, boxR, lenAll, ↓reduceIte, Nat.reduceEqDiff, Nat.reduceAdd, Nat.reduceMul, Nat.reduceLT, Nat.reduceLeDiff, reduceCtorEq, Int.reduceLE, Int.reduceLT, ne_eq, Int.reduceEq, not_false_eq_true, decide_true, decide_false, Int.reduceToNat, tl3, Int.reduceBNe, Int.reduceBEq, rmK, rm1, not_true_eq_false]
  refine C2.im (fun _ => h2) (fun _ => rfl) (by rfl) ?_
  simp only [tl, tl2, tl4, ↓un_u, isCallR, entX, argFr, ret, retI, retB, intT, unT, endR, ressR, resR, tupT, bslR, boxR, lenAll, ↓reduceIte, Nat.reduceEqDiff, Nat.reduceAdd, Nat.reduceMul, Nat.reduceLT, Nat.reduceLeDiff, reduceCtorEq, Int.reduceLE, Int.reduceLT, ne_eq, Int.reduceEq, not_false_eq_true, decide_true, decide_false, Int.reduceToNat, tl3, Int.reduceBNe, Int.reduceBEq, rmK, rm1, not_true_eq_false]
  have ht : ∀ n : Int, timeB n = !(decide (n < 0) || decide (n > 1073741824)) := fun n => by
    unfold timeB
    rw [Bool.eq_iff_iff]
    simp
  have hcond : (decide (x.num < 1) || decide (x.num > 40) || !nameB x.proj || !nameB x.res || decide (x.tm < 0) || decide (x.tm > 1073741824) || decide ((x.text.size : Int) > 1024) || decide (x.state < 1) || decide (x.state > 6) || decide ((x.sigs.length : Int) > 2)) = !(headOK x && tailOK x) := by
    unfold headOK tailOK
    rw [ht x.tm]
    simp only [Bool.not_not, Bool.not_and, Bool.or_assoc]
  simp only [hcond]
  refine ⟨fun h => ?_, fun h => ?_⟩
  · have : validO x = false := by
      unfold validO
      rw [show (headOK x && tailOK x) = false from (Bool.not_eq_true' _).mp h]; rfl
    rw [this]
    refine .of [] [] rfl (by first | rfl | (rw [hst]; rfl)) ?_ ?_
    all_goals (try exact clA)
  have hv : validO x = !(x.sigs.any fun s => !sigOK s) := by
    unfold validO
    rw [show (headOK x && tailOK x) = true from (Bool.not_eq_false' _).mp h]; rfl
  rw [hv]
  generalize hL : x.sigs = L at *
  refine W_loopF mixm (α := Nat) [60] (fun i => i ≤ L.length ∧ (L.take i).any (fun s => !sigOK s) = false) (fun i => [(60, vI i)]) (fun i => []) (fun i => L.length - i) 0 ⟨by omega, by simp⟩ ?_ fun i hi => ?_
  · rw [← hL]
    refine .of [] [] rfl (by first | rfl | (rw [hst]; rfl)) ?_ ?_
    all_goals (try exact clA)
  simp only [tl, tl2, tl4, ↓un_u, isCallR, entX, argFr, ret, retI, retB, intT, unT, endR, ressR, resR, tupT, bslR, boxR, lenAll, ↓reduceIte, Nat.reduceEqDiff, Nat.reduceAdd, Nat.reduceMul, Nat.reduceLT, Nat.reduceLeDiff, reduceCtorEq, Int.reduceLE, Int.reduceLT, ne_eq, Int.reduceEq, not_false_eq_true, decide_true, decide_false, Int.reduceToNat, tl3, Int.reduceBNe, Int.reduceBEq, rmK, rm1, not_true_eq_false, decide_eq_true_eq, decide_eq_false_iff_not]
  refine ⟨fun h => ?_, fun h => ?_⟩
  · have hi2 : i < L.length := by omega
    have hwi := i64_succ (i := i) (by omega)
    simp only [tl, tl2, tl4, ↓un_u, isCallR, entX, argFr, ret, retI, retB, intT, unT, endR, ressR, resR, tupT, bslR, boxR, lenAll, ↓reduceIte, Nat.reduceEqDiff, Nat.reduceAdd, Nat.reduceMul, Nat.reduceLT, Nat.reduceLeDiff, reduceCtorEq, Int.reduceLE, Int.reduceLT, ne_eq, Int.reduceEq, not_false_eq_true, decide_true, decide_false, Int.reduceToNat, tl3, Int.reduceBNe, Int.reduceBEq, rmK, rm1, not_true_eq_false, Int.toNat_natCast, getD_mapT hi2, hwi]
    refine ⟨by omega, ?_⟩
    refine C1.im (c_ref35_Name L[i].pers) rfl (by rfl) ?_
    simp only [tl, tl2, tl4, ↓un_u, isCallR, entX, argFr, ret, retI, retB, intT, unT, endR, ressR, resR, tupT, bslR, boxR, lenAll, ↓reduceIte, Nat.reduceEqDiff, Nat.reduceAdd, Nat.reduceMul, Nat.reduceLT, Nat.reduceLeDiff, reduceCtorEq, Int.reduceLE, Int.reduceLT, ne_eq, Int.reduceEq, not_false_eq_true, decide_true, decide_false, Int.reduceToNat, tl3, Int.reduceBNe, Int.reduceBEq, rmK, rm1, not_true_eq_false]
    have hsg : (!nameB L[i].pers || decide (L[i].tm < 0) || decide (L[i].tm > 1073741824)) = !sigOK L[i] := by
      unfold sigOK
      rw [ht L[i].tm]
      simp only [Bool.not_not, Bool.not_and, Bool.or_assoc]
    simp only [hsg]
    refine ⟨fun h3 => ?_, fun h3 => ?_⟩
    · rw [any_at (p := fun s => !sigOK s) hi2 h3]
      refine .of [] [] rfl (by first | rfl | (rw [hst]; rfl)) ?_ ?_
      all_goals (try exact clA)
    · refine ⟨i + 1, ⟨by omega, any_snoc hi2 hi.2 h3⟩, by omega, ?_⟩
      refine .of [] [] rfl (by first | rfl | (rw [hst]; rfl)) ?_ ?_
      all_goals (try exact clA)
  · have hi2 : i = L.length := by omega
    subst hi2
    have h3 := hi.2
    rw [List.take_length] at h3
    rw [h3]
    refine .of [] [] rfl (by first | rfl | (rw [hst]; rfl)) ?_ ?_
    all_goals (try exact clA)
theorem valid_parts {x : Out} (h : validO x = true) : (1 ≤ x.num ∧ x.num ≤ 40) ∧ nameB x.proj = true ∧ nameB x.res = true ∧ (0 ≤ x.tm ∧ x.tm ≤ 1073741824) ∧ x.text.size ≤ 1024 ∧ (1 ≤ x.state ∧ x.state ≤ 6) ∧ x.sigs.length ≤ 2 ∧ ∀ s ∈ x.sigs, nameB s.pers = true ∧ 0 ≤ s.tm ∧ s.tm ≤ 1073741824 := by
  unfold validO headOK tailOK at h
  simp [timeB, sigOK] at h
  obtain ⟨⟨h1, h2⟩, h3⟩ := h
  refine ⟨by omega, by simp_all, by simp_all, by omega, by omega, by omega, by omega, fun s hs => ?_⟩
  have := h3 s hs
  exact ⟨this.1, by omega, by omega⟩
theorem valid_of {x : Out} (h1 : 1 ≤ x.num ∧ x.num ≤ 40) (h2 : nameB x.proj = true) (h3 : nameB x.res = true) (h4 : 0 ≤ x.tm ∧ x.tm ≤ 1073741824) (h5 : x.text.size ≤ 1024) (h6 : 1 ≤ x.state ∧ x.state ≤ 6) (h7 : x.sigs.length ≤ 2)
    (h8 : ∀ s ∈ x.sigs, nameB s.pers = true ∧ 0 ≤ s.tm ∧ s.tm ≤ 1073741824) : validO x = true := by
  unfold validO headOK tailOK
  simp [timeB, sigOK, h2, h3]
  refine ⟨⟨by omega, by omega⟩, fun s hs => ?_⟩
  obtain ⟨g1, g2, g3⟩ := h8 s hs
  exact ⟨g1, g2, g3⟩
theorem name_size {s : ByteArray} (h : nameB s = true) : 1 ≤ s.size ∧ s.size ≤ 16 := by
  unfold nameB hdBad at h
  simp at h
  omega

end Go.Proofs

