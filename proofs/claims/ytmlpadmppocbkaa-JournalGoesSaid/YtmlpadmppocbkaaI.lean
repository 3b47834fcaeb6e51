import Derived.Test.YtmlpadmppocbkaaH
set_option linter.unusedSimpArgs false
set_option linter.unusedVariables false
namespace Go.Proofs
open Go Go.TL
def errOf (x l : List UInt8) (p : Nat) : Int := if 4096 < l.length then 1 else if (readB x).2 ≠ x.length then 40 else if 262144 < x.length + p + (frame l).length then 42 else 0
theorem appS_eq (a p l : List UInt8) : appS a p l = .tup [vF a (if errOf a l p.length = 0 then p ++ frame l else p), vI (errOf a l p.length)] := by
  unfold appS errOf
  split
  · simp
  · split
    · simp
    · split <;> simp
theorem tears (a b : List UInt8) (c : Nat) (ha : a.length ≤ 4096) (hb : b.length ≤ 4096) :
    (c < (frame a).length → readB ((frame a ++ frame b).take c) = ([], 0)) ∧
    ((frame a).length ≤ c → c < (frame a).length + (frame b).length → readB ((frame a ++ frame b).take c) = ([a], (frame a).length)) ∧
    (c = (frame a).length + (frame b).length → readB ((frame a ++ frame b).take c) = ([a, b], c)) := by
  have hfa := frame_length a
  have hfb := frame_length b
  have h2 : (frame a).length ≤ c → (frame a ++ frame b).take c = frame a ++ (frame b).take (c - (frame a).length) := fun h => by
    rw [List.take_append, List.take_of_length_le h]
  refine ⟨fun h => ?_, fun h h1 => ?_, fun h => ?_⟩
  · rw [List.take_append_of_le_length (by omega)]
    exact readB_short a c ha (by omega)
  · rw [h2 h, readB_frame a _ ha, readB_short b _ hb (by omega)]
    simp [hfa]
  · rw [h2 (by omega), readB_frame a _ ha, List.take_of_length_le (by omega)]
    have := readB_frame b [] hb
    rw [List.append_nil] at this
    rw [this, readB_nil]
    simp only [Prod.mk.injEq, true_and]
    omega
theorem c3 (a b : List UInt8) (at_ : Int) (h0 : 0 ≤ at_ ∧ at_ < 65536) : Spc Try.prog 3 [vL a, vL b, .v (.int .u16 at_)] [] (vB true) [] := by
  refine spec_of_ir fn3 mixm (by simp) fun e _ hst => W_start ?_
  unfold ir3
  simp only [tl, tl2, isCallR, entX, argFr, ret, retI, retB, intT, unT, endR, ressR, resR, tupT, bslR, boxR, lenAll, ↓reduceIte, Nat.reduceEqDiff, Nat.reduceAdd, Nat.reduceMul, Nat.reduceLT, Nat.reduceLeDiff, reduceCtorEq, Int.reduceLE, Int.reduceLT, ne_eq, Int.reduceEq, not_false_eq_true, decide_true, decide_false, Int.reduceToNat, tl3, Int.reduceBNe, Int.reduceBEq, Bool.or_eq_true, Bool.or_eq_false_iff, decide_eq_true_eq, decide_eq_false_iff_not]
  refine ⟨fun h => ?_, fun h => ?_⟩
  · refine C1.im c8 rfl rfl ?_
    simp only [tl, tl2, isCallR, entX, argFr, ret, retI, retB, intT, unT, endR, ressR, resR, tupT, bslR, boxR, lenAll, ↓reduceIte, Nat.reduceEqDiff, Nat.reduceAdd, Nat.reduceMul, Nat.reduceLT, Nat.reduceLeDiff, reduceCtorEq, Int.reduceLE, Int.reduceLT, ne_eq, Int.reduceEq, not_false_eq_true, decide_true, decide_false, Int.reduceToNat, tl3, Int.reduceBNe, Int.reduceBEq]
    exact .imR rfl rfl
  refine C1.im (c9' a (by omega)) rfl (by rfl) ?_
  simp only [tl, tl2, isCallR, entX, argFr, ret, retI, retB, intT, unT, endR, ressR, resR, tupT, bslR, boxR, lenAll, ↓reduceIte, Nat.reduceEqDiff, Nat.reduceAdd, Nat.reduceMul, Nat.reduceLT, Nat.reduceLeDiff, reduceCtorEq, Int.reduceLE, Int.reduceLT, ne_eq, Int.reduceEq, not_false_eq_true, decide_true, decide_false, Int.reduceToNat, tl3, Int.reduceBNe, Int.reduceBEq]
  refine C1.im (c9' b (by omega)) rfl (by rfl) ?_
  have hfa := frame_length a
  have hfb := frame_length b
  have hA : (frame a ++ frame b).length = (frame a).length + (frame b).length := by simp
  have hw : IntKind.i64.wrap (((frame a).length + (frame b).length : Nat) + 1 : Int) = (((frame a).length + (frame b).length + 1 : Nat) : Int) := by rw [IntWalk.i64_in _ (by omega)]; omega
  simp only [tl, tl2, isCallR, entX, argFr, ret, retI, retB, intT, unT, endR, ressR, resR, tupT, bslR, boxR, lenAll, ↓reduceIte, Nat.reduceEqDiff, Nat.reduceAdd, Nat.reduceMul, Nat.reduceLT, Nat.reduceLeDiff, reduceCtorEq, Int.reduceLE, Int.reduceLT, ne_eq, Int.reduceEq, not_false_eq_true, decide_true, decide_false, Int.reduceToNat, tl3, Int.reduceBNe, Int.reduceBEq, ← List.map_append, hw]
  obtain ⟨c, hc, hc2⟩ : ∃ c : Nat, (IntKind.i64.wrap at_).tmod (((frame a).length + (frame b).length + 1 : Nat) : Int) = c ∧ c ≤ (frame a).length + (frame b).length := by
    rw [IntWalk.i64_in _ (by omega), Int.tmod_eq_emod_of_nonneg h0.1]
    have h1 := Int.emod_nonneg at_ (b := (((frame a).length + (frame b).length + 1 : Nat) : Int)) (by omega)
    have h2 := Int.emod_lt_of_pos at_ (b := (((frame a).length + (frame b).length + 1 : Nat) : Int)) (by omega)
    obtain ⟨c, hc⟩ := Int.eq_ofNat_of_zero_le h1
    exact ⟨c, hc, by omega⟩
  obtain ⟨t1, t2, t3⟩ := tears a b c (by omega) (by omega)
  have hx : ((frame a ++ frame b).take c).length = c := by rw [List.length_take, hA]; omega
  simp only [hc, cut_map, cut_to]
  generalize hxx : (frame a ++ frame b).take c = x at *
  refine ⟨by omega, by omega, by omega, by omega, ?_⟩
  have h10 := c10 x (by omega)
  have h11 := c11 x [] a (by omega) (by simp) (by omega)
  rw [appS_eq] at h11
  have he : errOf x a ([] : List UInt8).length = if (readB x).2 = c then 0 else 40 := by
    unfold errOf
    rw [if_neg (by omega), hx]
    by_cases h1 : (readB x).2 = c
    · rw [if_neg (by omega), if_pos h1, if_neg (by rw [List.length_nil]; omega)]
    · rw [if_pos (by omega), if_neg h1]
  rw [he] at h11
  refine C1.shut [] h10 ?_ (by rfl) rfl ?_
  · simp only [ltSto, ltO2, ltO1, ltAs, ltA, ltC, ltCs, ltT, ltFr, ltS, wrOk, wrO, TL.get, hasFr, ↓reduceIte, Nat.reduceEqDiff, reduceCtorEq, Option.getD_some, Option.isSome_some, List.length_map, List.length_append, List.length_cons, List.length_nil, List.append_nil, List.mem_singleton, List.mem_cons, List.not_mem_nil, and_true, true_and, and_self, imp_self, forall_const, false_implies, implies_true, true_implies, or_false, Bool.false_eq_true, Bool.true_eq_false, ImXs_nil, true_or, or_true, false_or, false_and, and_false]
  simp only [tl, tl2, isCallR, entX, argFr, ret, retI, retB, intT, unT, endR, ressR, resR, tupT, bslR, boxR, lenAll, ↓reduceIte, Nat.reduceEqDiff, Nat.reduceAdd, Nat.reduceMul, Nat.reduceLT, Nat.reduceLeDiff, reduceCtorEq, Int.reduceLE, Int.reduceLT, ne_eq, Int.reduceEq, not_false_eq_true, decide_true, decide_false, Int.reduceToNat, tl3, Int.reduceBNe, Int.reduceBEq, hc, cut_map, cut_to, hxx, ← List.map_append]
  refine ⟨by omega, ?_⟩
  refine C1.shut [] h11 ?_ (by rfl) rfl ?_
  · simp only [ltSto, ltO2, ltO1, ltAs, ltA, ltC, ltCs, ltT, ltFr, ltS, wrOk, wrO, TL.get, hasFr, ↓reduceIte, Nat.reduceEqDiff, reduceCtorEq, Option.getD_some, Option.isSome_some, List.length_map, List.length_append, List.length_cons, List.length_nil, List.append_nil, List.mem_singleton, List.mem_cons, List.not_mem_nil, and_true, true_and, and_self, imp_self, forall_const, false_implies, implies_true, true_implies, or_false, Bool.false_eq_true, Bool.true_eq_false, ImXs_nil, true_or, or_true, false_or, false_and, and_false, List.map_nil]
  have hwb : IntKind.i64.wrap at_ = at_ := IntWalk.i64_in _ (by omega)
  by_cases q1 : c < (frame a).length
  · have g1 : decide ((c : Int) ≥ ((frame a).length : Int)) = false := by simp; omega
    have g2 : ((c : Int) == (((frame a).length + (frame b).length : Nat) : Int)) = false := by simp; omega
    have g3 : ((if (0 : Nat) = c then (0 : Int) else 40) == 40) = (((0 : Int)) != (c : Int)) := by
      by_cases q0 : c = 0
      · subst q0; rfl
      · rw [if_neg (by omega)]; simp; omega
    rw [t1 q1] at *
    simp only [tl, tl2, isCallR, entX, argFr, ret, retI, retB, intT, unT, endR, ressR, resR, tupT, bslR, boxR, lenAll, ↓reduceIte, Nat.reduceEqDiff, Nat.reduceAdd, Nat.reduceMul, Nat.reduceLT, Nat.reduceLeDiff, reduceCtorEq, Int.reduceLE, Int.reduceLT, ne_eq, Int.reduceEq, not_false_eq_true, decide_true, decide_false, Int.reduceToNat, tl3, Int.reduceBNe, Int.reduceBEq, g1, g2, g3, decide_eq_true_eq, decide_eq_false_iff_not, Int.natCast_zero, beq_self_eq_true]
    refine C2.im (fun _ => c8) (fun _ => rfl) rfl ?_
    simp only [tl, tl2, isCallR, entX, argFr, ret, retI, retB, intT, unT, endR, ressR, resR, tupT, bslR, boxR, lenAll, ↓reduceIte, Nat.reduceEqDiff, Nat.reduceAdd, Nat.reduceMul, Nat.reduceLT, Nat.reduceLeDiff, reduceCtorEq, Int.reduceLE, Int.reduceLT, ne_eq, Int.reduceEq, not_false_eq_true, decide_true, decide_false, Int.reduceToNat, tl3, Int.reduceBNe, Int.reduceBEq]
    exact ⟨by kernel_rfl, .imR rfl rfl⟩
  by_cases q2 : c < (frame a).length + (frame b).length
  · have g1 : decide ((c : Int) ≥ ((frame a).length : Int)) = true := by simp; omega
    have g2 : ((c : Int) == (((frame a).length + (frame b).length : Nat) : Int)) = false := by simp; omega
    have g3 : ((if (frame a).length = c then (0 : Int) else 40) == 40) = (((frame a).length : Int) != (c : Int)) := by
      by_cases q0 : (frame a).length = c
      · rw [if_pos q0, q0]; simp
      · rw [if_neg q0]; simp; omega
    rw [t2 (by omega) q2] at *
    simp only [tl, tl2, isCallR, entX, argFr, ret, retI, retB, intT, unT, endR, ressR, resR, tupT, bslR, boxR, lenAll, ↓reduceIte, Nat.reduceEqDiff, Nat.reduceAdd, Nat.reduceMul, Nat.reduceLT, Nat.reduceLeDiff, reduceCtorEq, Int.reduceLE, Int.reduceLT, ne_eq, Int.reduceEq, not_false_eq_true, decide_true, decide_false, Int.reduceToNat, tl3, Int.reduceBNe, Int.reduceBEq, g1, g2, g3, decide_eq_true_eq, decide_eq_false_iff_not, Int.natCast_zero, Int.natCast_one, beq_self_eq_true]
    refine C2.im (fun _ => c8) (fun _ => rfl) rfl ?_
    simp only [tl, tl2, isCallR, entX, argFr, ret, retI, retB, intT, unT, endR, ressR, resR, tupT, bslR, boxR, lenAll, ↓reduceIte, Nat.reduceEqDiff, Nat.reduceAdd, Nat.reduceMul, Nat.reduceLT, Nat.reduceLeDiff, reduceCtorEq, Int.reduceLE, Int.reduceLT, ne_eq, Int.reduceEq, not_false_eq_true, decide_true, decide_false, Int.reduceToNat, tl3, Int.reduceBNe, Int.reduceBEq]
    exact ⟨by kernel_rfl, .imR rfl rfl⟩
  · have g1 : decide ((c : Int) ≥ ((frame a).length : Int)) = true := by simp; omega
    have q3 : c = (frame a).length + (frame b).length := by omega
    have g2 : ((c : Int) == (((frame a).length + (frame b).length : Nat) : Int)) = true := by simp; omega
    have g4 : (((2 : Nat) : Int) == 2) = true := rfl
    rw [t3 q3] at *
    simp only [tl, tl2, isCallR, entX, argFr, ret, retI, retB, intT, unT, endR, ressR, resR, tupT, bslR, boxR, lenAll, ↓reduceIte, Nat.reduceEqDiff, Nat.reduceAdd, Nat.reduceMul, Nat.reduceLT, Nat.reduceLeDiff, reduceCtorEq, Int.reduceLE, Int.reduceLT, ne_eq, Int.reduceEq, not_false_eq_true, decide_true, decide_false, Int.reduceToNat, tl3, Int.reduceBNe, Int.reduceBEq, g1, g2, g4, bne_self_eq_false, if_true, decide_eq_true_eq, decide_eq_false_iff_not, Int.natCast_zero, Int.natCast_one, beq_self_eq_true]
    refine ⟨by omega, ?_⟩
    refine C2.im (fun _ => c8) (fun _ => rfl) rfl ?_
    simp only [tl, tl2, isCallR, entX, argFr, ret, retI, retB, intT, unT, endR, ressR, resR, tupT, bslR, boxR, lenAll, ↓reduceIte, Nat.reduceEqDiff, Nat.reduceAdd, Nat.reduceMul, Nat.reduceLT, Nat.reduceLeDiff, reduceCtorEq, Int.reduceLE, Int.reduceLT, ne_eq, Int.reduceEq, not_false_eq_true, decide_true, decide_false, Int.reduceToNat, tl3, Int.reduceBNe, Int.reduceBEq]
    exact ⟨by kernel_rfl, .imR rfl rfl⟩
end Go.Proofs

