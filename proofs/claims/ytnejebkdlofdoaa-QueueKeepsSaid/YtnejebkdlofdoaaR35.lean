import Derived.Test.YtnejebkdlofdoaaQ35
set_option linter.unusedSimpArgs false
set_option linter.unusedVariables false
namespace Go.Proofs
open Go Go.TL
/-! ltSto, ltO2, ltO1, ltAs, ltA, ltC, ltC0, ltC0s, ltCs, ltT, ltFr, ltS, wrOk, wrO, TL.get, hasFr, ↓reduceIte, Nat.reduceEqDiff, reduceCtorEq, Option.getD_some, Option.isSome_some, List.length_map, List.length_append, List.length_cons, List.length_nil, List.append_nil, List.mem_singleton, List.mem_cons, List.not_mem_nil, and_true, true_and, and_self, imp_self, forall_const, false_implies, implies_true, true_implies, or_false, Bool.false_eq_true, Bool.true_eq_false, ImXs_nil, true_or, or_true, false_or, false_and, and_false, rmK, rm1# QueueKeeps -/
def eqG (s t : Sig) : Bool := (s.pers.toList == t.pers.toList) && ((s.tm == t.tm) && true)
def hdN (x y : Out) : Bool := x.num != y.num || !(x.proj.toList == y.proj.toList) || !(x.res.toList == y.res.toList) || x.tm != y.tm || !(x.text.toList == y.text.toList) || x.state != y.state || (x.sigs.length : Int) != y.sigs.length
def sameO (x y : Out) : Bool := !hdN x y && sameL eqG x.sigs y.sigs
theorem c_ref35_Same_any (x y : Out) (hl : x.sigs.length < 4611686018427387904) (hl2 : y.sigs.length < 4611686018427387904) : Spc Try.prog F_ref35_Same [outT x, outT y] [] (vB (sameO x y)) [] := by
  unfold sameO hdN
  refine spec_of_ir fn_ref35_Same mixm (by simp) fun e _ hst => W_start ?_
  unfold ir_ref35_Same
  simp only [tl, tl2, tl4, ↓un_u, isCallR, entX, argFr, ret, retI, retB, intT, unT, endR, ressR, resR, tupT, bslR, boxR, lenAll, ↓reduceIte, Nat.reduceEqDiff, Nat.reduceAdd, Nat.reduceMul, Nat.reduceLT, Nat.reduceLeDiff, reduceCtorEq, Int.reduceLE, Int.reduceLT, ne_eq, Int.reduceEq, not_false_eq_true, decide_true, decide_false, Int.reduceToNat, tl3, Int.reduceBNe, Int.reduceBEq, rmK, rm1, not_true_eq_false]
  refine ⟨fun h => ?_, fun h => ?_⟩
  · rw [h]
    refine .of [] [] rfl (by first | rfl | (rw [hst]; rfl)) ?_ ?_
    all_goals (try exact clA)
  rw [h]
  have hlen : x.sigs.length = y.sigs.length := by simp at h; omega
  simp only [Bool.not_false, Bool.true_and]
  refine W_loopF mixm (α := Nat) [58] (fun i => i ≤ x.sigs.length ∧ sameL eqG (x.sigs.take i) (y.sigs.take i) = true) (fun i => [(58, vI i)]) (fun i => [(4096, .arr 7 [outT x] false), (4100, .arr 7 [outT y] false)]) (fun i => x.sigs.length - i) 0 ⟨by omega, rfl⟩ ?_ fun i hi => ?_
  · refine .of [(4096, some 4096), (4100, some 4100)] [] rfl (by first | rfl | (rw [hst]; rfl)) ?_ ?_
    all_goals (try exact clA)
  simp only [tl, tl2, tl4, ↓un_u, isCallR, entX, argFr, ret, retI, retB, intT, unT, endR, ressR, resR, tupT, bslR, boxR, lenAll, ↓reduceIte, Nat.reduceEqDiff, Nat.reduceAdd, Nat.reduceMul, Nat.reduceLT, Nat.reduceLeDiff, reduceCtorEq, Int.reduceLE, Int.reduceLT, ne_eq, Int.reduceEq, not_false_eq_true, decide_true, decide_false, Int.reduceToNat, tl3, Int.reduceBNe, Int.reduceBEq, rmK, rm1, not_true_eq_false, decide_eq_true_eq, decide_eq_false_iff_not]
  refine ⟨fun h => ?_, fun h => ?_⟩
  · have hib : i < y.sigs.length := by omega
    have hi2 : i < x.sigs.length := by omega
    have hwi := i64_succ (i := i) (by omega)
    simp only [tl, tl2, tl4, ↓un_u, isCallR, entX, argFr, ret, retI, retB, intT, unT, endR, ressR, resR, tupT, bslR, boxR, lenAll, ↓reduceIte, Nat.reduceEqDiff, Nat.reduceAdd, Nat.reduceMul, Nat.reduceLT, Nat.reduceLeDiff, reduceCtorEq, Int.reduceLE, Int.reduceLT, ne_eq, Int.reduceEq, not_false_eq_true, decide_true, decide_false, Int.reduceToNat, tl3, Int.reduceBNe, Int.reduceBEq, rmK, rm1, not_true_eq_false, Int.toNat_natCast, getD_mapT hi2, hwi, getD_mapT hib]
    refine ⟨by omega, by omega, by kernel_rfl, fun h3 => ?_, fun h3 => ?_⟩
    · have h3 : eqG x.sigs[i] y.sigs[i] = false := by simpa [eqG] using h3
      rw [sameL_false hlen hi2 h3]
      refine .of [] [] rfl (by first | rfl | (rw [hst]; rfl)) ?_ ?_
      all_goals (try exact clA)
    · have h3 : eqG x.sigs[i] y.sigs[i] = true := by simpa [eqG] using h3
      refine ⟨i + 1, ⟨by omega, ?_⟩, by omega, ?_⟩
      · rw [sameL_snoc hi2 hib, hi.2, h3]; rfl
      · refine .of [(4096, some 4096), (4100, some 4100)] [] rfl (by first | rfl | (rw [hst]; rfl)) ?_ ?_
        all_goals (try exact clA)
  · have hi2 : i = x.sigs.length := by omega
    subst hi2
    have h3 := hi.2
    rw [List.take_length, hlen, List.take_length] at h3
    rw [h3]
    refine .of [] [] rfl (by first | rfl | (rw [hst]; rfl)) ?_ ?_
    all_goals (try exact clA)
theorem c_ref35_Alike_any (a b : List Out) (ha : ∀ x ∈ a, x.sigs.length < 4611686018427387904) (hb : ∀ x ∈ b, x.sigs.length < 4611686018427387904) (hl : a.length < 4611686018427387904) (hl2 : b.length < 4611686018427387904) :
    Spc Try.prog F_ref35_Alike [vOs a, vOs b] [] (vB (sameL sameO a b)) [] := by
  refine spec_of_ir fn_ref35_Alike mixm (by simp) fun e _ hst => W_start ?_
  unfold ir_ref35_Alike
  simp only [tl, tl2, tl4, ↓un_u, isCallR, entX, argFr, ret, retI, retB, intT, unT, endR, ressR, resR, tupT, bslR, boxR, lenAll, ↓reduceIte, Nat.reduceEqDiff, Nat.reduceAdd, Nat.reduceMul, Nat.reduceLT, Nat.reduceLeDiff, reduceCtorEq, Int.reduceLE, Int.reduceLT, ne_eq, Int.reduceEq, not_false_eq_true, decide_true, decide_false, Int.reduceToNat, tl3, Int.reduceBNe, Int.reduceBEq, rmK, rm1, not_true_eq_false, decide_eq_true_eq, decide_eq_false_iff_not, Bool.or_eq_true, Bool.or_eq_false_iff, Bool.and_eq_true, Bool.and_eq_false_iff, bne_iff_ne, bne_eq_false_iff_eq]
  refine ⟨fun h => ?_, fun h => ?_⟩
  · rw [sameL_ne (by omega)]
    refine .of [] [] rfl (by first | rfl | (rw [hst]; rfl)) ?_ ?_
    all_goals (try exact clA)
  have hab : a.length = b.length := by omega
  refine W_loopF mixm (α := Nat) [13] (fun i => i ≤ a.length ∧ (sameL sameO (a.take i) (b.take i) = true)) (fun i => [(13, vI i)]) (fun i => []) (fun i => a.length - i) 0 ⟨by omega, ?_⟩ ?_ fun i hi => ?_
  · rfl
  · refine .of [] [] rfl (by first | rfl | (rw [hst]; rfl)) ?_ ?_
    all_goals (try exact clA)
  simp only [tl, tl2, tl4, ↓un_u, isCallR, entX, argFr, ret, retI, retB, intT, unT, endR, ressR, resR, tupT, bslR, boxR, lenAll, ↓reduceIte, Nat.reduceEqDiff, Nat.reduceAdd, Nat.reduceMul, Nat.reduceLT, Nat.reduceLeDiff, reduceCtorEq, Int.reduceLE, Int.reduceLT, ne_eq, Int.reduceEq, not_false_eq_true, decide_true, decide_false, Int.reduceToNat, tl3, Int.reduceBNe, Int.reduceBEq, rmK, rm1, not_true_eq_false, decide_eq_true_eq, decide_eq_false_iff_not]
  refine ⟨fun h => ?_, fun h => ?_⟩
  · have hib : i < b.length := by omega
    have hs := fun h => c_ref35_Same_any a[i] b[i] (ha _ (List.getElem_mem (h : i < a.length))) (hb _ (List.getElem_mem hib))
    have hi2 : i < a.length := by omega
    have hwi := i64_succ (i := i) (by omega)
    simp only [tl, tl2, tl4, ↓un_u, isCallR, entX, argFr, ret, retI, retB, intT, unT, endR, ressR, resR, tupT, bslR, boxR, lenAll, ↓reduceIte, Nat.reduceEqDiff, Nat.reduceAdd, Nat.reduceMul, Nat.reduceLT, Nat.reduceLeDiff, reduceCtorEq, Int.reduceLE, Int.reduceLT, ne_eq, Int.reduceEq, not_false_eq_true, decide_true, decide_false, Int.reduceToNat, tl3, Int.reduceBNe, Int.reduceBEq, rmK, rm1, not_true_eq_false, Int.toNat_natCast, getD_mapT hi2, hwi, getD_mapT hib]
    refine ⟨by omega, by omega, ?_⟩
    refine C1.im (hs (by omega)) (by rfl) (by rfl) ?_
    simp only [tl, tl2, tl4, ↓un_u, isCallR, entX, argFr, ret, retI, retB, intT, unT, endR, ressR, resR, tupT, bslR, boxR, lenAll, ↓reduceIte, Nat.reduceEqDiff, Nat.reduceAdd, Nat.reduceMul, Nat.reduceLT, Nat.reduceLeDiff, reduceCtorEq, Int.reduceLE, Int.reduceLT, ne_eq, Int.reduceEq, not_false_eq_true, decide_true, decide_false, Int.reduceToNat, tl3, Int.reduceBNe, Int.reduceBEq, rmK, rm1, not_true_eq_false, Bool.not_eq_true', Bool.not_eq_false']
    refine ⟨by kernel_rfl, fun h3 => ?_, fun h3 => ?_⟩
    · rw [sameL_false hab hi2 h3]
      refine .of [] [] rfl (by first | rfl | (rw [hst]; rfl)) ?_ ?_
      all_goals (try exact clA)
    · refine ⟨i + 1, ⟨by omega, ?_⟩, by omega, ?_⟩
      · rw [sameL_snoc hi2 hib, hi.2, h3]; rfl
      · refine .of [] [] rfl (by first | rfl | (rw [hst]; rfl)) ?_ ?_
        all_goals (try exact clA)
  · have hi2 : i = a.length := by omega
    subst hi2
    have h3 := hi.2
    rw [List.take_length, hab, List.take_length] at h3
    rw [h3]
    refine .of [] [] rfl (by first | rfl | (rw [hst]; rfl)) ?_ ?_
    all_goals (try exact clA)

end Go.Proofs

