import Derived.Test.YtnhhmfplebpipaaV
set_option linter.unusedSimpArgs false
set_option linter.unusedVariables false
namespace Go.Proofs
open Go Go.TL
/-! ltSto, ltO2, ltO1, ltAs, ltA, ltC, ltCs, ltT, ltFr, ltS, wrOk, wrO, TL.get, hasFr, ↓reduceIte, Nat.reduceEqDiff, reduceCtorEq, Option.getD_some, Option.isSome_some, List.length_map, List.length_append, List.length_cons, List.length_nil, List.append_nil, List.mem_singleton, List.mem_cons, List.not_mem_nil, and_true, true_and, and_self, imp_self, forall_const, false_implies, implies_true, true_implies, or_false, Bool.false_eq_true, Bool.true_eq_false, ImXs_nil, true_or, or_true, false_or, false_and, and_false# all answers -/
structure Row34 where
  r : Int
  c : Int
  t : List Int
  x : List Int
  b : Int
def rowT (q : Row34) : T := .agg [vI q.r, vI q.c, vIs q.t, vIs q.x, vI q.b]
theorem ans_form (r c : Int) (t : List Int) (b : Int) : ∃ P E, ansT r c t b = .tup [vIs P, vI E] ∧ P.length ≤ 12 := by
  unfold ansT
  split
  · rename_i h
    obtain ⟨r, c, rfl, rfl, h1, h2, h3, h4, h5, h6⟩ := chk_all h
    refine ⟨_, _, rfl, ?_⟩
    rw [show (fstT ((r : Int)).toNat ((c : Int)).toNat t b) = fstT r c t b from rfl, (fst_ok (by omega) (by omega) h4).1]
    exact h3
  · exact ⟨[], _, rfl, by simp⟩
theorem chk_form (r c : Int) (t x : List Int) (b : Int) : ∃ B E, chkT r c t x b = .tup [vB B, vI E] := by
  unfold chkT
  split
  · exact ⟨_, _, rfl⟩
  · split
    · exact ⟨_, _, rfl⟩
    · split
      · exact ⟨_, _, rfl⟩
      · exact ⟨_, _, rfl⟩
theorem vals_form (t : List Int) (b : Int) : ∃ (V : List (List Int)) (E : Int), valsR t b = .tup [.sl 1 (V.map vIs), vI E] ∧ V.length ≤ 12 ∧ ∀ v ∈ V, v.length ≤ 2 := by
  unfold valsR
  split
  · exact ⟨[], _, rfl, by simp, by simp⟩
  · split
    · refine ⟨_, _, rfl, by simp; omega, fun v hv => ?_⟩
      obtain ⟨n, _, rfl⟩ := List.mem_map.1 hv
      exact (choi_len n b).2
    · exact ⟨[], _, rfl, by simp, by simp⟩
theorem imXs_rows (R : List Row34) : ImXs 5 (R.map rowT) := imXs_map (k := 5) (f := rowT) (fun _ => ⟨rfl, rfl⟩) R
theorem c6 (rr cc : Int) (raw rnd : List Int) (base : Int) (l : List UInt8) (h1 : raw.length < 4611686018427387904) (h2 : rnd.length < 4611686018427387904) :
    Spc Try.prog 6 [vI rr, vI cc, vIs raw, vIs rnd, vI base, vL l] [] (vB true) [] := by
  obtain ⟨a, b, t, n, p, q1, q2, q3, q4, q5, h8⟩ := c8 (l.take 400) (by simp; omega)
  have hrc := tbl_len q1 q2
  refine spec_of_ir fn6 mixm (by simp) fun e _ hst => W_start ?_
  unfold ir6
  simp only [tl, tl2, isCallR, entX, argFr, ret, retI, retB, intT, unT, endR, ressR, resR, tupT, bslR, boxR, lenAll, ↓reduceIte, Nat.reduceEqDiff, Nat.reduceAdd, Nat.reduceMul, Nat.reduceLT, Nat.reduceLeDiff, reduceCtorEq, Int.reduceLE, Int.reduceLT, ne_eq, Int.reduceEq, not_false_eq_true, decide_true, decide_false, Int.reduceToNat, tl3, Int.reduceBNe, Int.reduceBEq, Bool.or_eq_true, Bool.or_eq_false_iff, decide_eq_true_eq, decide_eq_false_iff_not]
  refine ⟨fun h => ?_, fun h => ?_⟩
  · refine C1.im c12 rfl (by rfl) ?_
    simp only [tl, tl2, isCallR, entX, argFr, ret, retI, retB, intT, unT, endR, ressR, resR, tupT, bslR, boxR, lenAll, ↓reduceIte, Nat.reduceEqDiff, Nat.reduceAdd, Nat.reduceMul, Nat.reduceLT, Nat.reduceLeDiff, reduceCtorEq, Int.reduceLE, Int.reduceLT, ne_eq, Int.reduceEq, not_false_eq_true, decide_true, decide_false, Int.reduceToNat, tl3, Int.reduceBNe, Int.reduceBEq]
    exact .imR rfl rfl
  refine C1.newd 16388 (l.take 400) 0 (c9 l) rfl (by rfl) ?_
  simp only [tl, tl2, isCallR, entX, argFr, ret, retI, retB, intT, unT, endR, ressR, resR, tupT, bslR, boxR, lenAll, ↓reduceIte, Nat.reduceEqDiff, Nat.reduceAdd, Nat.reduceMul, Nat.reduceLT, Nat.reduceLeDiff, reduceCtorEq, Int.reduceLE, Int.reduceLT, ne_eq, Int.reduceEq, not_false_eq_true, decide_true, decide_false, Int.reduceToNat, tl3, Int.reduceBNe, Int.reduceBEq]
  refine C1.draw 16388 (l.take 400) 0 p h8 rfl rfl rfl ?_
  simp only [tl, tl2, isCallR, entX, argFr, ret, retI, retB, intT, unT, endR, ressR, resR, tupT, bslR, boxR, lenAll, ↓reduceIte, Nat.reduceEqDiff, Nat.reduceAdd, Nat.reduceMul, Nat.reduceLT, Nat.reduceLeDiff, reduceCtorEq, Int.reduceLE, Int.reduceLT, ne_eq, Int.reduceEq, not_false_eq_true, decide_true, decide_false, Int.reduceToNat, tl3, Int.reduceBNe, Int.reduceBEq]
  obtain ⟨R, hR⟩ : ∃ R : List Row34, R = [⟨rr, cc, raw, rnd, base⟩, ⟨a, b, t, rnd, n⟩, ⟨a, b, raw, t, n⟩, ⟨a, b, t, t, base⟩, ⟨rr, b, t, t, n⟩, ⟨a, b, t, t, n⟩] := ⟨_, rfl⟩
  have hRl : R.length = 6 := by rw [hR]; rfl
  have hRb : ∀ q ∈ R, q.t.length ≤ 40 ∧ q.x.length ≤ 40 := by
    intro q hq
    rw [hR] at hq
    simp only [List.mem_cons, List.not_mem_nil, or_false] at hq
    rcases hq with rfl | rfl | rfl | rfl | rfl | rfl <;> simp only <;> omega
  have hRT : R.map rowT = [rowT ⟨rr, cc, raw, rnd, base⟩, rowT ⟨a, b, t, rnd, n⟩, rowT ⟨a, b, raw, t, n⟩, rowT ⟨a, b, t, t, base⟩, rowT ⟨rr, b, t, t, n⟩, rowT ⟨a, b, t, t, n⟩] := by rw [hR]; rfl
  refine W_loop mixm (α := Nat) (fun i => i ≤ 6) (fun i => [(85, .sl 5 (R.map rowT)), (86, vI 6), (87, vI i)]) (fun _ => []) (fun i => 6 - i) 0 (by omega) ?_ fun i hi => ?_
  · refine .of [] [20624] rfl (by rw [hst]; rfl) trivial ?_
    simp only [ltSto, ltO2, ltO1, ltAs, ltA, ltC, ltCs, ltT, ltFr, ltS, wrOk, wrO, TL.get, hasFr, ↓reduceIte, Nat.reduceEqDiff, reduceCtorEq, Option.getD_some, Option.isSome_some, List.length_map, List.length_append, List.length_cons, List.length_nil, List.append_nil, List.mem_singleton, List.mem_cons, List.not_mem_nil, and_true, true_and, and_self, imp_self, forall_const, false_implies, implies_true, true_implies, or_false, Bool.false_eq_true, Bool.true_eq_false, ImXs_nil, true_or, or_true, false_or, false_and, and_false]
    have him := imXs_rows R
    rw [hRT] at him
    exact ⟨⟨hRT, him⟩, rfl, rfl⟩
  simp only [tl, tl2, isCallR, entX, argFr, ret, retI, retB, intT, unT, endR, ressR, resR, tupT, bslR, boxR, lenAll, ↓reduceIte, Nat.reduceEqDiff, Nat.reduceAdd, Nat.reduceMul, Nat.reduceLT, Nat.reduceLeDiff, reduceCtorEq, Int.reduceLE, Int.reduceLT, ne_eq, Int.reduceEq, not_false_eq_true, decide_true, decide_false, Int.reduceToNat, tl3, Int.reduceBNe, Int.reduceBEq, decide_eq_true_eq, decide_eq_false_iff_not]
  refine ⟨fun h => ?_, fun h => ?_⟩
  · have hi2 : i < R.length := by omega
    have hgR : (R.map rowT).getD i .junk = rowT R[i] := by
      rw [getD_get (by simpa using hi2)]; simp
    obtain ⟨q1', q2'⟩ := hRb _ (List.getElem_mem hi2)
    generalize R[i] = q at *
    obtain ⟨r, c, t', x, b'⟩ := q
    simp only [rowT] at hgR
    simp only at q1' q2'
    simp only [tl, tl2, isCallR, entX, argFr, ret, retI, retB, intT, unT, endR, ressR, resR, tupT, bslR, boxR, lenAll, ↓reduceIte, Nat.reduceEqDiff, Nat.reduceAdd, Nat.reduceMul, Nat.reduceLT, Nat.reduceLeDiff, reduceCtorEq, Int.reduceLE, Int.reduceLT, ne_eq, Int.reduceEq, not_false_eq_true, decide_true, decide_false, Int.reduceToNat, tl3, Int.reduceBNe, Int.reduceBEq, Int.toNat_natCast, hgR, List.length_map, hRl]
    refine ⟨by omega, fun h => ⟨i + 1, by omega, by omega, .of [] [] rfl (by rw [hst]; rfl) trivial ?_⟩, fun h => ?_⟩
    · simp only [ltSto, ltO2, ltO1, ltAs, ltA, ltC, ltCs, ltT, ltFr, ltS, wrOk, wrO, TL.get, hasFr, ↓reduceIte, Nat.reduceEqDiff, reduceCtorEq, Option.getD_some, Option.isSome_some, List.length_map, List.length_append, List.length_cons, List.length_nil, List.append_nil, List.mem_singleton, List.mem_cons, List.not_mem_nil, and_true, true_and, and_self, imp_self, forall_const, false_implies, implies_true, true_implies, or_false, Bool.false_eq_true, Bool.true_eq_false, ImXs_nil, true_or, or_true, false_or, false_and, and_false]
      rw [IntWalk.i64_in _ (by omega)]
      rfl
    obtain ⟨P, E1, hP, hPl⟩ := ans_form r c t' b'
    obtain ⟨B, E2, hB⟩ := chk_form r c t' x b'
    obtain ⟨V, E3, hV, hVl, hVb⟩ := vals_form t' b'
    have k1 := c10a r c t' b' (by omega)
    have k2 := c14a r c t' b' (by omega)
    have k3 := c11 r c t' x b' (by omega) (by omega)
    have k4 := c15 r c t' x b' (by omega) (by omega)
    have k5 := c16 t' b' (by omega)
    have k6 := c17 t' b' (by omega)
    rw [hP] at k1 k2
    rw [hB] at k3 k4
    rw [hV] at k5 k6
    refine C1.im k1 rfl (by rfl) ?_
    simp only [tl, tl2, isCallR, entX, argFr, ret, retI, retB, intT, unT, endR, ressR, resR, tupT, bslR, boxR, lenAll, ↓reduceIte, Nat.reduceEqDiff, Nat.reduceAdd, Nat.reduceMul, Nat.reduceLT, Nat.reduceLeDiff, reduceCtorEq, Int.reduceLE, Int.reduceLT, ne_eq, Int.reduceEq, not_false_eq_true, decide_true, decide_false, Int.reduceToNat, tl3, Int.reduceBNe, Int.reduceBEq]
    refine C1.im k2 rfl (by rfl) ?_
    simp only [tl, tl2, isCallR, entX, argFr, ret, retI, retB, intT, unT, endR, ressR, resR, tupT, bslR, boxR, lenAll, ↓reduceIte, Nat.reduceEqDiff, Nat.reduceAdd, Nat.reduceMul, Nat.reduceLT, Nat.reduceLeDiff, reduceCtorEq, Int.reduceLE, Int.reduceLT, ne_eq, Int.reduceEq, not_false_eq_true, decide_true, decide_false, Int.reduceToNat, tl3, Int.reduceBNe, Int.reduceBEq]
    refine C1.im k3 rfl (by rfl) ?_
    simp only [tl, tl2, isCallR, entX, argFr, ret, retI, retB, intT, unT, endR, ressR, resR, tupT, bslR, boxR, lenAll, ↓reduceIte, Nat.reduceEqDiff, Nat.reduceAdd, Nat.reduceMul, Nat.reduceLT, Nat.reduceLeDiff, reduceCtorEq, Int.reduceLE, Int.reduceLT, ne_eq, Int.reduceEq, not_false_eq_true, decide_true, decide_false, Int.reduceToNat, tl3, Int.reduceBNe, Int.reduceBEq]
    refine C1.im k4 rfl (by rfl) ?_
    simp only [tl, tl2, isCallR, entX, argFr, ret, retI, retB, intT, unT, endR, ressR, resR, tupT, bslR, boxR, lenAll, ↓reduceIte, Nat.reduceEqDiff, Nat.reduceAdd, Nat.reduceMul, Nat.reduceLT, Nat.reduceLeDiff, reduceCtorEq, Int.reduceLE, Int.reduceLT, ne_eq, Int.reduceEq, not_false_eq_true, decide_true, decide_false, Int.reduceToNat, tl3, Int.reduceBNe, Int.reduceBEq]
    refine C1.im k5 rfl (by rfl) ?_
    simp only [tl, tl2, isCallR, entX, argFr, ret, retI, retB, intT, unT, endR, ressR, resR, tupT, bslR, boxR, lenAll, ↓reduceIte, Nat.reduceEqDiff, Nat.reduceAdd, Nat.reduceMul, Nat.reduceLT, Nat.reduceLeDiff, reduceCtorEq, Int.reduceLE, Int.reduceLT, ne_eq, Int.reduceEq, not_false_eq_true, decide_true, decide_false, Int.reduceToNat, tl3, Int.reduceBNe, Int.reduceBEq]
    refine C1.im k6 rfl (by rfl) ?_
    simp only [tl, tl2, isCallR, entX, argFr, ret, retI, retB, intT, unT, endR, ressR, resR, tupT, bslR, boxR, lenAll, ↓reduceIte, Nat.reduceEqDiff, Nat.reduceAdd, Nat.reduceMul, Nat.reduceLT, Nat.reduceLeDiff, reduceCtorEq, Int.reduceLE, Int.reduceLT, ne_eq, Int.reduceEq, not_false_eq_true, decide_true, decide_false, Int.reduceToNat, tl3, Int.reduceBNe, Int.reduceBEq]
    refine C1.im (c13 P P (by omega) (by omega)) rfl (by rfl) ?_
    simp only [tl, tl2, isCallR, entX, argFr, ret, retI, retB, intT, unT, endR, ressR, resR, tupT, bslR, boxR, lenAll, ↓reduceIte, Nat.reduceEqDiff, Nat.reduceAdd, Nat.reduceMul, Nat.reduceLT, Nat.reduceLeDiff, reduceCtorEq, Int.reduceLE, Int.reduceLT, ne_eq, Int.reduceEq, not_false_eq_true, decide_true, decide_false, Int.reduceToNat, tl3, Int.reduceBNe, Int.reduceBEq, beq_self_eq_true]
    refine ⟨fun h => by simp at h, fun _ => ?_⟩
    refine W_loop mixm (α := Nat) (fun j => j ≤ V.length) (fun j => [(27, .sl 1 (V.map vIs)), (29, .sl 1 (V.map vIs)), (85, .sl 5 (R.map rowT)), (86, vI 6), (87, vI i), (201, vI V.length), (202, vI j)]) (fun _ => []) (fun j => V.length - j) 0 (by omega) ?_ fun j hj => ?_
    · refine .of [] [] rfl (by rw [hst]; rfl) trivial ?_
      simp only [ltSto, ltO2, ltO1, ltAs, ltA, ltC, ltCs, ltT, ltFr, ltS, wrOk, wrO, TL.get, hasFr, ↓reduceIte, Nat.reduceEqDiff, reduceCtorEq, Option.getD_some, Option.isSome_some, List.length_map, List.length_append, List.length_cons, List.length_nil, List.append_nil, List.mem_singleton, List.mem_cons, List.not_mem_nil, and_true, true_and, and_self, imp_self, forall_const, false_implies, implies_true, true_implies, or_false, Bool.false_eq_true, Bool.true_eq_false, ImXs_nil, true_or, or_true, false_or, false_and, and_false]
      rfl
    simp only [tl, tl2, isCallR, entX, argFr, ret, retI, retB, intT, unT, endR, ressR, resR, tupT, bslR, boxR, lenAll, ↓reduceIte, Nat.reduceEqDiff, Nat.reduceAdd, Nat.reduceMul, Nat.reduceLT, Nat.reduceLeDiff, reduceCtorEq, Int.reduceLE, Int.reduceLT, ne_eq, Int.reduceEq, not_false_eq_true, decide_true, decide_false, Int.reduceToNat, tl3, Int.reduceBNe, Int.reduceBEq, decide_eq_true_eq, decide_eq_false_iff_not]
    refine ⟨fun h => ?_, fun h => ?_⟩
    · have hj2 : j < V.length := by omega
      have hgv : (V.map vIs).getD j .junk = vIs V[j] := by
        rw [getD_get (by simpa using hj2)]; simp
      have hvl := hVb _ (List.getElem_mem hj2)
      simp only [tl, tl2, isCallR, entX, argFr, ret, retI, retB, intT, unT, endR, ressR, resR, tupT, bslR, boxR, lenAll, ↓reduceIte, Nat.reduceEqDiff, Nat.reduceAdd, Nat.reduceMul, Nat.reduceLT, Nat.reduceLeDiff, reduceCtorEq, Int.reduceLE, Int.reduceLT, ne_eq, Int.reduceEq, not_false_eq_true, decide_true, decide_false, Int.reduceToNat, tl3, Int.reduceBNe, Int.reduceBEq, Int.toNat_natCast, hgv, List.length_map]
      refine ⟨by omega, by omega, ?_⟩
      refine C1.im (c13 V[j] V[j] (by omega) (by omega)) rfl (by rfl) ?_
      simp only [tl, tl2, isCallR, entX, argFr, ret, retI, retB, intT, unT, endR, ressR, resR, tupT, bslR, boxR, lenAll, ↓reduceIte, Nat.reduceEqDiff, Nat.reduceAdd, Nat.reduceMul, Nat.reduceLT, Nat.reduceLeDiff, reduceCtorEq, Int.reduceLE, Int.reduceLT, ne_eq, Int.reduceEq, not_false_eq_true, decide_true, decide_false, Int.reduceToNat, tl3, Int.reduceBNe, Int.reduceBEq, beq_self_eq_true]
      refine ⟨by kernel_rfl, ?_⟩
      refine ⟨j + 1, by omega, by omega, .of [] [] rfl (by rw [hst]; rfl) trivial ?_⟩
      simp only [ltSto, ltO2, ltO1, ltAs, ltA, ltC, ltCs, ltT, ltFr, ltS, wrOk, wrO, TL.get, hasFr, ↓reduceIte, Nat.reduceEqDiff, reduceCtorEq, Option.getD_some, Option.isSome_some, List.length_map, List.length_append, List.length_cons, List.length_nil, List.append_nil, List.mem_singleton, List.mem_cons, List.not_mem_nil, and_true, true_and, and_self, imp_self, forall_const, false_implies, implies_true, true_implies, or_false, Bool.false_eq_true, Bool.true_eq_false, ImXs_nil, true_or, or_true, false_or, false_and, and_false]
      rw [IntWalk.i64_in _ (by omega)]
      rfl
    · refine ⟨i + 1, by omega, by omega, .of [] [] rfl (by rw [hst]; rfl) trivial ?_⟩
      simp only [ltSto, ltO2, ltO1, ltAs, ltA, ltC, ltCs, ltT, ltFr, ltS, wrOk, wrO, TL.get, hasFr, ↓reduceIte, Nat.reduceEqDiff, reduceCtorEq, Option.getD_some, Option.isSome_some, List.length_map, List.length_append, List.length_cons, List.length_nil, List.append_nil, List.mem_singleton, List.mem_cons, List.not_mem_nil, and_true, true_and, and_self, imp_self, forall_const, false_implies, implies_true, true_implies, or_false, Bool.false_eq_true, Bool.true_eq_false, ImXs_nil, true_or, or_true, false_or, false_and, and_false]
      rw [IntWalk.i64_in _ (by omega)]
      rfl
  · refine C1.im c12 rfl (by rfl) ?_
    simp only [tl, tl2, isCallR, entX, argFr, ret, retI, retB, intT, unT, endR, ressR, resR, tupT, bslR, boxR, lenAll, ↓reduceIte, Nat.reduceEqDiff, Nat.reduceAdd, Nat.reduceMul, Nat.reduceLT, Nat.reduceLeDiff, reduceCtorEq, Int.reduceLE, Int.reduceLT, ne_eq, Int.reduceEq, not_false_eq_true, decide_true, decide_false, Int.reduceToNat, tl3, Int.reduceBNe, Int.reduceBEq]
    exact .imR rfl rfl
end Go.Proofs

