import Derived.Test.YtnejebkdlofdoaaP35
set_option linter.unusedSimpArgs false
set_option linter.unusedVariables false
namespace Go.Proofs
open Go Go.TL
/-! ltSto, ltO2, ltO1, ltAs, ltA, ltC, ltC0, ltC0s, ltCs, ltT, ltFr, ltS, wrOk, wrO, TL.get, hasFr, ↓reduceIte, Nat.reduceEqDiff, reduceCtorEq, Option.getD_some, Option.isSome_some, List.length_map, List.length_append, List.length_cons, List.length_nil, List.append_nil, List.mem_singleton, List.mem_cons, List.not_mem_nil, and_true, true_and, and_self, imp_self, forall_const, false_implies, implies_true, true_implies, or_false, Bool.false_eq_true, Bool.true_eq_false, ImXs_nil, true_or, or_true, false_or, false_and, and_false, rmK, rm1# QueueNumbers -/
theorem upd_next {l : List Out} {x : Out} (h : x.num = (l.length : Int) + 1) : upd l x = l ++ [x] := by rw [upd, if_pos h]
theorem seq_snoc {xs : List Out} {x : Out} (h : okN xs []) (hl : (xs.foldl upd []).length = xs.length) (hv : validO x = true) (hn : x.num = (xs.length : Int) + 1) :
    okN (xs ++ [x]) [] ∧ ((xs ++ [x]).foldl upd []).length = (xs ++ [x]).length := by
  refine ⟨(okN_snoc xs [] x).2 ⟨h, hv, by omega⟩, ?_⟩
  rw [List.foldl_append, List.foldl_cons, List.foldl_nil, upd_next (by rw [hl]; exact hn)]
  simp [hl]
theorem recs_small {xs : List Out} (h : okN xs []) (hl : xs.length ≤ 40) : (whole (recs xs)).length ≤ 200000 := by
  have := recs_length h
  omega
theorem numbers_law (l : List UInt8) (k : Int) (hk : 0 ≤ k ∧ k ≤ 255) : Spc Try.prog F_law35_QueueNumbers [vL l, .v (.int .u8 k)] [] (vB true) [] := by
  have hl : (l.take 400).length ≤ 400 := by rw [List.length_take]; omega
  generalize hcs : l.take 400 = cs at *
  have r1 := nx_range cs 0 5 (by omega)
  have g1 := nx_le cs 0 5 (Nat.zero_le _)
  have c1 := c_draw_Codes_Next cs 0 5 hl (Nat.zero_le _) (by omega)
  generalize nx cs 0 5 = d1 at *
  obtain ⟨n, a1⟩ := d1
  dsimp only at r1 g1 c1
  obtain ⟨n, rfl⟩ := Int.eq_ofNat_of_zero_le r1.1
  refine spec_of_ir fn_law35_QueueNumbers mixm (by simp) fun e _ hst => W_start ?_
  unfold ir_law35_QueueNumbers
  simp only [tl, tl2, tl4, ↓un_u, isCallR, entX, argFr, ret, retI, retB, intT, unT, endR, ressR, resR, tupT, bslR, boxR, lenAll, ↓reduceIte, Nat.reduceEqDiff, Nat.reduceAdd, Nat.reduceMul, Nat.reduceLT, Nat.reduceLeDiff, reduceCtorEq, Int.reduceLE, Int.reduceLT, ne_eq, Int.reduceEq, not_false_eq_true, decide_true, decide_false, Int.reduceToNat, tl3, Int.reduceBNe, Int.reduceBEq, rmK, rm1, not_true_eq_false]
  refine C1.newdraw 8196 (c_draw_New l) rfl (by rfl) ?_
  simp only [tl, tl2, tl4, ↓un_u, isCallR, entX, argFr, ret, retI, retB, intT, unT, endR, ressR, resR, tupT, bslR, boxR, lenAll, ↓reduceIte, Nat.reduceEqDiff, Nat.reduceAdd, Nat.reduceMul, Nat.reduceLT, Nat.reduceLeDiff, reduceCtorEq, Int.reduceLE, Int.reduceLT, ne_eq, Int.reduceEq, not_false_eq_true, decide_true, decide_false, Int.reduceToNat, tl3, Int.reduceBNe, Int.reduceBEq, rmK, rm1, not_true_eq_false, hcs]
  refine C1.draw 8196 cs _ _ c1 rfl rfl rfl ?_
  simp only [tl, tl2, tl4, ↓un_u, isCallR, entX, argFr, ret, retI, retB, intT, unT, endR, ressR, resR, tupT, bslR, boxR, lenAll, ↓reduceIte, Nat.reduceEqDiff, Nat.reduceAdd, Nat.reduceMul, Nat.reduceLT, Nat.reduceLeDiff, reduceCtorEq, Int.reduceLE, Int.reduceLT, ne_eq, Int.reduceEq, not_false_eq_true, decide_true, decide_false, Int.reduceToNat, tl3, Int.reduceBNe, Int.reduceBEq, rmK, rm1, not_true_eq_false]
  refine W_loopF mixm (α := List Out × Nat) [8] (fun p => okN p.1 [] ∧ (p.1.foldl upd []).length = p.1.length ∧ p.1.length ≤ n ∧ p.2 ≤ cs.length) (fun p => [(8, vI ((p.1.length : Int) + 1))]) (fun p => [(8196, oC cs p.2), (12288, .arr 2 [vF (whole (recs p.1)) []] false)]) (fun p => n - p.1.length) ([], a1) ⟨trivial, rfl, by simp, g1⟩ ?_ fun p hp => ?_
  · rw [show whole (recs ([] : List Out)) = [] from rfl]
    refine .of [(8196, some 8196), (12288, some 12288)] [] rfl (by first | rfl | (rw [hst]; rfl)) ?_ ?_
    all_goals (try simp only [ltSto, ltO2, ltO1, ltAs, ltA, ltC, ltC0, ltC0s, ltCs, ltT, ltFr, ltS, wrOk, wrO, TL.get, hasFr, ↓reduceIte, Nat.reduceEqDiff, reduceCtorEq, Option.getD_some, Option.isSome_some, List.length_map, List.length_append, List.length_cons, List.length_nil, List.append_nil, List.mem_singleton, List.mem_cons, List.not_mem_nil, and_true, true_and, and_self, imp_self, forall_const, false_implies, implies_true, true_implies, or_false, Bool.false_eq_true, Bool.true_eq_false, ImXs_nil, true_or, or_true, false_or, false_and, and_false, rmK, rm1, List.map_append, List.map_cons, List.map_nil, List.cons_append, List.nil_append, List.map_nil])
    all_goals (try (repeat' (first | exact ltXs_nil | (apply ltXs_map; intro _; exact ⟨rfl, rfl⟩) | (apply imXs_map; intro _; exact ⟨rfl, rfl⟩) | with_reducible apply imXs_append | with_reducible refine imXs_cons ⟨rfl, rfl⟩ ?_ | exact imXs_nil | with_reducible apply ltXs_append | with_reducible refine ltXs_cons ⟨rfl, rfl, ?_⟩ ?_ | with_reducible apply And.intro | exact ltCs_im rfl | exact ltCs_im (by assumption) | (refine ⟨⟨?_, rfl, ?_, rfl, ?_⟩, trivial⟩ <;> first | (simp; done) | (apply imXs_map; intro _; exact ⟨rfl, rfl⟩)) | trivial | rfl | (rw [i64_succ (by omega)]) | omega)))
    done
  obtain ⟨xs, a⟩ := p
  obtain ⟨p1, p2, p3, p4⟩ := hp
  dsimp only at p1 p2 p3 p4
  simp only [tl, tl2, tl4, ↓un_u, isCallR, entX, argFr, ret, retI, retB, intT, unT, endR, ressR, resR, tupT, bslR, boxR, lenAll, ↓reduceIte, Nat.reduceEqDiff, Nat.reduceAdd, Nat.reduceMul, Nat.reduceLT, Nat.reduceLeDiff, reduceCtorEq, Int.reduceLE, Int.reduceLT, ne_eq, Int.reduceEq, not_false_eq_true, decide_true, decide_false, Int.reduceToNat, tl3, Int.reduceBNe, Int.reduceBEq, rmK, rm1, not_true_eq_false, decide_eq_true_eq, decide_eq_false_iff_not]
  refine ⟨fun h => ?_, fun h => ?_⟩
  · have hv := outA_valid cs a ((xs.length : Int) + 1) (by omega)
    have hnum := outA_num cs a ((xs.length : Int) + 1)
    have hle := outA_le cs a ((xs.length : Int) + 1) p4
    have cm := c_made_Output cs a ((xs.length : Int) + 1) hl p4
    generalize outA cs a ((xs.length : Int) + 1) = d at *
    obtain ⟨x, a2⟩ := d
    dsimp only at hv hnum hle cm
    obtain ⟨_, _, _, _, _, _, v7, _⟩ := valid_parts hv
    have cp := c_ref35_Put (whole (recs xs)) [] x (by omega) (by have := recs_small p1 (by omega); omega) (by simp)
    rw [put_any p1 (by omega) hv, if_neg (by omega)] at cp
    obtain ⟨q1, q2⟩ := seq_snoc p1 p2 hv hnum
    have hwx : IntKind.i64.wrap ((xs.length : Int) + 1 + 1) = ((xs ++ [x]).length : Int) + 1 := by rw [IntWalk.i64_in _ (by omega)]; simp
    have hll : (xs ++ [x]).length = xs.length + 1 := by simp
    refine C1.draw 8196 cs _ _ cm rfl rfl rfl ?_
    simp only [tl, tl2, tl4, ↓un_u, isCallR, entX, argFr, ret, retI, retB, intT, unT, endR, ressR, resR, tupT, bslR, boxR, lenAll, ↓reduceIte, Nat.reduceEqDiff, Nat.reduceAdd, Nat.reduceMul, Nat.reduceLT, Nat.reduceLeDiff, reduceCtorEq, Int.reduceLE, Int.reduceLT, ne_eq, Int.reduceEq, not_false_eq_true, decide_true, decide_false, Int.reduceToNat, tl3, Int.reduceBNe, Int.reduceBEq, rmK, rm1, not_true_eq_false]
    refine C1.im cp (by rfl) (by rfl) ?_
    simp only [tl, tl2, tl4, ↓un_u, isCallR, entX, argFr, ret, retI, retB, intT, unT, endR, ressR, resR, tupT, bslR, boxR, lenAll, ↓reduceIte, Nat.reduceEqDiff, Nat.reduceAdd, Nat.reduceMul, Nat.reduceLT, Nat.reduceLeDiff, reduceCtorEq, Int.reduceLE, Int.reduceLT, ne_eq, Int.reduceEq, not_false_eq_true, decide_true, decide_false, Int.reduceToNat, tl3, Int.reduceBNe, Int.reduceBEq, rmK, rm1, not_true_eq_false, hwx]
    refine ⟨by kernel_rfl, (xs ++ [x], a2), ⟨q1, q2, by dsimp only; omega, hle⟩, by dsimp only; omega, ?_⟩
    refine .of [(8196, some 8196), (12288, some 12288)] [] rfl (by first | rfl | (rw [hst]; rfl)) ?_ ?_
    all_goals (try exact clA)
  · have hn : xs.length = n := by omega
    subst hn
    have hm : k % 30 = k.tmod 30 := by rw [Int.tmod_eq_emod_of_nonneg hk.1]
    have hwk : IntKind.i64.wrap k = k := IntWalk.i64_in _ (by omega)
    have hw1 : IntKind.i64.wrap ((xs.length : Int) + 2) = (xs.length : Int) + 2 := IntWalk.i64_in _ (by omega)
    have hw2 : IntKind.i64.wrap ((xs.length : Int) + 2 + k % 30) = (xs.length : Int) + 2 + k % 30 := IntWalk.i64_in _ (by omega)
    have hv := outA_valid cs a ((xs.length : Int) + 2 + k % 30) (by omega)
    have hnum := outA_num cs a ((xs.length : Int) + 2 + k % 30)
    have cm := c_made_Output cs a ((xs.length : Int) + 2 + k % 30) hl p4
    generalize outA cs a ((xs.length : Int) + 2 + k % 30) = d at *
    obtain ⟨x, a2⟩ := d
    dsimp only at hv hnum cm
    obtain ⟨_, _, _, _, _, _, v7, _⟩ := valid_parts hv
    have cp := c_queue_Put (whole (recs xs)) [] x (by omega) (by have := recs_small p1 (by omega); omega) (by simp)
    rw [put_any p1 (by omega) hv, if_pos (by omega)] at cp
    have cS := c_ref23_Same (whole (recs xs)) [] (whole (recs xs)) []
    rw [show ((whole (recs xs) == whole (recs xs)) && (([] : List UInt8) == [])) = true by simp] at cS
    generalize whole (recs xs) = b at *
    simp only [tl, tl2, tl4, ↓un_u, isCallR, entX, argFr, ret, retI, retB, intT, unT, endR, ressR, resR, tupT, bslR, boxR, lenAll, ↓reduceIte, Nat.reduceEqDiff, Nat.reduceAdd, Nat.reduceMul, Nat.reduceLT, Nat.reduceLeDiff, reduceCtorEq, Int.reduceLE, Int.reduceLT, ne_eq, Int.reduceEq, not_false_eq_true, decide_true, decide_false, Int.reduceToNat, tl3, Int.reduceBNe, Int.reduceBEq, rmK, rm1, not_true_eq_false, hwk, ← hm, hw1, hw2]
    refine C1.draw 8196 cs _ _ cm rfl rfl rfl ?_
    simp only [tl, tl2, tl4, ↓un_u, isCallR, entX, argFr, ret, retI, retB, intT, unT, endR, ressR, resR, tupT, bslR, boxR, lenAll, ↓reduceIte, Nat.reduceEqDiff, Nat.reduceAdd, Nat.reduceMul, Nat.reduceLT, Nat.reduceLeDiff, reduceCtorEq, Int.reduceLE, Int.reduceLT, ne_eq, Int.reduceEq, not_false_eq_true, decide_true, decide_false, Int.reduceToNat, tl3, Int.reduceBNe, Int.reduceBEq, rmK, rm1, not_true_eq_false]
    refine C1.im cp (by rfl) (by rfl) ?_
    simp only [tl, tl2, tl4, ↓un_u, isCallR, entX, argFr, ret, retI, retB, intT, unT, endR, ressR, resR, tupT, bslR, boxR, lenAll, ↓reduceIte, Nat.reduceEqDiff, Nat.reduceAdd, Nat.reduceMul, Nat.reduceLT, Nat.reduceLeDiff, reduceCtorEq, Int.reduceLE, Int.reduceLT, ne_eq, Int.reduceEq, not_false_eq_true, decide_true, decide_false, Int.reduceToNat, tl3, Int.reduceBNe, Int.reduceBEq, rmK, rm1, not_true_eq_false]
    refine C2.one (by trivial) (C1.im cS (by rfl) (by rfl) ?_)
    simp only [tl, tl2, tl4, ↓un_u, isCallR, entX, argFr, ret, retI, retB, intT, unT, endR, ressR, resR, tupT, bslR, boxR, lenAll, ↓reduceIte, Nat.reduceEqDiff, Nat.reduceAdd, Nat.reduceMul, Nat.reduceLT, Nat.reduceLeDiff, reduceCtorEq, Int.reduceLE, Int.reduceLT, ne_eq, Int.reduceEq, not_false_eq_true, decide_true, decide_false, Int.reduceToNat, tl3, Int.reduceBNe, Int.reduceBEq, rmK, rm1, not_true_eq_false]
    refine C2.one (by trivial) (C1.im c_law35_awake (by rfl) (by rfl) ?_)
    simp only [tl, tl2, tl4, ↓un_u, isCallR, entX, argFr, ret, retI, retB, intT, unT, endR, ressR, resR, tupT, bslR, boxR, lenAll, ↓reduceIte, Nat.reduceEqDiff, Nat.reduceAdd, Nat.reduceMul, Nat.reduceLT, Nat.reduceLeDiff, reduceCtorEq, Int.reduceLE, Int.reduceLT, ne_eq, Int.reduceEq, not_false_eq_true, decide_true, decide_false, Int.reduceToNat, tl3, Int.reduceBNe, Int.reduceBEq, rmK, rm1, not_true_eq_false]
    refine .of [] [] rfl (by first | rfl | (rw [hst]; rfl)) ?_ ?_
    all_goals (try exact clA)

end Go.Proofs

