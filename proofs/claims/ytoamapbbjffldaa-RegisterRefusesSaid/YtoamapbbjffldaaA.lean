import Derived.Test.YtoamapbbjffldaaBase
set_option linter.unusedSimpArgs false
set_option linter.unusedVariables false
namespace Go.Proofs
open Go Go.TL
/-! ltSto, ltO2, ltO1, ltAs, ltA, ltC, ltCs, ltT, ltFr, ltS, wrOk, wrO, TL.get, hasFr, ↓reduceIte, Nat.reduceEqDiff, reduceCtorEq, Option.getD_some, Option.isSome_some, List.length_map, List.length_append, List.length_cons, List.length_nil, List.append_nil, List.mem_singleton, List.mem_cons, List.not_mem_nil, and_true, true_and, and_self, imp_self, forall_const, false_implies, implies_true, true_implies, or_false, Bool.false_eq_true, Bool.true_eq_false, ImXs_nil, true_or, or_true, false_or, false_and, and_false, rmK, rm1# sums of bytes -/
def sumStep (s : Int) (c : UInt8) : Int := IntKind.u64.wrap (xorI .u64 s (IntKind.u64.wrap c.toNat) * 1099511628211)
def sumI (l : List UInt8) : Int := l.foldl sumStep 14695981039346656037
abbrev vU (n : Int) : T := .v (.int .u64 n)
theorem sum_step {l : List UInt8} {i : Nat} (h : i < l.length) : sumI (l.take (i + 1)) = sumStep (sumI (l.take i)) (l.getD i 0) := by
  unfold sumI
  rw [List.take_succ_eq_append_getElem h, List.foldl_append, getD_get h]
  rfl
theorem c_register_Sum (l : List UInt8) (hl : l.length < 4611686018427387904) : Spc Try.prog F_register_Sum [vL l] [] (vU (sumI l)) [] := by
  refine spec_of_ir fn_register_Sum mixm (by simp) fun e _ hst => W_start ?_
  unfold ir_register_Sum
  simp only [tl, tl2, isCallR, entX, argFr, ret, retI, retB, intT, unT, endR, ressR, resR, tupT, bslR, boxR, lenAll, ↓reduceIte, Nat.reduceEqDiff, Nat.reduceAdd, Nat.reduceMul, Nat.reduceLT, Nat.reduceLeDiff, reduceCtorEq, Int.reduceLE, Int.reduceLT, ne_eq, Int.reduceEq, not_false_eq_true, decide_true, decide_false, Int.reduceToNat, tl3, Int.reduceBNe, Int.reduceBEq, rmK, rm1, not_true_eq_false]
  refine W_loop mixm (α := Nat) (fun i => i ≤ l.length) (fun i => [(3, vU (sumI (l.take i))), (6, vL l), (7, vI l.length), (8, vI i)]) (fun _ => []) (fun i => l.length - i) 0 (by omega) (.ofFr (by simp [hasFr, TL.get, sumI])) fun i hi => ?_
  simp only [tl, tl2, isCallR, entX, argFr, ret, retI, retB, intT, unT, endR, ressR, resR, tupT, bslR, boxR, lenAll, ↓reduceIte, Nat.reduceEqDiff, Nat.reduceAdd, Nat.reduceMul, Nat.reduceLT, Nat.reduceLeDiff, reduceCtorEq, Int.reduceLE, Int.reduceLT, ne_eq, Int.reduceEq, not_false_eq_true, decide_true, decide_false, Int.reduceToNat, tl3, Int.reduceBNe, Int.reduceBEq, rmK, rm1, not_true_eq_false, decide_eq_true_eq, decide_eq_false_iff_not]
  refine ⟨fun h => ?_, fun h => ?_⟩
  · have h2 : i < l.length := by omega
    simp only [tl, tl2, isCallR, entX, argFr, ret, retI, retB, intT, unT, endR, ressR, resR, tupT, bslR, boxR, lenAll, ↓reduceIte, Nat.reduceEqDiff, Nat.reduceAdd, Nat.reduceMul, Nat.reduceLT, Nat.reduceLeDiff, reduceCtorEq, Int.reduceLE, Int.reduceLT, ne_eq, Int.reduceEq, not_false_eq_true, decide_true, decide_false, Int.reduceToNat, tl3, Int.reduceBNe, Int.reduceBEq, rmK, rm1, not_true_eq_false, Int.toNat_natCast, getD_bytes h2]
    refine ⟨by omega, i + 1, by omega, by omega, .ofFr ?_⟩
    simp only [ltSto, ltO2, ltO1, ltAs, ltA, ltC, ltCs, ltT, ltFr, ltS, wrOk, wrO, TL.get, hasFr, ↓reduceIte, Nat.reduceEqDiff, reduceCtorEq, Option.getD_some, Option.isSome_some, List.length_map, List.length_append, List.length_cons, List.length_nil, List.append_nil, List.mem_singleton, List.mem_cons, List.not_mem_nil, and_true, true_and, and_self, imp_self, forall_const, false_implies, implies_true, true_implies, or_false, Bool.false_eq_true, Bool.true_eq_false, ImXs_nil, true_or, or_true, false_or, false_and, and_false, rmK, rm1, sum_step h2]
    rw [IntWalk.i64_in _ (by omega)]
    exact ⟨rfl, rfl⟩
  · have h2 : i = l.length := by omega
    subst h2
    rw [List.take_length]
    exact .imR rfl rfl
theorem c_ref38_Sum (l : List UInt8) (hl : l.length < 4611686018427387904) : Spc Try.prog F_ref38_Sum [vL l] [] (vU (sumI l)) [] := by
  refine spec_of_ir fn_ref38_Sum mixm (by simp) fun e _ hst => W_start ?_
  unfold ir_ref38_Sum
  simp only [tl, tl2, isCallR, entX, argFr, ret, retI, retB, intT, unT, endR, ressR, resR, tupT, bslR, boxR, lenAll, ↓reduceIte, Nat.reduceEqDiff, Nat.reduceAdd, Nat.reduceMul, Nat.reduceLT, Nat.reduceLeDiff, reduceCtorEq, Int.reduceLE, Int.reduceLT, ne_eq, Int.reduceEq, not_false_eq_true, decide_true, decide_false, Int.reduceToNat, tl3, Int.reduceBNe, Int.reduceBEq, rmK, rm1, not_true_eq_false]
  refine W_loop mixm (α := Nat) (fun i => i ≤ l.length) (fun i => [(3, vU (sumI (l.take i))), (6, vL l), (7, vI l.length), (8, vI i)]) (fun _ => []) (fun i => l.length - i) 0 (by omega) (.ofFr (by simp [hasFr, TL.get, sumI])) fun i hi => ?_
  simp only [tl, tl2, isCallR, entX, argFr, ret, retI, retB, intT, unT, endR, ressR, resR, tupT, bslR, boxR, lenAll, ↓reduceIte, Nat.reduceEqDiff, Nat.reduceAdd, Nat.reduceMul, Nat.reduceLT, Nat.reduceLeDiff, reduceCtorEq, Int.reduceLE, Int.reduceLT, ne_eq, Int.reduceEq, not_false_eq_true, decide_true, decide_false, Int.reduceToNat, tl3, Int.reduceBNe, Int.reduceBEq, rmK, rm1, not_true_eq_false, decide_eq_true_eq, decide_eq_false_iff_not]
  refine ⟨fun h => ?_, fun h => ?_⟩
  · have h2 : i < l.length := by omega
    simp only [tl, tl2, isCallR, entX, argFr, ret, retI, retB, intT, unT, endR, ressR, resR, tupT, bslR, boxR, lenAll, ↓reduceIte, Nat.reduceEqDiff, Nat.reduceAdd, Nat.reduceMul, Nat.reduceLT, Nat.reduceLeDiff, reduceCtorEq, Int.reduceLE, Int.reduceLT, ne_eq, Int.reduceEq, not_false_eq_true, decide_true, decide_false, Int.reduceToNat, tl3, Int.reduceBNe, Int.reduceBEq, rmK, rm1, not_true_eq_false, Int.toNat_natCast, getD_bytes h2]
    refine ⟨by omega, i + 1, by omega, by omega, .ofFr ?_⟩
    simp only [ltSto, ltO2, ltO1, ltAs, ltA, ltC, ltCs, ltT, ltFr, ltS, wrOk, wrO, TL.get, hasFr, ↓reduceIte, Nat.reduceEqDiff, reduceCtorEq, Option.getD_some, Option.isSome_some, List.length_map, List.length_append, List.length_cons, List.length_nil, List.append_nil, List.mem_singleton, List.mem_cons, List.not_mem_nil, and_true, true_and, and_self, imp_self, forall_const, false_implies, implies_true, true_implies, or_false, Bool.false_eq_true, Bool.true_eq_false, ImXs_nil, true_or, or_true, false_or, false_and, and_false, rmK, rm1, sum_step h2]
    rw [IntWalk.i64_in _ (by omega)]
    exact ⟨rfl, rfl⟩
  · have h2 : i = l.length := by omega
    subst h2
    rw [List.take_length]
    exact .imR rfl rfl
/-! ltSto, ltO2, ltO1, ltAs, ltA, ltC, ltCs, ltT, ltFr, ltS, wrOk, wrO, TL.get, hasFr, ↓reduceIte, Nat.reduceEqDiff, reduceCtorEq, Option.getD_some, Option.isSome_some, List.length_map, List.length_append, List.length_cons, List.length_nil, List.append_nil, List.mem_singleton, List.mem_cons, List.not_mem_nil, and_true, true_and, and_self, imp_self, forall_const, false_implies, implies_true, true_implies, or_false, Bool.false_eq_true, Bool.true_eq_false, ImXs_nil, true_or, or_true, false_or, false_and, and_false, rmK, rm1# bytes of numbers -/
/-- the lowest bytes of a number, the highest one first -/
def numB (n : Int) : Nat → List UInt8
  | 0 => []
  | k + 1 => u8 (shrI .u64 n (8 * k)) :: numB n k
def putB (bs : List UInt8) (w : Nat) (l : List Int) : List UInt8 := bs ++ l.flatMap fun n => numB n w
abbrev oB (bs : List UInt8) : Ob := .arr 1 (bs.map byteT) false
abbrev vUs (l : List Int) : T := .sl 1 (l.map vU)
theorem numB_len (n : Int) : ∀ w, (numB n w).length = w
  | 0 => rfl
  | w + 1 => by simp [numB, numB_len n w]
theorem numB_drop (n : Int) : ∀ {w k : Nat}, k ≤ w → (numB n w).drop (w - k) = numB n k
  | w, k, h => by
    induction w with
    | zero =>
      obtain rfl : k = 0 := by omega
      rfl
    | succ w ih =>
      by_cases e : k = w + 1
      · subst e; simp
      · rw [show w + 1 - k = (w - k) + 1 by omega]
        simp only [numB, List.drop_succ_cons]
        exact ih (by omega)
theorem numB_take {n : Int} {w k : Nat} (h : k < w) : (numB n w).take (w - k) = (numB n w).take (w - (k + 1)) ++ [u8 (shrI .u64 n (8 * k))] := by
  have h1 : w - (k + 1) < (numB n w).length := by rw [numB_len]; omega
  have h2 : w - k = (w - (k + 1)) + 1 := by omega
  rw [h2, List.take_succ_eq_append_getElem h1]
  congr 2
  have h3 := numB_drop n (show k + 1 ≤ w by omega)
  rw [List.drop_eq_getElem_cons h1, numB] at h3
  injection h3
theorem putB_len (bs : List UInt8) (w : Nat) (l : List Int) : (putB bs w l).length = bs.length + l.length * w := by
  unfold putB
  rw [List.length_append]
  congr 1
  induction l with
  | nil => simp
  | cons a l ih => rw [List.flatMap_cons, List.length_append, ih, numB_len, List.length_cons, Nat.add_mul]; omega
theorem putB_step {bs : List UInt8} {w i : Nat} {l : List Int} (h : i < l.length) : putB bs w (l.take (i + 1)) = putB bs w (l.take i) ++ numB l[i] w := by
  unfold putB
  rw [List.take_succ_eq_append_getElem h, List.flatMap_append, List.append_assoc]
  simp
def putP (bs : List UInt8) (w : Nat) (l : List Int) (i : Nat) (n : Int) (k : Nat) : List UInt8 := putB bs w (l.take i) ++ (numB n w).take (w - k)
theorem getD_us {l : List Int} {i : Nat} (h : i < l.length) : (l.map vU).getD i .junk = vU l[i] := by
  rw [getD_get (by simpa using h)]; simp
theorem us_v : ∀ l : List Int, ImXs 1 (l.map vU) := imXs_map (f := vU) fun _ => ⟨rfl, rfl⟩
theorem c_register_put (bs : List UInt8) (w : Nat) (l : List Int) (hw : w ≤ 8) (hl : l.length ≤ 100) (hb : bs.length ≤ 1000) :
    Spc Try.prog F_register_put [.asl 0 bs.length, vI w, vUs l] [(0, oB bs)] (.asl 0 (putB bs w l).length) [(0, oB (putB bs w l))] := by
  refine spec_of_ir fn_register_put mixm (by simp) fun e _ hst => W_start ?_
  unfold ir_register_put
  simp only [tl, tl2, isCallR, entX, argFr, ret, retI, retB, intT, unT, endR, ressR, resR, tupT, bslR, boxR, lenAll, ↓reduceIte, Nat.reduceEqDiff, Nat.reduceAdd, Nat.reduceMul, Nat.reduceLT, Nat.reduceLeDiff, reduceCtorEq, Int.reduceLE, Int.reduceLT, ne_eq, Int.reduceEq, not_false_eq_true, decide_true, decide_false, Int.reduceToNat, tl3, Int.reduceBNe, Int.reduceBEq, rmK, rm1, not_true_eq_false]
  refine W_loop mixm (α := Nat) (fun i => i ≤ l.length) (fun i => [(0, .asl 0 (putB bs w (l.take i)).length), (1, vI w), (10, vUs l), (11, vI l.length), (12, vI i)]) (fun i => [(0, oB (putB bs w (l.take i)))]) (fun i => l.length - i) 0 (by omega) ?_ fun i hi => ?_
  · refine .of [(0, some 0)] [] rfl (by rw [hst]; rfl) ?_ ?_
    · simp only [ltSto, ltO2, ltO1, ltAs, ltA, ltC, ltCs, ltT, ltFr, ltS, wrOk, wrO, TL.get, hasFr, ↓reduceIte, Nat.reduceEqDiff, reduceCtorEq, Option.getD_some, Option.isSome_some, List.length_map, List.length_append, List.length_cons, List.length_nil, List.append_nil, List.mem_singleton, List.mem_cons, List.not_mem_nil, and_true, true_and, and_self, imp_self, forall_const, false_implies, implies_true, true_implies, or_false, Bool.false_eq_true, Bool.true_eq_false, ImXs_nil, true_or, or_true, false_or, false_and, and_false, rmK, rm1, putB, List.take_zero, List.flatMap_nil, List.append_nil]
      exact ltXs_bytes _
    · simp only [ltSto, ltO2, ltO1, ltAs, ltA, ltC, ltCs, ltT, ltFr, ltS, wrOk, wrO, TL.get, hasFr, ↓reduceIte, Nat.reduceEqDiff, reduceCtorEq, Option.getD_some, Option.isSome_some, List.length_map, List.length_append, List.length_cons, List.length_nil, List.append_nil, List.mem_singleton, List.mem_cons, List.not_mem_nil, and_true, true_and, and_self, imp_self, forall_const, false_implies, implies_true, true_implies, or_false, Bool.false_eq_true, Bool.true_eq_false, ImXs_nil, true_or, or_true, false_or, false_and, and_false, rmK, rm1, putB, List.take_zero, List.flatMap_nil, List.append_nil]
      rfl
  simp only [tl, tl2, isCallR, entX, argFr, ret, retI, retB, intT, unT, endR, ressR, resR, tupT, bslR, boxR, lenAll, ↓reduceIte, Nat.reduceEqDiff, Nat.reduceAdd, Nat.reduceMul, Nat.reduceLT, Nat.reduceLeDiff, reduceCtorEq, Int.reduceLE, Int.reduceLT, ne_eq, Int.reduceEq, not_false_eq_true, decide_true, decide_false, Int.reduceToNat, tl3, Int.reduceBNe, Int.reduceBEq, rmK, rm1, not_true_eq_false, decide_eq_true_eq, decide_eq_false_iff_not]
  refine ⟨fun h => ?_, fun h => ?_⟩
  · have h2 : i < l.length := by omega
    have hw1 : IntKind.i64.wrap ((w : Int) - 1) = (w : Int) - 1 := IntWalk.i64_in _ (by omega)
    simp only [tl, tl2, isCallR, entX, argFr, ret, retI, retB, intT, unT, endR, ressR, resR, tupT, bslR, boxR, lenAll, ↓reduceIte, Nat.reduceEqDiff, Nat.reduceAdd, Nat.reduceMul, Nat.reduceLT, Nat.reduceLeDiff, reduceCtorEq, Int.reduceLE, Int.reduceLT, ne_eq, Int.reduceEq, not_false_eq_true, decide_true, decide_false, Int.reduceToNat, tl3, Int.reduceBNe, Int.reduceBEq, rmK, rm1, not_true_eq_false, Int.toNat_natCast, getD_us h2, hw1]
    refine ⟨by omega, ?_⟩
    refine W_loop mixm (α := Nat) (fun k => k ≤ w) (fun k => [(0, .asl 0 (putP bs w l i l[i] k).length), (1, vI w), (8, vU l[i]), (9, vI ((k : Int) - 1)), (10, vUs l), (11, vI l.length), (12, vI i)]) (fun k => [(0, oB (putP bs w l i l[i] k))]) (fun k => k) w (by omega) ?_ fun k hk => ?_
    · refine .of [(0, some 0)] [] rfl (by rw [hst]; rfl) ?_ ?_
      · simp only [ltSto, ltO2, ltO1, ltAs, ltA, ltC, ltCs, ltT, ltFr, ltS, wrOk, wrO, TL.get, hasFr, ↓reduceIte, Nat.reduceEqDiff, reduceCtorEq, Option.getD_some, Option.isSome_some, List.length_map, List.length_append, List.length_cons, List.length_nil, List.append_nil, List.mem_singleton, List.mem_cons, List.not_mem_nil, and_true, true_and, and_self, imp_self, forall_const, false_implies, implies_true, true_implies, or_false, Bool.false_eq_true, Bool.true_eq_false, ImXs_nil, true_or, or_true, false_or, false_and, and_false, rmK, rm1, putP, Nat.sub_self, List.take_zero, List.append_nil]
        exact ltXs_bytes _
      · simp only [ltSto, ltO2, ltO1, ltAs, ltA, ltC, ltCs, ltT, ltFr, ltS, wrOk, wrO, TL.get, hasFr, ↓reduceIte, Nat.reduceEqDiff, reduceCtorEq, Option.getD_some, Option.isSome_some, List.length_map, List.length_append, List.length_cons, List.length_nil, List.append_nil, List.mem_singleton, List.mem_cons, List.not_mem_nil, and_true, true_and, and_self, imp_self, forall_const, false_implies, implies_true, true_implies, or_false, Bool.false_eq_true, Bool.true_eq_false, ImXs_nil, true_or, or_true, false_or, false_and, and_false, rmK, rm1, putP, Nat.sub_self, List.take_zero, List.append_nil]
    simp only [tl, tl2, isCallR, entX, argFr, ret, retI, retB, intT, unT, endR, ressR, resR, tupT, bslR, boxR, lenAll, ↓reduceIte, Nat.reduceEqDiff, Nat.reduceAdd, Nat.reduceMul, Nat.reduceLT, Nat.reduceLeDiff, reduceCtorEq, Int.reduceLE, Int.reduceLT, ne_eq, Int.reduceEq, not_false_eq_true, decide_true, decide_false, Int.reduceToNat, tl3, Int.reduceBNe, Int.reduceBEq, rmK, rm1, not_true_eq_false, decide_eq_true_eq, decide_eq_false_iff_not]
    refine ⟨fun h => ?_, fun h => ?_⟩
    · obtain ⟨j, rfl⟩ : ∃ j, k = j + 1 := ⟨k - 1, by omega⟩
      have hc : ((j + 1 : Nat) : Int) - 1 = j := by omega
      have hw2 : IntKind.i64.wrap (8 * (j : Int)) = 8 * j := IntWalk.i64_in _ (by omega)
      have hw3 : IntKind.i64.wrap ((j : Int) - 1) = (j : Int) - 1 := IntWalk.i64_in _ (by omega)
      simp only [hc]
      simp only [tl, tl2, isCallR, entX, argFr, ret, retI, retB, intT, unT, endR, ressR, resR, tupT, bslR, boxR, lenAll, ↓reduceIte, Nat.reduceEqDiff, Nat.reduceAdd, Nat.reduceMul, Nat.reduceLT, Nat.reduceLeDiff, reduceCtorEq, Int.reduceLE, Int.reduceLT, ne_eq, Int.reduceEq, not_false_eq_true, decide_true, decide_false, Int.reduceToNat, tl3, Int.reduceBNe, Int.reduceBEq, rmK, rm1, not_true_eq_false, hw2, hw3, byteT_u8]
      have hpl : (putP bs w l i l[i] (j + 1)).length ≤ 2000 := by
        unfold putP
        rw [List.length_append, List.length_take, putB_len, List.length_take]
        have : min i l.length * w ≤ 100 * 8 := Nat.mul_le_mul (by omega) hw
        omega
      have hpe : putP bs w l i l[i] j = putP bs w l i l[i] (j + 1) ++ [u8 (shrI .u64 l[i] (8 * j))] := by
        unfold putP
        rw [numB_take (by omega), List.append_assoc]
      refine ⟨by omega, by omega, j, by omega, by omega, .of [(0, some 0)] [] rfl (by rw [hst]; rfl) ?_ ?_⟩
      · simp only [ltSto, ltO2, ltO1, ltAs, ltA, ltC, ltCs, ltT, ltFr, ltS, wrOk, wrO, TL.get, hasFr, ↓reduceIte, Nat.reduceEqDiff, reduceCtorEq, Option.getD_some, Option.isSome_some, List.length_map, List.length_append, List.length_cons, List.length_nil, List.append_nil, List.mem_singleton, List.mem_cons, List.not_mem_nil, and_true, true_and, and_self, imp_self, forall_const, false_implies, implies_true, true_implies, or_false, Bool.false_eq_true, Bool.true_eq_false, ImXs_nil, true_or, or_true, false_or, false_and, and_false, rmK, rm1, hpe, List.map_append, List.map_cons, List.map_nil]
        exact ltXs_append (ltXs_bytes _) (ltXs_bytes [_])
      · simp only [ltSto, ltO2, ltO1, ltAs, ltA, ltC, ltCs, ltT, ltFr, ltS, wrOk, wrO, TL.get, hasFr, ↓reduceIte, Nat.reduceEqDiff, reduceCtorEq, Option.getD_some, Option.isSome_some, List.length_map, List.length_append, List.length_cons, List.length_nil, List.append_nil, List.mem_singleton, List.mem_cons, List.not_mem_nil, and_true, true_and, and_self, imp_self, forall_const, false_implies, implies_true, true_implies, or_false, Bool.false_eq_true, Bool.true_eq_false, ImXs_nil, true_or, or_true, false_or, false_and, and_false, rmK, rm1, hpe, List.length_append, List.length_cons, List.length_nil]
    · obtain rfl : k = 0 := by omega
      have hpe : putP bs w l i l[i] 0 = putB bs w (l.take (i + 1)) := by
        unfold putP
        rw [putB_step h2, Nat.sub_zero, List.take_of_length_le (l := numB l[i] w) (by rw [numB_len]; exact Nat.le_refl _)]
      refine ⟨i + 1, by omega, by omega, .of [(0, some 0)] [] rfl (by rw [hst]; rfl) ?_ ?_⟩
      · simp only [ltSto, ltO2, ltO1, ltAs, ltA, ltC, ltCs, ltT, ltFr, ltS, wrOk, wrO, TL.get, hasFr, ↓reduceIte, Nat.reduceEqDiff, reduceCtorEq, Option.getD_some, Option.isSome_some, List.length_map, List.length_append, List.length_cons, List.length_nil, List.append_nil, List.mem_singleton, List.mem_cons, List.not_mem_nil, and_true, true_and, and_self, imp_self, forall_const, false_implies, implies_true, true_implies, or_false, Bool.false_eq_true, Bool.true_eq_false, ImXs_nil, true_or, or_true, false_or, false_and, and_false, rmK, rm1, hpe]
        exact ltXs_bytes _
      · simp only [ltSto, ltO2, ltO1, ltAs, ltA, ltC, ltCs, ltT, ltFr, ltS, wrOk, wrO, TL.get, hasFr, ↓reduceIte, Nat.reduceEqDiff, reduceCtorEq, Option.getD_some, Option.isSome_some, List.length_map, List.length_append, List.length_cons, List.length_nil, List.append_nil, List.mem_singleton, List.mem_cons, List.not_mem_nil, and_true, true_and, and_self, imp_self, forall_const, false_implies, implies_true, true_implies, or_false, Bool.false_eq_true, Bool.true_eq_false, ImXs_nil, true_or, or_true, false_or, false_and, and_false, rmK, rm1, hpe]
        rw [IntWalk.i64_in _ (by omega)]
        rfl
  · have h2 : i = l.length := by omega
    subst h2
    rw [List.take_length]
    refine .of [(0, some 0)] [] rfl rfl ?_ ?_
    · simp only [ltSto, ltO2, ltO1, ltAs, ltA, ltC, ltCs, ltT, ltFr, ltS, wrOk, wrO, TL.get, hasFr, ↓reduceIte, Nat.reduceEqDiff, reduceCtorEq, Option.getD_some, Option.isSome_some, List.length_map, List.length_append, List.length_cons, List.length_nil, List.append_nil, List.mem_singleton, List.mem_cons, List.not_mem_nil, and_true, true_and, and_self, imp_self, forall_const, false_implies, implies_true, true_implies, or_false, Bool.false_eq_true, Bool.true_eq_false, ImXs_nil, true_or, or_true, false_or, false_and, and_false, rmK, rm1]
      exact ltXs_bytes _
    · simp only [ltSto, ltO2, ltO1, ltAs, ltA, ltC, ltCs, ltT, ltFr, ltS, wrOk, wrO, TL.get, hasFr, ↓reduceIte, Nat.reduceEqDiff, reduceCtorEq, Option.getD_some, Option.isSome_some, List.length_map, List.length_append, List.length_cons, List.length_nil, List.append_nil, List.mem_singleton, List.mem_cons, List.not_mem_nil, and_true, true_and, and_self, imp_self, forall_const, false_implies, implies_true, true_implies, or_false, Bool.false_eq_true, Bool.true_eq_false, ImXs_nil, true_or, or_true, false_or, false_and, and_false, rmK, rm1]
/-! ltSto, ltO2, ltO1, ltAs, ltA, ltC, ltCs, ltT, ltFr, ltS, wrOk, wrO, TL.get, hasFr, ↓reduceIte, Nat.reduceEqDiff, reduceCtorEq, Option.getD_some, Option.isSome_some, List.length_map, List.length_append, List.length_cons, List.length_nil, List.append_nil, List.mem_singleton, List.mem_cons, List.not_mem_nil, and_true, true_and, and_self, imp_self, forall_const, false_implies, implies_true, true_implies, or_false, Bool.false_eq_true, Bool.true_eq_false, ImXs_nil, true_or, or_true, false_or, false_and, and_false, rmK, rm1# links -/
structure Ent where
  num : Int
  before : Int
  kind : Int
  of_ : Int
  out : Int
  text : ByteArray
  link : Int
def entT (x : Ent) : T := .agg [vI x.num, vU x.before, vI x.kind, vI x.of_, vI x.out, .v (.string x.text), vU x.link]
def uw (n : Int) : Int := IntKind.u64.wrap n
def linkB (x : Ent) : List UInt8 := putB (putB [] 8 [x.before]) 5 [uw x.num, uw x.kind, uw x.of_, uw x.out]
def linkI (x : Ent) : Int := sumI (linkB x ++ x.text.data.toList)
theorem linkB_len (x : Ent) : (linkB x).length = 28 := by unfold linkB; rw [putB_len, putB_len]; rfl
theorem imXs_ent (x : Ent) : ImXs 7 [T.agg [vI x.num, vU x.before, vI x.kind, vI x.of_, vI x.out, .v (.string x.text), vU x.link]] := imXs_map (f := entT) (fun _ => ⟨rfl, rfl⟩) [x]
theorem c_register_Link (x : Ent) (hx : x.text.size ≤ 1000000000) : Spc Try.prog F_register_Link [entT x] [] (vU (linkI x)) [] := by
  refine spec_of_ir fn_register_Link mixm (by simp) fun e _ hst => W_start ?_
  unfold ir_register_Link
  simp only [tl, tl2, isCallR, entX, argFr, ret, retI, retB, intT, unT, endR, ressR, resR, tupT, bslR, boxR, lenAll, ↓reduceIte, Nat.reduceEqDiff, Nat.reduceAdd, Nat.reduceMul, Nat.reduceLT, Nat.reduceLeDiff, reduceCtorEq, Int.reduceLE, Int.reduceLT, ne_eq, Int.reduceEq, not_false_eq_true, decide_true, decide_false, Int.reduceToNat, tl3, Int.reduceBNe, Int.reduceBEq, rmK, rm1, not_true_eq_false, entT]
  refine C1.of [(0, none)] [(8204, some 0)] [8200] [(8204, oB (putB [] 8 [x.before])), (8200, .arr 1 [vU x.before] true)] (val := .asl 8204 (putB [] 8 [x.before]).length) (c_register_put [] 8 [x.before] (by omega) (by simp) (by simp)) ?_ rfl ⟨rfl, trivial⟩ (by rfl) (by simp [TL.get]) ?_ rfl rfl ⟨rfl, rfl⟩ (.inl rfl) ?_
  · refine ⟨⟨rfl, rfl⟩, rfl, ⟨by simp, ?_⟩, trivial⟩
    exact ⟨rfl, rfl, rfl, us_v [x.before]⟩
  · refine ⟨⟨⟨rfl, by simp, ltXs_bytes _, by simp⟩, .inl rfl⟩, ⟨rfl, ⟨rfl, rfl⟩, by simp⟩, trivial⟩
  have hl1 : (putB [] 8 [x.before]).length = 8 := by rw [putB_len]; rfl
  simp only [tl, tl2, isCallR, entX, argFr, ret, retI, retB, intT, unT, endR, ressR, resR, tupT, bslR, boxR, lenAll, ↓reduceIte, Nat.reduceEqDiff, Nat.reduceAdd, Nat.reduceMul, Nat.reduceLT, Nat.reduceLeDiff, reduceCtorEq, Int.reduceLE, Int.reduceLT, ne_eq, Int.reduceEq, not_false_eq_true, decide_true, decide_false, Int.reduceToNat, tl3, Int.reduceBNe, Int.reduceBEq, rmK, rm1, not_true_eq_false]
  refine C1.of [(0, some 8204)] [(8204, some 0)] [12340] [(8204, oB (linkB x)), (12340, .arr 1 [vU (uw x.num), vU (uw x.kind), vU (uw x.of_), vU (uw x.out)] true)] (val := .asl 8204 (linkB x).length) (c_register_put (putB [] 8 [x.before]) 5 [uw x.num, uw x.kind, uw x.of_, uw x.out] (by omega) (by simp) (by omega)) ?_ rfl ?_ (by rfl) (by simp [TL.get]) ?_ rfl rfl ⟨rfl, rfl⟩ (.inl rfl) ?_
  · refine ⟨⟨rfl, rfl⟩, rfl, ⟨by simp, ?_⟩, trivial⟩
    exact ⟨rfl, rfl, rfl, us_v [uw x.num, uw x.kind, uw x.of_, uw x.out]⟩
  · exact ⟨⟨rfl, by simp, ltXs_bytes _, by simp⟩, trivial⟩
  · refine ⟨⟨⟨rfl, by simp, ltXs_bytes _, by simp⟩, .inr ⟨rfl, rfl⟩⟩, ⟨rfl, ⟨rfl, rfl⟩, by simp⟩, trivial⟩
  simp only [tl, tl2, isCallR, entX, argFr, ret, retI, retB, intT, unT, endR, ressR, resR, tupT, bslR, boxR, lenAll, ↓reduceIte, Nat.reduceEqDiff, Nat.reduceAdd, Nat.reduceMul, Nat.reduceLT, Nat.reduceLeDiff, reduceCtorEq, Int.reduceLE, Int.reduceLT, ne_eq, Int.reduceEq, not_false_eq_true, decide_true, decide_false, Int.reduceToNat, tl3, Int.reduceBNe, Int.reduceBEq, rmK, rm1, not_true_eq_false]
  have hsz : x.text.data.toList.length ≤ 1000000000 := by
    rw [Array.length_toList]; exact hx
  have hl2 := linkB_len x
  refine ⟨by omega, ?_⟩
  refine C1.lend [8204] (c_register_Sum (linkB x ++ x.text.data.toList) (by rw [List.length_append]; omega)) ?_ (by rfl) (by rfl) ?_
  · simp only [ltSto, ltO2, ltO1, ltAs, ltA, ltC, ltCs, ltT, ltFr, ltS, wrOk, wrO, TL.get, hasFr, ↓reduceIte, Nat.reduceEqDiff, reduceCtorEq, Option.getD_some, Option.isSome_some, List.length_map, List.length_append, List.length_cons, List.length_nil, List.append_nil, List.mem_singleton, List.mem_cons, List.not_mem_nil, and_true, true_and, and_self, imp_self, forall_const, false_implies, implies_true, true_implies, or_false, Bool.false_eq_true, Bool.true_eq_false, ImXs_nil, true_or, or_true, false_or, false_and, and_false, rmK, rm1, List.length_append, List.map_append]
    rw [← List.map_append]
    exact bytes_v _
  simp only [tl, tl2, isCallR, entX, argFr, ret, retI, retB, intT, unT, endR, ressR, resR, tupT, bslR, boxR, lenAll, ↓reduceIte, Nat.reduceEqDiff, Nat.reduceAdd, Nat.reduceMul, Nat.reduceLT, Nat.reduceLeDiff, reduceCtorEq, Int.reduceLE, Int.reduceLT, ne_eq, Int.reduceEq, not_false_eq_true, decide_true, decide_false, Int.reduceToNat, tl3, Int.reduceBNe, Int.reduceBEq, rmK, rm1, not_true_eq_false]
  exact .imR rfl rfl
theorem shr_same (n : Int) {k : Nat} (h : k ≤ 7) : u8 (shrI .i64 n (8 * k)) = u8 (shrI .u64 (uw n) (8 * k)) := by
  have e1 : ∀ K : IntKind, K.bits = 64 → ∀ a, shrI K a (8 * (k : Int)) = a / 2 ^ (8 * k) := by
    intro K hK a
    unfold shrI
    rw [hK, show ((8 * (k : Int)).toNat) = 8 * k by omega, Nat.min_eq_left (by omega), Int.fdiv_eq_ediv_of_nonneg _ (Int.le_of_lt (Int.pow_pos (by omega)))]
  rw [e1 .i64 rfl, e1 .u64 rfl]
  have e2 : uw n = n % 18446744073709551616 := by
    unfold uw IntKind.wrap
    simp [IntKind.bits, IntKind.signed]
  unfold u8
  congr 2
  rw [e2]
  have h5 : k = 0 ∨ k = 1 ∨ k = 2 ∨ k = 3 ∨ k = 4 ∨ k = 5 ∨ k = 6 ∨ k = 7 := by omega
  rcases h5 with e | e | e | e | e | e | e | e <;> subst e <;> simp only [Nat.reduceMul, Int.reducePow] <;> omega
theorem c_ref38_Link (x : Ent) (hx : x.text.size ≤ 1000000000) : Spc Try.prog F_ref38_Link [entT x] [] (vU (linkI x)) [] := by
  refine spec_of_ir fn_ref38_Link mixm (by simp) fun e _ hst => W_start ?_
  unfold ir_ref38_Link
  simp only [tl, tl2, isCallR, entX, argFr, ret, retI, retB, intT, unT, endR, ressR, resR, tupT, bslR, boxR, lenAll, ↓reduceIte, Nat.reduceEqDiff, Nat.reduceAdd, Nat.reduceMul, Nat.reduceLT, Nat.reduceLeDiff, reduceCtorEq, Int.reduceLE, Int.reduceLT, ne_eq, Int.reduceEq, not_false_eq_true, decide_true, decide_false, Int.reduceToNat, tl3, Int.reduceBNe, Int.reduceBEq, rmK, rm1, not_true_eq_false, entT]
  refine W_loop mixm (α := Nat) (fun k => k ≤ 8) (fun k => [(1, .ptr 1 1 0 0), (3, .asl 2 ((numB x.before 8).take (8 - k)).length), (4, vI ((k : Int) - 1))]) (fun k => [(1, .arr 7 [entT x] false), (2, oB ((numB x.before 8).take (8 - k)))]) (fun k => k) 8 (by omega) ?_ fun k hk => ?_
  · refine .of [(1, some 4096), (2, none)] [] rfl (by rw [hst]; rfl) ?_ ?_
    · simp only [ltSto, ltO2, ltO1, ltAs, ltA, ltC, ltCs, ltT, ltFr, ltS, wrOk, wrO, TL.get, hasFr, ↓reduceIte, Nat.reduceEqDiff, reduceCtorEq, Option.getD_some, Option.isSome_some, List.length_map, List.length_append, List.length_cons, List.length_nil, List.append_nil, List.mem_singleton, List.mem_cons, List.not_mem_nil, and_true, true_and, and_self, imp_self, forall_const, false_implies, implies_true, true_implies, or_false, Bool.false_eq_true, Bool.true_eq_false, ImXs_nil, true_or, or_true, false_or, false_and, and_false, rmK, rm1, entT]
      exact ⟨ltXs_refl (imXs_ent x), rfl⟩
    · simp only [ltSto, ltO2, ltO1, ltAs, ltA, ltC, ltCs, ltT, ltFr, ltS, wrOk, wrO, TL.get, hasFr, ↓reduceIte, Nat.reduceEqDiff, reduceCtorEq, Option.getD_some, Option.isSome_some, List.length_map, List.length_append, List.length_cons, List.length_nil, List.append_nil, List.mem_singleton, List.mem_cons, List.not_mem_nil, and_true, true_and, and_self, imp_self, forall_const, false_implies, implies_true, true_implies, or_false, Bool.false_eq_true, Bool.true_eq_false, ImXs_nil, true_or, or_true, false_or, false_and, and_false, rmK, rm1]
      exact ⟨rfl, rfl⟩
  simp only [tl, tl2, isCallR, entX, argFr, ret, retI, retB, intT, unT, endR, ressR, resR, tupT, bslR, boxR, lenAll, ↓reduceIte, Nat.reduceEqDiff, Nat.reduceAdd, Nat.reduceMul, Nat.reduceLT, Nat.reduceLeDiff, reduceCtorEq, Int.reduceLE, Int.reduceLT, ne_eq, Int.reduceEq, not_false_eq_true, decide_true, decide_false, Int.reduceToNat, tl3, Int.reduceBNe, Int.reduceBEq, rmK, rm1, not_true_eq_false, decide_eq_true_eq, decide_eq_false_iff_not]
  refine ⟨fun h => ?_, fun h => ?_⟩
  · obtain ⟨j, rfl⟩ : ∃ j, k = j + 1 := ⟨k - 1, by omega⟩
    have hc : ((j + 1 : Nat) : Int) - 1 = j := by omega
    have hw2 : IntKind.i64.wrap (8 * (j : Int)) = 8 * j := IntWalk.i64_in _ (by omega)
    have hw3 : IntKind.i64.wrap ((j : Int) - 1) = (j : Int) - 1 := IntWalk.i64_in _ (by omega)
    simp only [hc, entT]
    simp only [tl, tl2, isCallR, entX, argFr, ret, retI, retB, intT, unT, endR, ressR, resR, tupT, bslR, boxR, lenAll, ↓reduceIte, Nat.reduceEqDiff, Nat.reduceAdd, Nat.reduceMul, Nat.reduceLT, Nat.reduceLeDiff, reduceCtorEq, Int.reduceLE, Int.reduceLT, ne_eq, Int.reduceEq, not_false_eq_true, decide_true, decide_false, Int.reduceToNat, tl3, Int.reduceBNe, Int.reduceBEq, rmK, rm1, not_true_eq_false, hw2, hw3, byteT_u8]
    have hpl : ((numB x.before 8).take (8 - (j + 1))).length ≤ 8 := by
      rw [List.length_take]; omega
    have hpe := numB_take (n := x.before) (w := 8) (k := j) (by omega)
    refine ⟨by omega, by omega, j, by omega, by omega, .of [(1, some 1), (2, some 2)] [] rfl (by rw [hst]; rfl) ?_ ?_⟩
    · simp only [ltSto, ltO2, ltO1, ltAs, ltA, ltC, ltCs, ltT, ltFr, ltS, wrOk, wrO, TL.get, hasFr, ↓reduceIte, Nat.reduceEqDiff, reduceCtorEq, Option.getD_some, Option.isSome_some, List.length_map, List.length_append, List.length_cons, List.length_nil, List.append_nil, List.mem_singleton, List.mem_cons, List.not_mem_nil, and_true, true_and, and_self, imp_self, forall_const, false_implies, implies_true, true_implies, or_false, Bool.false_eq_true, Bool.true_eq_false, ImXs_nil, true_or, or_true, false_or, false_and, and_false, rmK, rm1, hpe, List.map_append, List.map_cons, List.map_nil]
      exact ⟨ltXs_refl (imXs_ent x), ltXs_append (ltXs_bytes _) (ltXs_bytes [_])⟩
    · simp only [ltSto, ltO2, ltO1, ltAs, ltA, ltC, ltCs, ltT, ltFr, ltS, wrOk, wrO, TL.get, hasFr, ↓reduceIte, Nat.reduceEqDiff, reduceCtorEq, Option.getD_some, Option.isSome_some, List.length_map, List.length_append, List.length_cons, List.length_nil, List.append_nil, List.mem_singleton, List.mem_cons, List.not_mem_nil, and_true, true_and, and_self, imp_self, forall_const, false_implies, implies_true, true_implies, or_false, Bool.false_eq_true, Bool.true_eq_false, ImXs_nil, true_or, or_true, false_or, false_and, and_false, rmK, rm1, hpe, List.length_append, List.length_cons, List.length_nil]
  · obtain rfl : k = 0 := by omega
    have hq : (numB x.before 8).take (8 - 0) = numB x.before 8 := List.take_of_length_le (by rw [numB_len]; omega)
    simp only [hq, entT]
    simp only [tl, tl2, isCallR, entX, argFr, ret, retI, retB, intT, unT, endR, ressR, resR, tupT, bslR, boxR, lenAll, ↓reduceIte, Nat.reduceEqDiff, Nat.reduceAdd, Nat.reduceMul, Nat.reduceLT, Nat.reduceLeDiff, reduceCtorEq, Int.reduceLE, Int.reduceLT, ne_eq, Int.reduceEq, not_false_eq_true, decide_true, decide_false, Int.reduceToNat, tl3, Int.reduceBNe, Int.reduceBEq, rmK, rm1, not_true_eq_false]
    obtain ⟨L, hL⟩ : ∃ L, [x.num, x.kind, x.of_, x.out] = L := ⟨_, rfl⟩
    have hLl : L.length = 4 := by rw [← hL]; rfl
    have hfin : putB (numB x.before 8) 5 (L.map uw) = linkB x := by
      rw [← hL]
      unfold linkB putB
      simp
    refine W_loop mixm (α := Nat) (fun i => i ≤ 4) (fun i => [(1, .ptr 1 1 0 0), (3, .asl 2 (putB (numB x.before 8) 5 ((L.map uw).take i)).length), (29, vIs L), (30, vI 4), (31, vI i)]) (fun i => [(1, .arr 7 [entT x] false), (2, oB (putB (numB x.before 8) 5 ((L.map uw).take i)))]) (fun i => 4 - i) 0 (by omega) ?_ fun i hi => ?_
    · refine .of [(1, some 1), (2, some 2)] [28704] rfl (by rw [hst]; rfl) ?_ ?_
      · simp only [ltSto, ltO2, ltO1, ltAs, ltA, ltC, ltCs, ltT, ltFr, ltS, wrOk, wrO, TL.get, hasFr, ↓reduceIte, Nat.reduceEqDiff, reduceCtorEq, Option.getD_some, Option.isSome_some, List.length_map, List.length_append, List.length_cons, List.length_nil, List.append_nil, List.mem_singleton, List.mem_cons, List.not_mem_nil, and_true, true_and, and_self, imp_self, forall_const, false_implies, implies_true, true_implies, or_false, Bool.false_eq_true, Bool.true_eq_false, ImXs_nil, true_or, or_true, false_or, false_and, and_false, rmK, rm1, entT, putB, List.take_zero, List.flatMap_nil, List.append_nil]
        exact ⟨ltXs_refl (imXs_ent x), ltXs_bytes _⟩
      · simp only [ltSto, ltO2, ltO1, ltAs, ltA, ltC, ltCs, ltT, ltFr, ltS, wrOk, wrO, TL.get, hasFr, ↓reduceIte, Nat.reduceEqDiff, reduceCtorEq, Option.getD_some, Option.isSome_some, List.length_map, List.length_append, List.length_cons, List.length_nil, List.append_nil, List.mem_singleton, List.mem_cons, List.not_mem_nil, and_true, true_and, and_self, imp_self, forall_const, false_implies, implies_true, true_implies, or_false, Bool.false_eq_true, Bool.true_eq_false, ImXs_nil, true_or, or_true, false_or, false_and, and_false, rmK, rm1, putB, List.take_zero, List.flatMap_nil, List.append_nil]
        rw [← hL]
        exact ⟨⟨rfl, ints_v [x.num, x.kind, x.of_, x.out]⟩, rfl, rfl⟩
    simp only [tl, tl2, isCallR, entX, argFr, ret, retI, retB, intT, unT, endR, ressR, resR, tupT, bslR, boxR, lenAll, ↓reduceIte, Nat.reduceEqDiff, Nat.reduceAdd, Nat.reduceMul, Nat.reduceLT, Nat.reduceLeDiff, reduceCtorEq, Int.reduceLE, Int.reduceLT, ne_eq, Int.reduceEq, not_false_eq_true, decide_true, decide_false, Int.reduceToNat, tl3, Int.reduceBNe, Int.reduceBEq, rmK, rm1, not_true_eq_false, entT, decide_eq_true_eq, decide_eq_false_iff_not]
    refine ⟨fun h => ?_, fun h => ?_⟩
    · have h2 : i < L.length := by omega
      have h2u : i < (L.map uw).length := by simpa using h2
      have hLu : (L.map uw)[i] = uw L[i] := by simp
      simp only [tl, tl2, isCallR, entX, argFr, ret, retI, retB, intT, unT, endR, ressR, resR, tupT, bslR, boxR, lenAll, ↓reduceIte, Nat.reduceEqDiff, Nat.reduceAdd, Nat.reduceMul, Nat.reduceLT, Nat.reduceLeDiff, reduceCtorEq, Int.reduceLE, Int.reduceLT, ne_eq, Int.reduceEq, not_false_eq_true, decide_true, decide_false, Int.reduceToNat, tl3, Int.reduceBNe, Int.reduceBEq, rmK, rm1, not_true_eq_false, Int.toNat_natCast, getD_ints h2]
      refine ⟨by omega, ?_⟩
      refine W_loop mixm (α := Nat) (fun k => k ≤ 5) (fun k => [(1, .ptr 1 1 0 0), (3, .asl 2 (putP (numB x.before 8) 5 (L.map uw) i (uw L[i]) k).length), (6, vI L[i]), (7, vI ((k : Int) - 1)), (29, vIs L), (30, vI 4), (31, vI i)]) (fun k => [(1, .arr 7 [entT x] false), (2, oB (putP (numB x.before 8) 5 (L.map uw) i (uw L[i]) k))]) (fun k => k) 5 (by omega) ?_ fun k hk => ?_
      · refine .of [(1, some 1), (2, some 2)] [] rfl (by rw [hst]; rfl) ?_ ?_
        · simp only [ltSto, ltO2, ltO1, ltAs, ltA, ltC, ltCs, ltT, ltFr, ltS, wrOk, wrO, TL.get, hasFr, ↓reduceIte, Nat.reduceEqDiff, reduceCtorEq, Option.getD_some, Option.isSome_some, List.length_map, List.length_append, List.length_cons, List.length_nil, List.append_nil, List.mem_singleton, List.mem_cons, List.not_mem_nil, and_true, true_and, and_self, imp_self, forall_const, false_implies, implies_true, true_implies, or_false, Bool.false_eq_true, Bool.true_eq_false, ImXs_nil, true_or, or_true, false_or, false_and, and_false, rmK, rm1, entT, putP, Nat.sub_self, List.take_zero, List.append_nil]
          exact ⟨ltXs_refl (imXs_ent x), ltXs_bytes _⟩
        · simp only [ltSto, ltO2, ltO1, ltAs, ltA, ltC, ltCs, ltT, ltFr, ltS, wrOk, wrO, TL.get, hasFr, ↓reduceIte, Nat.reduceEqDiff, reduceCtorEq, Option.getD_some, Option.isSome_some, List.length_map, List.length_append, List.length_cons, List.length_nil, List.append_nil, List.mem_singleton, List.mem_cons, List.not_mem_nil, and_true, true_and, and_self, imp_self, forall_const, false_implies, implies_true, true_implies, or_false, Bool.false_eq_true, Bool.true_eq_false, ImXs_nil, true_or, or_true, false_or, false_and, and_false, rmK, rm1, putP, Nat.sub_self, List.take_zero, List.append_nil]
          rfl
      simp only [tl, tl2, isCallR, entX, argFr, ret, retI, retB, intT, unT, endR, ressR, resR, tupT, bslR, boxR, lenAll, ↓reduceIte, Nat.reduceEqDiff, Nat.reduceAdd, Nat.reduceMul, Nat.reduceLT, Nat.reduceLeDiff, reduceCtorEq, Int.reduceLE, Int.reduceLT, ne_eq, Int.reduceEq, not_false_eq_true, decide_true, decide_false, Int.reduceToNat, tl3, Int.reduceBNe, Int.reduceBEq, rmK, rm1, not_true_eq_false, entT, decide_eq_true_eq, decide_eq_false_iff_not]
      refine ⟨fun h => ?_, fun h => ?_⟩
      · obtain ⟨j, rfl⟩ : ∃ j, k = j + 1 := ⟨k - 1, by omega⟩
        have hc : ((j + 1 : Nat) : Int) - 1 = j := by omega
        have hw2 : IntKind.i64.wrap (8 * (j : Int)) = 8 * j := IntWalk.i64_in _ (by omega)
        have hw3 : IntKind.i64.wrap ((j : Int) - 1) = (j : Int) - 1 := IntWalk.i64_in _ (by omega)
        simp only [hc]
        simp only [tl, tl2, isCallR, entX, argFr, ret, retI, retB, intT, unT, endR, ressR, resR, tupT, bslR, boxR, lenAll, ↓reduceIte, Nat.reduceEqDiff, Nat.reduceAdd, Nat.reduceMul, Nat.reduceLT, Nat.reduceLeDiff, reduceCtorEq, Int.reduceLE, Int.reduceLT, ne_eq, Int.reduceEq, not_false_eq_true, decide_true, decide_false, Int.reduceToNat, tl3, Int.reduceBNe, Int.reduceBEq, rmK, rm1, not_true_eq_false, hw2, hw3, byteT_u8, shr_same _ (show j ≤ 7 by omega)]
        have hpl : (putP (numB x.before 8) 5 (L.map uw) i (uw L[i]) (j + 1)).length ≤ 2000 := by
          unfold putP
          rw [List.length_append, List.length_take, putB_len, List.length_take, numB_len, numB_len, List.length_map, hLl]
          have : min i 4 * 5 ≤ 4 * 5 := Nat.mul_le_mul (by omega) (by omega)
          omega
        have hpe : putP (numB x.before 8) 5 (L.map uw) i (uw L[i]) j = putP (numB x.before 8) 5 (L.map uw) i (uw L[i]) (j + 1) ++ [u8 (shrI .u64 (uw L[i]) (8 * j))] := by
          unfold putP
          rw [numB_take (by omega), List.append_assoc]
        refine ⟨by omega, by omega, j, by omega, by omega, .of [(1, some 1), (2, some 2)] [] rfl (by rw [hst]; rfl) ?_ ?_⟩
        · simp only [ltSto, ltO2, ltO1, ltAs, ltA, ltC, ltCs, ltT, ltFr, ltS, wrOk, wrO, TL.get, hasFr, ↓reduceIte, Nat.reduceEqDiff, reduceCtorEq, Option.getD_some, Option.isSome_some, List.length_map, List.length_append, List.length_cons, List.length_nil, List.append_nil, List.mem_singleton, List.mem_cons, List.not_mem_nil, and_true, true_and, and_self, imp_self, forall_const, false_implies, implies_true, true_implies, or_false, Bool.false_eq_true, Bool.true_eq_false, ImXs_nil, true_or, or_true, false_or, false_and, and_false, rmK, rm1, hpe, List.map_append, List.map_cons, List.map_nil]
          exact ⟨ltXs_refl (imXs_ent x), ltXs_append (ltXs_bytes _) (ltXs_bytes [_])⟩
        · simp only [ltSto, ltO2, ltO1, ltAs, ltA, ltC, ltCs, ltT, ltFr, ltS, wrOk, wrO, TL.get, hasFr, ↓reduceIte, Nat.reduceEqDiff, reduceCtorEq, Option.getD_some, Option.isSome_some, List.length_map, List.length_append, List.length_cons, List.length_nil, List.append_nil, List.mem_singleton, List.mem_cons, List.not_mem_nil, and_true, true_and, and_self, imp_self, forall_const, false_implies, implies_true, true_implies, or_false, Bool.false_eq_true, Bool.true_eq_false, ImXs_nil, true_or, or_true, false_or, false_and, and_false, rmK, rm1, hpe, List.length_append, List.length_cons, List.length_nil]
      · obtain rfl : k = 0 := by omega
        have hpe : putP (numB x.before 8) 5 (L.map uw) i (uw L[i]) 0 = putB (numB x.before 8) 5 ((L.map uw).take (i + 1)) := by
          unfold putP
          rw [putB_step h2u, Nat.sub_zero, List.take_of_length_le (l := numB (uw L[i]) 5) (by rw [numB_len]; exact Nat.le_refl _), hLu]
        refine ⟨i + 1, by omega, by omega, .of [(1, some 1), (2, some 2)] [] rfl (by rw [hst]; rfl) ?_ ?_⟩
        · simp only [ltSto, ltO2, ltO1, ltAs, ltA, ltC, ltCs, ltT, ltFr, ltS, wrOk, wrO, TL.get, hasFr, ↓reduceIte, Nat.reduceEqDiff, reduceCtorEq, Option.getD_some, Option.isSome_some, List.length_map, List.length_append, List.length_cons, List.length_nil, List.append_nil, List.mem_singleton, List.mem_cons, List.not_mem_nil, and_true, true_and, and_self, imp_self, forall_const, false_implies, implies_true, true_implies, or_false, Bool.false_eq_true, Bool.true_eq_false, ImXs_nil, true_or, or_true, false_or, false_and, and_false, rmK, rm1, hpe]
          exact ⟨ltXs_refl (imXs_ent x), ltXs_bytes _⟩
        · simp only [ltSto, ltO2, ltO1, ltAs, ltA, ltC, ltCs, ltT, ltFr, ltS, wrOk, wrO, TL.get, hasFr, ↓reduceIte, Nat.reduceEqDiff, reduceCtorEq, Option.getD_some, Option.isSome_some, List.length_map, List.length_append, List.length_cons, List.length_nil, List.append_nil, List.mem_singleton, List.mem_cons, List.not_mem_nil, and_true, true_and, and_self, imp_self, forall_const, false_implies, implies_true, true_implies, or_false, Bool.false_eq_true, Bool.true_eq_false, ImXs_nil, true_or, or_true, false_or, false_and, and_false, rmK, rm1, hpe]
          rw [IntWalk.i64_in _ (by omega)]
          rfl
    · have h2 : i = 4 := by omega
      subst h2
      rw [List.take_of_length_le (by simp [hLl]), hfin]
      have hsz : x.text.data.toList.length ≤ 1000000000 := by
        rw [Array.length_toList]; exact hx
      have hl2 := linkB_len x
      refine ⟨by omega, ?_⟩
      refine C1.lend [2] (c_ref38_Sum (linkB x ++ x.text.data.toList) (by rw [List.length_append]; omega)) ?_ (by rfl) (by rfl) ?_
      · simp only [ltSto, ltO2, ltO1, ltAs, ltA, ltC, ltCs, ltT, ltFr, ltS, wrOk, wrO, TL.get, hasFr, ↓reduceIte, Nat.reduceEqDiff, reduceCtorEq, Option.getD_some, Option.isSome_some, List.length_map, List.length_append, List.length_cons, List.length_nil, List.append_nil, List.mem_singleton, List.mem_cons, List.not_mem_nil, and_true, true_and, and_self, imp_self, forall_const, false_implies, implies_true, true_implies, or_false, Bool.false_eq_true, Bool.true_eq_false, ImXs_nil, true_or, or_true, false_or, false_and, and_false, rmK, rm1, List.length_append, List.map_append]
        rw [← List.map_append]
        exact bytes_v _
      simp only [tl, tl2, isCallR, entX, argFr, ret, retI, retB, intT, unT, endR, ressR, resR, tupT, bslR, boxR, lenAll, ↓reduceIte, Nat.reduceEqDiff, Nat.reduceAdd, Nat.reduceMul, Nat.reduceLT, Nat.reduceLeDiff, reduceCtorEq, Int.reduceLE, Int.reduceLT, ne_eq, Int.reduceEq, not_false_eq_true, decide_true, decide_false, Int.reduceToNat, tl3, Int.reduceBNe, Int.reduceBEq, rmK, rm1, not_true_eq_false]
      exact .imR rfl rfl
end Go.Proofs

