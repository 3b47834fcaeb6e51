import Derived.Test.YtoamapbbjffldaaG
set_option linter.unusedSimpArgs false
set_option linter.unusedVariables false
namespace Go.Proofs
open Go Go.TL
/-! ltSto, ltO2, ltO1, ltAs, ltA, ltC, ltCs, ltT, ltFr, ltS, wrOk, wrO, TL.get, hasFr, ↓reduceIte, Nat.reduceEqDiff, reduceCtorEq, Option.getD_some, Option.isSome_some, List.length_map, List.length_append, List.length_cons, List.length_nil, List.append_nil, List.mem_singleton, List.mem_cons, List.not_mem_nil, and_true, true_and, and_self, imp_self, forall_const, false_implies, implies_true, true_implies, or_false, Bool.false_eq_true, Bool.true_eq_false, ImXs_nil, true_or, or_true, false_or, false_and, and_false, rmK, rm1# slices of int -/
theorem c_slices_IndexFunc_int (p : Int → Bool) (f : FuncId) (caps : List T) (hcap : imL caps = true) (l : List Int) (hf : ∀ y ∈ l, Spc Try.prog f (vI y :: caps) [] (vB (p y)) []) (hl : l.length < 4611686018427387904) :
    Spc Try.prog F_slices_IndexFunc_int [.sl 1 (l.map vI), .clo f caps] [] (vI (idxI p l)) [] := by
  refine spec_of_ir fn_slices_IndexFunc_int mixm (by simp) fun e _ hst => W_start ?_
  unfold ir_slices_IndexFunc_int
  simp only [tl, tl2, isCallR, entX, argFr, ret, retI, retB, intT, unT, endR, ressR, resR, tupT, bslR, boxR, lenAll, ↓reduceIte, Nat.reduceEqDiff, Nat.reduceAdd, Nat.reduceMul, Nat.reduceLT, Nat.reduceLeDiff, reduceCtorEq, Int.reduceLE, Int.reduceLT, ne_eq, Int.reduceEq, not_false_eq_true, decide_true, decide_false, Int.reduceToNat, tl3, Int.reduceBNe, Int.reduceBEq, rmK, rm1, not_true_eq_false]
  refine W_loopF mixm (α := Nat) [8] (fun i => i ≤ l.length ∧ ((l.take i).any p = false)) (fun i => [(8, vI i)]) (fun i => []) (fun i => l.length - i) 0 ⟨by omega, ?_⟩ ?_ fun i hi => ?_
  · simp
  · refine .of [] [] rfl (by first | rfl | (rw [hst]; rfl)) ?_ ?_
    all_goals (try simp only [ltSto, ltO2, ltO1, ltAs, ltA, ltC, ltCs, ltT, ltFr, ltS, wrOk, wrO, TL.get, hasFr, ↓reduceIte, Nat.reduceEqDiff, reduceCtorEq, Option.getD_some, Option.isSome_some, List.length_map, List.length_append, List.length_cons, List.length_nil, List.append_nil, List.mem_singleton, List.mem_cons, List.not_mem_nil, and_true, true_and, and_self, imp_self, forall_const, false_implies, implies_true, true_implies, or_false, Bool.false_eq_true, Bool.true_eq_false, ImXs_nil, true_or, or_true, false_or, false_and, and_false, rmK, rm1, List.map_append, List.map_cons, List.map_nil, List.cons_append, List.nil_append])
    all_goals (try (repeat' (first
        | exact ltXs_nil
        | (apply ltXs_map; intro _; exact ⟨rfl, rfl⟩)
        | (apply imXs_map; intro _; exact ⟨rfl, rfl⟩)
        | with_reducible apply imXs_append
        | with_reducible refine imXs_cons ⟨rfl, rfl⟩ ?_
        | exact imXs_nil
        | with_reducible apply ltXs_append
        | with_reducible refine ltXs_cons ⟨rfl, rfl, ?_⟩ ?_
        | with_reducible apply And.intro
        | exact ltCs_im rfl
        | exact ltCs_im (by assumption)
        | (refine ⟨⟨?_, rfl, ?_, rfl, ?_⟩, trivial⟩ <;> first | (simp; done) | (apply imXs_map; intro _; exact ⟨rfl, rfl⟩))
        | trivial
        | rfl
        | (rw [i64_succ (by omega)])
        | omega)))
  simp only [tl, tl2, isCallR, entX, argFr, ret, retI, retB, intT, unT, endR, ressR, resR, tupT, bslR, boxR, lenAll, ↓reduceIte, Nat.reduceEqDiff, Nat.reduceAdd, Nat.reduceMul, Nat.reduceLT, Nat.reduceLeDiff, reduceCtorEq, Int.reduceLE, Int.reduceLT, ne_eq, Int.reduceEq, not_false_eq_true, decide_true, decide_false, Int.reduceToNat, tl3, Int.reduceBNe, Int.reduceBEq, rmK, rm1, not_true_eq_false, decide_eq_true_eq, decide_eq_false_iff_not]
  refine ⟨fun h => ?_, fun h => ?_⟩
  · have hi2 : i < l.length := by omega
    have hwi := i64_succ (i := i) (by omega)
    simp only [tl, tl2, isCallR, entX, argFr, ret, retI, retB, intT, unT, endR, ressR, resR, tupT, bslR, boxR, lenAll, ↓reduceIte, Nat.reduceEqDiff, Nat.reduceAdd, Nat.reduceMul, Nat.reduceLT, Nat.reduceLeDiff, reduceCtorEq, Int.reduceLE, Int.reduceLT, ne_eq, Int.reduceEq, not_false_eq_true, decide_true, decide_false, Int.reduceToNat, tl3, Int.reduceBNe, Int.reduceBEq, rmK, rm1, not_true_eq_false, Int.toNat_natCast, getD_mapT hi2, hwi, cells_v]
    refine ⟨by omega, ?_⟩
    refine C1.im (hf l[i] (List.getElem_mem hi2)) (imAL_cons rfl hcap) rfl ?_
    simp only [tl, tl2, isCallR, entX, argFr, ret, retI, retB, intT, unT, endR, ressR, resR, tupT, bslR, boxR, lenAll, ↓reduceIte, Nat.reduceEqDiff, Nat.reduceAdd, Nat.reduceMul, Nat.reduceLT, Nat.reduceLeDiff, reduceCtorEq, Int.reduceLE, Int.reduceLT, ne_eq, Int.reduceEq, not_false_eq_true, decide_true, decide_false, Int.reduceToNat, tl3, Int.reduceBNe, Int.reduceBEq, rmK, rm1, not_true_eq_false]
    refine ⟨fun h3 => ?_, fun h3 => ⟨i + 1, ⟨by omega, any_snoc hi2 hi.2 h3⟩, by omega, ?_⟩⟩
    · rw [idxI, if_pos (any_at hi2 h3), findIdx_at hi2 hi.2 h3]
      exact .imR rfl rfl
    · refine .of [] [] rfl (by first | rfl | (rw [hst]; rfl)) ?_ ?_
      all_goals (try simp only [ltSto, ltO2, ltO1, ltAs, ltA, ltC, ltCs, ltT, ltFr, ltS, wrOk, wrO, TL.get, hasFr, ↓reduceIte, Nat.reduceEqDiff, reduceCtorEq, Option.getD_some, Option.isSome_some, List.length_map, List.length_append, List.length_cons, List.length_nil, List.append_nil, List.mem_singleton, List.mem_cons, List.not_mem_nil, and_true, true_and, and_self, imp_self, forall_const, false_implies, implies_true, true_implies, or_false, Bool.false_eq_true, Bool.true_eq_false, ImXs_nil, true_or, or_true, false_or, false_and, and_false, rmK, rm1, List.map_append, List.map_cons, List.map_nil, List.cons_append, List.nil_append])
      all_goals (try (repeat' (first
          | exact ltXs_nil
          | (apply ltXs_map; intro _; exact ⟨rfl, rfl⟩)
          | (apply imXs_map; intro _; exact ⟨rfl, rfl⟩)
          | with_reducible apply imXs_append
          | with_reducible refine imXs_cons ⟨rfl, rfl⟩ ?_
          | exact imXs_nil
          | with_reducible apply ltXs_append
          | with_reducible refine ltXs_cons ⟨rfl, rfl, ?_⟩ ?_
          | with_reducible apply And.intro
          | exact ltCs_im rfl
          | exact ltCs_im (by assumption)
          | (refine ⟨⟨?_, rfl, ?_, rfl, ?_⟩, trivial⟩ <;> first | (simp; done) | (apply imXs_map; intro _; exact ⟨rfl, rfl⟩))
          | trivial
          | rfl
          | (rw [i64_succ (by omega)])
          | omega)))
  · have h2 : i = l.length := by omega
    have h3 := hi.2
    rw [h2, List.take_length] at h3
    rw [idxI, if_neg (by rw [h3]; simp)]
    exact .imR rfl rfl

theorem c_slices_DeleteFunc_int (p : Int → Bool) (f : FuncId) (caps : List T) (hcap : imL caps = true) (l : List Int) (hf : ∀ y ∈ l, Spc Try.prog f (vI y :: caps) [] (vB (p y)) []) (hl : l.length < 4611686018427387904) :
    Spc Try.prog F_slices_DeleteFunc_int [.vw 0 l.length 0 l.length, .clo f caps] [(0, .arr 1 (l.map vI) false)] (.asl 1 (l.filter fun y => !p y).length) [(0, .dead), (1, .arr 1 ((l.filter fun y => !p y).map vI) false)] := by
  refine spec_of_ir fn_slices_DeleteFunc_int mixm (by simp) fun e _ hst => W_start ?_
  unfold ir_slices_DeleteFunc_int
  simp only [tl, tl2, isCallR, entX, argFr, ret, retI, retB, intT, unT, endR, ressR, resR, tupT, bslR, boxR, lenAll, ↓reduceIte, Nat.reduceEqDiff, Nat.reduceAdd, Nat.reduceMul, Nat.reduceLT, Nat.reduceLeDiff, reduceCtorEq, Int.reduceLE, Int.reduceLT, ne_eq, Int.reduceEq, not_false_eq_true, decide_true, decide_false, Int.reduceToNat, tl3, Int.reduceBNe, Int.reduceBEq, rmK, rm1, not_true_eq_false]
  refine C1.lend [0] (c_slices_IndexFunc_int p f caps hcap l hf hl) ?_ (by rfl) (by rfl) ?_
  · simp only [ltSto, ltO2, ltO1, ltAs, ltA, ltC, ltCs, ltT, ltFr, ltS, wrOk, wrO, TL.get, hasFr, ↓reduceIte, Nat.reduceEqDiff, reduceCtorEq, Option.getD_some, Option.isSome_some, List.length_map, List.length_append, List.length_cons, List.length_nil, List.append_nil, List.mem_singleton, List.mem_cons, List.not_mem_nil, and_true, true_and, and_self, imp_self, forall_const, false_implies, implies_true, true_implies, or_false, Bool.false_eq_true, Bool.true_eq_false, ImXs_nil, true_or, or_true, false_or, false_and, and_false, rmK, rm1, ltV, List.drop_zero, List.cons_append, List.nil_append]
    exact ⟨⟨(List.take_of_length_le (by simp)).symm, by omega, (by apply imXs_map; intro _; exact ⟨rfl, rfl⟩)⟩, ltCs_im hcap⟩
  simp only [tl, tl2, isCallR, entX, argFr, ret, retI, retB, intT, unT, endR, ressR, resR, tupT, bslR, boxR, lenAll, ↓reduceIte, Nat.reduceEqDiff, Nat.reduceAdd, Nat.reduceMul, Nat.reduceLT, Nat.reduceLeDiff, reduceCtorEq, Int.reduceLE, Int.reduceLT, ne_eq, Int.reduceEq, not_false_eq_true, decide_true, decide_false, Int.reduceToNat, tl3, Int.reduceBNe, Int.reduceBEq, rmK, rm1, not_true_eq_false]
  refine ⟨fun h1 => ?_, fun h1 => ?_⟩
  · have hno : l.any p = false := by
      cases h : l.any p
      · rfl
      · simp [idxI, h] at h1
    have hfl : (l.filter fun y => !p y) = l := by
      rw [List.filter_eq_self]
      intro y hy
      have := List.any_eq_false.1 hno y hy
      simpa using this
    rw [hfl]
    refine .cutv 1 rfl (by simp) rfl (by simp) ?_
    simp only [cutSt, List.length_map, List.take_of_length_le (show (l.map vI).length ≤ l.length by simp)]
    refine .of [(0, some 0), (1, some 1)] [] rfl (by first | rfl | (rw [hst]; rfl)) ?_ ?_
    all_goals (try simp only [ltSto, ltO2, ltO1, ltAs, ltA, ltC, ltCs, ltT, ltFr, ltS, wrOk, wrO, TL.get, hasFr, ↓reduceIte, Nat.reduceEqDiff, reduceCtorEq, Option.getD_some, Option.isSome_some, List.length_map, List.length_append, List.length_cons, List.length_nil, List.append_nil, List.mem_singleton, List.mem_cons, List.not_mem_nil, and_true, true_and, and_self, imp_self, forall_const, false_implies, implies_true, true_implies, or_false, Bool.false_eq_true, Bool.true_eq_false, ImXs_nil, true_or, or_true, false_or, false_and, and_false, rmK, rm1, List.map_append, List.map_cons, List.map_nil, List.cons_append, List.nil_append])
    all_goals (try (repeat' (first
        | exact ltXs_nil
        | (apply ltXs_map; intro _; exact ⟨rfl, rfl⟩)
        | (apply imXs_map; intro _; exact ⟨rfl, rfl⟩)
        | with_reducible apply imXs_append
        | with_reducible refine imXs_cons ⟨rfl, rfl⟩ ?_
        | exact imXs_nil
        | with_reducible apply ltXs_append
        | with_reducible refine ltXs_cons ⟨rfl, rfl, ?_⟩ ?_
        | with_reducible apply And.intro
        | exact ltCs_im rfl
        | exact ltCs_im (by assumption)
        | (refine ⟨⟨?_, rfl, ?_, rfl, ?_⟩, trivial⟩ <;> first | (simp; done) | (apply imXs_map; intro _; exact ⟨rfl, rfl⟩))
        | trivial
        | rfl
        | (rw [i64_succ (by omega)])
        | omega)))
  · have hyes : l.any p = true := by
      cases h : l.any p
      · simp [idxI, h] at h1
      · rfl
    rw [show idxI p l = (l.findIdx p : Nat) by rw [idxI, if_pos hyes]]
    have hlt : l.findIdx p < l.length := List.findIdx_lt_length.2 (by simpa using hyes)
    obtain ⟨F, hF⟩ : ∃ F : Nat → List Int, F = fun j => (l.take j).filter fun y => !p y := ⟨_, rfl⟩
    have hF0 : F (l.findIdx p + 1) = l.take (l.findIdx p) := by
      rw [hF]
      simp only [take_snoc hlt, List.filter_append]
      rw [List.filter_eq_self.2]
      · simp [List.findIdx_getElem]
      · intro y hy
        obtain ⟨j, hj, rfl⟩ := List.getElem_of_mem hy
        rw [List.length_take] at hj
        rw [List.getElem_take]
        have := List.not_of_lt_findIdx (p := p) (xs := l) (i := j) (by omega)
        simpa using this
    have hFs : ∀ j (h : j < l.length), F (j + 1) = F j ++ (if p l[j] = true then [] else [l[j]]) := by
      intro j h
      rw [hF]
      simp only [take_snoc h, List.filter_append]
      congr 1
      cases hp : p l[j] <;> simp [hp]
    have hFl : ∀ j, (F j).length ≤ j := fun j => by
      rw [hF]
      have := List.length_filter_le (fun y => !p y) (l.take j)
      rw [List.length_take] at this
      simp only
      omega
    simp only [i64_succ (show l.findIdx p < 4611686018427387904 by omega)]
    refine W_loopF mixm (α := Nat × List Int) [5, 6] (fun x => x.1 ≤ l.length ∧ x.2.length = l.length ∧ (F x.1).length < x.1 ∧ x.2.take (F x.1).length = F x.1 ∧ x.2.drop x.1 = l.drop x.1) (fun x => [(5, vI (F x.1).length), (6, vI x.1)]) (fun x => [(0, .arr 1 (x.2.map vI) false)]) (fun x => l.length - x.1) (l.findIdx p + 1, l) ?_ ?_ fun x hx => ?_
    · refine ⟨by simp only; omega, rfl, ?_, ?_, rfl⟩
      · simp only [hF0, List.length_take]; omega
      · simp only [hF0, List.length_take, Nat.min_eq_left (Nat.le_of_lt hlt)]
    · have hFl0 : (F (l.findIdx p + 1)).length = l.findIdx p := by
        rw [hF0, List.length_take]
        omega
      refine .of [(0, some 0)] [] rfl (by first | rfl | (rw [hst]; rfl)) ?_ ?_
      all_goals (try simp only [ltSto, ltO2, ltO1, ltAs, ltA, ltC, ltCs, ltT, ltFr, ltS, wrOk, wrO, TL.get, hasFr, ↓reduceIte, Nat.reduceEqDiff, reduceCtorEq, Option.getD_some, Option.isSome_some, List.length_map, List.length_append, List.length_cons, List.length_nil, List.append_nil, List.mem_singleton, List.mem_cons, List.not_mem_nil, and_true, true_and, and_self, imp_self, forall_const, false_implies, implies_true, true_implies, or_false, Bool.false_eq_true, Bool.true_eq_false, ImXs_nil, true_or, or_true, false_or, false_and, and_false, rmK, rm1, List.map_append, List.map_cons, List.map_nil, List.cons_append, List.nil_append, hFl0])
      all_goals (try (repeat' (first
          | exact ltXs_nil
          | (apply ltXs_map; intro _; exact ⟨rfl, rfl⟩)
          | (apply imXs_map; intro _; exact ⟨rfl, rfl⟩)
          | with_reducible apply imXs_append
          | with_reducible refine imXs_cons ⟨rfl, rfl⟩ ?_
          | exact imXs_nil
          | with_reducible apply ltXs_append
          | with_reducible refine ltXs_cons ⟨rfl, rfl, ?_⟩ ?_
          | with_reducible apply And.intro
          | exact ltCs_im rfl
          | exact ltCs_im (by assumption)
          | (refine ⟨⟨?_, rfl, ?_, rfl, ?_⟩, trivial⟩ <;> first | (simp; done) | (apply imXs_map; intro _; exact ⟨rfl, rfl⟩))
          | trivial
          | rfl
          | (rw [i64_succ (by omega)])
          | omega)))
    obtain ⟨j, A⟩ := x
    obtain ⟨hj, hA, hFj, hA1, hA2⟩ := hx
    dsimp only at hj hA hFj hA1 hA2
    simp only [tl, tl2, isCallR, entX, argFr, ret, retI, retB, intT, unT, endR, ressR, resR, tupT, bslR, boxR, lenAll, ↓reduceIte, Nat.reduceEqDiff, Nat.reduceAdd, Nat.reduceMul, Nat.reduceLT, Nat.reduceLeDiff, reduceCtorEq, Int.reduceLE, Int.reduceLT, ne_eq, Int.reduceEq, not_false_eq_true, decide_true, decide_false, Int.reduceToNat, tl3, Int.reduceBNe, Int.reduceBEq, rmK, rm1, not_true_eq_false, decide_eq_true_eq, decide_eq_false_iff_not, List.length_map, hA]
    refine ⟨fun h => ?_, fun h => ?_⟩
    · have hj2 : j < l.length := by omega
      have hj3 : j < A.length := by omega
      have hAj : A[j] = l[j] := by
        have h1 := List.drop_eq_getElem_cons hj3
        rw [hA2, List.drop_eq_getElem_cons hj2] at h1
        injection h1 with h1 _
        exact h1.symm
      have hAd : A.drop (j + 1) = l.drop (j + 1) := by
        rw [← List.drop_drop, ← List.drop_drop, hA2]
      simp only [Int.toNat_natCast, getD_mapT hj3, hAj]
      refine ⟨by omega, hj2, ?_⟩
      refine C1.im (hf l[j] (List.getElem_mem hj2)) (imAL_cons rfl hcap) rfl ?_
      have hs := hFs j hj2
      have hw1 := i64_succ (i := j) (by omega)
      have hw2 := i64_succ (i := (F j).length) (by omega)
      simp only [tl, tl2, isCallR, entX, argFr, ret, retI, retB, intT, unT, endR, ressR, resR, tupT, bslR, boxR, lenAll, ↓reduceIte, Nat.reduceEqDiff, Nat.reduceAdd, Nat.reduceMul, Nat.reduceLT, Nat.reduceLeDiff, reduceCtorEq, Int.reduceLE, Int.reduceLT, ne_eq, Int.reduceEq, not_false_eq_true, decide_true, decide_false, Int.reduceToNat, tl3, Int.reduceBNe, Int.reduceBEq, rmK, rm1, not_true_eq_false, List.length_map, hA, hw1, hw2, Int.toNat_natCast]
      have hFlt : (F j).length < A.length := by omega
      refine ⟨fun h3 => ?_, fun h3 => ?_⟩
      · have h3 : p l[j] = false := by simpa using h3
        rw [if_neg (by rw [h3]; simp)] at hs
        simp only [getD_mapT hFlt, show ∀ a b, repl (vI a) 0 (vI b) = vI b from fun _ _ => rfl]
        rw [← List.map_set]
        refine ⟨by omega, ⟨by omega, by first | rfl | trivial⟩, ?_⟩
        refine ⟨(j + 1, A.set (F j).length l[j]), ⟨hj2, by simpa using hA, ?_, ?_, ?_⟩, by simp only; omega, ?_⟩
        · simp only [hs, List.length_append, List.length_cons, List.length_nil]; omega
        · simp only [hs, List.length_append, List.length_cons, List.length_nil, Nat.zero_add]
          rw [take_snoc (by rw [List.length_set]; omega), List.take_set_of_le (Nat.le_refl _), hA1, List.getElem_set_self]
        · simp only
          rw [List.drop_set_of_lt (by omega), hAd]
        · simp only [hs, List.length_append, List.length_cons, List.length_nil, Nat.zero_add]
          refine .of [(0, some 0)] [] rfl (by first | rfl | (rw [hst]; rfl)) ?_ ?_
          all_goals (try simp only [ltSto, ltO2, ltO1, ltAs, ltA, ltC, ltCs, ltT, ltFr, ltS, wrOk, wrO, TL.get, hasFr, ↓reduceIte, Nat.reduceEqDiff, reduceCtorEq, Option.getD_some, Option.isSome_some, List.length_map, List.length_append, List.length_cons, List.length_nil, List.append_nil, List.mem_singleton, List.mem_cons, List.not_mem_nil, and_true, true_and, and_self, imp_self, forall_const, false_implies, implies_true, true_implies, or_false, Bool.false_eq_true, Bool.true_eq_false, ImXs_nil, true_or, or_true, false_or, false_and, and_false, rmK, rm1, List.map_append, List.map_cons, List.map_nil, List.cons_append, List.nil_append])
          all_goals (try (repeat' (first
              | exact ltXs_nil
              | (apply ltXs_map; intro _; exact ⟨rfl, rfl⟩)
              | (apply imXs_map; intro _; exact ⟨rfl, rfl⟩)
              | with_reducible apply imXs_append
              | with_reducible refine imXs_cons ⟨rfl, rfl⟩ ?_
              | exact imXs_nil
              | with_reducible apply ltXs_append
              | with_reducible refine ltXs_cons ⟨rfl, rfl, ?_⟩ ?_
              | with_reducible apply And.intro
              | exact ltCs_im rfl
              | exact ltCs_im (by assumption)
              | (refine ⟨⟨?_, rfl, ?_, rfl, ?_⟩, trivial⟩ <;> first | (simp; done) | (apply imXs_map; intro _; exact ⟨rfl, rfl⟩))
              | trivial
              | rfl
              | (rw [i64_succ (by omega)])
              | omega)))
      · have h3 : p l[j] = true := by simpa using h3
        rw [if_pos h3, List.append_nil] at hs
        refine ⟨(j + 1, A), ⟨hj2, hA, ?_, ?_, hAd⟩, by simp only; omega, ?_⟩
        · simp only [hs]; omega
        · simp only [hs]; exact hA1
        · simp only [hs]
          refine .of [(0, some 0)] [] rfl (by first | rfl | (rw [hst]; rfl)) ?_ ?_
          all_goals (try simp only [ltSto, ltO2, ltO1, ltAs, ltA, ltC, ltCs, ltT, ltFr, ltS, wrOk, wrO, TL.get, hasFr, ↓reduceIte, Nat.reduceEqDiff, reduceCtorEq, Option.getD_some, Option.isSome_some, List.length_map, List.length_append, List.length_cons, List.length_nil, List.append_nil, List.mem_singleton, List.mem_cons, List.not_mem_nil, and_true, true_and, and_self, imp_self, forall_const, false_implies, implies_true, true_implies, or_false, Bool.false_eq_true, Bool.true_eq_false, ImXs_nil, true_or, or_true, false_or, false_and, and_false, rmK, rm1, List.map_append, List.map_cons, List.map_nil, List.cons_append, List.nil_append])
          all_goals (try (repeat' (first
              | exact ltXs_nil
              | (apply ltXs_map; intro _; exact ⟨rfl, rfl⟩)
              | (apply imXs_map; intro _; exact ⟨rfl, rfl⟩)
              | with_reducible apply imXs_append
              | with_reducible refine imXs_cons ⟨rfl, rfl⟩ ?_
              | exact imXs_nil
              | with_reducible apply ltXs_append
              | with_reducible refine ltXs_cons ⟨rfl, rfl, ?_⟩ ?_
              | with_reducible apply And.intro
              | exact ltCs_im rfl
              | exact ltCs_im (by assumption)
              | (refine ⟨⟨?_, rfl, ?_, rfl, ?_⟩, trivial⟩ <;> first | (simp; done) | (apply imXs_map; intro _; exact ⟨rfl, rfl⟩))
              | trivial
              | rfl
              | (rw [i64_succ (by omega)])
              | omega)))
    · have hj2 : j = l.length := by omega
      subst hj2
      have hFe : (l.filter fun y => !p y) = F l.length := by rw [hF]; simp only [List.take_length]
      rw [hFe]
      have e1 : (l.length : Int).toNat = l.length := Int.toNat_natCast _
      have e2 : ((F l.length).length : Int).toNat = (F l.length).length := Int.toNat_natCast _
      simp only [e1, e2, List.length_take, List.length_drop, List.length_replicate, List.length_map, hA]
      refine ⟨by omega, by omega, by omega, ?_⟩
      refine .cutv 1 rfl (by simp; omega) rfl (by simp; omega) ?_
      have hcut : (((A.map vI).take (F l.length).length ++ List.replicate (l.length - (F l.length).length) (T.v (.int .i64 0)) ++ (A.map vI).drop ((F l.length).length + (l.length - (F l.length).length))).take (F l.length).length) = (F l.length).map vI := by
        rw [List.append_assoc, List.take_append_of_le_length (by rw [List.length_take, List.length_map]; omega), List.take_take, Nat.min_self, ← List.map_take, hA1]
      simp only [Nat.sub_zero, Nat.zero_add, cutSt, List.append_assoc] at hcut ⊢
      rw [hcut]
      refine .of [(0, some 0), (1, some 1)] [] rfl (by first | rfl | (rw [hst]; rfl)) ?_ ?_
      all_goals (try simp only [ltSto, ltO2, ltO1, ltAs, ltA, ltC, ltCs, ltT, ltFr, ltS, wrOk, wrO, TL.get, hasFr, ↓reduceIte, Nat.reduceEqDiff, reduceCtorEq, Option.getD_some, Option.isSome_some, List.length_map, List.length_append, List.length_cons, List.length_nil, List.append_nil, List.mem_singleton, List.mem_cons, List.not_mem_nil, and_true, true_and, and_self, imp_self, forall_const, false_implies, implies_true, true_implies, or_false, Bool.false_eq_true, Bool.true_eq_false, ImXs_nil, true_or, or_true, false_or, false_and, and_false, rmK, rm1, List.map_append, List.map_cons, List.map_nil, List.cons_append, List.nil_append])
      all_goals (try (repeat' (first
          | exact ltXs_nil
          | (apply ltXs_map; intro _; exact ⟨rfl, rfl⟩)
          | (apply imXs_map; intro _; exact ⟨rfl, rfl⟩)
          | with_reducible apply imXs_append
          | with_reducible refine imXs_cons ⟨rfl, rfl⟩ ?_
          | exact imXs_nil
          | with_reducible apply ltXs_append
          | with_reducible refine ltXs_cons ⟨rfl, rfl, ?_⟩ ?_
          | with_reducible apply And.intro
          | exact ltCs_im rfl
          | exact ltCs_im (by assumption)
          | (refine ⟨⟨?_, rfl, ?_, rfl, ?_⟩, trivial⟩ <;> first | (simp; done) | (apply imXs_map; intro _; exact ⟨rfl, rfl⟩))
          | trivial
          | rfl
          | (rw [i64_succ (by omega)])
          | omega)))

/-! ltSto, ltO2, ltO1, ltAs, ltA, ltC, ltCs, ltT, ltFr, ltS, wrOk, wrO, TL.get, hasFr, ↓reduceIte, Nat.reduceEqDiff, reduceCtorEq, Option.getD_some, Option.isSome_some, List.length_map, List.length_append, List.length_cons, List.length_nil, List.append_nil, List.mem_singleton, List.mem_cons, List.not_mem_nil, and_true, true_and, and_self, imp_self, forall_const, false_implies, implies_true, true_implies, or_false, Bool.false_eq_true, Bool.true_eq_false, ImXs_nil, true_or, or_true, false_or, false_and, and_false, rmK, rm1# standing -/
def stepS (out : List Int) (x : Ent) : List Int :=
  let o := if x.kind = 1 then out else dropI x.of_ out
  if relE x = true then o ++ [x.num] else o
def standI (l : List Ent) : List Int := l.foldl stepS []
theorem stand_step {l : List Ent} {i : Nat} (h : i < l.length) : standI (l.take (i + 1)) = stepS (standI (l.take i)) l[i] := by
  unfold standI
  rw [take_snoc h, List.foldl_append]
  rfl
theorem stepS_len (out : List Int) (x : Ent) : (stepS out x).length ≤ out.length + 1 := by
  have := drop_len x.of_ out
  unfold stepS
  simp only
  split <;> split <;> simp <;> omega
theorem stand_len (l : List Ent) : ∀ i, i ≤ l.length → (standI (l.take i)).length ≤ i
  | 0, _ => by simp [standI]
  | i + 1, h => by
    rw [stand_step (by omega)]
    have h1 := stand_len l i (by omega)
    have h2 := stepS_len (standI (l.take i)) l[i]
    omega
/-- kinds that there are -/
def kindOk (x : Ent) : Prop := 1 ≤ x.kind ∧ x.kind ≤ 3
theorem step_eq {out : List Int} {x : Ent} (h : kindOk x) : stepS out x = stepI out x := by
  unfold stepS stepI relE kindOk at *
  obtain ⟨h1, h2⟩ := h
  by_cases e1 : x.kind = 1
  · simp [e1]
  · by_cases e2 : x.kind = 2
    · simp [e2]
    · have e3 : x.kind = 3 := by omega
      simp [e3]
theorem stand_eq : ∀ {l : List Ent} {o : List Int}, (∀ x ∈ l, kindOk x) → l.foldl stepS o = l.foldl stepI o
  | [], _, _ => rfl
  | x :: r, o, h => by
    simp only [List.foldl_cons]
    rw [step_eq (h x (by simp))]
    exact stand_eq fun y hy => h y (by simp [hy])
theorem c_register_standing_ip (n : Int) (x : Ent) : Spc Try.prog F_register_standing_1 [vI n, .ip (entT x).cells] [] (vB (n == x.of_)) [] := by
  refine spec_of_ir fn_register_standing_1 mixm (by simp) fun e _ hst => W_start ?_
  unfold ir_register_standing_1
  simp only [tl, tl2, isCallR, entX, argFr, ret, retI, retB, intT, unT, endR, ressR, resR, tupT, bslR, boxR, lenAll, ↓reduceIte, Nat.reduceEqDiff, Nat.reduceAdd, Nat.reduceMul, Nat.reduceLT, Nat.reduceLeDiff, reduceCtorEq, Int.reduceLE, Int.reduceLT, ne_eq, Int.reduceEq, not_false_eq_true, decide_true, decide_false, Int.reduceToNat, tl3, Int.reduceBNe, Int.reduceBEq, rmK, rm1, not_true_eq_false, entT]
  exact .imR rfl rfl
theorem c_register_standing (l : List Ent) (hl : l.length ≤ 1000000) : Spc Try.prog F_register_standing [vEs l] [] (vIs (standI l)) [] := by
  refine spec_of_ir fn_register_standing mixm (by simp) fun e _ hst => W_start ?_
  unfold ir_register_standing
  simp only [tl, tl2, isCallR, entX, argFr, ret, retI, retB, intT, unT, endR, ressR, resR, tupT, bslR, boxR, lenAll, ↓reduceIte, Nat.reduceEqDiff, Nat.reduceAdd, Nat.reduceMul, Nat.reduceLT, Nat.reduceLeDiff, reduceCtorEq, Int.reduceLE, Int.reduceLT, ne_eq, Int.reduceEq, not_false_eq_true, decide_true, decide_false, Int.reduceToNat, tl3, Int.reduceBNe, Int.reduceBEq, rmK, rm1, not_true_eq_false]
  refine W_loopF mixm (α := Nat) [3, 8] (fun i => i ≤ l.length) (fun i => [(3, .asl 1 (standI (l.take i)).length), (8, vI i)]) (fun i => [(1, .arr 1 ((standI (l.take i)).map vI) false)]) (fun i => l.length - i) 0 (by omega) ?_ fun i hi => ?_
  · refine .of [(1, none)] [] rfl (by first | rfl | (rw [hst]; rfl)) ?_ ?_
    all_goals (try simp only [ltSto, ltO2, ltO1, ltAs, ltA, ltC, ltCs, ltT, ltFr, ltS, wrOk, wrO, TL.get, hasFr, ↓reduceIte, Nat.reduceEqDiff, reduceCtorEq, Option.getD_some, Option.isSome_some, List.length_map, List.length_append, List.length_cons, List.length_nil, List.append_nil, List.mem_singleton, List.mem_cons, List.not_mem_nil, and_true, true_and, and_self, imp_self, forall_const, false_implies, implies_true, true_implies, or_false, Bool.false_eq_true, Bool.true_eq_false, ImXs_nil, true_or, or_true, false_or, false_and, and_false, rmK, rm1, List.map_append, List.map_cons, List.map_nil, List.cons_append, List.nil_append])
    all_goals (try (repeat' (first
        | exact ltXs_nil
        | (apply ltXs_map; intro _; exact ⟨rfl, rfl⟩)
        | (apply imXs_map; intro _; exact ⟨rfl, rfl⟩)
        | with_reducible apply imXs_append
        | with_reducible refine imXs_cons ⟨rfl, rfl⟩ ?_
        | exact imXs_nil
        | with_reducible apply ltXs_append
        | with_reducible refine ltXs_cons ⟨rfl, rfl, ?_⟩ ?_
        | with_reducible apply And.intro
        | exact ltCs_im rfl
        | exact ltCs_im (by assumption)
        | (refine ⟨⟨?_, rfl, ?_, rfl, ?_⟩, trivial⟩ <;> first | (simp; done) | (apply imXs_map; intro _; exact ⟨rfl, rfl⟩))
        | trivial
        | rfl
        | (rw [i64_succ (by omega)])
        | omega)))
  have hfl := stand_len l i hi
  simp only [tl, tl2, isCallR, entX, argFr, ret, retI, retB, intT, unT, endR, ressR, resR, tupT, bslR, boxR, lenAll, ↓reduceIte, Nat.reduceEqDiff, Nat.reduceAdd, Nat.reduceMul, Nat.reduceLT, Nat.reduceLeDiff, reduceCtorEq, Int.reduceLE, Int.reduceLT, ne_eq, Int.reduceEq, not_false_eq_true, decide_true, decide_false, Int.reduceToNat, tl3, Int.reduceBNe, Int.reduceBEq, rmK, rm1, not_true_eq_false, decide_eq_true_eq, decide_eq_false_iff_not]
  refine ⟨fun h => ?_, fun h => ?_⟩
  · have hfs := stand_step (l := l) (i := i) (by omega)
    have hi2 : i < l.length := by omega
    have hwi := i64_succ (i := i) (by omega)
    simp only [tl, tl2, isCallR, entX, argFr, ret, retI, retB, intT, unT, endR, ressR, resR, tupT, bslR, boxR, lenAll, ↓reduceIte, Nat.reduceEqDiff, Nat.reduceAdd, Nat.reduceMul, Nat.reduceLT, Nat.reduceLeDiff, reduceCtorEq, Int.reduceLE, Int.reduceLT, ne_eq, Int.reduceEq, not_false_eq_true, decide_true, decide_false, Int.reduceToNat, tl3, Int.reduceBNe, Int.reduceBEq, rmK, rm1, not_true_eq_false, Int.toNat_natCast, getD_mapT hi2, hwi, entT]
    generalize standI (l.take i) = o at *
    generalize l[i] = x at *
    refine ⟨by omega, fun h3 => ?_, fun h3 => ?_⟩
    · have h3 : ¬ x.kind = 1 := by simpa using h3
      refine C1.cutback 1 28680 1 [20488] (c_slices_DeleteFunc_int (fun n => n == x.of_) _ [.ip (entT x).cells] rfl o (fun n _ => c_register_standing_ip n x) (by omega)) rfl (by apply imXs_map; intro _; exact ⟨rfl, rfl⟩) (by apply imXs_map; intro _; exact ⟨rfl, rfl⟩) (by apply noA_map; intro _; rfl) (by rfl) ?_ (by rfl) ?_
      · simp only [ltSto, ltO2, ltO1, ltAs, ltA, ltC, ltCs, ltT, ltFr, ltS, wrOk, wrO, TL.get, hasFr, ↓reduceIte, Nat.reduceEqDiff, reduceCtorEq, Option.getD_some, Option.isSome_some, List.length_map, List.length_append, List.length_cons, List.length_nil, List.append_nil, List.mem_singleton, List.mem_cons, List.not_mem_nil, and_true, true_and, and_self, imp_self, forall_const, false_implies, implies_true, true_implies, or_false, Bool.false_eq_true, Bool.true_eq_false, ImXs_nil, true_or, or_true, false_or, false_and, and_false, rmK, rm1, ltP, List.cons_append, List.nil_append]
        exact ⟨by omega, rfl, imXs_ent x⟩
      have hdl := drop_len x.of_ o
      rw [show (o.filter fun y => !(y == x.of_)) = dropI x.of_ o from rfl]
      simp only [tl, tl2, isCallR, entX, argFr, ret, retI, retB, intT, unT, endR, ressR, resR, tupT, bslR, boxR, lenAll, ↓reduceIte, Nat.reduceEqDiff, Nat.reduceAdd, Nat.reduceMul, Nat.reduceLT, Nat.reduceLeDiff, reduceCtorEq, Int.reduceLE, Int.reduceLT, ne_eq, Int.reduceEq, not_false_eq_true, decide_true, decide_false, Int.reduceToNat, tl3, Int.reduceBNe, Int.reduceBEq, rmK, rm1, not_true_eq_false]
      refine C1.im (c_register_releases x) rfl (by rfl) ?_
      simp only [tl, tl2, isCallR, entX, argFr, ret, retI, retB, intT, unT, endR, ressR, resR, tupT, bslR, boxR, lenAll, ↓reduceIte, Nat.reduceEqDiff, Nat.reduceAdd, Nat.reduceMul, Nat.reduceLT, Nat.reduceLeDiff, reduceCtorEq, Int.reduceLE, Int.reduceLT, ne_eq, Int.reduceEq, not_false_eq_true, decide_true, decide_false, Int.reduceToNat, tl3, Int.reduceBNe, Int.reduceBEq, rmK, rm1, not_true_eq_false]
      refine ⟨fun h4 => ?_, fun h4 => ?_⟩
      · have hs : stepS o x = dropI x.of_ o ++ [x.num] := by
          unfold stepS; rw [if_neg h3, if_pos h4]
        rw [hs] at hfs
        refine ⟨by omega, i + 1, by omega, by omega, ?_⟩
        refine .of [(1, some 28680)] [] rfl (by first | rfl | (rw [hst]; rfl)) ?_ ?_
        all_goals (try simp only [ltSto, ltO2, ltO1, ltAs, ltA, ltC, ltCs, ltT, ltFr, ltS, wrOk, wrO, TL.get, hasFr, ↓reduceIte, Nat.reduceEqDiff, reduceCtorEq, Option.getD_some, Option.isSome_some, List.length_map, List.length_append, List.length_cons, List.length_nil, List.append_nil, List.mem_singleton, List.mem_cons, List.not_mem_nil, and_true, true_and, and_self, imp_self, forall_const, false_implies, implies_true, true_implies, or_false, Bool.false_eq_true, Bool.true_eq_false, ImXs_nil, true_or, or_true, false_or, false_and, and_false, rmK, rm1, List.map_append, List.map_cons, List.map_nil, List.cons_append, List.nil_append, hfs, hwi, List.length_append, List.length_cons, List.length_nil])
        all_goals (try (repeat' (first
            | exact ltXs_nil
            | (apply ltXs_map; intro _; exact ⟨rfl, rfl⟩)
            | (apply imXs_map; intro _; exact ⟨rfl, rfl⟩)
            | with_reducible apply imXs_append
            | with_reducible refine imXs_cons ⟨rfl, rfl⟩ ?_
            | exact imXs_nil
            | with_reducible apply ltXs_append
            | with_reducible refine ltXs_cons ⟨rfl, rfl, ?_⟩ ?_
            | with_reducible apply And.intro
            | exact ltCs_im rfl
            | exact ltCs_im (by assumption)
            | (refine ⟨⟨?_, rfl, ?_, rfl, ?_⟩, trivial⟩ <;> first | (simp; done) | (apply imXs_map; intro _; exact ⟨rfl, rfl⟩))
            | trivial
            | rfl
            | (rw [i64_succ (by omega)])
            | omega)))
      · have hs : stepS o x = dropI x.of_ o := by
          unfold stepS; rw [if_neg h3, if_neg (by rw [h4]; simp)]
        rw [hs] at hfs
        refine ⟨i + 1, by omega, by omega, ?_⟩
        refine .of [(1, some 28680)] [] rfl (by first | rfl | (rw [hst]; rfl)) ?_ ?_
        all_goals (try simp only [ltSto, ltO2, ltO1, ltAs, ltA, ltC, ltCs, ltT, ltFr, ltS, wrOk, wrO, TL.get, hasFr, ↓reduceIte, Nat.reduceEqDiff, reduceCtorEq, Option.getD_some, Option.isSome_some, List.length_map, List.length_append, List.length_cons, List.length_nil, List.append_nil, List.mem_singleton, List.mem_cons, List.not_mem_nil, and_true, true_and, and_self, imp_self, forall_const, false_implies, implies_true, true_implies, or_false, Bool.false_eq_true, Bool.true_eq_false, ImXs_nil, true_or, or_true, false_or, false_and, and_false, rmK, rm1, List.map_append, List.map_cons, List.map_nil, List.cons_append, List.nil_append, hfs, hwi])
        all_goals (try (repeat' (first
            | exact ltXs_nil
            | (apply ltXs_map; intro _; exact ⟨rfl, rfl⟩)
            | (apply imXs_map; intro _; exact ⟨rfl, rfl⟩)
            | with_reducible apply imXs_append
            | with_reducible refine imXs_cons ⟨rfl, rfl⟩ ?_
            | exact imXs_nil
            | with_reducible apply ltXs_append
            | with_reducible refine ltXs_cons ⟨rfl, rfl, ?_⟩ ?_
            | with_reducible apply And.intro
            | exact ltCs_im rfl
            | exact ltCs_im (by assumption)
            | (refine ⟨⟨?_, rfl, ?_, rfl, ?_⟩, trivial⟩ <;> first | (simp; done) | (apply imXs_map; intro _; exact ⟨rfl, rfl⟩))
            | trivial
            | rfl
            | (rw [i64_succ (by omega)])
            | omega)))
    · have h3 : x.kind = 1 := by simpa using h3
      refine C1.im (c_register_releases x) rfl (by rfl) ?_
      simp only [tl, tl2, isCallR, entX, argFr, ret, retI, retB, intT, unT, endR, ressR, resR, tupT, bslR, boxR, lenAll, ↓reduceIte, Nat.reduceEqDiff, Nat.reduceAdd, Nat.reduceMul, Nat.reduceLT, Nat.reduceLeDiff, reduceCtorEq, Int.reduceLE, Int.reduceLT, ne_eq, Int.reduceEq, not_false_eq_true, decide_true, decide_false, Int.reduceToNat, tl3, Int.reduceBNe, Int.reduceBEq, rmK, rm1, not_true_eq_false]
      refine ⟨fun h4 => ?_, fun h4 => ?_⟩
      · have hs : stepS o x = o ++ [x.num] := by unfold stepS; rw [if_pos h3, if_pos h4]
        rw [hs] at hfs
        refine ⟨by omega, i + 1, by omega, by omega, ?_⟩
        refine .of [(1, some 1)] [] rfl (by first | rfl | (rw [hst]; rfl)) ?_ ?_
        all_goals (try simp only [ltSto, ltO2, ltO1, ltAs, ltA, ltC, ltCs, ltT, ltFr, ltS, wrOk, wrO, TL.get, hasFr, ↓reduceIte, Nat.reduceEqDiff, reduceCtorEq, Option.getD_some, Option.isSome_some, List.length_map, List.length_append, List.length_cons, List.length_nil, List.append_nil, List.mem_singleton, List.mem_cons, List.not_mem_nil, and_true, true_and, and_self, imp_self, forall_const, false_implies, implies_true, true_implies, or_false, Bool.false_eq_true, Bool.true_eq_false, ImXs_nil, true_or, or_true, false_or, false_and, and_false, rmK, rm1, List.map_append, List.map_cons, List.map_nil, List.cons_append, List.nil_append, hfs, hwi, List.length_append, List.length_cons, List.length_nil])
        all_goals (try (repeat' (first
            | exact ltXs_nil
            | (apply ltXs_map; intro _; exact ⟨rfl, rfl⟩)
            | (apply imXs_map; intro _; exact ⟨rfl, rfl⟩)
            | with_reducible apply imXs_append
            | with_reducible refine imXs_cons ⟨rfl, rfl⟩ ?_
            | exact imXs_nil
            | with_reducible apply ltXs_append
            | with_reducible refine ltXs_cons ⟨rfl, rfl, ?_⟩ ?_
            | with_reducible apply And.intro
            | exact ltCs_im rfl
            | exact ltCs_im (by assumption)
            | (refine ⟨⟨?_, rfl, ?_, rfl, ?_⟩, trivial⟩ <;> first | (simp; done) | (apply imXs_map; intro _; exact ⟨rfl, rfl⟩))
            | trivial
            | rfl
            | (rw [i64_succ (by omega)])
            | omega)))
      · simp [relE, h3] at h4
  · have h2 : i = l.length := by omega
    subst h2
    rw [List.take_length]
    refine .of [] [1] rfl (by first | rfl | (rw [hst]; rfl)) ?_ ?_
    all_goals (try simp only [ltSto, ltO2, ltO1, ltAs, ltA, ltC, ltCs, ltT, ltFr, ltS, wrOk, wrO, TL.get, hasFr, ↓reduceIte, Nat.reduceEqDiff, reduceCtorEq, Option.getD_some, Option.isSome_some, List.length_map, List.length_append, List.length_cons, List.length_nil, List.append_nil, List.mem_singleton, List.mem_cons, List.not_mem_nil, and_true, true_and, and_self, imp_self, forall_const, false_implies, implies_true, true_implies, or_false, Bool.false_eq_true, Bool.true_eq_false, ImXs_nil, true_or, or_true, false_or, false_and, and_false, rmK, rm1, List.map_append, List.map_cons, List.map_nil, List.cons_append, List.nil_append])
    all_goals (try (repeat' (first
        | exact ltXs_nil
        | (apply ltXs_map; intro _; exact ⟨rfl, rfl⟩)
        | (apply imXs_map; intro _; exact ⟨rfl, rfl⟩)
        | with_reducible apply imXs_append
        | with_reducible refine imXs_cons ⟨rfl, rfl⟩ ?_
        | exact imXs_nil
        | with_reducible apply ltXs_append
        | with_reducible refine ltXs_cons ⟨rfl, rfl, ?_⟩ ?_
        | with_reducible apply And.intro
        | exact ltCs_im rfl
        | exact ltCs_im (by assumption)
        | (refine ⟨⟨?_, rfl, ?_, rfl, ?_⟩, trivial⟩ <;> first | (simp; done) | (apply imXs_map; intro _; exact ⟨rfl, rfl⟩))
        | trivial
        | rfl
        | (rw [i64_succ (by omega)])
        | omega)))

end Go.Proofs

