import Derived.Test.YtmlpadmppocbkaaF
set_option linter.unusedSimpArgs false
namespace Go.Proofs
open Go Go.TL
theorem c17 (b : List UInt8) (hb : b.length ≤ 1048576) : Spc Try.prog 17 [vL b] [] (.tup [.sl 1 ((readB b).1.map vL), vI (readB b).2]) [] := by
  refine spec_of_ir fn17 mixm (by simp) fun e _ hst => W_start ?_
  unfold ir17
  simp only [tl, tl2, isCallR, entX, argFr, ret, retI, retB, intT, unT, endR, ressR, resR, tupT, bslR, boxR, lenAll, ↓reduceIte, Nat.reduceEqDiff, Nat.reduceAdd, Nat.reduceMul, Nat.reduceLT, Nat.reduceLeDiff, reduceCtorEq, Int.reduceLE, Int.reduceLT, ne_eq, Int.reduceEq, not_false_eq_true, decide_true, decide_false, Int.reduceToNat, tl3, Int.reduceBNe, Int.reduceBEq, decide_eq_true_eq, decide_eq_false_iff_not]
  refine W_loop mixm (α := Nat × List (List UInt8) × Nat) (fun x => x.2.2 ≤ b.length ∧ b.length - x.2.2 < x.1 ∧ x.2.1.length ≤ x.2.2 ∧ x.2.1 ++ (rdL x.1 (b.drop x.2.2)).1 = (readB b).1 ∧ x.2.2 + (rdL x.1 (b.drop x.2.2)).2 = (readB b).2)
    (fun x => [(0, vL b), (4, .asl 1 x.2.1.length), (5, vI x.2.2)]) (fun x => [(1, .arr 1 (x.2.1.map vL) false)]) (fun x => x.1) (b.length + 1, [], 0) ⟨by simp, by simp, by simp, by simp [readB], by simp [readB]⟩ ?_ ?_
  · refine .of [(1, none)] [] rfl (by rw [hst]; rfl) ?_ ?_
    · simp only [ltSto, ltO2, ltO1, ltAs, ltA, ltC, ltCs, ltT, ltFr, ltS, wrOk, wrO, TL.get, hasFr, ↓reduceIte, Nat.reduceEqDiff, reduceCtorEq, Option.getD_some, Option.isSome_some, List.length_map, List.length_append, List.length_cons, List.length_nil, List.append_nil, List.mem_singleton, List.mem_cons, List.not_mem_nil, and_true, true_and, and_self, imp_self, forall_const, false_implies, implies_true, true_implies, or_false, Bool.false_eq_true, Bool.true_eq_false, ImXs_nil, true_or, or_true, false_or, false_and, and_false, List.map_nil]
    · simp only [ltSto, ltO2, ltO1, ltAs, ltA, ltC, ltCs, ltT, ltFr, ltS, wrOk, wrO, TL.get, hasFr, ↓reduceIte, Nat.reduceEqDiff, reduceCtorEq, Option.getD_some, Option.isSome_some, List.length_map, List.length_append, List.length_cons, List.length_nil, List.append_nil, List.mem_singleton, List.mem_cons, List.not_mem_nil, and_true, true_and, and_self, imp_self, forall_const, false_implies, implies_true, true_implies, or_false, Bool.false_eq_true, Bool.true_eq_false, ImXs_nil, true_or, or_true, false_or, false_and, and_false]; rfl
  rintro ⟨f, out, at_⟩ ⟨h1, h2, hol, h3, h4⟩
  simp only at h1 h2 hol h3 h4
  obtain ⟨f, rfl⟩ : ∃ f', f = f' + 1 := ⟨f - 1, by omega⟩
  have hw0 : IntKind.i64.wrap ((b.length : Int) - at_) = ((b.length - at_ : Nat) : Int) := by rw [IntWalk.i64_in _ (by omega)]; omega
  simp only [tl, tl2, isCallR, entX, argFr, ret, retI, retB, intT, unT, endR, ressR, resR, tupT, bslR, boxR, lenAll, ↓reduceIte, Nat.reduceEqDiff, Nat.reduceAdd, Nat.reduceMul, Nat.reduceLT, Nat.reduceLeDiff, reduceCtorEq, Int.reduceLE, Int.reduceLT, ne_eq, Int.reduceEq, not_false_eq_true, decide_true, decide_false, Int.reduceToNat, tl3, Int.reduceBNe, Int.reduceBEq, decide_eq_true_eq, decide_eq_false_iff_not, cut_map, cut_from, hw0]
  generalize hr : b.drop at_ = r at h3 h4 ⊢
  have hrl : r.length = b.length - at_ := by rw [← hr]; simp
  have fin : good r = false → EndOk [] (T.tup [T.asl 1 out.length, vI at_]) [(1, Ob.arr 1 (List.map vL out) false)] (T.tup [T.sl 1 (List.map vL (readB b).fst), vI (readB b).snd]) [] := by
    intro hg
    simp only [rdL, hg, Bool.false_eq_true, if_false, List.append_nil, Nat.add_zero] at h3 h4
    refine .of [] [1] rfl rfl trivial ?_
    simp only [ltSto, ltO2, ltO1, ltAs, ltA, ltC, ltCs, ltT, ltFr, ltS, wrOk, wrO, TL.get, hasFr, ↓reduceIte, Nat.reduceEqDiff, reduceCtorEq, Option.getD_some, Option.isSome_some, List.length_map, List.length_append, List.length_cons, List.length_nil, List.append_nil, List.mem_singleton, List.mem_cons, List.not_mem_nil, and_true, true_and, and_self, imp_self, forall_const, false_implies, implies_true, true_implies, or_false, Bool.false_eq_true, Bool.true_eq_false, ImXs_nil, true_or, or_true, false_or, false_and, and_false, ← h3, ← h4]
    exact imXs_map (f := vL) (fun _ => ⟨rfl, rfl⟩) out
  refine ⟨fun h5 => ⟨by omega, ?_⟩, fun h5 => fin ?_⟩
  rotate_left
  · simp [good]; omega
  refine C1.im (c33 r (by omega)) rfl rfl ?_
  obtain ⟨n, hn⟩ : ∃ n : Nat, num r = n := Int.eq_ofNat_of_zero_le (num_range r).1
  have hnr := (num_range r).2
  have hw1 : IntKind.i64.wrap ((n : Int) + 8) = ((n + 8 : Nat) : Int) := by rw [IntWalk.i64_in _ (by omega)]; omega
  have hw2 : IntKind.i64.wrap ((at_ : Int) + 4) = ((at_ + 4 : Nat) : Int) := by rw [IntWalk.i64_in _ (by omega)]; omega
  have hw3 : IntKind.i64.wrap (((at_ + 4 : Nat) : Int) + n) = ((at_ + 4 + n : Nat) : Int) := by rw [IntWalk.i64_in _ (by omega)]; omega
  have hgood : good r = (decide (8 ≤ r.length) && (decide ((n : Int) ≤ 4096) && (decide ((n : Int) + 8 ≤ r.length) && decide (num (r.drop (4 + n)) = val (r.take (4 + n)))))) := by simp [good, hn]
  have hd1 : b.drop (at_ + 4 + n) = r.drop (4 + n) := by rw [← hr, List.drop_drop, Nat.add_assoc]
  have hd2 : (b.take (at_ + 4 + n)).drop at_ = r.take (4 + n) := by rw [List.drop_take, hr]; congr 1; omega
  have hd3 : (b.take (at_ + 4 + n)).drop (at_ + 4) = (r.take (4 + n)).drop 4 := by rw [← List.drop_drop, hd2]
  simp only [tl, tl2, isCallR, entX, argFr, ret, retI, retB, intT, unT, endR, ressR, resR, tupT, bslR, boxR, lenAll, ↓reduceIte, Nat.reduceEqDiff, Nat.reduceAdd, Nat.reduceMul, Nat.reduceLT, Nat.reduceLeDiff, reduceCtorEq, Int.reduceLE, Int.reduceLT, ne_eq, Int.reduceEq, not_false_eq_true, decide_true, decide_false, Int.reduceToNat, tl3, Int.reduceBNe, Int.reduceBEq, cut_map, hn, hw0, hw1, hw2, hw3, cut_from, cut_nat, List.take_length, hd1, hd2, Bool.or_eq_false_iff, decide_eq_false_iff_not]
  refine ⟨fun hc => by omega, ?_⟩
  refine C2.im (fun hc => c33 (r.drop (4 + n)) (by simp; omega)) (fun _ => rfl) rfl ?_
  simp only [tl, tl2, isCallR, entX, argFr, ret, retI, retB, intT, unT, endR, ressR, resR, tupT, bslR, boxR, lenAll, ↓reduceIte, Nat.reduceEqDiff, Nat.reduceAdd, Nat.reduceMul, Nat.reduceLT, Nat.reduceLeDiff, reduceCtorEq, Int.reduceLE, Int.reduceLT, ne_eq, Int.reduceEq, not_false_eq_true, decide_true, decide_false, Int.reduceToNat, tl3, Int.reduceBNe, Int.reduceBEq, cut_map, hn, hw0, hw1, hw2, hw3, cut_from, cut_nat, List.take_length, hd1, hd2, Bool.or_eq_false_iff, decide_eq_false_iff_not]
  refine ⟨fun hc => by omega, ?_⟩
  refine C2.im (fun hc => c31 (r.take (4 + n)) (by simp; omega)) (fun _ => rfl) rfl ?_
  simp only [tl, tl2, isCallR, entX, argFr, ret, retI, retB, intT, unT, endR, ressR, resR, tupT, bslR, boxR, lenAll, ↓reduceIte, Nat.reduceEqDiff, Nat.reduceAdd, Nat.reduceMul, Nat.reduceLT, Nat.reduceLeDiff, reduceCtorEq, Int.reduceLE, Int.reduceLT, ne_eq, Int.reduceEq, not_false_eq_true, decide_true, decide_false, Int.reduceToNat, tl3, Int.reduceBNe, Int.reduceBEq, cut_map, hn, hw0, hw1, hw2, hw3, cut_from, cut_nat, List.take_length, hd1, hd2, hd3]
  refine ⟨by kernel_rfl, fun h6 => fin ?_, fun h6 => ?_⟩
  · rw [hgood]
    by_cases g1 : (n : Int) ≤ 4096 <;> by_cases g2 : (n : Int) + 8 ≤ r.length
    · have e1 : decide ((n : Int) > 4096) = false := by simp; omega
      have e2 : decide (((n + 8 : Nat) : Int) > ((b.length - at_ : Nat) : Int)) = false := by simp; omega
      rw [e1, e2] at h6
      simp only [Bool.false_or, bne_iff_ne, ne_eq] at h6
      simp [h6]
    all_goals simp [g1, g2]
  · have hg : good r = true ∧ (n : Int) ≤ 4096 ∧ (n : Int) + 8 ≤ r.length := by
      simp only [Bool.or_eq_false_iff, decide_eq_false_iff_not, bne_eq_false_iff_eq] at h6
      rw [hgood]
      simp only [Bool.and_eq_true, decide_eq_true_eq]
      exact ⟨⟨by omega, by omega, by omega, h6.2⟩, by omega, by omega⟩
    obtain ⟨hg, hg1, hg2⟩ := hg
    simp only [rdL, hg, if_true, hn, Int.toNat_natCast] at h3 h4
    have hw4 : IntKind.i64.wrap ((at_ : Int) + ((n + 8 : Nat) : Int)) = ((at_ + (n + 8) : Nat) : Int) := by rw [IntWalk.i64_in _ (by omega)]; omega
    simp only [hw4]
    have hpl : ((r.take (4 + n)).drop 4).length ≤ 4096 := by simp; omega
    generalize (r.take (4 + n)).drop 4 = q at *
    refine ⟨by omega, by omega, by omega, (f, out ++ [q], at_ + (n + 8)), ⟨by simp only; omega, by simp only; omega, by simp; omega, ?_, ?_⟩, by simp only; omega, ?_⟩
    · rw [← h3, ← List.drop_drop, hr, List.append_assoc]; rfl
    · rw [← h4, ← List.drop_drop, hr, Nat.add_assoc]
    · refine .of [(1, some 1)] [28676] rfl (by rw [hst]; rfl) ?_ ?_
      · simp only [ltSto, ltO2, ltO1, ltAs, ltA, ltC, ltCs, ltT, ltFr, ltS, wrOk, wrO, TL.get, hasFr, ↓reduceIte, Nat.reduceEqDiff, reduceCtorEq, Option.getD_some, Option.isSome_some, List.length_map, List.length_append, List.length_cons, List.length_nil, List.append_nil, List.mem_singleton, List.mem_cons, List.not_mem_nil, and_true, true_and, and_self, imp_self, forall_const, false_implies, implies_true, true_implies, or_false, Bool.false_eq_true, Bool.true_eq_false, ImXs_nil, true_or, or_true, false_or, false_and, and_false, List.map_append, List.map_cons, List.map_nil]
        refine ltXs_append (ltXs_refl (imXs_map (f := vL) (fun _ => ⟨rfl, rfl⟩) out)) (ltXs_cons ⟨rfl, rfl, ?_⟩ ltXs_nil)
        simp only [T.cells, ltSto, ltO2, ltO1, ltAs, ltA, ltC, ltCs, ltT, ltFr, ltS, wrOk, wrO, TL.get, hasFr, ↓reduceIte, Nat.reduceEqDiff, reduceCtorEq, Option.getD_some, Option.isSome_some, List.length_map, List.length_append, List.length_cons, List.length_nil, List.append_nil, List.mem_singleton, List.mem_cons, List.not_mem_nil, and_true, true_and, and_self, imp_self, forall_const, false_implies, implies_true, true_implies, or_false, Bool.false_eq_true, Bool.true_eq_false, ImXs_nil, true_or, or_true, false_or, false_and, and_false]
        exact bytes_v q
      · simp only [ltSto, ltO2, ltO1, ltAs, ltA, ltC, ltCs, ltT, ltFr, ltS, wrOk, wrO, TL.get, hasFr, ↓reduceIte, Nat.reduceEqDiff, reduceCtorEq, Option.getD_some, Option.isSome_some, List.length_map, List.length_append, List.length_cons, List.length_nil, List.append_nil, List.mem_singleton, List.mem_cons, List.not_mem_nil, and_true, true_and, and_self, imp_self, forall_const, false_implies, implies_true, true_implies, or_false, Bool.false_eq_true, Bool.true_eq_false, ImXs_nil, true_or, or_true, false_or, false_and, and_false]
end Go.Proofs

