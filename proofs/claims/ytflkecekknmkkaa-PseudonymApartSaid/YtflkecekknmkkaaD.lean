import Derived.Test.YtflkecekknmkkaaL
set_option linter.unusedSimpArgs false
namespace Go.Proofs
open Go Go.TL
theorem getD_get {α : Type} {l : List α} {i : Nat} {d : α} (h : i < l.length) : l.getD i d = l[i] := by simp [List.getD, h]
theorem c12 (ns : List Int) (k : Int) (hlen : ns.length < 4611686018427387904) : Spc Try.prog 12 [.sl 1 (ns.map vI), vI k] [] (vB (ns.contains k)) [] := by
  refine spec_of_ir fn12 mixm (by simp) fun e _ hst => W_start ?_
  unfold ir12
  simp only [tl, tl2, isCallR, entX, argFr, ret, retI, retB, intT, unT, endR, ressR, resR, tupT, bslR, boxR, lenAll, ↓reduceIte, Nat.reduceEqDiff, Nat.reduceAdd, Nat.reduceMul, Nat.reduceLT, Nat.reduceLeDiff, reduceCtorEq, Int.reduceLE, Int.reduceLT, ne_eq, Int.reduceEq, not_false_eq_true, decide_true, decide_false, Int.reduceToNat]
  refine W_loop mixm (α := Nat) (fun i => i ≤ ns.length ∧ (ns.take i).contains k = false) (fun i => [(0, .sl 1 (ns.map vI)), (1, vI k), (5, vI i)]) (fun _ => []) (fun i => ns.length - i) 0 ⟨by omega, by simp⟩ (.ofFr (by simp [hasFr, TL.get])) fun i hi => ?_
  simp only [tl, tl2, isCallR, entX, argFr, ret, retI, retB, intT, unT, endR, ressR, resR, tupT, bslR, boxR, lenAll, ↓reduceIte, Nat.reduceEqDiff, Nat.reduceAdd, Nat.reduceMul, Nat.reduceLT, Nat.reduceLeDiff, reduceCtorEq, Int.reduceLE, Int.reduceLT, ne_eq, Int.reduceEq, not_false_eq_true, decide_true, decide_false, Int.reduceToNat, decide_eq_true_eq, decide_eq_false_iff_not]
  refine ⟨fun h => ?_, fun h => ?_⟩
  · have h2 : i < ns.length := by omega
    simp only [tl, tl2, isCallR, entX, argFr, ret, retI, retB, intT, unT, endR, ressR, resR, tupT, bslR, boxR, lenAll, ↓reduceIte, Nat.reduceEqDiff, Nat.reduceAdd, Nat.reduceMul, Nat.reduceLT, Nat.reduceLeDiff, reduceCtorEq, Int.reduceLE, Int.reduceLT, ne_eq, Int.reduceEq, not_false_eq_true, decide_true, decide_false, Int.reduceToNat, Int.toNat_natCast, getD_map h2, decide_eq_true_eq, decide_eq_false_iff_not]
    refine ⟨⟨by omega, by omega⟩, fun h3 => .imR ?_ rfl, fun h3 => ?_⟩
    · have : ns.contains k = true := by
        simp only [List.contains_eq_mem, decide_eq_true_eq]
        rw [← eq_of_beq h3, getD_get h2]; exact List.getElem_mem h2
      rw [this]
    · refine ⟨i + 1, ⟨by omega, ?_⟩, by omega, .ofFr ?_⟩
      · have := hi.2
        simp only [List.contains_eq_mem, decide_eq_false_iff_not] at this ⊢
        rw [List.take_succ_eq_append_getElem h2]
        simp only [List.mem_append, List.mem_singleton, not_or]
        refine ⟨this, fun h4 => ?_⟩
        rw [getD_get h2, ← h4] at h3
        simp at h3
      · simp [hasFr, TL.get]
        exact IntWalk.i64_in _ (by omega)
  · have : i = ns.length := by omega
    subst this
    refine .imR ?_ rfl
    have := hi.2
    rw [List.take_length] at this
    rw [this]
theorem c4 (s n : Int) (ns : List Int) (hn : 0 ≤ n) (hns : ∀ m ∈ ns, 0 ≤ m ∧ m < 256) : Spc Try.prog 4 [vI s, vU32 n, .sl 1 (ns.map vU8)] [] (vB true) [] := by
  refine spec_of_ir fn4 mixm (by simp) fun e _ hst => W_start ?_
  unfold ir4
  simp only [tl, tl2, isCallR, entX, argFr, ret, retI, retB, intT, unT, endR, ressR, resR, tupT, bslR, boxR, lenAll, ↓reduceIte, Nat.reduceEqDiff, Nat.reduceAdd, Nat.reduceMul, Nat.reduceLT, Nat.reduceLeDiff, reduceCtorEq, Int.reduceLE, Int.reduceLT, ne_eq, Int.reduceEq, not_false_eq_true, decide_true, decide_false, Int.reduceToNat, decide_eq_true_eq, decide_eq_false_iff_not]
  refine ⟨fun h => ?_, fun h => ?_⟩
  · refine C1.im c11 rfl rfl ?_
    simp only [tl, tl2, isCallR, entX, argFr, ret, retI, retB, intT, unT, endR, ressR, resR, tupT, bslR, boxR, lenAll, ↓reduceIte, Nat.reduceEqDiff, Nat.reduceAdd, Nat.reduceMul, Nat.reduceLT, Nat.reduceLeDiff, reduceCtorEq, Int.reduceLE, Int.reduceLT, ne_eq, Int.reduceEq, not_false_eq_true, decide_true, decide_false, Int.reduceToNat]
    exact .imR rfl rfl
  refine C1.im (c8' s) rfl rfl ?_
  simp only [tl, tl2, isCallR, entX, argFr, ret, retI, retB, intT, unT, endR, ressR, resR, tupT, bslR, boxR, lenAll, ↓reduceIte, Nat.reduceEqDiff, Nat.reduceAdd, Nat.reduceMul, Nat.reduceLT, Nat.reduceLeDiff, reduceCtorEq, Int.reduceLE, Int.reduceLT, ne_eq, Int.reduceEq, not_false_eq_true, decide_true, decide_false, Int.reduceToNat]
  rw [Int.tmod_eq_emod_of_nonneg hn, IntWalk.i64_in _ (by omega)]
  have hs := sec_range s
  have hk : 0 ≤ n % 524288 ∧ n % 524288 < 524288 := by omega
  generalize n % 524288 = k at hk
  generalize secI s = x at hs
  refine W_loop mixm (α := Nat × Int × List Int) (fun y => y.1 ≤ ns.length ∧ k ≤ y.2.1 ∧ y.2.1 ≤ k + 256 * y.1 ∧ y.2.2.length = y.1 ∧ ∀ z ∈ y.2.2, ∃ a : Int, 0 ≤ a ∧ a ≤ y.2.1 ∧ z = keyI x a)
    (fun y => [(7, vI x), (8, vI y.2.1), (9, .asl 1 y.2.2.length), (22, .sl 1 (ns.map vU8)), (23, vI ns.length), (24, vI y.1)])
    (fun y => [(1, .arr 1 (y.2.2.map vI) false)]) (fun y => ns.length - y.1) (0, k, []) ⟨by omega, by simp, by simp, rfl, by simp⟩ ?_ ?_
  · refine .of [(1, none)] [] rfl (by rw [hst]; rfl) ?_ ?_
    · simp only [ltSto, ltO2, TL.get, if_true, List.map_nil, and_self]
    · simp [ltFr, ltT, ltA, ltC, TL.get]
  rintro ⟨i, a, ks⟩ ⟨h1, h2, h3, h4, h5⟩
  simp only [tl, tl2, isCallR, entX, argFr, ret, retI, retB, intT, unT, endR, ressR, resR, tupT, bslR, boxR, lenAll, ↓reduceIte, Nat.reduceEqDiff, Nat.reduceAdd, Nat.reduceMul, Nat.reduceLT, Nat.reduceLeDiff, reduceCtorEq, Int.reduceLE, Int.reduceLT, ne_eq, Int.reduceEq, not_false_eq_true, decide_true, decide_false, Int.reduceToNat, decide_eq_true_eq, decide_eq_false_iff_not] at h1 h2 h3 h4 h5 ⊢
  refine ⟨fun h6 => ?_, fun h6 => ?_⟩
  · have h7 : i < ns.length := by omega
    have hb := hns _ (List.getElem_mem h7)
    simp only [tl, tl2, isCallR, entX, argFr, ret, retI, retB, intT, unT, endR, ressR, resR, tupT, bslR, boxR, lenAll, ↓reduceIte, Nat.reduceEqDiff, Nat.reduceAdd, Nat.reduceMul, Nat.reduceLT, Nat.reduceLeDiff, reduceCtorEq, Int.reduceLE, Int.reduceLT, ne_eq, Int.reduceEq, not_false_eq_true, decide_true, decide_false, Int.reduceToNat, Int.toNat_natCast, getD_map h7, getD_get h7]
    refine ⟨⟨by omega, by omega⟩, ?_⟩
    generalize ns[i] = b at hb
    rw [IntWalk.i64_in b (by omega), IntWalk.i64_in (1 + b) (by omega), IntWalk.i64_in (a + (1 + b)) (by omega)]
    refine C1.im (c9 _ _) rfl rfl ?_
    simp only [tl, tl2, isCallR, entX, argFr, ret, retI, retB, intT, unT, endR, ressR, resR, tupT, bslR, boxR, lenAll, ↓reduceIte, Nat.reduceEqDiff, Nat.reduceAdd, Nat.reduceMul, Nat.reduceLT, Nat.reduceLeDiff, reduceCtorEq, Int.reduceLE, Int.reduceLT, ne_eq, Int.reduceEq, not_false_eq_true, decide_true, decide_false, Int.reduceToNat]
    refine C1.lend [1] (c12 ks (keyI x (a + (1 + b))) (by omega)) ?_ rfl rfl ?_
    · simp only [ltAs, ltA, ltC, ltS, TL.get, List.append_nil, List.mem_singleton, if_true, and_true, true_and, List.length_map]
      exact imXs_map (f := vI) (fun _ => ⟨rfl, rfl⟩) ks
    simp only [tl, tl2, isCallR, entX, argFr, ret, retI, retB, intT, unT, endR, ressR, resR, tupT, bslR, boxR, lenAll, ↓reduceIte, Nat.reduceEqDiff, Nat.reduceAdd, Nat.reduceMul, Nat.reduceLT, Nat.reduceLeDiff, reduceCtorEq, Int.reduceLE, Int.reduceLT, ne_eq, Int.reduceEq, not_false_eq_true, decide_true, decide_false, Int.reduceToNat]
    have hin : ∀ a', 0 ≤ a' ∧ a' ≤ a + (1 + b) → rightI x a' = true := fun a' h => right_of hs (by omega)
    refine ⟨fun h8 => ?_, fun h8 => ⟨by omega, (i + 1, a + (1 + b), ks ++ [keyI x (a + (1 + b))]), ⟨by omega, by simp only; omega, by simp only; omega, by simp [h4], ?_⟩, by simp only; omega, ?_⟩⟩
    · exfalso
      simp only [List.contains_eq_mem, decide_eq_true_eq] at h8
      obtain ⟨a', h9, h10, h11⟩ := h5 _ h8
      have h12 := id_key (hin a' (by omega))
      rw [← h11, id_key (hin _ (by omega))] at h12
      omega
    · intro z hz
      simp only [List.mem_append, List.mem_singleton] at hz
      rcases hz with hz | rfl
      · obtain ⟨a', h9, h10, h11⟩ := h5 _ hz
        exact ⟨a', h9, by simp only; omega, h11⟩
      · exact ⟨_, by omega, by simp only; omega, rfl⟩
    · refine .of [(1, some 1)] [] rfl (by rw [hst]; rfl) ?_ ?_
      · simp only [ltSto, ltO2, ltO1, TL.get, if_true, List.map_append, List.map_cons, List.map_nil, and_true, true_and, imp_self]
        refine ⟨ltXs_refl ?_, by simp⟩
        exact imXs_map (f := vI) (fun _ => ⟨rfl, rfl⟩) (ks ++ [keyI x (a + (1 + b))]) |> fun h => by simpa using h
      · simp [ltFr, ltT, ltA, ltC, TL.get]
        exact IntWalk.i64_in _ (by omega)
  · refine C1.im c11 rfl rfl ?_
    simp only [tl, tl2, isCallR, entX, argFr, ret, retI, retB, intT, unT, endR, ressR, resR, tupT, bslR, boxR, lenAll, ↓reduceIte, Nat.reduceEqDiff, Nat.reduceAdd, Nat.reduceMul, Nat.reduceLT, Nat.reduceLeDiff, reduceCtorEq, Int.reduceLE, Int.reduceLT, ne_eq, Int.reduceEq, not_false_eq_true, decide_true, decide_false, Int.reduceToNat]
    exact .imR rfl rfl
end Go.Proofs

