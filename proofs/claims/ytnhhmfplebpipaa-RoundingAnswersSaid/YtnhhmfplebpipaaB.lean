import Derived.Test.YtnhhmfplebpipaaA
set_option linter.unusedSimpArgs false
set_option linter.unusedVariables false
namespace Go.Proofs
open Go Go.TL
def valsR (t : List Int) (b : Int) : T := if 12 < t.length then .tup [.sl 1 [], vI 17] else if rightB t b = true then .tup [.sl 1 ((t.map fun n => choi n b).map vIs), vI 0] else .tup [.sl 1 [], vI 2]
theorem right_all {t : List Int} {b : Int} (h : rightB t b = true) : (1 ≤ b ∧ b ≤ 20) ∧ ∀ n ∈ t, 0 ≤ n ∧ n ≤ 1000000 := by
  simp only [rightB, Bool.and_eq_true, decide_eq_true_eq, Bool.not_eq_true', List.any_eq_false] at h
  refine ⟨by omega, fun n hn => ?_⟩
  have := h.2 n hn
  simp [outB] at this
  omega
theorem c16 (l : List Int) (b : Int) (hl : l.length < 4611686018427387904) : Spc Try.prog 16 [vIs l, vI b] [] (valsR l b) [] := by
  refine spec_of_ir fn16 mixm (by simp) fun e _ hst => W_start ?_
  unfold ir16
  simp only [tl, tl2, isCallR, entX, argFr, ret, retI, retB, intT, unT, endR, ressR, resR, tupT, bslR, boxR, lenAll, ↓reduceIte, Nat.reduceEqDiff, Nat.reduceAdd, Nat.reduceMul, Nat.reduceLT, Nat.reduceLeDiff, reduceCtorEq, Int.reduceLE, Int.reduceLT, ne_eq, Int.reduceEq, not_false_eq_true, decide_true, decide_false, Int.reduceToNat, tl3, Int.reduceBNe, Int.reduceBEq, decide_eq_true_eq, decide_eq_false_iff_not]
  refine ⟨fun h => ?_, fun h => ?_⟩
  · rw [valsR, if_pos (by omega)]
    refine .of [] [] rfl rfl trivial ?_
    simp only [ltSto, ltO2, ltO1, ltAs, ltA, ltC, ltCs, ltT, ltFr, ltS, wrOk, wrO, TL.get, hasFr, ↓reduceIte, Nat.reduceEqDiff, reduceCtorEq, Option.getD_some, Option.isSome_some, List.length_map, List.length_append, List.length_cons, List.length_nil, List.append_nil, List.mem_singleton, List.mem_cons, List.not_mem_nil, and_true, true_and, and_self, imp_self, forall_const, false_implies, implies_true, true_implies, or_false, Bool.false_eq_true, Bool.true_eq_false, ImXs_nil, true_or, or_true, false_or, false_and, and_false]
  refine C1.im (c28 l b hl) rfl (by rfl) ?_
  simp only [tl, tl2, isCallR, entX, argFr, ret, retI, retB, intT, unT, endR, ressR, resR, tupT, bslR, boxR, lenAll, ↓reduceIte, Nat.reduceEqDiff, Nat.reduceAdd, Nat.reduceMul, Nat.reduceLT, Nat.reduceLeDiff, reduceCtorEq, Int.reduceLE, Int.reduceLT, ne_eq, Int.reduceEq, not_false_eq_true, decide_true, decide_false, Int.reduceToNat, tl3, Int.reduceBNe, Int.reduceBEq, Bool.not_eq_true', Bool.not_eq_false']
  refine ⟨fun h1 => ?_, fun h1 => ?_⟩
  · rw [valsR, if_neg (by omega), if_neg (by rw [h1]; simp)]
    refine .of [] [] rfl rfl trivial ?_
    simp only [ltSto, ltO2, ltO1, ltAs, ltA, ltC, ltCs, ltT, ltFr, ltS, wrOk, wrO, TL.get, hasFr, ↓reduceIte, Nat.reduceEqDiff, reduceCtorEq, Option.getD_some, Option.isSome_some, List.length_map, List.length_append, List.length_cons, List.length_nil, List.append_nil, List.mem_singleton, List.mem_cons, List.not_mem_nil, and_true, true_and, and_self, imp_self, forall_const, false_implies, implies_true, true_implies, or_false, Bool.false_eq_true, Bool.true_eq_false, ImXs_nil, true_or, or_true, false_or, false_and, and_false]
  obtain ⟨hb, hn⟩ := right_all h1
  rw [valsR, if_neg (by omega), if_pos h1]
  refine W_loop mixm (α := Nat) (fun i => i ≤ l.length) (fun i => [(1, vI b), (6, .asl 1 i), (16, vIs l), (17, vI l.length), (18, vI i)]) (fun i => [(1, .arr 1 (((l.take i).map fun n => choi n b).map vIs) false)]) (fun i => l.length - i) 0 (by omega) ?_ fun i hi => ?_
  · refine .of [(1, none)] [] rfl (by rw [hst]; rfl) ?_ ?_
    · simp only [ltSto, ltO2, ltO1, ltAs, ltA, ltC, ltCs, ltT, ltFr, ltS, wrOk, wrO, TL.get, hasFr, ↓reduceIte, Nat.reduceEqDiff, reduceCtorEq, Option.getD_some, Option.isSome_some, List.length_map, List.length_append, List.length_cons, List.length_nil, List.append_nil, List.mem_singleton, List.mem_cons, List.not_mem_nil, and_true, true_and, and_self, imp_self, forall_const, false_implies, implies_true, true_implies, or_false, Bool.false_eq_true, Bool.true_eq_false, ImXs_nil, true_or, or_true, false_or, false_and, and_false, List.take_zero, List.map_nil]
    · simp only [ltSto, ltO2, ltO1, ltAs, ltA, ltC, ltCs, ltT, ltFr, ltS, wrOk, wrO, TL.get, hasFr, ↓reduceIte, Nat.reduceEqDiff, reduceCtorEq, Option.getD_some, Option.isSome_some, List.length_map, List.length_append, List.length_cons, List.length_nil, List.append_nil, List.mem_singleton, List.mem_cons, List.not_mem_nil, and_true, true_and, and_self, imp_self, forall_const, false_implies, implies_true, true_implies, or_false, Bool.false_eq_true, Bool.true_eq_false, ImXs_nil, true_or, or_true, false_or, false_and, and_false]; trivial
  have htl : (l.take i).length = i := by simp; omega
  simp only [tl, tl2, isCallR, entX, argFr, ret, retI, retB, intT, unT, endR, ressR, resR, tupT, bslR, boxR, lenAll, ↓reduceIte, Nat.reduceEqDiff, Nat.reduceAdd, Nat.reduceMul, Nat.reduceLT, Nat.reduceLeDiff, reduceCtorEq, Int.reduceLE, Int.reduceLT, ne_eq, Int.reduceEq, not_false_eq_true, decide_true, decide_false, Int.reduceToNat, tl3, Int.reduceBNe, Int.reduceBEq, decide_eq_true_eq, decide_eq_false_iff_not]
  refine ⟨fun h3 => ?_, fun h3 => ?_⟩
  · have h2 : i < l.length := by omega
    have hx := hn _ (List.getElem_mem h2)
    simp only [tl, tl2, isCallR, entX, argFr, ret, retI, retB, intT, unT, endR, ressR, resR, tupT, bslR, boxR, lenAll, ↓reduceIte, Nat.reduceEqDiff, Nat.reduceAdd, Nat.reduceMul, Nat.reduceLT, Nat.reduceLeDiff, reduceCtorEq, Int.reduceLE, Int.reduceLT, ne_eq, Int.reduceEq, not_false_eq_true, decide_true, decide_false, Int.reduceToNat, tl3, Int.reduceBNe, Int.reduceBEq, Int.toNat_natCast, getD_ints h2]
    refine ⟨by omega, ?_⟩
    refine C1.im (c29 l[i] b (by omega) (by omega)) rfl (by rfl) ?_
    simp only [tl, tl2, isCallR, entX, argFr, ret, retI, retB, intT, unT, endR, ressR, resR, tupT, bslR, boxR, lenAll, ↓reduceIte, Nat.reduceEqDiff, Nat.reduceAdd, Nat.reduceMul, Nat.reduceLT, Nat.reduceLeDiff, reduceCtorEq, Int.reduceLE, Int.reduceLT, ne_eq, Int.reduceEq, not_false_eq_true, decide_true, decide_false, Int.reduceToNat, tl3, Int.reduceBNe, Int.reduceBEq, htl]
    refine ⟨by omega, i + 1, by omega, by omega, .of [(1, some 1)] [] rfl (by rw [hst]; rfl) ?_ ?_⟩
    · simp only [ltSto, ltO2, ltO1, ltAs, ltA, ltC, ltCs, ltT, ltFr, ltS, wrOk, wrO, TL.get, hasFr, ↓reduceIte, Nat.reduceEqDiff, reduceCtorEq, Option.getD_some, Option.isSome_some, List.length_map, List.length_append, List.length_cons, List.length_nil, List.append_nil, List.mem_singleton, List.mem_cons, List.not_mem_nil, and_true, true_and, and_self, imp_self, forall_const, false_implies, implies_true, true_implies, or_false, Bool.false_eq_true, Bool.true_eq_false, ImXs_nil, true_or, or_true, false_or, false_and, and_false, List.take_succ_eq_append_getElem h2, List.map_append, List.map_cons, List.map_nil]
      exact ltXs_append (ltXs_refl (imXs_map (f := vIs) (fun _ => ⟨rfl, rfl⟩) _)) (ltXs_refl (imXs_map (f := vIs) (fun _ => ⟨rfl, rfl⟩) [choi l[i] b]))
    · simp only [ltSto, ltO2, ltO1, ltAs, ltA, ltC, ltCs, ltT, ltFr, ltS, wrOk, wrO, TL.get, hasFr, ↓reduceIte, Nat.reduceEqDiff, reduceCtorEq, Option.getD_some, Option.isSome_some, List.length_map, List.length_append, List.length_cons, List.length_nil, List.append_nil, List.mem_singleton, List.mem_cons, List.not_mem_nil, and_true, true_and, and_self, imp_self, forall_const, false_implies, implies_true, true_implies, or_false, Bool.false_eq_true, Bool.true_eq_false, ImXs_nil, true_or, or_true, false_or, false_and, and_false]
      rw [IntWalk.i64_in _ (by omega)]
      rfl
  · have h2 : i = l.length := by omega
    subst h2
    refine .of [] [1] rfl rfl trivial ?_
    simp only [ltSto, ltO2, ltO1, ltAs, ltA, ltC, ltCs, ltT, ltFr, ltS, wrOk, wrO, TL.get, hasFr, ↓reduceIte, Nat.reduceEqDiff, reduceCtorEq, Option.getD_some, Option.isSome_some, List.length_map, List.length_append, List.length_cons, List.length_nil, List.append_nil, List.mem_singleton, List.mem_cons, List.not_mem_nil, and_true, true_and, and_self, imp_self, forall_const, false_implies, implies_true, true_implies, or_false, Bool.false_eq_true, Bool.true_eq_false, ImXs_nil, true_or, or_true, false_or, false_and, and_false, List.take_length]
    exact imXs_map (f := vIs) (fun _ => ⟨rfl, rfl⟩) _
theorem c17 (l : List Int) (b : Int) (hl : l.length < 4611686018427387904) : Spc Try.prog 17 [vIs l, vI b] [] (valsR l b) [] := by
  refine spec_of_ir fn17 mixm (by simp) fun e _ hst => W_start ?_
  unfold ir17
  simp only [tl, tl2, isCallR, entX, argFr, ret, retI, retB, intT, unT, endR, ressR, resR, tupT, bslR, boxR, lenAll, ↓reduceIte, Nat.reduceEqDiff, Nat.reduceAdd, Nat.reduceMul, Nat.reduceLT, Nat.reduceLeDiff, reduceCtorEq, Int.reduceLE, Int.reduceLT, ne_eq, Int.reduceEq, not_false_eq_true, decide_true, decide_false, Int.reduceToNat, tl3, Int.reduceBNe, Int.reduceBEq, decide_eq_true_eq, decide_eq_false_iff_not]
  refine ⟨fun h => ?_, fun h => ?_⟩
  · rw [valsR, if_pos (by omega)]
    refine .of [] [] rfl rfl trivial ?_
    simp only [ltSto, ltO2, ltO1, ltAs, ltA, ltC, ltCs, ltT, ltFr, ltS, wrOk, wrO, TL.get, hasFr, ↓reduceIte, Nat.reduceEqDiff, reduceCtorEq, Option.getD_some, Option.isSome_some, List.length_map, List.length_append, List.length_cons, List.length_nil, List.append_nil, List.mem_singleton, List.mem_cons, List.not_mem_nil, and_true, true_and, and_self, imp_self, forall_const, false_implies, implies_true, true_implies, or_false, Bool.false_eq_true, Bool.true_eq_false, ImXs_nil, true_or, or_true, false_or, false_and, and_false]
  refine C1.im (c26 l b hl) rfl (by rfl) ?_
  simp only [tl, tl2, isCallR, entX, argFr, ret, retI, retB, intT, unT, endR, ressR, resR, tupT, bslR, boxR, lenAll, ↓reduceIte, Nat.reduceEqDiff, Nat.reduceAdd, Nat.reduceMul, Nat.reduceLT, Nat.reduceLeDiff, reduceCtorEq, Int.reduceLE, Int.reduceLT, ne_eq, Int.reduceEq, not_false_eq_true, decide_true, decide_false, Int.reduceToNat, tl3, Int.reduceBNe, Int.reduceBEq, bne_iff_ne, bne_eq_false_iff_eq]
  refine ⟨fun h1 => ?_, fun h1 => ?_⟩
  · have h4 : ¬ rightB l b = true := fun hr => by rw [if_pos hr] at h1; exact h1 rfl
    rw [if_neg h4, valsR, if_neg (by omega), if_neg h4]
    refine .of [] [] rfl rfl trivial ?_
    simp only [ltSto, ltO2, ltO1, ltAs, ltA, ltC, ltCs, ltT, ltFr, ltS, wrOk, wrO, TL.get, hasFr, ↓reduceIte, Nat.reduceEqDiff, reduceCtorEq, Option.getD_some, Option.isSome_some, List.length_map, List.length_append, List.length_cons, List.length_nil, List.append_nil, List.mem_singleton, List.mem_cons, List.not_mem_nil, and_true, true_and, and_self, imp_self, forall_const, false_implies, implies_true, true_implies, or_false, Bool.false_eq_true, Bool.true_eq_false, ImXs_nil, true_or, or_true, false_or, false_and, and_false]
  have h1 : rightB l b = true := by
    cases h2 : rightB l b
    · rw [h2] at h1; simp at h1
    · rfl
  obtain ⟨hb, hn⟩ := right_all h1
  rw [valsR, if_neg (by omega), if_pos h1]
  refine W_loop mixm (α := Nat) (fun i => i ≤ l.length) (fun i => [(1, vI b), (7, .asl 1 i), (20, vIs l), (21, vI l.length), (22, vI i)]) (fun i => [(1, .arr 1 (((l.take i).map fun n => choi n b).map vIs) false)]) (fun i => l.length - i) 0 (by omega) ?_ fun i hi => ?_
  · refine .of [(1, none)] [] rfl (by rw [hst]; rfl) ?_ ?_
    · simp only [ltSto, ltO2, ltO1, ltAs, ltA, ltC, ltCs, ltT, ltFr, ltS, wrOk, wrO, TL.get, hasFr, ↓reduceIte, Nat.reduceEqDiff, reduceCtorEq, Option.getD_some, Option.isSome_some, List.length_map, List.length_append, List.length_cons, List.length_nil, List.append_nil, List.mem_singleton, List.mem_cons, List.not_mem_nil, and_true, true_and, and_self, imp_self, forall_const, false_implies, implies_true, true_implies, or_false, Bool.false_eq_true, Bool.true_eq_false, ImXs_nil, true_or, or_true, false_or, false_and, and_false, List.take_zero, List.map_nil]
    · simp only [ltSto, ltO2, ltO1, ltAs, ltA, ltC, ltCs, ltT, ltFr, ltS, wrOk, wrO, TL.get, hasFr, ↓reduceIte, Nat.reduceEqDiff, reduceCtorEq, Option.getD_some, Option.isSome_some, List.length_map, List.length_append, List.length_cons, List.length_nil, List.append_nil, List.mem_singleton, List.mem_cons, List.not_mem_nil, and_true, true_and, and_self, imp_self, forall_const, false_implies, implies_true, true_implies, or_false, Bool.false_eq_true, Bool.true_eq_false, ImXs_nil, true_or, or_true, false_or, false_and, and_false]; trivial
  have htl : (l.take i).length = i := by simp; omega
  simp only [tl, tl2, isCallR, entX, argFr, ret, retI, retB, intT, unT, endR, ressR, resR, tupT, bslR, boxR, lenAll, ↓reduceIte, Nat.reduceEqDiff, Nat.reduceAdd, Nat.reduceMul, Nat.reduceLT, Nat.reduceLeDiff, reduceCtorEq, Int.reduceLE, Int.reduceLT, ne_eq, Int.reduceEq, not_false_eq_true, decide_true, decide_false, Int.reduceToNat, tl3, Int.reduceBNe, Int.reduceBEq, decide_eq_true_eq, decide_eq_false_iff_not]
  refine ⟨fun h3 => ?_, fun h3 => ?_⟩
  · have h2 : i < l.length := by omega
    have hx := hn _ (List.getElem_mem h2)
    have hlow : IntKind.i64.wrap (IntKind.i64.wrap ((l[i]).tdiv b) * b) = l[i] - l[i] % b := by
      have h5 := Int.mul_ediv_add_emod l[i] b
      have h6 : l[i] / b ≤ l[i] := Int.ediv_le_self _ (by omega)
      have h7 : 0 ≤ l[i] / b := Int.ediv_nonneg (by omega) (by omega)
      have h8 := Int.emod_nonneg l[i] (b := b) (by omega)
      have h9 := Int.emod_lt_of_pos l[i] (b := b) (by omega)
      rw [Int.tdiv_eq_ediv_of_nonneg (by omega), IntWalk.i64_in (l[i] / b) (by omega), Int.mul_comm, show b * (l[i] / b) = l[i] - l[i] % b by omega]
      exact IntWalk.i64_in _ (by omega)
    have hw2 : IntKind.i64.wrap (l[i] - l[i] % b + b) = l[i] - l[i] % b + b := by
      have h8 := Int.emod_nonneg l[i] (b := b) (by omega)
      have h9 := Int.emod_lt_of_pos l[i] (b := b) (by omega)
      exact IntWalk.i64_in _ (by omega)
    simp only [tl, tl2, isCallR, entX, argFr, ret, retI, retB, intT, unT, endR, ressR, resR, tupT, bslR, boxR, lenAll, ↓reduceIte, Nat.reduceEqDiff, Nat.reduceAdd, Nat.reduceMul, Nat.reduceLT, Nat.reduceLeDiff, reduceCtorEq, Int.reduceLE, Int.reduceLT, ne_eq, Int.reduceEq, not_false_eq_true, decide_true, decide_false, Int.reduceToNat, tl3, Int.reduceBNe, Int.reduceBEq, Int.toNat_natCast, getD_ints h2, htl, hlow, hw2]
    refine ⟨by omega, by omega, fun h5 => ⟨by omega, i + 1, by omega, by omega, ?_⟩, fun h5 => ⟨by omega, i + 1, by omega, by omega, ?_⟩⟩
    · have hc : choi l[i] b = [l[i]] := by rw [choi, if_pos]; simp at h5; omega
      refine .of [(1, some 1)] [53256] rfl (by rw [hst]; rfl) ?_ ?_
      · simp only [ltSto, ltO2, ltO1, ltAs, ltA, ltC, ltCs, ltT, ltFr, ltS, wrOk, wrO, TL.get, hasFr, ↓reduceIte, Nat.reduceEqDiff, reduceCtorEq, Option.getD_some, Option.isSome_some, List.length_map, List.length_append, List.length_cons, List.length_nil, List.append_nil, List.mem_singleton, List.mem_cons, List.not_mem_nil, and_true, true_and, and_self, imp_self, forall_const, false_implies, implies_true, true_implies, or_false, Bool.false_eq_true, Bool.true_eq_false, ImXs_nil, true_or, or_true, false_or, false_and, and_false, List.take_succ_eq_append_getElem h2, List.map_append, List.map_cons, List.map_nil, hc]
        refine ltXs_append (ltXs_refl (imXs_map (f := vIs) (fun _ => ⟨rfl, rfl⟩) _)) (ltXs_cons ⟨rfl, rfl, ?_⟩ ltXs_nil)
        simp only [T.cells, ltSto, ltO2, ltO1, ltAs, ltA, ltC, ltCs, ltT, ltFr, ltS, wrOk, wrO, TL.get, hasFr, ↓reduceIte, Nat.reduceEqDiff, reduceCtorEq, Option.getD_some, Option.isSome_some, List.length_map, List.length_append, List.length_cons, List.length_nil, List.append_nil, List.mem_singleton, List.mem_cons, List.not_mem_nil, and_true, true_and, and_self, imp_self, forall_const, false_implies, implies_true, true_implies, or_false, Bool.false_eq_true, Bool.true_eq_false, ImXs_nil, true_or, or_true, false_or, false_and, and_false, List.map_cons, List.map_nil]
        exact ints_v [l[i]]
      · simp only [ltSto, ltO2, ltO1, ltAs, ltA, ltC, ltCs, ltT, ltFr, ltS, wrOk, wrO, TL.get, hasFr, ↓reduceIte, Nat.reduceEqDiff, reduceCtorEq, Option.getD_some, Option.isSome_some, List.length_map, List.length_append, List.length_cons, List.length_nil, List.append_nil, List.mem_singleton, List.mem_cons, List.not_mem_nil, and_true, true_and, and_self, imp_self, forall_const, false_implies, implies_true, true_implies, or_false, Bool.false_eq_true, Bool.true_eq_false, ImXs_nil, true_or, or_true, false_or, false_and, and_false]
        rw [IntWalk.i64_in _ (by omega)]
        rfl
    · have hc : choi l[i] b = [l[i] - l[i] % b, l[i] - l[i] % b + b] := by rw [choi, if_neg]; simp at h5; omega
      refine .of [(1, some 1)] [57364] rfl (by rw [hst]; rfl) ?_ ?_
      · simp only [ltSto, ltO2, ltO1, ltAs, ltA, ltC, ltCs, ltT, ltFr, ltS, wrOk, wrO, TL.get, hasFr, ↓reduceIte, Nat.reduceEqDiff, reduceCtorEq, Option.getD_some, Option.isSome_some, List.length_map, List.length_append, List.length_cons, List.length_nil, List.append_nil, List.mem_singleton, List.mem_cons, List.not_mem_nil, and_true, true_and, and_self, imp_self, forall_const, false_implies, implies_true, true_implies, or_false, Bool.false_eq_true, Bool.true_eq_false, ImXs_nil, true_or, or_true, false_or, false_and, and_false, List.take_succ_eq_append_getElem h2, List.map_append, List.map_cons, List.map_nil, hc]
        refine ltXs_append (ltXs_refl (imXs_map (f := vIs) (fun _ => ⟨rfl, rfl⟩) _)) (ltXs_cons ⟨rfl, rfl, ?_⟩ ltXs_nil)
        simp only [T.cells, ltSto, ltO2, ltO1, ltAs, ltA, ltC, ltCs, ltT, ltFr, ltS, wrOk, wrO, TL.get, hasFr, ↓reduceIte, Nat.reduceEqDiff, reduceCtorEq, Option.getD_some, Option.isSome_some, List.length_map, List.length_append, List.length_cons, List.length_nil, List.append_nil, List.mem_singleton, List.mem_cons, List.not_mem_nil, and_true, true_and, and_self, imp_self, forall_const, false_implies, implies_true, true_implies, or_false, Bool.false_eq_true, Bool.true_eq_false, ImXs_nil, true_or, or_true, false_or, false_and, and_false, List.map_cons, List.map_nil]
        exact ints_v [l[i] - l[i] % b, l[i] - l[i] % b + b]
      · simp only [ltSto, ltO2, ltO1, ltAs, ltA, ltC, ltCs, ltT, ltFr, ltS, wrOk, wrO, TL.get, hasFr, ↓reduceIte, Nat.reduceEqDiff, reduceCtorEq, Option.getD_some, Option.isSome_some, List.length_map, List.length_append, List.length_cons, List.length_nil, List.append_nil, List.mem_singleton, List.mem_cons, List.not_mem_nil, and_true, true_and, and_self, imp_self, forall_const, false_implies, implies_true, true_implies, or_false, Bool.false_eq_true, Bool.true_eq_false, ImXs_nil, true_or, or_true, false_or, false_and, and_false]
        rw [IntWalk.i64_in _ (by omega)]
        rfl
  · have h2 : i = l.length := by omega
    subst h2
    refine .of [] [1] rfl rfl trivial ?_
    simp only [ltSto, ltO2, ltO1, ltAs, ltA, ltC, ltCs, ltT, ltFr, ltS, wrOk, wrO, TL.get, hasFr, ↓reduceIte, Nat.reduceEqDiff, reduceCtorEq, Option.getD_some, Option.isSome_some, List.length_map, List.length_append, List.length_cons, List.length_nil, List.append_nil, List.mem_singleton, List.mem_cons, List.not_mem_nil, and_true, true_and, and_self, imp_self, forall_const, false_implies, implies_true, true_implies, or_false, Bool.false_eq_true, Bool.true_eq_false, ImXs_nil, true_or, or_true, false_or, false_and, and_false, List.take_length]
    exact imXs_map (f := vIs) (fun _ => ⟨rfl, rfl⟩) _
end Go.Proofs

