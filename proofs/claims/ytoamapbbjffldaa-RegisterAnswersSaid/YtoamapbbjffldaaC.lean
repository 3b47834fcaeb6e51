import Derived.Test.YtoamapbbjffldaaA
set_option linter.unusedSimpArgs false
set_option linter.unusedVariables false
namespace Go.Proofs
open Go Go.TL
abbrev vEs (l : List Ent) : T := .sl 7 (l.map entT)
def relE (x : Ent) : Bool := (x.kind == 1) || (x.kind == 3)
theorem c_register_releases (x : Ent) : Spc Try.prog F_register_releases [entT x] [] (vB (relE x)) [] := by
  refine spec_of_ir fn_register_releases mixm (by simp) fun e _ hst => W_start ?_
  unfold ir_register_releases
  simp only [tl, tl2, isCallR, entX, argFr, ret, retI, retB, intT, unT, endR, ressR, resR, tupT, bslR, boxR, lenAll, ↓reduceIte, Nat.reduceEqDiff, Nat.reduceAdd, Nat.reduceMul, Nat.reduceLT, Nat.reduceLeDiff, reduceCtorEq, Int.reduceLE, Int.reduceLT, ne_eq, Int.reduceEq, not_false_eq_true, decide_true, decide_false, Int.reduceToNat, tl3, Int.reduceBNe, Int.reduceBEq, rmK, rm1, not_true_eq_false, entT]
  exact .imR rfl rfl
def lastI (l : List Ent) : Int := match l.getLast? with | some x => x.link | none => 0
theorem getD_es {l : List Ent} {i : Nat} (h : i < l.length) : (l.map entT).getD i .junk = entT l[i] := by
  rw [getD_get (by simpa using h)]; simp
theorem c_register_last (l : List Ent) (hl : l.length < 4611686018427387904) : Spc Try.prog F_register_last [vEs l] [] (vU (lastI l)) [] := by
  refine spec_of_ir fn_register_last mixm (by simp) fun e _ hst => W_start ?_
  unfold ir_register_last
  simp only [tl, tl2, isCallR, entX, argFr, ret, retI, retB, intT, unT, endR, ressR, resR, tupT, bslR, boxR, lenAll, ↓reduceIte, Nat.reduceEqDiff, Nat.reduceAdd, Nat.reduceMul, Nat.reduceLT, Nat.reduceLeDiff, reduceCtorEq, Int.reduceLE, Int.reduceLT, ne_eq, Int.reduceEq, not_false_eq_true, decide_true, decide_false, Int.reduceToNat, tl3, Int.reduceBNe, Int.reduceBEq, rmK, rm1, not_true_eq_false, beq_iff_eq, beq_eq_false_iff_ne]
  refine ⟨fun h => ?_, fun h => ?_⟩
  · have : l = [] := List.eq_nil_of_length_eq_zero (by omega)
    subst this
    exact .imR rfl rfl
  · have h1 : l.length - 1 < l.length := by omega
    have hw : IntKind.i64.wrap ((l.length : Int) - 1) = ((l.length - 1 : Nat) : Int) := by rw [IntWalk.i64_in _ (by omega)]; omega
    have hl2 : lastI l = l[l.length - 1].link := by
      unfold lastI
      rw [List.getLast?_eq_getElem?, List.getElem?_eq_getElem h1]
    simp only [tl, tl2, isCallR, entX, argFr, ret, retI, retB, intT, unT, endR, ressR, resR, tupT, bslR, boxR, lenAll, ↓reduceIte, Nat.reduceEqDiff, Nat.reduceAdd, Nat.reduceMul, Nat.reduceLT, Nat.reduceLeDiff, reduceCtorEq, Int.reduceLE, Int.reduceLT, ne_eq, Int.reduceEq, not_false_eq_true, decide_true, decide_false, Int.reduceToNat, tl3, Int.reduceBNe, Int.reduceBEq, rmK, rm1, not_true_eq_false, List.length_map, hw, Int.toNat_natCast, getD_es h1]
    rw [hl2]
    simp only [entT]
    simp only [tl, tl2, isCallR, entX, argFr, ret, retI, retB, intT, unT, endR, ressR, resR, tupT, bslR, boxR, lenAll, ↓reduceIte, Nat.reduceEqDiff, Nat.reduceAdd, Nat.reduceMul, Nat.reduceLT, Nat.reduceLeDiff, reduceCtorEq, Int.reduceLE, Int.reduceLT, ne_eq, Int.reduceEq, not_false_eq_true, decide_true, decide_false, Int.reduceToNat, tl3, Int.reduceBNe, Int.reduceBEq, rmK, rm1, not_true_eq_false]
    exact ⟨by omega, .imR rfl rfl⟩
theorem c_ref38_has (l : List Int) (n : Int) (hl : l.length < 4611686018427387904) : Spc Try.prog F_ref38_has [vIs l, vI n] [] (vB (l.contains n)) [] := by
  refine spec_of_ir fn_ref38_has mixm (by simp) fun e _ hst => W_start ?_
  unfold ir_ref38_has
  simp only [tl, tl2, isCallR, entX, argFr, ret, retI, retB, intT, unT, endR, ressR, resR, tupT, bslR, boxR, lenAll, ↓reduceIte, Nat.reduceEqDiff, Nat.reduceAdd, Nat.reduceMul, Nat.reduceLT, Nat.reduceLeDiff, reduceCtorEq, Int.reduceLE, Int.reduceLT, ne_eq, Int.reduceEq, not_false_eq_true, decide_true, decide_false, Int.reduceToNat, tl3, Int.reduceBNe, Int.reduceBEq, rmK, rm1, not_true_eq_false]
  refine W_loop mixm (α := Nat) (fun i => i ≤ l.length ∧ n ∉ l.take i) (fun i => [(1, vI n), (7, vIs l), (8, vI l.length), (9, vI i)]) (fun _ => []) (fun i => l.length - i) 0 ⟨by omega, by simp⟩ (.ofFr (by simp [hasFr, TL.get])) fun i hi => ?_
  simp only [tl, tl2, isCallR, entX, argFr, ret, retI, retB, intT, unT, endR, ressR, resR, tupT, bslR, boxR, lenAll, ↓reduceIte, Nat.reduceEqDiff, Nat.reduceAdd, Nat.reduceMul, Nat.reduceLT, Nat.reduceLeDiff, reduceCtorEq, Int.reduceLE, Int.reduceLT, ne_eq, Int.reduceEq, not_false_eq_true, decide_true, decide_false, Int.reduceToNat, tl3, Int.reduceBNe, Int.reduceBEq, rmK, rm1, not_true_eq_false, decide_eq_true_eq, decide_eq_false_iff_not]
  refine ⟨fun h => ?_, fun h => ?_⟩
  · have h2 : i < l.length := by omega
    simp only [tl, tl2, isCallR, entX, argFr, ret, retI, retB, intT, unT, endR, ressR, resR, tupT, bslR, boxR, lenAll, ↓reduceIte, Nat.reduceEqDiff, Nat.reduceAdd, Nat.reduceMul, Nat.reduceLT, Nat.reduceLeDiff, reduceCtorEq, Int.reduceLE, Int.reduceLT, ne_eq, Int.reduceEq, not_false_eq_true, decide_true, decide_false, Int.reduceToNat, tl3, Int.reduceBNe, Int.reduceBEq, rmK, rm1, not_true_eq_false, Int.toNat_natCast, getD_ints h2, beq_iff_eq, beq_eq_false_iff_ne]
    refine ⟨by omega, fun h3 => ?_, fun h3 => ⟨i + 1, ⟨by omega, ?_⟩, by omega, .ofFr ?_⟩⟩
    · have : l.contains n = true := by rw [List.contains_iff_mem, ← h3]; exact List.getElem_mem h2
      rw [this]
      exact .imR rfl rfl
    · rw [List.take_succ_eq_append_getElem h2, List.mem_append]
      rintro (h4 | h4)
      · exact hi.2 h4
      · simp at h4; exact h3 h4.symm
    · simp only [ltSto, ltO2, ltO1, ltAs, ltA, ltC, ltCs, ltT, ltFr, ltS, wrOk, wrO, TL.get, hasFr, ↓reduceIte, Nat.reduceEqDiff, reduceCtorEq, Option.getD_some, Option.isSome_some, List.length_map, List.length_append, List.length_cons, List.length_nil, List.append_nil, List.mem_singleton, List.mem_cons, List.not_mem_nil, and_true, true_and, and_self, imp_self, forall_const, false_implies, implies_true, true_implies, or_false, Bool.false_eq_true, Bool.true_eq_false, ImXs_nil, true_or, or_true, false_or, false_and, and_false, rmK, rm1]
      rw [IntWalk.i64_in _ (by omega)]
      rfl
  · have h2 : i = l.length := by omega
    have h3 := hi.2
    rw [h2, List.take_length] at h3
    have : l.contains n = false := by
      cases hc : l.contains n
      · rfl
      · exact absurd (List.contains_iff_mem.1 hc) h3
    rw [this]
    exact .imR rfl rfl
/-- where a list has a number first -/
def idxN (n : Int) : List Int → Nat
  | [] => 0
  | x :: r => if x = n then 0 else idxN n r + 1
theorem idxN_at {n : Int} : ∀ {l : List Int} {i : Nat} (h : i < l.length), n ∉ l.take i → l[i] = n → idxN n l = i
  | [], i, h, _, _ => by simp at h
  | x :: r, 0, h, _, hp => by simp at hp; simp [idxN, hp]
  | x :: r, i + 1, h, h1, hp => by
    simp only [List.take_succ_cons, List.mem_cons, not_or] at h1
    simp only [idxN]
    rw [if_neg (fun e => h1.1 e.symm), idxN_at (l := r) (i := i) (by simpa using h) h1.2 (by simpa using hp)]
def indexI (l : List Int) (n : Int) : Int := if n ∈ l then idxN n l else -1
theorem c_slices_Index_int (l : List Int) (n : Int) (hl : l.length < 4611686018427387904) : Spc Try.prog F_slices_Index_int [vIs l, vI n] [] (vI (indexI l n)) [] := by
  refine spec_of_ir fn_slices_Index_int mixm (by simp) fun e _ hst => W_start ?_
  unfold ir_slices_Index_int
  simp only [tl, tl2, isCallR, entX, argFr, ret, retI, retB, intT, unT, endR, ressR, resR, tupT, bslR, boxR, lenAll, ↓reduceIte, Nat.reduceEqDiff, Nat.reduceAdd, Nat.reduceMul, Nat.reduceLT, Nat.reduceLeDiff, reduceCtorEq, Int.reduceLE, Int.reduceLT, ne_eq, Int.reduceEq, not_false_eq_true, decide_true, decide_false, Int.reduceToNat, tl3, Int.reduceBNe, Int.reduceBEq, rmK, rm1, not_true_eq_false]
  refine W_loop mixm (α := Nat) (fun i => i ≤ l.length ∧ n ∉ l.take i) (fun i => [(0, vIs l), (1, vI n), (7, vI l.length), (8, vI i)]) (fun _ => []) (fun i => l.length - i) 0 ⟨by omega, by simp⟩ (.ofFr (by simp [hasFr, TL.get])) fun i hi => ?_
  simp only [tl, tl2, isCallR, entX, argFr, ret, retI, retB, intT, unT, endR, ressR, resR, tupT, bslR, boxR, lenAll, ↓reduceIte, Nat.reduceEqDiff, Nat.reduceAdd, Nat.reduceMul, Nat.reduceLT, Nat.reduceLeDiff, reduceCtorEq, Int.reduceLE, Int.reduceLT, ne_eq, Int.reduceEq, not_false_eq_true, decide_true, decide_false, Int.reduceToNat, tl3, Int.reduceBNe, Int.reduceBEq, rmK, rm1, not_true_eq_false, decide_eq_true_eq, decide_eq_false_iff_not]
  refine ⟨fun h => ?_, fun h => ?_⟩
  · have h2 : i < l.length := by omega
    simp only [tl, tl2, isCallR, entX, argFr, ret, retI, retB, intT, unT, endR, ressR, resR, tupT, bslR, boxR, lenAll, ↓reduceIte, Nat.reduceEqDiff, Nat.reduceAdd, Nat.reduceMul, Nat.reduceLT, Nat.reduceLeDiff, reduceCtorEq, Int.reduceLE, Int.reduceLT, ne_eq, Int.reduceEq, not_false_eq_true, decide_true, decide_false, Int.reduceToNat, tl3, Int.reduceBNe, Int.reduceBEq, rmK, rm1, not_true_eq_false, Int.toNat_natCast, getD_ints h2, beq_iff_eq, beq_eq_false_iff_ne]
    refine ⟨by omega, fun h3 => ?_, fun h3 => ⟨i + 1, ⟨by omega, ?_⟩, by omega, .ofFr ?_⟩⟩
    · have hm : n ∈ l := by rw [h3]; exact List.getElem_mem h2
      rw [indexI, if_pos hm, idxN_at h2 hi.2 h3.symm]
      exact .imR rfl rfl
    · rw [List.take_succ_eq_append_getElem h2, List.mem_append]
      rintro (h4 | h4)
      · exact hi.2 h4
      · simp at h4; exact h3 h4
    · simp only [ltSto, ltO2, ltO1, ltAs, ltA, ltC, ltCs, ltT, ltFr, ltS, wrOk, wrO, TL.get, hasFr, ↓reduceIte, Nat.reduceEqDiff, reduceCtorEq, Option.getD_some, Option.isSome_some, List.length_map, List.length_append, List.length_cons, List.length_nil, List.append_nil, List.mem_singleton, List.mem_cons, List.not_mem_nil, and_true, true_and, and_self, imp_self, forall_const, false_implies, implies_true, true_implies, or_false, Bool.false_eq_true, Bool.true_eq_false, ImXs_nil, true_or, or_true, false_or, false_and, and_false, rmK, rm1]
      rw [IntWalk.i64_in _ (by omega)]
      rfl
  · have h2 : i = l.length := by omega
    have h3 := hi.2
    rw [h2, List.take_length] at h3
    rw [indexI, if_neg h3]
    exact .imR rfl rfl
theorem c_slices_Contains_int (l : List Int) (n : Int) (hl : l.length < 4611686018427387904) : Spc Try.prog F_slices_Contains_int [vIs l, vI n] [] (vB (l.contains n)) [] := by
  refine spec_of_ir fn_slices_Contains_int mixm (by simp) fun e _ hst => W_start ?_
  unfold ir_slices_Contains_int
  simp only [tl, tl2, isCallR, entX, argFr, ret, retI, retB, intT, unT, endR, ressR, resR, tupT, bslR, boxR, lenAll, ↓reduceIte, Nat.reduceEqDiff, Nat.reduceAdd, Nat.reduceMul, Nat.reduceLT, Nat.reduceLeDiff, reduceCtorEq, Int.reduceLE, Int.reduceLT, ne_eq, Int.reduceEq, not_false_eq_true, decide_true, decide_false, Int.reduceToNat, tl3, Int.reduceBNe, Int.reduceBEq, rmK, rm1, not_true_eq_false]
  refine C1.im (c_slices_Index_int l n hl) rfl (by rfl) ?_
  simp only [tl, tl2, isCallR, entX, argFr, ret, retI, retB, intT, unT, endR, ressR, resR, tupT, bslR, boxR, lenAll, ↓reduceIte, Nat.reduceEqDiff, Nat.reduceAdd, Nat.reduceMul, Nat.reduceLT, Nat.reduceLeDiff, reduceCtorEq, Int.reduceLE, Int.reduceLT, ne_eq, Int.reduceEq, not_false_eq_true, decide_true, decide_false, Int.reduceToNat, tl3, Int.reduceBNe, Int.reduceBEq, rmK, rm1, not_true_eq_false]
  refine .imR ?_ rfl
  unfold indexI
  by_cases h : n ∈ l
  · rw [if_pos h, List.contains_iff_mem.2 h]; simp
  · rw [if_neg h]
    cases hc : l.contains n
    · simp
    · exact absurd (List.contains_iff_mem.1 hc) h
section
variable {x : Ent}
theorem ent_all : T.agg (List.take 7 (entT x).cells) = entT x := _root_.id rfl
theorem ent_len : (entT x).cells.length = 7 := _root_.id rfl
theorem ent0 : (entT x).cells.getD 0 .junk = vI x.num := _root_.id rfl
theorem ent1 : (entT x).cells.getD 1 .junk = vU x.before := _root_.id rfl
theorem ent2 : (entT x).cells.getD 2 .junk = vI x.kind := _root_.id rfl
theorem ent3 : (entT x).cells.getD 3 .junk = vI x.of_ := _root_.id rfl
theorem ent4 : (entT x).cells.getD 4 .junk = vI x.out := _root_.id rfl
theorem ent5 : (entT x).cells.getD 5 .junk = .v (.string x.text) := _root_.id rfl
theorem ent6 : (entT x).cells.getD 6 .junk = vU x.link := _root_.id rfl
end
abbrev oE (x : Ent) : Ob := .arr 7 [entT x] false
theorem c_register_fits_1 (y x : Ent) : Spc Try.prog F_register_fits_1 [entT y, .ptr 0 1 0 0] [(0, oE x)] (vB (relE y && (y.out == x.out))) [(0, oE x)] := by
  refine spec_of_ir fn_register_fits_1 mixm (by simp) fun e _ hst => W_start ?_
  unfold ir_register_fits_1
  simp only [tl, tl2, isCallR, entX, argFr, ret, retI, retB, intT, unT, endR, ressR, resR, tupT, bslR, boxR, lenAll, ↓reduceIte, Nat.reduceEqDiff, Nat.reduceAdd, Nat.reduceMul, Nat.reduceLT, Nat.reduceLeDiff, reduceCtorEq, Int.reduceLE, Int.reduceLT, ne_eq, Int.reduceEq, not_false_eq_true, decide_true, decide_false, Int.reduceToNat, tl3, Int.reduceBNe, Int.reduceBEq, rmK, rm1, not_true_eq_false, entT]
  refine C1.im (c_register_releases y) rfl (by rfl) ?_
  simp only [tl, tl2, isCallR, entX, argFr, ret, retI, retB, intT, unT, endR, ressR, resR, tupT, bslR, boxR, lenAll, ↓reduceIte, Nat.reduceEqDiff, Nat.reduceAdd, Nat.reduceMul, Nat.reduceLT, Nat.reduceLeDiff, reduceCtorEq, Int.reduceLE, Int.reduceLT, ne_eq, Int.reduceEq, not_false_eq_true, decide_true, decide_false, Int.reduceToNat, tl3, Int.reduceBNe, Int.reduceBEq, rmK, rm1, not_true_eq_false, ent4]
  refine .of [(0, some 0)] [] rfl rfl ?_ ?_
  · simp only [ltSto, ltO2, ltO1, ltAs, ltA, ltC, ltCs, ltT, ltFr, ltS, wrOk, wrO, TL.get, hasFr, ↓reduceIte, Nat.reduceEqDiff, reduceCtorEq, Option.getD_some, Option.isSome_some, List.length_map, List.length_append, List.length_cons, List.length_nil, List.append_nil, List.mem_singleton, List.mem_cons, List.not_mem_nil, and_true, true_and, and_self, imp_self, forall_const, false_implies, implies_true, true_implies, or_false, Bool.false_eq_true, Bool.true_eq_false, ImXs_nil, true_or, or_true, false_or, false_and, and_false, rmK, rm1]
    exact ltXs_refl (imXs_ent x)
  · simp only [ltSto, ltO2, ltO1, ltAs, ltA, ltC, ltCs, ltT, ltFr, ltS, wrOk, wrO, TL.get, hasFr, ↓reduceIte, Nat.reduceEqDiff, reduceCtorEq, Option.getD_some, Option.isSome_some, List.length_map, List.length_append, List.length_cons, List.length_nil, List.append_nil, List.mem_singleton, List.mem_cons, List.not_mem_nil, and_true, true_and, and_self, imp_self, forall_const, false_implies, implies_true, true_implies, or_false, Bool.false_eq_true, Bool.true_eq_false, ImXs_nil, true_or, or_true, false_or, false_and, and_false, rmK, rm1]
theorem c_register_standing_1 (n : Int) (x : Ent) : Spc Try.prog F_register_standing_1 [vI n, .ptr 0 1 0 0] [(0, oE x)] (vB (n == x.of_)) [(0, oE x)] := by
  refine spec_of_ir fn_register_standing_1 mixm (by simp) fun e _ hst => W_start ?_
  unfold ir_register_standing_1
  simp only [tl, tl2, isCallR, entX, argFr, ret, retI, retB, intT, unT, endR, ressR, resR, tupT, bslR, boxR, lenAll, ↓reduceIte, Nat.reduceEqDiff, Nat.reduceAdd, Nat.reduceMul, Nat.reduceLT, Nat.reduceLeDiff, reduceCtorEq, Int.reduceLE, Int.reduceLT, ne_eq, Int.reduceEq, not_false_eq_true, decide_true, decide_false, Int.reduceToNat, tl3, Int.reduceBNe, Int.reduceBEq, rmK, rm1, not_true_eq_false, entT]
  refine .of [(0, some 0)] [] rfl rfl ?_ ?_
  · simp only [ltSto, ltO2, ltO1, ltAs, ltA, ltC, ltCs, ltT, ltFr, ltS, wrOk, wrO, TL.get, hasFr, ↓reduceIte, Nat.reduceEqDiff, reduceCtorEq, Option.getD_some, Option.isSome_some, List.length_map, List.length_append, List.length_cons, List.length_nil, List.append_nil, List.mem_singleton, List.mem_cons, List.not_mem_nil, and_true, true_and, and_self, imp_self, forall_const, false_implies, implies_true, true_implies, or_false, Bool.false_eq_true, Bool.true_eq_false, ImXs_nil, true_or, or_true, false_or, false_and, and_false, rmK, rm1]
    exact ltXs_refl (imXs_ent x)
  · simp only [ltSto, ltO2, ltO1, ltAs, ltA, ltC, ltCs, ltT, ltFr, ltS, wrOk, wrO, TL.get, hasFr, ↓reduceIte, Nat.reduceEqDiff, reduceCtorEq, Option.getD_some, Option.isSome_some, List.length_map, List.length_append, List.length_cons, List.length_nil, List.append_nil, List.mem_singleton, List.mem_cons, List.not_mem_nil, and_true, true_and, and_self, imp_self, forall_const, false_implies, implies_true, true_implies, or_false, Bool.false_eq_true, Bool.true_eq_false, ImXs_nil, true_or, or_true, false_or, false_and, and_false, rmK, rm1]
def idxE (p : Ent → Bool) : List Ent → Nat
  | [] => 0
  | x :: r => if p x = true then 0 else idxE p r + 1
theorem any_ofE {p : Ent → Bool} {l : List Ent} {i : Nat} (h : i < l.length) (hp : p l[i] = true) : l.any p = true := List.any_eq_true.2 ⟨l[i], List.getElem_mem h, hp⟩
theorem any_snocE {p : Ent → Bool} {l : List Ent} {i : Nat} (h : i < l.length) (h1 : (l.take i).any p = false) (hp : p l[i] = false) : (l.take (i + 1)).any p = false := by
  rw [List.take_succ_eq_append_getElem h, List.any_append, h1]
  simp [hp]
theorem idxE_at {p : Ent → Bool} : ∀ {l : List Ent} {i : Nat} (h : i < l.length), (l.take i).any p = false → p l[i] = true → idxE p l = i
  | [], i, h, _, _ => by simp at h
  | x :: r, 0, h, _, hp => by simp at hp; simp [idxE, hp]
  | x :: r, i + 1, h, h1, hp => by
    simp only [List.take_succ_cons, List.any_cons, Bool.or_eq_false_iff] at h1
    simp only [idxE, h1.1, Bool.false_eq_true, if_false]
    rw [idxE_at (l := r) (i := i) (by simpa using h) h1.2 (by simpa using hp)]
def idxEI (p : Ent → Bool) (l : List Ent) : Int := if l.any p = true then idxE p l else -1
theorem c_slices_IndexFunc_Entry (p : Ent → Bool) (f : FuncId) (x : Ent) (hf : ∀ y, Spc Try.prog f [entT y, .ptr 0 1 0 0] [(0, oE x)] (vB (p y)) [(0, oE x)]) (l : List Ent) (hl : l.length < 4611686018427387904) :
    Spc Try.prog F_slices_IndexFunc_Entry [vEs l, .clo f [.ptr 0 1 0 0]] [(0, oE x)] (vI (idxEI p l)) [(0, oE x)] := by
  refine spec_of_ir fn_slices_IndexFunc_Entry mixm (by simp) fun e _ hst => W_start ?_
  unfold ir_slices_IndexFunc_Entry
  simp only [tl, tl2, isCallR, entX, argFr, ret, retI, retB, intT, unT, endR, ressR, resR, tupT, bslR, boxR, lenAll, ↓reduceIte, Nat.reduceEqDiff, Nat.reduceAdd, Nat.reduceMul, Nat.reduceLT, Nat.reduceLeDiff, reduceCtorEq, Int.reduceLE, Int.reduceLT, ne_eq, Int.reduceEq, not_false_eq_true, decide_true, decide_false, Int.reduceToNat, tl3, Int.reduceBNe, Int.reduceBEq, rmK, rm1, not_true_eq_false]
  refine W_loop mixm (α := Nat) (fun i => i ≤ l.length ∧ (l.take i).any p = false) (fun i => [(0, vEs l), (1, .clo f [.ptr 0 1 0 0]), (7, vI l.length), (8, vI i)]) (fun _ => [(0, oE x)]) (fun i => l.length - i) 0 ⟨by omega, by simp⟩ ?_ fun i hi => ?_
  · refine .of [(0, some 0)] [] rfl (by rw [hst]; rfl) ?_ ?_
    · simp only [ltSto, ltO2, ltO1, ltAs, ltA, ltC, ltCs, ltT, ltFr, ltS, wrOk, wrO, TL.get, hasFr, ↓reduceIte, Nat.reduceEqDiff, reduceCtorEq, Option.getD_some, Option.isSome_some, List.length_map, List.length_append, List.length_cons, List.length_nil, List.append_nil, List.mem_singleton, List.mem_cons, List.not_mem_nil, and_true, true_and, and_self, imp_self, forall_const, false_implies, implies_true, true_implies, or_false, Bool.false_eq_true, Bool.true_eq_false, ImXs_nil, true_or, or_true, false_or, false_and, and_false, rmK, rm1]
      exact ltXs_refl (imXs_ent x)
    · simp only [ltSto, ltO2, ltO1, ltAs, ltA, ltC, ltCs, ltT, ltFr, ltS, wrOk, wrO, TL.get, hasFr, ↓reduceIte, Nat.reduceEqDiff, reduceCtorEq, Option.getD_some, Option.isSome_some, List.length_map, List.length_append, List.length_cons, List.length_nil, List.append_nil, List.mem_singleton, List.mem_cons, List.not_mem_nil, and_true, true_and, and_self, imp_self, forall_const, false_implies, implies_true, true_implies, or_false, Bool.false_eq_true, Bool.true_eq_false, ImXs_nil, true_or, or_true, false_or, false_and, and_false, rmK, rm1]
      rfl
  simp only [tl, tl2, isCallR, entX, argFr, ret, retI, retB, intT, unT, endR, ressR, resR, tupT, bslR, boxR, lenAll, ↓reduceIte, Nat.reduceEqDiff, Nat.reduceAdd, Nat.reduceMul, Nat.reduceLT, Nat.reduceLeDiff, reduceCtorEq, Int.reduceLE, Int.reduceLT, ne_eq, Int.reduceEq, not_false_eq_true, decide_true, decide_false, Int.reduceToNat, tl3, Int.reduceBNe, Int.reduceBEq, rmK, rm1, not_true_eq_false, decide_eq_true_eq, decide_eq_false_iff_not]
  refine ⟨fun h => ?_, fun h => ?_⟩
  · have h2 : i < l.length := by omega
    simp only [tl, tl2, isCallR, entX, argFr, ret, retI, retB, intT, unT, endR, ressR, resR, tupT, bslR, boxR, lenAll, ↓reduceIte, Nat.reduceEqDiff, Nat.reduceAdd, Nat.reduceMul, Nat.reduceLT, Nat.reduceLeDiff, reduceCtorEq, Int.reduceLE, Int.reduceLT, ne_eq, Int.reduceEq, not_false_eq_true, decide_true, decide_false, Int.reduceToNat, tl3, Int.reduceBNe, Int.reduceBEq, rmK, rm1, not_true_eq_false, Int.toNat_natCast, getD_es h2, ent_all, ent_len]
    refine ⟨by omega, ?_⟩
    refine C1.keep 0 7 [entT x] (hf l[i]) rfl (imXs_ent x) ⟨ltA_im rfl, ⟨rfl, rfl, rfl, rfl⟩, trivial⟩ (by rfl) ?_
    simp only [tl, tl2, isCallR, entX, argFr, ret, retI, retB, intT, unT, endR, ressR, resR, tupT, bslR, boxR, lenAll, ↓reduceIte, Nat.reduceEqDiff, Nat.reduceAdd, Nat.reduceMul, Nat.reduceLT, Nat.reduceLeDiff, reduceCtorEq, Int.reduceLE, Int.reduceLT, ne_eq, Int.reduceEq, not_false_eq_true, decide_true, decide_false, Int.reduceToNat, tl3, Int.reduceBNe, Int.reduceBEq, rmK, rm1, not_true_eq_false]
    refine ⟨fun h3 => ?_, fun h3 => ⟨i + 1, ⟨by omega, any_snocE h2 hi.2 h3⟩, by omega, ?_⟩⟩
    · rw [idxEI, idxE_at h2 hi.2 h3, if_pos (any_ofE h2 h3)]
      refine .of [(0, some 0)] [] rfl rfl ?_ ?_
      · simp only [ltSto, ltO2, ltO1, ltAs, ltA, ltC, ltCs, ltT, ltFr, ltS, wrOk, wrO, TL.get, hasFr, ↓reduceIte, Nat.reduceEqDiff, reduceCtorEq, Option.getD_some, Option.isSome_some, List.length_map, List.length_append, List.length_cons, List.length_nil, List.append_nil, List.mem_singleton, List.mem_cons, List.not_mem_nil, and_true, true_and, and_self, imp_self, forall_const, false_implies, implies_true, true_implies, or_false, Bool.false_eq_true, Bool.true_eq_false, ImXs_nil, true_or, or_true, false_or, false_and, and_false, rmK, rm1]
        exact ltXs_refl (imXs_ent x)
      · simp only [ltSto, ltO2, ltO1, ltAs, ltA, ltC, ltCs, ltT, ltFr, ltS, wrOk, wrO, TL.get, hasFr, ↓reduceIte, Nat.reduceEqDiff, reduceCtorEq, Option.getD_some, Option.isSome_some, List.length_map, List.length_append, List.length_cons, List.length_nil, List.append_nil, List.mem_singleton, List.mem_cons, List.not_mem_nil, and_true, true_and, and_self, imp_self, forall_const, false_implies, implies_true, true_implies, or_false, Bool.false_eq_true, Bool.true_eq_false, ImXs_nil, true_or, or_true, false_or, false_and, and_false, rmK, rm1]
    · refine .of [(0, some 0)] [] rfl (by rw [hst]; rfl) ?_ ?_
      · simp only [ltSto, ltO2, ltO1, ltAs, ltA, ltC, ltCs, ltT, ltFr, ltS, wrOk, wrO, TL.get, hasFr, ↓reduceIte, Nat.reduceEqDiff, reduceCtorEq, Option.getD_some, Option.isSome_some, List.length_map, List.length_append, List.length_cons, List.length_nil, List.append_nil, List.mem_singleton, List.mem_cons, List.not_mem_nil, and_true, true_and, and_self, imp_self, forall_const, false_implies, implies_true, true_implies, or_false, Bool.false_eq_true, Bool.true_eq_false, ImXs_nil, true_or, or_true, false_or, false_and, and_false, rmK, rm1]
        exact ltXs_refl (imXs_ent x)
      · simp only [ltSto, ltO2, ltO1, ltAs, ltA, ltC, ltCs, ltT, ltFr, ltS, wrOk, wrO, TL.get, hasFr, ↓reduceIte, Nat.reduceEqDiff, reduceCtorEq, Option.getD_some, Option.isSome_some, List.length_map, List.length_append, List.length_cons, List.length_nil, List.append_nil, List.mem_singleton, List.mem_cons, List.not_mem_nil, and_true, true_and, and_self, imp_self, forall_const, false_implies, implies_true, true_implies, or_false, Bool.false_eq_true, Bool.true_eq_false, ImXs_nil, true_or, or_true, false_or, false_and, and_false, rmK, rm1]
        rw [IntWalk.i64_in _ (by omega)]
        rfl
  · have h2 : i = l.length := by omega
    have h3 := hi.2
    rw [h2, List.take_length] at h3
    rw [idxEI, if_neg (by rw [h3]; simp)]
    refine .of [(0, some 0)] [] rfl rfl ?_ ?_
    · simp only [ltSto, ltO2, ltO1, ltAs, ltA, ltC, ltCs, ltT, ltFr, ltS, wrOk, wrO, TL.get, hasFr, ↓reduceIte, Nat.reduceEqDiff, reduceCtorEq, Option.getD_some, Option.isSome_some, List.length_map, List.length_append, List.length_cons, List.length_nil, List.append_nil, List.mem_singleton, List.mem_cons, List.not_mem_nil, and_true, true_and, and_self, imp_self, forall_const, false_implies, implies_true, true_implies, or_false, Bool.false_eq_true, Bool.true_eq_false, ImXs_nil, true_or, or_true, false_or, false_and, and_false, rmK, rm1]
      exact ltXs_refl (imXs_ent x)
    · simp only [ltSto, ltO2, ltO1, ltAs, ltA, ltC, ltCs, ltT, ltFr, ltS, wrOk, wrO, TL.get, hasFr, ↓reduceIte, Nat.reduceEqDiff, reduceCtorEq, Option.getD_some, Option.isSome_some, List.length_map, List.length_append, List.length_cons, List.length_nil, List.append_nil, List.mem_singleton, List.mem_cons, List.not_mem_nil, and_true, true_and, and_self, imp_self, forall_const, false_implies, implies_true, true_implies, or_false, Bool.false_eq_true, Bool.true_eq_false, ImXs_nil, true_or, or_true, false_or, false_and, and_false, rmK, rm1]
theorem c_slices_ContainsFunc_Entry (p : Ent → Bool) (f : FuncId) (x : Ent) (hf : ∀ y, Spc Try.prog f [entT y, .ptr 0 1 0 0] [(0, oE x)] (vB (p y)) [(0, oE x)]) (l : List Ent) (hl : l.length < 4611686018427387904) :
    Spc Try.prog F_slices_ContainsFunc_Entry [vEs l, .clo f [.ptr 0 1 0 0]] [(0, oE x)] (vB (l.any p)) [(0, oE x)] := by
  refine spec_of_ir fn_slices_ContainsFunc_Entry mixm (by simp) fun e _ hst => W_start ?_
  unfold ir_slices_ContainsFunc_Entry
  simp only [tl, tl2, isCallR, entX, argFr, ret, retI, retB, intT, unT, endR, ressR, resR, tupT, bslR, boxR, lenAll, ↓reduceIte, Nat.reduceEqDiff, Nat.reduceAdd, Nat.reduceMul, Nat.reduceLT, Nat.reduceLeDiff, reduceCtorEq, Int.reduceLE, Int.reduceLT, ne_eq, Int.reduceEq, not_false_eq_true, decide_true, decide_false, Int.reduceToNat, tl3, Int.reduceBNe, Int.reduceBEq, rmK, rm1, not_true_eq_false]
  refine C1.keep 0 7 [entT x] (c_slices_IndexFunc_Entry p f x hf l hl) rfl (imXs_ent x) ⟨ltA_im rfl, ⟨rfl, ⟨rfl, rfl, rfl, rfl⟩, trivial⟩, trivial⟩ (by rfl) ?_
  simp only [tl, tl2, isCallR, entX, argFr, ret, retI, retB, intT, unT, endR, ressR, resR, tupT, bslR, boxR, lenAll, ↓reduceIte, Nat.reduceEqDiff, Nat.reduceAdd, Nat.reduceMul, Nat.reduceLT, Nat.reduceLeDiff, reduceCtorEq, Int.reduceLE, Int.reduceLT, ne_eq, Int.reduceEq, not_false_eq_true, decide_true, decide_false, Int.reduceToNat, tl3, Int.reduceBNe, Int.reduceBEq, rmK, rm1, not_true_eq_false]
  have hv : (decide (idxEI p l ≥ 0)) = l.any p := by
    unfold idxEI
    cases h : l.any p
    · simp
    · simp
  rw [hv]
  refine .of [(0, some 0)] [] rfl rfl ?_ ?_
  · simp only [ltSto, ltO2, ltO1, ltAs, ltA, ltC, ltCs, ltT, ltFr, ltS, wrOk, wrO, TL.get, hasFr, ↓reduceIte, Nat.reduceEqDiff, reduceCtorEq, Option.getD_some, Option.isSome_some, List.length_map, List.length_append, List.length_cons, List.length_nil, List.append_nil, List.mem_singleton, List.mem_cons, List.not_mem_nil, and_true, true_and, and_self, imp_self, forall_const, false_implies, implies_true, true_implies, or_false, Bool.false_eq_true, Bool.true_eq_false, ImXs_nil, true_or, or_true, false_or, false_and, and_false, rmK, rm1]
    exact ltXs_refl (imXs_ent x)
  · simp only [ltSto, ltO2, ltO1, ltAs, ltA, ltC, ltCs, ltT, ltFr, ltS, wrOk, wrO, TL.get, hasFr, ↓reduceIte, Nat.reduceEqDiff, reduceCtorEq, Option.getD_some, Option.isSome_some, List.length_map, List.length_append, List.length_cons, List.length_nil, List.append_nil, List.mem_singleton, List.mem_cons, List.not_mem_nil, and_true, true_and, and_self, imp_self, forall_const, false_implies, implies_true, true_implies, or_false, Bool.false_eq_true, Bool.true_eq_false, ImXs_nil, true_or, or_true, false_or, false_and, and_false, rmK, rm1]
end Go.Proofs

