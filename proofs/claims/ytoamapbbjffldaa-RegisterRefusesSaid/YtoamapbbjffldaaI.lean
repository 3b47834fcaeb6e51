import Derived.Test.YtoamapbbjffldaaH
set_option linter.unusedSimpArgs false
set_option linter.unusedVariables false
namespace Go.Proofs
open Go Go.TL
theorem c_ref28_Ints (a b : List Int) (ha : a.length < 4611686018427387904) (hb : b.length < 4611686018427387904) : Spc Try.prog F_ref28_Ints [.sl 1 (a.map vI), .sl 1 (b.map vI)] [] (vB (sameL (fun x y : Int => x == y) a b)) [] := by
  refine spec_of_ir fn_ref28_Ints mixm (by simp) fun e _ hst => W_start ?_
  unfold ir_ref28_Ints
  simp only [tl, tl2, isCallR, entX, argFr, ret, retI, retB, intT, unT, endR, ressR, resR, tupT, bslR, boxR, lenAll, ↓reduceIte, Nat.reduceEqDiff, Nat.reduceAdd, Nat.reduceMul, Nat.reduceLT, Nat.reduceLeDiff, reduceCtorEq, Int.reduceLE, Int.reduceLT, ne_eq, Int.reduceEq, not_false_eq_true, decide_true, decide_false, Int.reduceToNat, tl3, Int.reduceBNe, Int.reduceBEq, rmK, rm1, not_true_eq_false]
  refine ⟨fun h => ?_, fun h => ?_⟩
  · rw [sameL_ne (by simp at h; omega)]
    exact .imR rfl rfl
  have hl : a.length = b.length := by simp at h; omega
  refine W_loopF mixm (α := Nat) [13] (fun i => i ≤ a.length ∧ (sameL (fun x y : Int => x == y) (a.take i) (b.take i) = true)) (fun i => [(13, vI i)]) (fun i => []) (fun i => a.length - i) 0 ⟨by omega, ?_⟩ ?_ fun i hi => ?_
  · simp [sameL]
  · refine .of [] [] rfl (by first | rfl | (rw [hst]; rfl)) ?_ ?_
    all_goals (try simp only [ltSto, ltO2, ltO1, ltAs, ltA, ltC, ltCs, ltT, ltFr, ltS, wrOk, wrO, TL.get, hasFr, ↓reduceIte, Nat.reduceEqDiff, reduceCtorEq, Option.getD_some, Option.isSome_some, List.length_map, List.length_append, List.length_cons, List.length_nil, List.append_nil, List.mem_singleton, List.mem_cons, List.not_mem_nil, and_true, true_and, and_self, imp_self, forall_const, false_implies, implies_true, true_implies, or_false, Bool.false_eq_true, Bool.true_eq_false, ImXs_nil, true_or, or_true, false_or, false_and, and_false, rmK, rm1, List.map_append, List.map_cons, List.map_nil, List.cons_append, List.nil_append])
    all_goals (try (repeat' (first
        | exact ltXs_nil
        | (apply ltXs_map; intro _; exact ⟨rfl, rfl⟩)
        | (apply imXs_map; intro _; exact ⟨rfl, rfl⟩)
        | with_reducible apply imXs_append
        | with_reducible refine imXs_cons ⟨rfl, rfl⟩ ?_
        | exact imXs_nil
        | with_reducible apply ltXs_append
        | with_reducible refine ltXs_cons ⟨rfl, rfl, ?_⟩ ?_
        | with_reducible apply And.intro
        | exact ltCs_im rfl
        | exact ltCs_im (by assumption)
        | (refine ⟨⟨?_, rfl, ?_, rfl, ?_⟩, trivial⟩ <;> first | (simp; done) | (apply imXs_map; intro _; exact ⟨rfl, rfl⟩))
        | trivial
        | rfl
        | (rw [i64_succ (by omega)])
        | omega)))
  simp only [tl, tl2, isCallR, entX, argFr, ret, retI, retB, intT, unT, endR, ressR, resR, tupT, bslR, boxR, lenAll, ↓reduceIte, Nat.reduceEqDiff, Nat.reduceAdd, Nat.reduceMul, Nat.reduceLT, Nat.reduceLeDiff, reduceCtorEq, Int.reduceLE, Int.reduceLT, ne_eq, Int.reduceEq, not_false_eq_true, decide_true, decide_false, Int.reduceToNat, tl3, Int.reduceBNe, Int.reduceBEq, rmK, rm1, not_true_eq_false, decide_eq_true_eq, decide_eq_false_iff_not]
  refine ⟨fun h => ?_, fun h => ?_⟩
  · have hib : i < b.length := by omega
    have hi2 : i < a.length := by omega
    have hwi := i64_succ (i := i) (by omega)
    simp only [tl, tl2, isCallR, entX, argFr, ret, retI, retB, intT, unT, endR, ressR, resR, tupT, bslR, boxR, lenAll, ↓reduceIte, Nat.reduceEqDiff, Nat.reduceAdd, Nat.reduceMul, Nat.reduceLT, Nat.reduceLeDiff, reduceCtorEq, Int.reduceLE, Int.reduceLT, ne_eq, Int.reduceEq, not_false_eq_true, decide_true, decide_false, Int.reduceToNat, tl3, Int.reduceBNe, Int.reduceBEq, rmK, rm1, not_true_eq_false, Int.toNat_natCast, getD_mapT hi2, hwi, getD_mapT hib, cells_v]
    refine ⟨by omega, by omega, by kernel_rfl, fun h3 => ?_, fun h3 => ⟨i + 1, ⟨by omega, ?_⟩, by omega, ?_⟩⟩
    · rw [sameL_false (i := i) hl (by omega) (by simpa  using h3)]
      exact .imR rfl rfl
    · rw [sameL_snoc hi2 hib, hi.2]
      simpa  using h3
    · refine .of [] [] rfl (by first | rfl | (rw [hst]; rfl)) ?_ ?_
      all_goals (try simp only [ltSto, ltO2, ltO1, ltAs, ltA, ltC, ltCs, ltT, ltFr, ltS, wrOk, wrO, TL.get, hasFr, ↓reduceIte, Nat.reduceEqDiff, reduceCtorEq, Option.getD_some, Option.isSome_some, List.length_map, List.length_append, List.length_cons, List.length_nil, List.append_nil, List.mem_singleton, List.mem_cons, List.not_mem_nil, and_true, true_and, and_self, imp_self, forall_const, false_implies, implies_true, true_implies, or_false, Bool.false_eq_true, Bool.true_eq_false, ImXs_nil, true_or, or_true, false_or, false_and, and_false, rmK, rm1, List.map_append, List.map_cons, List.map_nil, List.cons_append, List.nil_append])
      all_goals (try (repeat' (first
          | exact ltXs_nil
          | (apply ltXs_map; intro _; exact ⟨rfl, rfl⟩)
          | (apply imXs_map; intro _; exact ⟨rfl, rfl⟩)
          | with_reducible apply imXs_append
          | with_reducible refine imXs_cons ⟨rfl, rfl⟩ ?_
          | exact imXs_nil
          | with_reducible apply ltXs_append
          | with_reducible refine ltXs_cons ⟨rfl, rfl, ?_⟩ ?_
          | with_reducible apply And.intro
          | exact ltCs_im rfl
          | exact ltCs_im (by assumption)
          | (refine ⟨⟨?_, rfl, ?_, rfl, ?_⟩, trivial⟩ <;> first | (simp; done) | (apply imXs_map; intro _; exact ⟨rfl, rfl⟩))
          | trivial
          | rfl
          | (rw [i64_succ (by omega)])
          | omega)))
  · have h2 : i = a.length := by omega
    subst h2
    have h3 := hi.2
    rw [List.take_length, List.take_of_length_le (by omega)] at h3
    rw [h3]
    exact .imR rfl rfl

theorem c_slices_Clone_Entry (l : List Ent) (hl : l.length < 1000000000000) : Spc Try.prog F_slices_Clone_Entry [.sl 7 (l.map entT)] [] (.asl 0 l.length) [(0, .arr 7 (l.map entT) false)] := by
  refine spec_of_ir fn_slices_Clone_Entry mixm (by simp) fun e _ hst => W_start ?_
  unfold ir_slices_Clone_Entry
  simp only [tl, tl2, isCallR, entX, argFr, ret, retI, retB, intT, unT, endR, ressR, resR, tupT, bslR, boxR, lenAll, ↓reduceIte, Nat.reduceEqDiff, Nat.reduceAdd, Nat.reduceMul, Nat.reduceLT, Nat.reduceLeDiff, reduceCtorEq, Int.reduceLE, Int.reduceLT, ne_eq, Int.reduceEq, not_false_eq_true, decide_true, decide_false, Int.reduceToNat, tl3, Int.reduceBNe, Int.reduceBEq, rmK, rm1, not_true_eq_false]
  refine ⟨fun h => ?_, ?_⟩
  · have : l = [] := by
      simpa using h
    subst this
    refine .of [(0, none)] [] rfl (by first | rfl | (rw [hst]; rfl)) ?_ ?_
    all_goals (try simp only [ltSto, ltO2, ltO1, ltAs, ltA, ltC, ltCs, ltT, ltFr, ltS, wrOk, wrO, TL.get, hasFr, ↓reduceIte, Nat.reduceEqDiff, reduceCtorEq, Option.getD_some, Option.isSome_some, List.length_map, List.length_append, List.length_cons, List.length_nil, List.append_nil, List.mem_singleton, List.mem_cons, List.not_mem_nil, and_true, true_and, and_self, imp_self, forall_const, false_implies, implies_true, true_implies, or_false, Bool.false_eq_true, Bool.true_eq_false, ImXs_nil, true_or, or_true, false_or, false_and, and_false, rmK, rm1, List.map_append, List.map_cons, List.map_nil, List.cons_append, List.nil_append])
    all_goals (try (repeat' (first
        | exact ltXs_nil
        | (apply ltXs_map; intro _; exact ⟨rfl, rfl⟩)
        | (apply imXs_map; intro _; exact ⟨rfl, rfl⟩)
        | with_reducible apply imXs_append
        | with_reducible refine imXs_cons ⟨rfl, rfl⟩ ?_
        | exact imXs_nil
        | with_reducible apply ltXs_append
        | with_reducible refine ltXs_cons ⟨rfl, rfl, ?_⟩ ?_
        | with_reducible apply And.intro
        | exact ltCs_im rfl
        | exact ltCs_im (by assumption)
        | (refine ⟨⟨?_, rfl, ?_, rfl, ?_⟩, trivial⟩ <;> first | (simp; done) | (apply imXs_map; intro _; exact ⟨rfl, rfl⟩))
        | trivial
        | rfl
        | (rw [i64_succ (by omega)])
        | omega)))
  · refine ⟨by omega, ?_⟩
    refine .of [(0, some 16384)] [] rfl (by first | rfl | (rw [hst]; rfl)) ?_ ?_
    all_goals (try simp only [ltSto, ltO2, ltO1, ltAs, ltA, ltC, ltCs, ltT, ltFr, ltS, wrOk, wrO, TL.get, hasFr, ↓reduceIte, Nat.reduceEqDiff, reduceCtorEq, Option.getD_some, Option.isSome_some, List.length_map, List.length_append, List.length_cons, List.length_nil, List.append_nil, List.mem_singleton, List.mem_cons, List.not_mem_nil, and_true, true_and, and_self, imp_self, forall_const, false_implies, implies_true, true_implies, or_false, Bool.false_eq_true, Bool.true_eq_false, ImXs_nil, true_or, or_true, false_or, false_and, and_false, rmK, rm1, List.map_append, List.map_cons, List.map_nil, List.cons_append, List.nil_append])
    all_goals (try (repeat' (first
        | exact ltXs_nil
        | (apply ltXs_map; intro _; exact ⟨rfl, rfl⟩)
        | (apply imXs_map; intro _; exact ⟨rfl, rfl⟩)
        | with_reducible apply imXs_append
        | with_reducible refine imXs_cons ⟨rfl, rfl⟩ ?_
        | exact imXs_nil
        | with_reducible apply ltXs_append
        | with_reducible refine ltXs_cons ⟨rfl, rfl, ?_⟩ ?_
        | with_reducible apply And.intro
        | exact ltCs_im rfl
        | exact ltCs_im (by assumption)
        | (refine ⟨⟨?_, rfl, ?_, rfl, ?_⟩, trivial⟩ <;> first | (simp; done) | (apply imXs_map; intro _; exact ⟨rfl, rfl⟩))
        | trivial
        | rfl
        | (rw [i64_succ (by omega)])
        | omega)))

def entEq (x y : Ent) : Bool := x.num == y.num && (x.before == y.before && (x.kind == y.kind && (x.of_ == y.of_ && (x.out == y.out && (x.text.toList == y.text.toList && (x.link == y.link && true))))))
theorem c_ref38_Same (a b : List Ent) (ha : a.length < 4611686018427387904) (hb : b.length < 4611686018427387904) : Spc Try.prog F_ref38_Same [.sl 7 (a.map entT), .sl 7 (b.map entT)] [] (vB (sameL entEq a b)) [] := by
  refine spec_of_ir fn_ref38_Same mixm (by simp) fun e _ hst => W_start ?_
  unfold ir_ref38_Same
  simp only [tl, tl2, isCallR, entX, argFr, ret, retI, retB, intT, unT, endR, ressR, resR, tupT, bslR, boxR, lenAll, ↓reduceIte, Nat.reduceEqDiff, Nat.reduceAdd, Nat.reduceMul, Nat.reduceLT, Nat.reduceLeDiff, reduceCtorEq, Int.reduceLE, Int.reduceLT, ne_eq, Int.reduceEq, not_false_eq_true, decide_true, decide_false, Int.reduceToNat, tl3, Int.reduceBNe, Int.reduceBEq, rmK, rm1, not_true_eq_false]
  refine ⟨fun h => ?_, fun h => ?_⟩
  · rw [sameL_ne (by simp at h; omega)]
    exact .imR rfl rfl
  have hl : a.length = b.length := by simp at h; omega
  refine W_loopF mixm (α := Nat) [13] (fun i => i ≤ a.length ∧ (sameL entEq (a.take i) (b.take i) = true)) (fun i => [(13, vI i)]) (fun i => []) (fun i => a.length - i) 0 ⟨by omega, ?_⟩ ?_ fun i hi => ?_
  · simp [sameL]
  · refine .of [] [] rfl (by first | rfl | (rw [hst]; rfl)) ?_ ?_
    all_goals (try simp only [ltSto, ltO2, ltO1, ltAs, ltA, ltC, ltCs, ltT, ltFr, ltS, wrOk, wrO, TL.get, hasFr, ↓reduceIte, Nat.reduceEqDiff, reduceCtorEq, Option.getD_some, Option.isSome_some, List.length_map, List.length_append, List.length_cons, List.length_nil, List.append_nil, List.mem_singleton, List.mem_cons, List.not_mem_nil, and_true, true_and, and_self, imp_self, forall_const, false_implies, implies_true, true_implies, or_false, Bool.false_eq_true, Bool.true_eq_false, ImXs_nil, true_or, or_true, false_or, false_and, and_false, rmK, rm1, List.map_append, List.map_cons, List.map_nil, List.cons_append, List.nil_append])
    all_goals (try (repeat' (first
        | exact ltXs_nil
        | (apply ltXs_map; intro _; exact ⟨rfl, rfl⟩)
        | (apply imXs_map; intro _; exact ⟨rfl, rfl⟩)
        | with_reducible apply imXs_append
        | with_reducible refine imXs_cons ⟨rfl, rfl⟩ ?_
        | exact imXs_nil
        | with_reducible apply ltXs_append
        | with_reducible refine ltXs_cons ⟨rfl, rfl, ?_⟩ ?_
        | with_reducible apply And.intro
        | exact ltCs_im rfl
        | exact ltCs_im (by assumption)
        | (refine ⟨⟨?_, rfl, ?_, rfl, ?_⟩, trivial⟩ <;> first | (simp; done) | (apply imXs_map; intro _; exact ⟨rfl, rfl⟩))
        | trivial
        | rfl
        | (rw [i64_succ (by omega)])
        | omega)))
  simp only [tl, tl2, isCallR, entX, argFr, ret, retI, retB, intT, unT, endR, ressR, resR, tupT, bslR, boxR, lenAll, ↓reduceIte, Nat.reduceEqDiff, Nat.reduceAdd, Nat.reduceMul, Nat.reduceLT, Nat.reduceLeDiff, reduceCtorEq, Int.reduceLE, Int.reduceLT, ne_eq, Int.reduceEq, not_false_eq_true, decide_true, decide_false, Int.reduceToNat, tl3, Int.reduceBNe, Int.reduceBEq, rmK, rm1, not_true_eq_false, decide_eq_true_eq, decide_eq_false_iff_not]
  refine ⟨fun h => ?_, fun h => ?_⟩
  · have hib : i < b.length := by omega
    have hi2 : i < a.length := by omega
    have hwi := i64_succ (i := i) (by omega)
    simp only [tl, tl2, isCallR, entX, argFr, ret, retI, retB, intT, unT, endR, ressR, resR, tupT, bslR, boxR, lenAll, ↓reduceIte, Nat.reduceEqDiff, Nat.reduceAdd, Nat.reduceMul, Nat.reduceLT, Nat.reduceLeDiff, reduceCtorEq, Int.reduceLE, Int.reduceLT, ne_eq, Int.reduceEq, not_false_eq_true, decide_true, decide_false, Int.reduceToNat, tl3, Int.reduceBNe, Int.reduceBEq, rmK, rm1, not_true_eq_false, Int.toNat_natCast, getD_mapT hi2, hwi, getD_mapT hib, entT]
    refine ⟨by omega, by omega, by kernel_rfl, fun h3 => ?_, fun h3 => ⟨i + 1, ⟨by omega, ?_⟩, by omega, ?_⟩⟩
    · rw [sameL_false (i := i) hl (by omega) (by simpa [entEq] using h3)]
      exact .imR rfl rfl
    · rw [sameL_snoc hi2 hib, hi.2]
      simpa [entEq] using h3
    · refine .of [] [] rfl (by first | rfl | (rw [hst]; rfl)) ?_ ?_
      all_goals (try simp only [ltSto, ltO2, ltO1, ltAs, ltA, ltC, ltCs, ltT, ltFr, ltS, wrOk, wrO, TL.get, hasFr, ↓reduceIte, Nat.reduceEqDiff, reduceCtorEq, Option.getD_some, Option.isSome_some, List.length_map, List.length_append, List.length_cons, List.length_nil, List.append_nil, List.mem_singleton, List.mem_cons, List.not_mem_nil, and_true, true_and, and_self, imp_self, forall_const, false_implies, implies_true, true_implies, or_false, Bool.false_eq_true, Bool.true_eq_false, ImXs_nil, true_or, or_true, false_or, false_and, and_false, rmK, rm1, List.map_append, List.map_cons, List.map_nil, List.cons_append, List.nil_append])
      all_goals (try (repeat' (first
          | exact ltXs_nil
          | (apply ltXs_map; intro _; exact ⟨rfl, rfl⟩)
          | (apply imXs_map; intro _; exact ⟨rfl, rfl⟩)
          | with_reducible apply imXs_append
          | with_reducible refine imXs_cons ⟨rfl, rfl⟩ ?_
          | exact imXs_nil
          | with_reducible apply ltXs_append
          | with_reducible refine ltXs_cons ⟨rfl, rfl, ?_⟩ ?_
          | with_reducible apply And.intro
          | exact ltCs_im rfl
          | exact ltCs_im (by assumption)
          | (refine ⟨⟨?_, rfl, ?_, rfl, ?_⟩, trivial⟩ <;> first | (simp; done) | (apply imXs_map; intro _; exact ⟨rfl, rfl⟩))
          | trivial
          | rfl
          | (rw [i64_succ (by omega)])
          | omega)))
  · have h2 : i = a.length := by omega
    subst h2
    have h3 := hi.2
    rw [List.take_length, List.take_of_length_le (by omega)] at h3
    rw [h3]
    exact .imR rfl rfl

/-! ltSto, ltO2, ltO1, ltAs, ltA, ltC, ltCs, ltT, ltFr, ltS, wrOk, wrO, TL.get, hasFr, ↓reduceIte, Nat.reduceEqDiff, reduceCtorEq, Option.getD_some, Option.isSome_some, List.length_map, List.length_append, List.length_cons, List.length_nil, List.append_nil, List.mem_singleton, List.mem_cons, List.not_mem_nil, and_true, true_and, and_self, imp_self, forall_const, false_implies, implies_true, true_implies, or_false, Bool.false_eq_true, Bool.true_eq_false, ImXs_nil, true_or, or_true, false_or, false_and, and_false, rmK, rm1# what an entry is about -/
/-- right entries, as far as it matters -/
def entOk (x : Ent) : Prop := kindOk x ∧ (x.kind = 2 → x.out = 0) ∧ (x.kind ≠ 2 → 1 ≤ x.out ∧ x.out ≤ 40)
def fitsI (l : List Ent) (x : Ent) : Int :=
  if (x.text.size : Int) > 4096 then 1
  else if (decide (x.kind < 1) || decide (x.kind > 3)) = true then 4
  else if ((x.kind != 1) && !((standI l).contains x.of_)) = true then 56
  else if ((x.kind == 1) && (x.of_ != 0)) = true then 11
  else if ((x.kind == 2) && ((x.out != 0) || !(x.text.toList == []))) = true then 11
  else if (relE x && ((decide (x.out < 1) || decide (x.out > 40)) || l.any (fun y => relE y && y.out == x.out))) = true then 11 else 0
theorem about_ok {l : List Ent} {x : Ent} (h : aboutI l x = 0) : entOk x := by
  unfold aboutI at h
  repeat' split at h
  all_goals first
    | (cases h; done)
    | (rename_i h1 h2 h3 h4 h5 h6
       simp at h2 h5 h6
       exact ⟨⟨h2.1, h2.2⟩, fun _ => by simp_all, fun hn => absurd h5 hn⟩)
    | (rename_i h1 h2 h3 h4 h5 h6 h7
       simp at h2 h5 h6
       exact ⟨⟨h2.1, h2.2⟩, fun hk => absurd hk h5, fun _ => ⟨h6.1, h6.2⟩⟩)
theorem fits_eq {l : List Ent} {x : Ent} (h : ∀ y ∈ l, entOk y) : fitsI l x = aboutI l x := by
  have hs : standI l = forceI l := stand_eq fun y hy => (h y hy).1
  unfold fitsI aboutI
  rw [hs]
  by_cases h1 : (x.text.size : Int) > 4096
  · rw [if_pos h1, if_pos h1]
  rw [if_neg h1, if_neg h1]
  by_cases h2 : (decide (x.kind < 1) || decide (x.kind > 3)) = true
  · rw [if_pos h2, if_pos h2]
  rw [if_neg h2, if_neg h2]
  by_cases h3 : ((x.kind != 1) && !((forceI l).contains x.of_)) = true
  · rw [if_pos h3, if_pos h3]
  rw [if_neg h3, if_neg h3]
  by_cases h4 : ((x.kind == 1) && (x.of_ != 0)) = true
  · rw [if_pos h4, if_pos h4]
  rw [if_neg h4, if_neg h4]
  simp at h2
  by_cases h5 : x.kind = 2
  · have hr : relE x = false := by simp [relE, h5]
    simp [h5, hr]
  have hr : relE x = true := by
    unfold relE
    simp
    omega
  have h5' : (x.kind == 2) = false := by simpa using h5
  simp only [h5', Bool.false_and, Bool.false_eq_true, if_false, hr, Bool.true_and, Bool.or_eq_true]
  by_cases h6 : (decide (x.out < 1) || decide (x.out > 40)) = true
  · rw [if_pos (.inl (by simpa using h6)), if_pos (by simpa using h6)]
  simp at h6
  have hany : l.any (fun y => relE y && y.out == x.out) = l.any (fun y => y.out == x.out) := by
    apply Bool.eq_iff_iff.2
    simp only [List.any_eq_true, Bool.and_eq_true, beq_iff_eq]
    constructor
    · rintro ⟨y, hy, _, e⟩
      exact ⟨y, hy, e⟩
    · rintro ⟨y, hy, e⟩
      refine ⟨y, hy, ?_, e⟩
      obtain ⟨⟨k1, k2⟩, k3, k4⟩ := h y hy
      unfold relE
      simp
      by_cases e2 : y.kind = 2
      · have := k3 e2
        omega
      · omega
  rw [hany]
  have e1 : ¬ x.out < 1 := by omega
  have e2 : ¬ x.out > 40 := by omega
  simp only [e1, e2, decide_false, Bool.false_eq_true, or_self, false_or, Bool.or_self, if_false]
theorem c_register_fits_ip (y x : Ent) : Spc Try.prog F_register_fits_1 [entT y, .ip (entT x).cells] [] (vB (relE y && (y.out == x.out))) [] := by
  refine spec_of_ir fn_register_fits_1 mixm (by simp) fun e _ hst => W_start ?_
  unfold ir_register_fits_1
  simp only [tl, tl2, isCallR, entX, argFr, ret, retI, retB, intT, unT, endR, ressR, resR, tupT, bslR, boxR, lenAll, ↓reduceIte, Nat.reduceEqDiff, Nat.reduceAdd, Nat.reduceMul, Nat.reduceLT, Nat.reduceLeDiff, reduceCtorEq, Int.reduceLE, Int.reduceLT, ne_eq, Int.reduceEq, not_false_eq_true, decide_true, decide_false, Int.reduceToNat, tl3, Int.reduceBNe, Int.reduceBEq, rmK, rm1, not_true_eq_false, entT]
  refine C1.im (c_register_releases y) rfl (by rfl) ?_
  simp only [tl, tl2, isCallR, entX, argFr, ret, retI, retB, intT, unT, endR, ressR, resR, tupT, bslR, boxR, lenAll, ↓reduceIte, Nat.reduceEqDiff, Nat.reduceAdd, Nat.reduceMul, Nat.reduceLT, Nat.reduceLeDiff, reduceCtorEq, Int.reduceLE, Int.reduceLT, ne_eq, Int.reduceEq, not_false_eq_true, decide_true, decide_false, Int.reduceToNat, tl3, Int.reduceBNe, Int.reduceBEq, rmK, rm1, not_true_eq_false]
  exact .imR rfl rfl
theorem c_register_fits (l : List Ent) (x : Ent) (hl : l.length ≤ 1000000) : Spc Try.prog F_register_fits [vEs l, entT x] [] (vI (fitsI l x)) [] := by
  refine spec_of_ir fn_register_fits mixm (by simp) fun e _ hst => W_start ?_
  unfold ir_register_fits
  simp only [tl, tl2, isCallR, entX, argFr, ret, retI, retB, intT, unT, endR, ressR, resR, tupT, bslR, boxR, lenAll, ↓reduceIte, Nat.reduceEqDiff, Nat.reduceAdd, Nat.reduceMul, Nat.reduceLT, Nat.reduceLeDiff, reduceCtorEq, Int.reduceLE, Int.reduceLT, ne_eq, Int.reduceEq, not_false_eq_true, decide_true, decide_false, Int.reduceToNat, tl3, Int.reduceBNe, Int.reduceBEq, rmK, rm1, not_true_eq_false, entT]
  refine C1.keep 4096 7 [entT x] (c_slices_ContainsFunc_Entry (fun y => relE y && (y.out == x.out)) _ x (fun y => c_register_fits_1 y x) l (by omega)) rfl (imXs_ent x) ⟨rfl, ⟨rfl, ⟨rfl, rfl, rfl, rfl⟩, trivial⟩, trivial⟩ (by rfl) ?_
  simp only [tl, tl2, isCallR, entX, argFr, ret, retI, retB, intT, unT, endR, ressR, resR, tupT, bslR, boxR, lenAll, ↓reduceIte, Nat.reduceEqDiff, Nat.reduceAdd, Nat.reduceMul, Nat.reduceLT, Nat.reduceLeDiff, reduceCtorEq, Int.reduceLE, Int.reduceLT, ne_eq, Int.reduceEq, not_false_eq_true, decide_true, decide_false, Int.reduceToNat, tl3, Int.reduceBNe, Int.reduceBEq, rmK, rm1, not_true_eq_false, decide_eq_true_eq, decide_eq_false_iff_not, entT]
  refine ⟨fun h1 => ?_, fun h1 => ?_⟩
  · rw [fitsI, if_pos h1]
    exact .imR rfl rfl
  refine ⟨fun h2 => ?_, fun h2 => ?_⟩
  · rw [fitsI, if_neg h1, if_pos h2]
    exact .imR rfl rfl
  refine C2.im (fun _ => c_register_standing l hl) (fun _ => rfl) (by rfl) ?_
  simp only [tl, tl2, isCallR, entX, argFr, ret, retI, retB, intT, unT, endR, ressR, resR, tupT, bslR, boxR, lenAll, ↓reduceIte, Nat.reduceEqDiff, Nat.reduceAdd, Nat.reduceMul, Nat.reduceLT, Nat.reduceLeDiff, reduceCtorEq, Int.reduceLE, Int.reduceLT, ne_eq, Int.reduceEq, not_false_eq_true, decide_true, decide_false, Int.reduceToNat, tl3, Int.reduceBNe, Int.reduceBEq, rmK, rm1, not_true_eq_false]
  refine C2.im (fun _ => c_slices_Contains_int (standI l) x.of_ ?_) (fun _ => rfl) (by rfl) ?_
  · have := stand_len l l.length (Nat.le_refl _)
    rw [List.take_length] at this
    omega
  simp only [tl, tl2, isCallR, entX, argFr, ret, retI, retB, intT, unT, endR, ressR, resR, tupT, bslR, boxR, lenAll, ↓reduceIte, Nat.reduceEqDiff, Nat.reduceAdd, Nat.reduceMul, Nat.reduceLT, Nat.reduceLeDiff, reduceCtorEq, Int.reduceLE, Int.reduceLT, ne_eq, Int.reduceEq, not_false_eq_true, decide_true, decide_false, Int.reduceToNat, tl3, Int.reduceBNe, Int.reduceBEq, rmK, rm1, not_true_eq_false]
  refine ⟨by kernel_rfl, fun h3 => ?_, fun h3 => ?_⟩
  · rw [fitsI, if_neg h1, if_neg (by rw [h2]; simp), if_pos h3]
    exact .imR rfl rfl
  refine ⟨fun h4 => ?_, fun h4 => ?_⟩
  · rw [fitsI, if_neg h1, if_neg (by rw [h2]; simp), if_neg (by rw [h3]; simp), if_pos h4]
    exact .imR rfl rfl
  refine ⟨fun h5 => ?_, fun h5 => ?_⟩
  · rw [fitsI, if_neg h1, if_neg (by rw [h2]; simp), if_neg (by rw [h3]; simp), if_neg (by rw [h4]; simp), if_pos h5]
    exact .imR rfl rfl
  refine C1.im (c_register_releases x) rfl (by rfl) ?_
  simp only [tl, tl2, isCallR, entX, argFr, ret, retI, retB, intT, unT, endR, ressR, resR, tupT, bslR, boxR, lenAll, ↓reduceIte, Nat.reduceEqDiff, Nat.reduceAdd, Nat.reduceMul, Nat.reduceLT, Nat.reduceLeDiff, reduceCtorEq, Int.reduceLE, Int.reduceLT, ne_eq, Int.reduceEq, not_false_eq_true, decide_true, decide_false, Int.reduceToNat, tl3, Int.reduceBNe, Int.reduceBEq, rmK, rm1, not_true_eq_false, entT]
  refine ⟨fun h6 => ?_, fun h6 => ?_⟩
  · rw [fitsI, if_neg h1, if_neg (by rw [h2]; simp), if_neg (by rw [h3]; simp), if_neg (by rw [h4]; simp), if_neg (by rw [h5]; simp), if_pos h6]
    exact .imR rfl rfl
  · rw [fitsI, if_neg h1, if_neg (by rw [h2]; simp), if_neg (by rw [h3]; simp), if_neg (by rw [h4]; simp), if_neg (by rw [h5]; simp), if_neg (by rw [h6]; simp)]
    exact .imR rfl rfl

end Go.Proofs

