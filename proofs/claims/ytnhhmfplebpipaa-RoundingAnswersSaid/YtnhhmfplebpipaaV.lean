import Derived.Test.YtnhhmfplebpipaaU
set_option linter.unusedSimpArgs false
set_option linter.unusedVariables false
namespace Go.Proofs
open Go Go.TL
/-! ltSto, ltO2, ltO1, ltAs, ltA, ltC, ltCs, ltT, ltFr, ltS, wrOk, wrO, TL.get, hasFr, ↓reduceIte, Nat.reduceEqDiff, reduceCtorEq, Option.getD_some, Option.isSome_some, List.length_map, List.length_append, List.length_cons, List.length_nil, List.append_nil, List.mem_singleton, List.mem_cons, List.not_mem_nil, and_true, true_and, and_self, imp_self, forall_const, false_implies, implies_true, true_implies, or_false, Bool.false_eq_true, Bool.true_eq_false, ImXs_nil, true_or, or_true, false_or, false_and, and_false# no smaller table -/
def lexL (x y : List Int) : Prop := ∃ i, at0 x i < at0 y i ∧ ∀ j, j < i → at0 x j = at0 y j
theorem lex_asymm {x y : List Int} (h1 : lexL x y) (h2 : lexL y x) : False := by
  obtain ⟨i, h1, e1⟩ := h1
  obtain ⟨j, h2, e2⟩ := h2
  rcases Nat.lt_trichotomy i j with h | h | h
  · have := e2 i h; omega
  · subst h; omega
  · have := e1 j h; omega
theorem lex_irrefl {x : List Int} (h : lexL x x) : False := lex_asymm h h
theorem at0_cons {a : Int} {x : List Int} : at0 (a :: x) 0 = a ∧ ∀ i, at0 (a :: x) (i + 1) = at0 x i := ⟨rfl, fun _ => rfl⟩
theorem lex_cons {a : Int} {x y : List Int} (h : lexL x y) : lexL (a :: x) (a :: y) := by
  obtain ⟨i, h1, e1⟩ := h
  refine ⟨i + 1, h1, fun j hj => ?_⟩
  cases j with
  | zero => rfl
  | succ j => exact e1 j (by omega)
theorem lex_head {a b : Int} {x y : List Int} (h : a < b) : lexL (a :: x) (b :: y) := ⟨0, h, fun j hj => by omega⟩
theorem prod_sorted : ∀ V : List (List Int), (∀ v ∈ V, v.Pairwise (· < ·)) → (prod V).Pairwise lexL
  | [], _ => by simp [prod]
  | v :: V, h => by
    have ih := prod_sorted V fun w hw => h w (by simp [hw])
    have hv := h v (by simp)
    clear h
    unfold prod
    induction v with
    | nil => simp
    | cons a v ihv =>
      rw [List.pairwise_cons] at hv
      rw [List.flatMap_cons, List.pairwise_append]
      refine ⟨?_, ihv hv.2, ?_⟩
      · rw [List.pairwise_map]
        exact ih.imp fun h => lex_cons h
      · intro x hx y hy
        obtain ⟨x', _, rfl⟩ := List.mem_map.1 hx
        obtain ⟨b, hb, hy⟩ := List.mem_flatMap.1 hy
        obtain ⟨y', _, rfl⟩ := List.mem_map.1 hy
        exact lex_head (hv.1 b hb)
theorem choi_sorted {n b : Int} (hb : 1 ≤ b) : (choi n b).Pairwise (· < ·) := by
  unfold choi
  split
  · simp
  · simp; omega
theorem fst_least {r c : Nat} {t y : List Int} {b : Int} (hc : 0 < c) (hb : 1 ≤ b) (ht : t.length = r * c) (hy : y.length = r * c) (hs : solB r c t y b = true) : ¬ lexL y (fstT r c t b) := by
  intro hlex
  have h1 := fst_some hc hb ht
  have hmem : y ∈ prod (t.map fun n => choi n b) := (mem_prod hb).2 ⟨by omega, by
    unfold solB at hs
    simp only [Bool.and_eq_true] at hs
    exact hs.1⟩
  have hsort := prod_sorted (t.map fun n => choi n b) fun v hv => by
    obtain ⟨n, _, rfl⟩ := List.mem_map.1 hv
    exact choi_sorted hb
  obtain ⟨_, l1, l2, e, hbs⟩ := List.find?_eq_some_iff_append.1 h1
  rw [e] at hmem hsort
  rw [List.pairwise_append, List.pairwise_cons] at hsort
  rcases List.mem_append.1 hmem with hm | hm
  · have := hbs y hm
    rw [hs] at this
    cases this
  · rcases List.mem_cons.1 hm with hm | hm
    · subst hm; exact lex_irrefl hlex
    · exact lex_asymm hlex (hsort.2.1.1 y hm)
theorem at0_set {x : List Int} {i j : Nat} {v : Int} (hi : i < x.length) : at0 (x.set i v) j = if j = i then v else at0 x j := by
  unfold at0
  by_cases e : j = i
  · subst e; rw [if_pos rfl, getD_get (by simpa using hi)]; simp
  · rw [if_neg e]
    by_cases hj : j < x.length
    · rw [getD_get (by simpa using hj), getD_get hj, List.getElem_set_ne (fun h => e h.symm)]
    · have hj := Nat.le_of_not_lt hj
      simp [List.getD, List.getElem?_eq_none hj, hj]
theorem less_no {r c : Nat} {t : List Int} {b : Int} {i : Nat} (hc : 0 < c) (hb : 1 ≤ b) (ht : t.length = r * c) (hi : i < r * c) : solB r c t ((fstT r c t b).set i (at0 (fstT r c t b) i - b)) b = false := by
  have hl := (fst_ok hc hb ht).1
  cases h : solB r c t ((fstT r c t b).set i (at0 (fstT r c t b) i - b)) b
  · rfl
  · exfalso
    refine fst_least hc hb ht (by simpa using hl) h ⟨i, ?_, fun j hj => ?_⟩
    · rw [at0_set (by omega), if_pos rfl]; omega
    · rw [at0_set (by omega), if_neg (by omega)]
theorem c3 (l : List UInt8) : Spc Try.prog 3 [vL l] [] (vB true) [] := by
  obtain ⟨r, c, t, b, p, h1, h2, h3, h4, h5, h8⟩ := c8 (l.take 400) (by simp; omega)
  have hrc := tbl_len h1 h2
  refine spec_of_ir fn3 mixm (by simp) fun e _ hst => W_start ?_
  unfold ir3
  simp only [tl, tl2, isCallR, entX, argFr, ret, retI, retB, intT, unT, endR, ressR, resR, tupT, bslR, boxR, lenAll, ↓reduceIte, Nat.reduceEqDiff, Nat.reduceAdd, Nat.reduceMul, Nat.reduceLT, Nat.reduceLeDiff, reduceCtorEq, Int.reduceLE, Int.reduceLT, ne_eq, Int.reduceEq, not_false_eq_true, decide_true, decide_false, Int.reduceToNat, tl3, Int.reduceBNe, Int.reduceBEq]
  refine C1.newd 8196 (l.take 400) 0 (c9 l) rfl (by rfl) ?_
  simp only [tl, tl2, isCallR, entX, argFr, ret, retI, retB, intT, unT, endR, ressR, resR, tupT, bslR, boxR, lenAll, ↓reduceIte, Nat.reduceEqDiff, Nat.reduceAdd, Nat.reduceMul, Nat.reduceLT, Nat.reduceLeDiff, reduceCtorEq, Int.reduceLE, Int.reduceLT, ne_eq, Int.reduceEq, not_false_eq_true, decide_true, decide_false, Int.reduceToNat, tl3, Int.reduceBNe, Int.reduceBEq]
  refine C1.draw 8196 (l.take 400) 0 p h8 rfl rfl rfl ?_
  simp only [tl, tl2, isCallR, entX, argFr, ret, retI, retB, intT, unT, endR, ressR, resR, tupT, bslR, boxR, lenAll, ↓reduceIte, Nat.reduceEqDiff, Nat.reduceAdd, Nat.reduceMul, Nat.reduceLT, Nat.reduceLeDiff, reduceCtorEq, Int.reduceLE, Int.reduceLT, ne_eq, Int.reduceEq, not_false_eq_true, decide_true, decide_false, Int.reduceToNat, tl3, Int.reduceBNe, Int.reduceBEq]
  have hless := fun i (hi : i < r * c) => less_no (r := r) (c := c) (t := t) (b := b) (i := i) (by omega) (by omega) h3 hi
  have hf := fst_ok (r := r) (c := c) (t := t) (b := b) (by omega) (by omega) h3
  have hg := fst_range (r := r) (c := c) (t := t) (b := b) (by omega) (by omega) h3 30 (fun n hn => by have := h4 n hn; omega)
  have k1 := c10t (r := r) (c := c) (t := t) (b := b) (by omega) (by omega) (by omega) h3 (by omega) (fun n hn => by have := h4 n hn; omega)
  obtain ⟨x, hx⟩ : ∃ x, fstT r c t b = x := ⟨_, rfl⟩
  rw [hx] at hf k1 hg
  simp only [hx] at hless
  obtain ⟨hxl, hsol⟩ := hf
  have k2 := fun (y : List Int) (hy : y.length = r * c) => c11t (r := r) (c := c) (t := t) (x := y) (b := b) (by omega) (by omega) (by omega) h3 hy (by omega) (fun n hn => by have := h4 n hn; omega)
  have k2x := k2 x hxl
  rw [hsol] at k2x
  have hfit := fitR_iff.1 ((sol_iff (by omega) h3 hxl).1 hsol)
  refine C1.im k1 rfl (by rfl) ?_
  simp only [tl, tl2, isCallR, entX, argFr, ret, retI, retB, intT, unT, endR, ressR, resR, tupT, bslR, boxR, lenAll, ↓reduceIte, Nat.reduceEqDiff, Nat.reduceAdd, Nat.reduceMul, Nat.reduceLT, Nat.reduceLeDiff, reduceCtorEq, Int.reduceLE, Int.reduceLT, ne_eq, Int.reduceEq, not_false_eq_true, decide_true, decide_false, Int.reduceToNat, tl3, Int.reduceBNe, Int.reduceBEq, hxl, h3]
  refine ⟨fun h => by simp at h, fun _ => ?_⟩
  refine C1.im k2x rfl (by rfl) ?_
  simp only [tl, tl2, isCallR, entX, argFr, ret, retI, retB, intT, unT, endR, ressR, resR, tupT, bslR, boxR, lenAll, ↓reduceIte, Nat.reduceEqDiff, Nat.reduceAdd, Nat.reduceMul, Nat.reduceLT, Nat.reduceLeDiff, reduceCtorEq, Int.reduceLE, Int.reduceLT, ne_eq, Int.reduceEq, not_false_eq_true, decide_true, decide_false, Int.reduceToNat, tl3, Int.reduceBNe, Int.reduceBEq, hxl, h3]
  refine W_loop mixm (α := Nat) (fun i => i ≤ r * c) (fun i => [(3, vI r), (4, vI c), (5, vIs t), (6, vI b), (7, vIs x), (9, vB true), (10, vI 0), (54, vI ((r * c : Nat) : Int)), (55, vI i)]) (fun _ => []) (fun i => r * c - i) 0 (by omega) ?_ fun i hi => ?_
  · refine .of [] [] rfl (by rw [hst]; rfl) trivial ?_
    simp only [ltSto, ltO2, ltO1, ltAs, ltA, ltC, ltCs, ltT, ltFr, ltS, wrOk, wrO, TL.get, hasFr, ↓reduceIte, Nat.reduceEqDiff, reduceCtorEq, Option.getD_some, Option.isSome_some, List.length_map, List.length_append, List.length_cons, List.length_nil, List.append_nil, List.mem_singleton, List.mem_cons, List.not_mem_nil, and_true, true_and, and_self, imp_self, forall_const, false_implies, implies_true, true_implies, or_false, Bool.false_eq_true, Bool.true_eq_false, ImXs_nil, true_or, or_true, false_or, false_and, and_false]
    rfl
  simp only [tl, tl2, isCallR, entX, argFr, ret, retI, retB, intT, unT, endR, ressR, resR, tupT, bslR, boxR, lenAll, ↓reduceIte, Nat.reduceEqDiff, Nat.reduceAdd, Nat.reduceMul, Nat.reduceLT, Nat.reduceLeDiff, reduceCtorEq, Int.reduceLE, Int.reduceLT, ne_eq, Int.reduceEq, not_false_eq_true, decide_true, decide_false, Int.reduceToNat, tl3, Int.reduceBNe, Int.reduceBEq, decide_eq_true_eq, decide_eq_false_iff_not]
  refine ⟨fun h => ?_, fun h => ?_⟩
  · have hi2 : i < r * c := by omega
    have hit : i < t.length := by omega
    have hix : i < x.length := by omega
    have hir : i / c < r := by rw [Nat.div_lt_iff_lt_mul (by omega)]; exact hi2
    have hic : i / c * c + i % c = i := by rw [Nat.mul_comm]; exact Nat.div_add_mod i c
    have hnear := (hfit.1 (i / c) hir).1 (i % c) (Nat.mod_lt _ (by omega))
    rw [hic, show at0 t i = t[i] from getD_get hit, show at0 x i = x[i] from getD_get hix] at hnear
    simp only [nearB, Bool.and_eq_true, decide_eq_true_eq, beq_iff_eq] at hnear
    have htb := h4 _ (List.getElem_mem hit)
    have n1 : (x[i].tmod b != 0) = false := by rw [hnear.2]; rfl
    have n2 : decide (x[i] ≤ IntKind.i64.wrap (t[i] - b)) = false := by
      rw [IntWalk.i64_in _ (by omega)]; exact decide_eq_false (by omega)
    have n3 : decide (x[i] ≥ IntKind.i64.wrap (t[i] + b)) = false := by
      rw [IntWalk.i64_in _ (by omega)]; exact decide_eq_false (by omega)
    simp only [tl, tl2, isCallR, entX, argFr, ret, retI, retB, intT, unT, endR, ressR, resR, tupT, bslR, boxR, lenAll, ↓reduceIte, Nat.reduceEqDiff, Nat.reduceAdd, Nat.reduceMul, Nat.reduceLT, Nat.reduceLeDiff, reduceCtorEq, Int.reduceLE, Int.reduceLT, ne_eq, Int.reduceEq, not_false_eq_true, decide_true, decide_false, Int.reduceToNat, tl3, Int.reduceBNe, Int.reduceBEq, Int.toNat_natCast, getD_ints hit, getD_ints hix, n1, n2, n3]
    refine ⟨by omega, by omega, by omega, by omega, by omega, by omega, by kernel_rfl, ?_⟩
    have hox : okT x := fun n hn => by have := hg n hn; omega
    have hot : okT t := fun n hn => by have := h4 n hn; omega
    refine W_loop mixm (α := Nat) (fun k => k ≤ c) (fun k => [(3, vI r), (4, vI c), (5, vIs t), (6, vI b), (7, vIs x), (9, vB true), (10, vI 0), (11, vI i), (12, vI (rS x c (i / c) k)), (13, vI (rS t c (i / c) k)), (14, vI k), (54, vI ((r * c : Nat) : Int)), (55, vI i)]) (fun _ => []) (fun k => c - k) 0 (by omega) ?_ fun k hk => ?_
    · refine .of [] [] rfl (by rw [hst]; rfl) trivial ?_
      simp only [ltSto, ltO2, ltO1, ltAs, ltA, ltC, ltCs, ltT, ltFr, ltS, wrOk, wrO, TL.get, hasFr, ↓reduceIte, Nat.reduceEqDiff, reduceCtorEq, Option.getD_some, Option.isSome_some, List.length_map, List.length_append, List.length_cons, List.length_nil, List.append_nil, List.mem_singleton, List.mem_cons, List.not_mem_nil, and_true, true_and, and_self, imp_self, forall_const, false_implies, implies_true, true_implies, or_false, Bool.false_eq_true, Bool.true_eq_false, ImXs_nil, true_or, or_true, false_or, false_and, and_false]
      exact ⟨rfl, rfl, rfl⟩
    have b3 := rS_bound hot c (i / c) k (by omega)
    have b4 := rS_bound hox c (i / c) k (by omega)
    simp only [tl, tl2, isCallR, entX, argFr, ret, retI, retB, intT, unT, endR, ressR, resR, tupT, bslR, boxR, lenAll, ↓reduceIte, Nat.reduceEqDiff, Nat.reduceAdd, Nat.reduceMul, Nat.reduceLT, Nat.reduceLeDiff, reduceCtorEq, Int.reduceLE, Int.reduceLT, ne_eq, Int.reduceEq, not_false_eq_true, decide_true, decide_false, Int.reduceToNat, tl3, Int.reduceBNe, Int.reduceBEq, decide_eq_true_eq, decide_eq_false_iff_not]
    refine ⟨fun h => ?_, fun h => ?_⟩
    · have hk2 : k < c := by omega
      have h7 := idx_lt hir hk2
      have hw0 : i / c * c ≤ 9 := Nat.le_trans (Nat.div_mul_le_self i c) (by omega)
      have hd1 : IntKind.i64.wrap ((i : Int).tdiv c) = ((i / c : Nat) : Int) := by
        rw [Int.tdiv_eq_ediv_of_nonneg (by omega), ← Int.natCast_ediv]
        generalize i / c = q at hir
        exact IntWalk.i64_in _ (by omega)
      have hw1 : IntKind.i64.wrap (((i / c : Nat) : Int) * c) = ((i / c * c : Nat) : Int) := by
        rw [← Int.natCast_mul]; exact IntWalk.i64_in _ (by omega)
      have hw2 : IntKind.i64.wrap (((i / c * c : Nat) : Int) + k) = ((i / c * c + k : Nat) : Int) := by
        generalize i / c * c = q at hw0
        rw [IntWalk.i64_in _ (by omega)]; omega
      have b1 := at0_bound hot (i / c * c + k)
      have b2 := at0_bound hox (i / c * c + k)
      have e1 : t[i / c * c + k]'(by omega) = at0 t (i / c * c + k) := (getD_get _).symm
      have e2 : x[i / c * c + k]'(by omega) = at0 x (i / c * c + k) := (getD_get _).symm
      have hv1 : IntKind.i64.wrap (rS t c (i / c) k + at0 t (i / c * c + k)) = rS t c (i / c) (k + 1) := IntWalk.i64_in _ (by omega)
      have hv2 : IntKind.i64.wrap (rS x c (i / c) k + at0 x (i / c * c + k)) = rS x c (i / c) (k + 1) := IntWalk.i64_in _ (by omega)
      simp only [tl, tl2, isCallR, entX, argFr, ret, retI, retB, intT, unT, endR, ressR, resR, tupT, bslR, boxR, lenAll, ↓reduceIte, Nat.reduceEqDiff, Nat.reduceAdd, Nat.reduceMul, Nat.reduceLT, Nat.reduceLeDiff, reduceCtorEq, Int.reduceLE, Int.reduceLT, ne_eq, Int.reduceEq, not_false_eq_true, decide_true, decide_false, Int.reduceToNat, tl3, Int.reduceBNe, Int.reduceBEq, hd1, hw1, hw2, Int.toNat_natCast, getD_ints (show i / c * c + k < t.length by omega), getD_ints (show i / c * c + k < x.length by omega), e1, e2, hv1, hv2]
      have z1 : (0 : Int) ≤ ((i / c * c + k : Nat) : Int) := Int.natCast_nonneg _
      have z2 : ((i / c * c + k : Nat) : Int) < x.length := by rw [hxl]; exact_mod_cast h7
      have z3 : ((i / c * c + k : Nat) : Int) < t.length := by rw [h3]; exact_mod_cast h7
      refine ⟨by omega, ⟨z1, z2⟩, by omega, ⟨z1, z3⟩, by kernel_rfl, k + 1, by omega, by omega, .of [] [] rfl (by rw [hst]; rfl) trivial ?_⟩
      simp only [ltSto, ltO2, ltO1, ltAs, ltA, ltC, ltCs, ltT, ltFr, ltS, wrOk, wrO, TL.get, hasFr, ↓reduceIte, Nat.reduceEqDiff, reduceCtorEq, Option.getD_some, Option.isSome_some, List.length_map, List.length_append, List.length_cons, List.length_nil, List.append_nil, List.mem_singleton, List.mem_cons, List.not_mem_nil, and_true, true_and, and_self, imp_self, forall_const, false_implies, implies_true, true_implies, or_false, Bool.false_eq_true, Bool.true_eq_false, ImXs_nil, true_or, or_true, false_or, false_and, and_false]
      rw [IntWalk.i64_in _ (by omega)]
      rfl
    · have hk2 : k = c := by omega
      subst hk2
      have hrow := (hfit.1 (i / k) hir).2
      simp only [nearB, Bool.and_eq_true, decide_eq_true_eq, beq_iff_eq] at hrow
      have m2 : decide (rS x k (i / k) k ≤ IntKind.i64.wrap (rS t k (i / k) k - b)) = false := by
        rw [IntWalk.i64_in _ (by omega)]; exact decide_eq_false (by omega)
      have m3 : decide (rS x k (i / k) k ≥ IntKind.i64.wrap (rS t k (i / k) k + b)) = false := by
        rw [IntWalk.i64_in _ (by omega)]; exact decide_eq_false (by omega)
      simp only [m2, m3]
      simp only [tl, tl2, isCallR, entX, argFr, ret, retI, retB, intT, unT, endR, ressR, resR, tupT, bslR, boxR, lenAll, ↓reduceIte, Nat.reduceEqDiff, Nat.reduceAdd, Nat.reduceMul, Nat.reduceLT, Nat.reduceLeDiff, reduceCtorEq, Int.reduceLE, Int.reduceLT, ne_eq, Int.reduceEq, not_false_eq_true, decide_true, decide_false, Int.reduceToNat, tl3, Int.reduceBNe, Int.reduceBEq]
      refine ⟨i + 1, by omega, by omega, .of [] [] rfl (by rw [hst]; rfl) trivial ?_⟩
      simp only [ltSto, ltO2, ltO1, ltAs, ltA, ltC, ltCs, ltT, ltFr, ltS, wrOk, wrO, TL.get, hasFr, ↓reduceIte, Nat.reduceEqDiff, reduceCtorEq, Option.getD_some, Option.isSome_some, List.length_map, List.length_append, List.length_cons, List.length_nil, List.append_nil, List.mem_singleton, List.mem_cons, List.not_mem_nil, and_true, true_and, and_self, imp_self, forall_const, false_implies, implies_true, true_implies, or_false, Bool.false_eq_true, Bool.true_eq_false, ImXs_nil, true_or, or_true, false_or, false_and, and_false]
      rw [IntWalk.i64_in _ (by omega)]
      rfl
  · refine W_loop mixm (α := Nat) (fun i => i ≤ r * c) (fun i => [(3, vI r), (4, vI c), (5, vIs t), (6, vI b), (7, vIs x), (9, vB true), (10, vI 0), (134, vI ((r * c : Nat) : Int)), (135, vI i)]) (fun _ => []) (fun i => r * c - i) 0 (by omega) ?_ fun i hi => ?_
    · refine .of [] [] rfl (by rw [hst]; rfl) trivial ?_
      simp only [ltSto, ltO2, ltO1, ltAs, ltA, ltC, ltCs, ltT, ltFr, ltS, wrOk, wrO, TL.get, hasFr, ↓reduceIte, Nat.reduceEqDiff, reduceCtorEq, Option.getD_some, Option.isSome_some, List.length_map, List.length_append, List.length_cons, List.length_nil, List.append_nil, List.mem_singleton, List.mem_cons, List.not_mem_nil, and_true, true_and, and_self, imp_self, forall_const, false_implies, implies_true, true_implies, or_false, Bool.false_eq_true, Bool.true_eq_false, ImXs_nil, true_or, or_true, false_or, false_and, and_false, h3]
      rfl
    simp only [tl, tl2, isCallR, entX, argFr, ret, retI, retB, intT, unT, endR, ressR, resR, tupT, bslR, boxR, lenAll, ↓reduceIte, Nat.reduceEqDiff, Nat.reduceAdd, Nat.reduceMul, Nat.reduceLT, Nat.reduceLeDiff, reduceCtorEq, Int.reduceLE, Int.reduceLT, ne_eq, Int.reduceEq, not_false_eq_true, decide_true, decide_false, Int.reduceToNat, tl3, Int.reduceBNe, Int.reduceBEq, decide_eq_true_eq, decide_eq_false_iff_not]
    refine ⟨fun h => ?_, fun h => ?_⟩
    · have hi2 : i < r * c := by omega
      have hix : i < x.length := by omega
      have hxb := hg _ (List.getElem_mem hix)
      have hw : IntKind.i64.wrap (x[i] - b) = x[i] - b := IntWalk.i64_in _ (by omega)
      simp only [tl, tl2, isCallR, entX, argFr, ret, retI, retB, intT, unT, endR, ressR, resR, tupT, bslR, boxR, lenAll, ↓reduceIte, Nat.reduceEqDiff, Nat.reduceAdd, Nat.reduceMul, Nat.reduceLT, Nat.reduceLeDiff, reduceCtorEq, Int.reduceLE, Int.reduceLT, ne_eq, Int.reduceEq, not_false_eq_true, decide_true, decide_false, Int.reduceToNat, tl3, Int.reduceBNe, Int.reduceBEq, Int.toNat_natCast, getD_ints hix, hw, map_set]
      have hl := hless i hi2
      rw [show at0 x i = x[i] from getD_get hix] at hl
      have k3 := k2 (x.set i (x[i] - b)) (by simp [hxl])
      rw [hl] at k3
      refine ⟨by omega, by omega, hix, by omega, hix, ?_⟩
      refine C1.lend [94208] k3 ?_ (by rfl) (by rfl) ?_
      · simp only [ltSto, ltO2, ltO1, ltAs, ltA, ltC, ltCs, ltT, ltFr, ltS, wrOk, wrO, TL.get, hasFr, ↓reduceIte, Nat.reduceEqDiff, reduceCtorEq, Option.getD_some, Option.isSome_some, List.length_map, List.length_append, List.length_cons, List.length_nil, List.append_nil, List.mem_singleton, List.mem_cons, List.not_mem_nil, and_true, true_and, and_self, imp_self, forall_const, false_implies, implies_true, true_implies, or_false, Bool.false_eq_true, Bool.true_eq_false, ImXs_nil, true_or, or_true, false_or, false_and, and_false]
        exact ⟨by simp, ints_v _⟩
      simp only [tl, tl2, isCallR, entX, argFr, ret, retI, retB, intT, unT, endR, ressR, resR, tupT, bslR, boxR, lenAll, ↓reduceIte, Nat.reduceEqDiff, Nat.reduceAdd, Nat.reduceMul, Nat.reduceLT, Nat.reduceLeDiff, reduceCtorEq, Int.reduceLE, Int.reduceLT, ne_eq, Int.reduceEq, not_false_eq_true, decide_true, decide_false, Int.reduceToNat, tl3, Int.reduceBNe, Int.reduceBEq]
      refine ⟨i + 1, by omega, by omega, .of [] [] rfl (by rw [hst]; rfl) trivial ?_⟩
      simp only [ltSto, ltO2, ltO1, ltAs, ltA, ltC, ltCs, ltT, ltFr, ltS, wrOk, wrO, TL.get, hasFr, ↓reduceIte, Nat.reduceEqDiff, reduceCtorEq, Option.getD_some, Option.isSome_some, List.length_map, List.length_append, List.length_cons, List.length_nil, List.append_nil, List.mem_singleton, List.mem_cons, List.not_mem_nil, and_true, true_and, and_self, imp_self, forall_const, false_implies, implies_true, true_implies, or_false, Bool.false_eq_true, Bool.true_eq_false, ImXs_nil, true_or, or_true, false_or, false_and, and_false]
      rw [IntWalk.i64_in _ (by omega)]
      rfl
    · refine C2.im (fun _ => c12) (fun _ => rfl) (by rfl) ?_
      simp only [tl, tl2, isCallR, entX, argFr, ret, retI, retB, intT, unT, endR, ressR, resR, tupT, bslR, boxR, lenAll, ↓reduceIte, Nat.reduceEqDiff, Nat.reduceAdd, Nat.reduceMul, Nat.reduceLT, Nat.reduceLeDiff, reduceCtorEq, Int.reduceLE, Int.reduceLT, ne_eq, Int.reduceEq, not_false_eq_true, decide_true, decide_false, Int.reduceToNat, tl3, Int.reduceBNe, Int.reduceBEq]
      exact .imR (by rfl) rfl
end Go.Proofs

