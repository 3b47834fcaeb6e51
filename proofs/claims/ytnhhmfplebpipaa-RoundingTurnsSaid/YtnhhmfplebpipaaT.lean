import Derived.Test.YtnhhmfplebpipaaS
set_option linter.unusedSimpArgs false
set_option linter.unusedVariables false
namespace Go.Proofs
open Go Go.TL
/-! ltSto, ltO2, ltO1, ltAs, ltA, ltC, ltCs, ltT, ltFr, ltS, wrOk, wrO, TL.get, hasFr, ↓reduceIte, Nat.reduceEqDiff, reduceCtorEq, Option.getD_some, Option.isSome_some, List.length_map, List.length_append, List.length_cons, List.length_nil, List.append_nil, List.mem_singleton, List.mem_cons, List.not_mem_nil, and_true, true_and, and_self, imp_self, forall_const, false_implies, implies_true, true_implies, or_false, Bool.false_eq_true, Bool.true_eq_false, ImXs_nil, true_or, or_true, false_or, false_and, and_false# scaled tables -/
theorem prod_map (f : Int → Int) : ∀ V : List (List Int), prod (V.map (List.map f)) = (prod V).map (List.map f)
  | [] => rfl
  | v :: V => by
    simp only [List.map_cons, prod, prod_map f V]
    rw [List.flatMap_map, List.map_flatMap]
    congr 1
    funext x
    simp [List.map_map, Function.comp_def]
theorem choi_scale {K n b : Int} (hK : 0 < K) : choi (K * n) (K * b) = (choi n b).map (K * ·) := by
  unfold choi
  rw [Int.mul_emod_mul_of_pos _ _ hK]
  by_cases h : n % b = 0
  · rw [if_pos h, if_pos (by rw [h]; omega)]
    rfl
  · rw [if_neg h, if_neg (fun e => by
      rcases Int.mul_eq_zero.1 e with e | e
      · omega
      · exact h e)]
    simp only [List.map_cons, List.map_nil]
    rw [Int.mul_add, Int.mul_sub]
theorem near_scale {K n x b : Int} (hK : 0 < K) (hb : 1 ≤ b) : nearB (K * n) (K * x) (K * b) = nearB n x b := by
  have hKb : 1 ≤ K * b := by
    have := Int.mul_pos hK (show 0 < b by omega)
    omega
  rw [Bool.eq_iff_iff, near_choi hKb, near_choi hb, choi_scale hK, List.mem_map]
  constructor
  · rintro ⟨y, hy, e⟩
    have : y = x := Int.eq_of_mul_eq_mul_left (by omega) e
    rwa [← this]
  · intro h
    exact ⟨x, h, rfl⟩
theorem sumN_mul {K : Int} {f : Nat → Int} : ∀ n, sumN (fun k => K * f k) n = K * sumN f n
  | 0 => by simp [sumN]
  | n + 1 => by simp only [sumN]; rw [sumN_mul n, Int.mul_add]
theorem at0_map {K : Int} {t : List Int} {i : Nat} : at0 (t.map (K * ·)) i = K * at0 t i := by
  unfold at0
  by_cases h : i < t.length
  · rw [getD_get (by simpa using h), getD_get h]; simp
  · have h := Nat.le_of_not_lt h
    simp [List.getD, List.getElem?_eq_none h]
theorem gS_scale {K : Int} {t : List Int} {c r i j : Nat} : gS (t.map (K * ·)) c r i j = K * gS t c r i j := by
  unfold gS
  have h : ∀ P : Nat → Prop, ∀ [DecidablePred P], sumN (fun x => if P x then at0 (t.map (K * ·)) x else 0) i = K * sumN (fun x => if P x then at0 t x else 0) i := by
    intro P _
    rw [← sumN_mul]
    refine sumN_same i fun x _ => ?_
    by_cases hp : P x
    · rw [if_pos hp, if_pos hp, at0_map]
    · rw [if_neg hp, if_neg hp]; omega
  split
  · exact h _
  · split
    · exact h _
    · rw [← sumN_mul]
      exact sumN_same i fun x _ => at0_map
theorem sol_scale {K b : Int} {r c : Nat} {t x : List Int} (hK : 0 < K) (hb : 1 ≤ b) (hx : x.length = t.length) : solB r c (t.map (K * ·)) (x.map (K * ·)) (K * b) = solB r c t x b := by
  unfold solB sumsB
  congr 1
  · rw [Bool.eq_iff_iff, nearAll_iff (by simp [hx]), nearAll_iff hx]
    simp only [List.length_map, at0_map, near_scale hK hb]
  · congr 1
    funext j
    rw [gS_scale, gS_scale, near_scale hK hb]
theorem fst_scale {K b : Int} {r c : Nat} {t : List Int} (hK : 0 < K) (hb : 1 ≤ b) (hc : 0 < c) (ht : t.length = r * c) : fstT r c (t.map (K * ·)) (K * b) = (fstT r c t b).map (K * ·) := by
  have hKb : 1 ≤ K * b := by
    have := Int.mul_pos hK (show 0 < b by omega)
    omega
  have h1 := fst_some (r := r) (c := c) (t := t.map (K * ·)) (b := K * b) hc hKb (by simpa using ht)
  have e : (t.map (K * ·)).map (fun n => choi n (K * b)) = (t.map fun n => choi n b).map (List.map (K * ·)) := by
    rw [List.map_map, List.map_map]
    refine List.map_congr_left fun n _ => ?_
    exact choi_scale hK
  rw [e, prod_map, List.find?_map] at h1
  have e2 : (prod (t.map fun n => choi n b)).find? ((fun x => solB r c (t.map (K * ·)) x (K * b)) ∘ List.map (K * ·)) = (prod (t.map fun n => choi n b)).find? (fun x => solB r c t x b) := by
    refine find_same fun x hx => ?_
    exact sol_scale hK hb ((mem_prod hb).1 hx).1
  rw [e2, fst_some hc hb ht] at h1
  simpa using h1.symm
def uS (t : List Int) (K : Int) (i : Nat) : List Int := (List.range t.length).map fun j => if j < i then K * at0 t j else 0
theorem uS_len (t : List Int) (K : Int) (i : Nat) : (uS t K i).length = t.length := by simp [uS]
theorem uS_step {t : List Int} {K : Int} {i : Nat} (h : i < t.length) : (uS t K i).set i (K * t[i]) = uS t K (i + 1) := by
  unfold uS
  rw [set_range]
  refine List.map_congr_left fun j hj => ?_
  by_cases e : j = i
  · subst e
    rw [if_pos rfl, if_pos (by omega)]
    unfold at0
    rw [getD_get h]
  · rw [if_neg e]
    by_cases e2 : j < i
    · rw [if_pos e2, if_pos (by omega)]
    · rw [if_neg e2, if_neg (by omega)]
theorem uS_end (t : List Int) (K : Int) : uS t K t.length = t.map (K * ·) := by
  apply List.ext_getElem
  · simp [uS]
  · intro i h1 h2
    have h3 : i < t.length := by simpa using h2
    simp only [uS, List.getElem_map, List.getElem_range]
    rw [if_pos h3]
    unfold at0
    rw [getD_get h3]
theorem c5 (l : List UInt8) (B : Int) (hB : 0 ≤ B ∧ B ≤ 255) : Spc Try.prog 5 [vL l, .v (.int .u8 B)] [] (vB true) [] := by
  obtain ⟨r, c, t, b, p, h1, h2, h3, h4, h5, h8⟩ := c8 (l.take 400) (by simp; omega)
  have hrc := tbl_len h1 h2
  refine spec_of_ir fn5 mixm (by simp) fun e _ hst => W_start ?_
  unfold ir5
  simp only [tl, tl2, isCallR, entX, argFr, ret, retI, retB, intT, unT, endR, ressR, resR, tupT, bslR, boxR, lenAll, ↓reduceIte, Nat.reduceEqDiff, Nat.reduceAdd, Nat.reduceMul, Nat.reduceLT, Nat.reduceLeDiff, reduceCtorEq, Int.reduceLE, Int.reduceLT, ne_eq, Int.reduceEq, not_false_eq_true, decide_true, decide_false, Int.reduceToNat, tl3, Int.reduceBNe, Int.reduceBEq]
  refine C1.newd 8196 (l.take 400) 0 (c9 l) rfl (by rfl) ?_
  simp only [tl, tl2, isCallR, entX, argFr, ret, retI, retB, intT, unT, endR, ressR, resR, tupT, bslR, boxR, lenAll, ↓reduceIte, Nat.reduceEqDiff, Nat.reduceAdd, Nat.reduceMul, Nat.reduceLT, Nat.reduceLeDiff, reduceCtorEq, Int.reduceLE, Int.reduceLT, ne_eq, Int.reduceEq, not_false_eq_true, decide_true, decide_false, Int.reduceToNat, tl3, Int.reduceBNe, Int.reduceBEq]
  refine C1.draw 8196 (l.take 400) 0 p h8 rfl rfl rfl ?_
  have hk1 : IntKind.i64.wrap B = B := IntWalk.i64_in _ (by omega)
  have hk2 : B.tmod 2 = B % 2 := Int.tmod_eq_emod_of_nonneg (by omega)
  obtain ⟨K, hK⟩ : ∃ K, 1 + B % 2 = K := ⟨_, rfl⟩
  have hK2 : 1 ≤ K ∧ K ≤ 2 := by omega
  have hk3 : IntKind.i64.wrap (1 + B % 2) = K := by rw [hK]; exact IntWalk.i64_in _ (by omega)
  simp only [tl, tl2, isCallR, entX, argFr, ret, retI, retB, intT, unT, endR, ressR, resR, tupT, bslR, boxR, lenAll, ↓reduceIte, Nat.reduceEqDiff, Nat.reduceAdd, Nat.reduceMul, Nat.reduceLT, Nat.reduceLeDiff, reduceCtorEq, Int.reduceLE, Int.reduceLT, ne_eq, Int.reduceEq, not_false_eq_true, decide_true, decide_false, Int.reduceToNat, tl3, Int.reduceBNe, Int.reduceBEq, hk1, hk2, hk3]
  refine ⟨by omega, ?_⟩
  simp only [Int.toNat_natCast]
  refine W_loop mixm (α := Nat) (fun i => i ≤ t.length) (fun i => [(5, vI r), (6, vI c), (7, vIs t), (8, vI b), (9, vI K), (10, .asl 1 t.length), (33, vI t.length), (34, vI i)]) (fun i => [(1, .arr 1 ((uS t K i).map vI) false)]) (fun i => t.length - i) 0 (by omega) ?_ fun i hi => ?_
  · refine .of [(1, some 16392)] [] rfl (by rw [hst]; rfl) ?_ ?_
    · simp only [ltSto, ltO2, ltO1, ltAs, ltA, ltC, ltCs, ltT, ltFr, ltS, wrOk, wrO, TL.get, hasFr, ↓reduceIte, Nat.reduceEqDiff, reduceCtorEq, Option.getD_some, Option.isSome_some, List.length_map, List.length_append, List.length_cons, List.length_nil, List.append_nil, List.mem_singleton, List.mem_cons, List.not_mem_nil, and_true, true_and, and_self, imp_self, forall_const, false_implies, implies_true, true_implies, or_false, Bool.false_eq_true, Bool.true_eq_false, ImXs_nil, true_or, or_true, false_or, false_and, and_false]
      have : List.replicate t.length (T.v (.int .i64 0)) = (uS t K 0).map vI := by
        apply List.ext_getElem
        · simp [uS]
        · intro i h1 h2
          simp [uS]
      rw [this]
      exact ltXs_ints _
    · simp only [ltSto, ltO2, ltO1, ltAs, ltA, ltC, ltCs, ltT, ltFr, ltS, wrOk, wrO, TL.get, hasFr, ↓reduceIte, Nat.reduceEqDiff, reduceCtorEq, Option.getD_some, Option.isSome_some, List.length_map, List.length_append, List.length_cons, List.length_nil, List.append_nil, List.mem_singleton, List.mem_cons, List.not_mem_nil, and_true, true_and, and_self, imp_self, forall_const, false_implies, implies_true, true_implies, or_false, Bool.false_eq_true, Bool.true_eq_false, ImXs_nil, true_or, or_true, false_or, false_and, and_false]
      rfl
  simp only [tl, tl2, isCallR, entX, argFr, ret, retI, retB, intT, unT, endR, ressR, resR, tupT, bslR, boxR, lenAll, ↓reduceIte, Nat.reduceEqDiff, Nat.reduceAdd, Nat.reduceMul, Nat.reduceLT, Nat.reduceLeDiff, reduceCtorEq, Int.reduceLE, Int.reduceLT, ne_eq, Int.reduceEq, not_false_eq_true, decide_true, decide_false, Int.reduceToNat, tl3, Int.reduceBNe, Int.reduceBEq, decide_eq_true_eq, decide_eq_false_iff_not]
  refine ⟨fun h => ?_, fun h => ?_⟩
  · have hi2 : i < t.length := by omega
    have hb2 := h4 _ (List.getElem_mem hi2)
    have hm0 : 0 ≤ K * t[i] ∧ K * t[i] ≤ 100 := by
      rcases (show K = 1 ∨ K = 2 by omega) with e | e <;> rw [e] <;> omega
    have hm : IntKind.i64.wrap (K * t[i]) = K * t[i] := IntWalk.i64_in _ (by omega)
    have hgu : ((uS t K i).map vI).getD i .junk = vI ((uS t K i)[i]'(by rw [uS_len]; exact hi2)) := getD_ints (by rw [uS_len]; exact hi2)
    simp only [tl, tl2, isCallR, entX, argFr, ret, retI, retB, intT, unT, endR, ressR, resR, tupT, bslR, boxR, lenAll, ↓reduceIte, Nat.reduceEqDiff, Nat.reduceAdd, Nat.reduceMul, Nat.reduceLT, Nat.reduceLeDiff, reduceCtorEq, Int.reduceLE, Int.reduceLT, ne_eq, Int.reduceEq, not_false_eq_true, decide_true, decide_false, Int.reduceToNat, tl3, Int.reduceBNe, Int.reduceBEq, Int.toNat_natCast, getD_ints hi2, hm, hgu, uS_len, map_set]
    rw [uS_step hi2]
    refine ⟨by omega, by omega, by omega, i + 1, by omega, by omega, .of [(1, some 1)] [] rfl (by rw [hst]; rfl) ?_ ?_⟩
    · simp only [ltSto, ltO2, ltO1, ltAs, ltA, ltC, ltCs, ltT, ltFr, ltS, wrOk, wrO, TL.get, hasFr, ↓reduceIte, Nat.reduceEqDiff, reduceCtorEq, Option.getD_some, Option.isSome_some, List.length_map, List.length_append, List.length_cons, List.length_nil, List.append_nil, List.mem_singleton, List.mem_cons, List.not_mem_nil, and_true, true_and, and_self, imp_self, forall_const, false_implies, implies_true, true_implies, or_false, Bool.false_eq_true, Bool.true_eq_false, ImXs_nil, true_or, or_true, false_or, false_and, and_false]
      exact ltXs_ints _
    · simp only [ltSto, ltO2, ltO1, ltAs, ltA, ltC, ltCs, ltT, ltFr, ltS, wrOk, wrO, TL.get, hasFr, ↓reduceIte, Nat.reduceEqDiff, reduceCtorEq, Option.getD_some, Option.isSome_some, List.length_map, List.length_append, List.length_cons, List.length_nil, List.append_nil, List.mem_singleton, List.mem_cons, List.not_mem_nil, and_true, true_and, and_self, imp_self, forall_const, false_implies, implies_true, true_implies, or_false, Bool.false_eq_true, Bool.true_eq_false, ImXs_nil, true_or, or_true, false_or, false_and, and_false]
      rw [IntWalk.i64_in _ (by omega)]
      rfl
  · have hi2 : i = t.length := by omega
    subst hi2
    rw [uS_end]
    obtain ⟨u, hu⟩ : ∃ u, t.map (K * ·) = u := ⟨_, rfl⟩
    have hul : u.length = t.length := by rw [← hu]; simp
    have hub : ∀ n ∈ u, 0 ≤ n ∧ n ≤ 100 := by
      intro n hn
      rw [← hu] at hn
      obtain ⟨m, hm, rfl⟩ := List.mem_map.1 hn
      have := h4 m hm
      rcases (show K = 1 ∨ K = 2 by omega) with e | e <;> rw [e] <;> omega
    have hkb : 1 ≤ K * b ∧ K * b ≤ 20 := by rcases (show K = 1 ∨ K = 2 by omega) with e | e <;> rw [e] <;> omega
    have hwkb : IntKind.i64.wrap (K * b) = K * b := IntWalk.i64_in _ (by omega)
    have hf := fst_ok (r := r) (c := c) (t := t) (b := b) (by omega) (by omega) h3
    have hg := fst_range (r := r) (c := c) (t := t) (b := b) (by omega) (by omega) h3 30 (fun n hn => by have := h4 n hn; omega)
    have k1 := c10t (r := r) (c := c) (t := t) (b := b) (by omega) (by omega) (by omega) h3 (by omega) (fun n hn => by have := h4 n hn; omega)
    have k2 := c10t (r := r) (c := c) (t := u) (b := K * b) (by omega) (by omega) (by omega) (by omega) hkb (fun n hn => by have := hub n hn; omega)
    have hsc := fst_scale (K := K) (b := b) (r := r) (c := c) (t := t) (by omega) (by omega) (by omega) h3
    rw [hu] at hsc ⊢
    rw [hsc] at k2
    obtain ⟨x, hx⟩ : ∃ x, fstT r c t b = x := ⟨_, rfl⟩
    rw [hx] at hf hg k1 k2
    have hxl : x.length = t.length := by omega
    refine C1.im k1 rfl (by rfl) ?_
    simp only [tl, tl2, isCallR, entX, argFr, ret, retI, retB, intT, unT, endR, ressR, resR, tupT, bslR, boxR, lenAll, ↓reduceIte, Nat.reduceEqDiff, Nat.reduceAdd, Nat.reduceMul, Nat.reduceLT, Nat.reduceLeDiff, reduceCtorEq, Int.reduceLE, Int.reduceLT, ne_eq, Int.reduceEq, not_false_eq_true, decide_true, decide_false, Int.reduceToNat, tl3, Int.reduceBNe, Int.reduceBEq, hwkb]
    refine C1.shut [1] k2 ?_ (by rfl) rfl ?_
    · simp only [ltSto, ltO2, ltO1, ltAs, ltA, ltC, ltCs, ltT, ltFr, ltS, wrOk, wrO, TL.get, hasFr, ↓reduceIte, Nat.reduceEqDiff, reduceCtorEq, Option.getD_some, Option.isSome_some, List.length_map, List.length_append, List.length_cons, List.length_nil, List.append_nil, List.mem_singleton, List.mem_cons, List.not_mem_nil, and_true, true_and, and_self, imp_self, forall_const, false_implies, implies_true, true_implies, or_false, Bool.false_eq_true, Bool.true_eq_false, ImXs_nil, true_or, or_true, false_or, false_and, and_false]
      exact ⟨hul, ints_v _⟩
    simp only [tl, tl2, isCallR, entX, argFr, ret, retI, retB, intT, unT, endR, ressR, resR, tupT, bslR, boxR, lenAll, ↓reduceIte, Nat.reduceEqDiff, Nat.reduceAdd, Nat.reduceMul, Nat.reduceLT, Nat.reduceLeDiff, reduceCtorEq, Int.reduceLE, Int.reduceLT, ne_eq, Int.reduceEq, not_false_eq_true, decide_true, decide_false, Int.reduceToNat, tl3, Int.reduceBNe, Int.reduceBEq, List.length_map, hxl]
    refine ⟨fun h => by simp at h, fun _ => ?_⟩
    refine W_loop mixm (α := Nat) (fun i => i ≤ x.length) (fun i => [(9, vI K), (12, vIs x), (14, vIs (x.map (K * ·))), (86, vI x.length), (87, vI i)]) (fun _ => []) (fun i => x.length - i) 0 (by omega) ?_ fun i hi => ?_
    · refine .of [] [] rfl (by rw [hst]; rfl) trivial ?_
      simp only [ltSto, ltO2, ltO1, ltAs, ltA, ltC, ltCs, ltT, ltFr, ltS, wrOk, wrO, TL.get, hasFr, ↓reduceIte, Nat.reduceEqDiff, reduceCtorEq, Option.getD_some, Option.isSome_some, List.length_map, List.length_append, List.length_cons, List.length_nil, List.append_nil, List.mem_singleton, List.mem_cons, List.not_mem_nil, and_true, true_and, and_self, imp_self, forall_const, false_implies, implies_true, true_implies, or_false, Bool.false_eq_true, Bool.true_eq_false, ImXs_nil, true_or, or_true, false_or, false_and, and_false, hxl]
      rfl
    simp only [tl, tl2, isCallR, entX, argFr, ret, retI, retB, intT, unT, endR, ressR, resR, tupT, bslR, boxR, lenAll, ↓reduceIte, Nat.reduceEqDiff, Nat.reduceAdd, Nat.reduceMul, Nat.reduceLT, Nat.reduceLeDiff, reduceCtorEq, Int.reduceLE, Int.reduceLT, ne_eq, Int.reduceEq, not_false_eq_true, decide_true, decide_false, Int.reduceToNat, tl3, Int.reduceBNe, Int.reduceBEq, decide_eq_true_eq, decide_eq_false_iff_not]
    refine ⟨fun h => ?_, fun h => ?_⟩
    · have hi2 : i < x.length := by omega
      have hi3 : i < (x.map (K * ·)).length := by simpa using hi2
      have hb2 := hg _ (List.getElem_mem hi2)
      have hm0 : 0 ≤ K * x[i] ∧ K * x[i] ≤ 100 := by
        rcases (show K = 1 ∨ K = 2 by omega) with e | e <;> rw [e] <;> omega
      have hm : IntKind.i64.wrap (K * x[i]) = K * x[i] := IntWalk.i64_in _ (by omega)
      have hme : (x.map (K * ·))[i] = K * x[i] := by simp
      simp only [tl, tl2, isCallR, entX, argFr, ret, retI, retB, intT, unT, endR, ressR, resR, tupT, bslR, boxR, lenAll, ↓reduceIte, Nat.reduceEqDiff, Nat.reduceAdd, Nat.reduceMul, Nat.reduceLT, Nat.reduceLeDiff, reduceCtorEq, Int.reduceLE, Int.reduceLT, ne_eq, Int.reduceEq, not_false_eq_true, decide_true, decide_false, Int.reduceToNat, tl3, Int.reduceBNe, Int.reduceBEq, Int.toNat_natCast, getD_ints hi2, getD_ints hi3, hm, hme]
      refine ⟨by omega, by omega, by kernel_rfl, fun h => by simp at h, fun _ => ⟨i + 1, by omega, by omega, .of [] [] rfl (by rw [hst]; rfl) trivial ?_⟩⟩
      simp only [ltSto, ltO2, ltO1, ltAs, ltA, ltC, ltCs, ltT, ltFr, ltS, wrOk, wrO, TL.get, hasFr, ↓reduceIte, Nat.reduceEqDiff, reduceCtorEq, Option.getD_some, Option.isSome_some, List.length_map, List.length_append, List.length_cons, List.length_nil, List.append_nil, List.mem_singleton, List.mem_cons, List.not_mem_nil, and_true, true_and, and_self, imp_self, forall_const, false_implies, implies_true, true_implies, or_false, Bool.false_eq_true, Bool.true_eq_false, ImXs_nil, true_or, or_true, false_or, false_and, and_false]
      rw [IntWalk.i64_in _ (by omega)]
      rfl
    · refine C1.im c12 rfl (by rfl) ?_
      simp only [tl, tl2, isCallR, entX, argFr, ret, retI, retB, intT, unT, endR, ressR, resR, tupT, bslR, boxR, lenAll, ↓reduceIte, Nat.reduceEqDiff, Nat.reduceAdd, Nat.reduceMul, Nat.reduceLT, Nat.reduceLeDiff, reduceCtorEq, Int.reduceLE, Int.reduceLT, ne_eq, Int.reduceEq, not_false_eq_true, decide_true, decide_false, Int.reduceToNat, tl3, Int.reduceBNe, Int.reduceBEq]
      exact .imR rfl rfl
end Go.Proofs

