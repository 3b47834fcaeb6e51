import Derived.Test.YtnhhmfplebpipaaT
set_option linter.unusedSimpArgs false
set_option linter.unusedVariables false
namespace Go.Proofs
open Go Go.TL
/-! ltSto, ltO2, ltO1, ltAs, ltA, ltC, ltCs, ltT, ltFr, ltS, wrOk, wrO, TL.get, hasFr, ↓reduceIte, Nat.reduceEqDiff, reduceCtorEq, Option.getD_some, Option.isSome_some, List.length_map, List.length_append, List.length_cons, List.length_nil, List.append_nil, List.mem_singleton, List.mem_cons, List.not_mem_nil, and_true, true_and, and_self, imp_self, forall_const, false_implies, implies_true, true_implies, or_false, Bool.false_eq_true, Bool.true_eq_false, ImXs_nil, true_or, or_true, false_or, false_and, and_false# turned tables -/
def trnS (t : List Int) (r c i : Nat) : List Int := (List.range (r * c)).map fun k => if (k % r) * c + k / r < i then at0 t ((k % r) * c + k / r) else 0
theorem trn_len (t : List Int) (r c i : Nat) : (trnS t r c i).length = r * c := by simp [trnS]
theorem trn_idx {r c i : Nat} (hr : 0 < r) (hc : 0 < c) (h : i < r * c) : i % c * r + i / c < r * c ∧ i / c < r ∧ i % c < c := by
  have h1 : i / c < r := by rw [Nat.div_lt_iff_lt_mul hc]; exact h
  have h2 := Nat.mod_lt i hc
  refine ⟨?_, h1, h2⟩
  rw [Nat.mul_comm r c]
  exact idx_lt h2 h1
theorem trn_inv {r c i k : Nat} (hr : 0 < r) (hc : 0 < c) (hi : i < r * c) (hk : k < r * c) : (k % r) * c + k / r = i ↔ k = i % c * r + i / c := by
  have hkr : k / r < c := by rw [Nat.div_lt_iff_lt_mul hr, Nat.mul_comm]; exact hk
  have hkm := Nat.mod_lt k hr
  obtain ⟨_, h1, h2⟩ := trn_idx hr hc hi
  constructor
  · rintro rfl
    obtain ⟨e1, e2⟩ := div_idx (i := k % r) hkr
    rw [e1, e2, Nat.mul_comm]
    exact (Nat.div_add_mod k r).symm
  · rintro rfl
    obtain ⟨e1, e2⟩ := div_idx (i := i % c) h1
    rw [e1, e2, Nat.mul_comm]
    exact Nat.div_add_mod i c
theorem trn_step {t : List Int} {r c i : Nat} {x : Int} (hr : 0 < r) (hc : 0 < c) (hi : i < r * c) (hx : at0 t i = x) : (trnS t r c i).set (i % c * r + i / c) x = trnS t r c (i + 1) := by
  unfold trnS
  rw [set_range]
  refine List.map_congr_left fun k hk => ?_
  have hk : k < r * c := by simpa using hk
  have h := trn_inv hr hc hi hk
  by_cases e : k = i % c * r + i / c
  · rw [if_pos e, h.2 e, if_pos (by omega), hx]
  · rw [if_neg e]
    have h2 : (k % r) * c + k / r ≠ i := fun e2 => e (h.1 e2)
    by_cases e3 : (k % r) * c + k / r < i
    · rw [if_pos e3, if_pos (by omega)]
    · rw [if_neg e3, if_neg (by omega)]
def trn (t : List Int) (r c : Nat) : List Int := trnS t r c (r * c)
theorem trn_at {t : List Int} {r c i j : Nat} (hi : i < r) (hj : j < c) : at0 (trn t r c) (j * r + i) = at0 t (i * c + j) := by
  have hk : j * r + i < r * c := by rw [Nat.mul_comm r c]; exact idx_lt hj hi
  unfold at0
  rw [getD_get (by unfold trn; rw [trn_len]; exact hk)]
  obtain ⟨e1, e2⟩ := div_idx (i := j) hi
  simp only [trn, trnS, List.getElem_map, List.getElem_range, e1, e2]
  rw [if_pos (idx_lt hi hj)]
  rfl
theorem trn_fit {t x : List Int} {r c : Nat} {b : Int} (h : fitR r c t x b = true) : fitR c r (trn t r c) (trn x r c) b = true := by
  obtain ⟨h1, h2, h3⟩ := fitR_iff.1 h
  have hr : ∀ (y : List Int) j, j < c → rS (trn y r c) r j r = cS y c j r := fun y j hj => sumN_same r fun i hi => trn_at hi hj
  have hcS : ∀ (y : List Int) i, i < r → cS (trn y r c) r i c = rS y c i c := fun y i hi => sumN_same c fun j hj => trn_at hi hj
  have ht : ∀ y : List Int, tS (trn y r c) r c = tS y c r := by
    intro y
    have e1 : tS (trn y r c) r c = sumN (fun j => cS y c j r) c := sumN_same c fun j hj => hr y j hj
    rw [e1]
    unfold cS tS rS
    exact sumN_comm r c
  refine fitR_iff.2 ⟨fun j hj => ⟨fun i hi => ?_, ?_⟩, fun i hi => ?_, ?_⟩
  · rw [trn_at hi hj, trn_at hi hj]
    exact (h1 i hi).1 j hj
  · rw [hr _ j hj, hr _ j hj]; exact h2 j hj
  · rw [hcS _ i hi, hcS _ i hi]; exact (h1 i hi).2
  · rw [ht, ht]; exact h3
theorem trn_sol {t x : List Int} {r c : Nat} {b : Int} (hr : 0 < r) (hc : 0 < c) (ht : t.length = r * c) (hx : x.length = r * c) (h : solB r c t x b = true) : solB c r (trn t r c) (trn x r c) b = true := by
  have hcomm : c * r = r * c := Nat.mul_comm c r
  refine (sol_iff hr (by unfold trn; rw [trn_len, hcomm]) (by unfold trn; rw [trn_len, hcomm])).2 (trn_fit ((sol_iff hc ht hx).1 h))
theorem trn_mem {t : List Int} {r c : Nat} (hr : 0 < r) (ht : t.length = r * c) : ∀ n ∈ trn t r c, n ∈ t := by
  intro n hn
  obtain ⟨k, hk, rfl⟩ := List.getElem_of_mem hn
  have hk2 : k < r * c := by unfold trn at hk; rw [trn_len] at hk; exact hk
  have hkr : k / r < c := by rw [Nat.div_lt_iff_lt_mul hr, Nat.mul_comm]; exact hk2
  have h1 := idx_lt (Nat.mod_lt k hr) hkr
  simp only [trn, trnS, List.getElem_map, List.getElem_range]
  rw [if_pos h1]
  unfold at0
  rw [getD_get (by omega)]
  exact List.getElem_mem _
theorem choi_len2 {n b : Int} (hb : 1 ≤ b) : ((choi n b).length : Int) = 1 + minI 1 (n % b) := by
  have h1 := Int.emod_nonneg n (b := b) (by omega)
  unfold choi minI
  split
  · rename_i h; rw [h]; simp
  · split <;> simp <;> omega
theorem any_take {l : List Int} {p : Int → Bool} {j : Nat} (h : j < l.length) : (l.take (j + 1)).any p = ((l.take j).any p || p l[j]) := by
  rw [List.take_succ_eq_append_getElem h, List.any_append]; simp
theorem c7 (l : List UInt8) : Spc Try.prog 7 [vL l] [] (vB true) [] := by
  obtain ⟨r, c, t, b, p, h1, h2, h3, h4, h5, h8⟩ := c8 (l.take 400) (by simp; omega)
  have hrc := tbl_len h1 h2
  refine spec_of_ir fn7 mixm (by simp) fun e _ hst => W_start ?_
  unfold ir7
  simp only [tl, tl2, isCallR, entX, argFr, ret, retI, retB, intT, unT, endR, ressR, resR, tupT, bslR, boxR, lenAll, ↓reduceIte, Nat.reduceEqDiff, Nat.reduceAdd, Nat.reduceMul, Nat.reduceLT, Nat.reduceLeDiff, reduceCtorEq, Int.reduceLE, Int.reduceLT, ne_eq, Int.reduceEq, not_false_eq_true, decide_true, decide_false, Int.reduceToNat, tl3, Int.reduceBNe, Int.reduceBEq]
  refine C1.newd 8196 (l.take 400) 0 (c9 l) rfl (by rfl) ?_
  simp only [tl, tl2, isCallR, entX, argFr, ret, retI, retB, intT, unT, endR, ressR, resR, tupT, bslR, boxR, lenAll, ↓reduceIte, Nat.reduceEqDiff, Nat.reduceAdd, Nat.reduceMul, Nat.reduceLT, Nat.reduceLeDiff, reduceCtorEq, Int.reduceLE, Int.reduceLT, ne_eq, Int.reduceEq, not_false_eq_true, decide_true, decide_false, Int.reduceToNat, tl3, Int.reduceBNe, Int.reduceBEq]
  refine C1.draw 8196 (l.take 400) 0 p h8 rfl rfl rfl ?_
  simp only [tl, tl2, isCallR, entX, argFr, ret, retI, retB, intT, unT, endR, ressR, resR, tupT, bslR, boxR, lenAll, ↓reduceIte, Nat.reduceEqDiff, Nat.reduceAdd, Nat.reduceMul, Nat.reduceLT, Nat.reduceLeDiff, reduceCtorEq, Int.reduceLE, Int.reduceLT, ne_eq, Int.reduceEq, not_false_eq_true, decide_true, decide_false, Int.reduceToNat, tl3, Int.reduceBNe, Int.reduceBEq]
  have hf := fst_ok (r := r) (c := c) (t := t) (b := b) (by omega) (by omega) h3
  have k1 := c10t (r := r) (c := c) (t := t) (b := b) (by omega) (by omega) (by omega) h3 (by omega) (fun n hn => by have := h4 n hn; omega)
  obtain ⟨x, hx⟩ : ∃ x, fstT r c t b = x := ⟨_, rfl⟩
  rw [hx] at hf k1
  obtain ⟨hxl, hsol⟩ := hf
  refine C1.im k1 rfl (by rfl) ?_
  simp only [tl, tl2, isCallR, entX, argFr, ret, retI, retB, intT, unT, endR, ressR, resR, tupT, bslR, boxR, lenAll, ↓reduceIte, Nat.reduceEqDiff, Nat.reduceAdd, Nat.reduceMul, Nat.reduceLT, Nat.reduceLeDiff, reduceCtorEq, Int.reduceLE, Int.reduceLT, ne_eq, Int.reduceEq, not_false_eq_true, decide_true, decide_false, Int.reduceToNat, tl3, Int.reduceBNe, Int.reduceBEq, hxl, h3]
  refine ⟨fun h => by simp at h, fun _ => ?_⟩
  simp only [Int.toNat_natCast]
  refine ⟨by omega, by omega, by kernel_rfl, ?_⟩
  refine W_loop mixm (α := Nat) (fun i => i ≤ r * c) (fun i => [(3, vI r), (4, vI c), (5, vIs t), (6, vI b), (7, vIs x), (9, .asl 1 (r * c)), (10, .asl 2 (r * c)), (53, vI ((r * c : Nat) : Int)), (54, vI i)]) (fun i => [(1, .arr 1 ((trnS t r c i).map vI) false), (2, .arr 1 ((trnS x r c i).map vI) false)]) (fun i => r * c - i) 0 (by omega) ?_ fun i hi => ?_
  · refine .of [(1, some 24584), (2, some 24596)] [] rfl (by rw [hst]; rfl) ?_ ?_
    · simp only [ltSto, ltO2, ltO1, ltAs, ltA, ltC, ltCs, ltT, ltFr, ltS, wrOk, wrO, TL.get, hasFr, ↓reduceIte, Nat.reduceEqDiff, reduceCtorEq, Option.getD_some, Option.isSome_some, List.length_map, List.length_append, List.length_cons, List.length_nil, List.append_nil, List.mem_singleton, List.mem_cons, List.not_mem_nil, and_true, true_and, and_self, imp_self, forall_const, false_implies, implies_true, true_implies, or_false, Bool.false_eq_true, Bool.true_eq_false, ImXs_nil, true_or, or_true, false_or, false_and, and_false]
      have hz : ∀ y : List Int, List.replicate (r * c) (T.v (.int .i64 0)) = (trnS y r c 0).map vI := by
        intro y
        apply List.ext_getElem
        · simp [trnS]
        · intro i h1 h2
          simp [trnS]
      refine ⟨?_, ?_⟩
      · rw [hz t]; exact ltXs_ints _
      · rw [hz x]; exact ltXs_ints _
    · simp only [ltSto, ltO2, ltO1, ltAs, ltA, ltC, ltCs, ltT, ltFr, ltS, wrOk, wrO, TL.get, hasFr, ↓reduceIte, Nat.reduceEqDiff, reduceCtorEq, Option.getD_some, Option.isSome_some, List.length_map, List.length_append, List.length_cons, List.length_nil, List.append_nil, List.mem_singleton, List.mem_cons, List.not_mem_nil, and_true, true_and, and_self, imp_self, forall_const, false_implies, implies_true, true_implies, or_false, Bool.false_eq_true, Bool.true_eq_false, ImXs_nil, true_or, or_true, false_or, false_and, and_false, h3]
      rfl
  simp only [tl, tl2, isCallR, entX, argFr, ret, retI, retB, intT, unT, endR, ressR, resR, tupT, bslR, boxR, lenAll, ↓reduceIte, Nat.reduceEqDiff, Nat.reduceAdd, Nat.reduceMul, Nat.reduceLT, Nat.reduceLeDiff, reduceCtorEq, Int.reduceLE, Int.reduceLT, ne_eq, Int.reduceEq, not_false_eq_true, decide_true, decide_false, Int.reduceToNat, tl3, Int.reduceBNe, Int.reduceBEq, decide_eq_true_eq, decide_eq_false_iff_not]
  refine ⟨fun h => ?_, fun h => ?_⟩
  · have hi2 : i < r * c := by omega
    have hit : i < t.length := by omega
    have hix : i < x.length := by omega
    obtain ⟨hk, hk1, hk2⟩ := trn_idx (r := r) (c := c) (by omega) (by omega) hi2
    have hm1 : (i : Int).tmod c = ((i % c : Nat) : Int) := by rw [Int.tmod_eq_emod_of_nonneg (by omega), ← Int.natCast_emod]
    have hb1 : i % c * r ≤ 9 := Nat.le_trans (Nat.le_add_right _ _) (show i % c * r + i / c ≤ 9 by omega)
    have hw1 : IntKind.i64.wrap (((i % c : Nat) : Int) * r) = ((i % c * r : Nat) : Int) := by
      rw [← Int.natCast_mul]; exact IntWalk.i64_in _ (by omega)
    have hd1 : IntKind.i64.wrap ((i : Int).tdiv c) = ((i / c : Nat) : Int) := by
      rw [Int.tdiv_eq_ediv_of_nonneg (by omega), ← Int.natCast_ediv]
      generalize i / c = q at hk1
      exact IntWalk.i64_in _ (by omega)
    have hw2 : IntKind.i64.wrap (((i % c * r : Nat) : Int) + ((i / c : Nat) : Int)) = ((i % c * r + i / c : Nat) : Int) := by
      generalize i / c = q at *
      generalize i % c * r = z at *
      rw [IntWalk.i64_in _ (by omega)]
      omega
    have g1 : ((trnS t r c i).map vI).getD (i % c * r + i / c) .junk = vI ((trnS t r c i)[i % c * r + i / c]'(by rw [trn_len]; exact hk)) := getD_ints (by rw [trn_len]; exact hk)
    have g2 : ((trnS x r c i).map vI).getD (i % c * r + i / c) .junk = vI ((trnS x r c i)[i % c * r + i / c]'(by rw [trn_len]; exact hk)) := getD_ints (by rw [trn_len]; exact hk)
    simp only [tl, tl2, isCallR, entX, argFr, ret, retI, retB, intT, unT, endR, ressR, resR, tupT, bslR, boxR, lenAll, ↓reduceIte, Nat.reduceEqDiff, Nat.reduceAdd, Nat.reduceMul, Nat.reduceLT, Nat.reduceLeDiff, reduceCtorEq, Int.reduceLE, Int.reduceLT, ne_eq, Int.reduceEq, not_false_eq_true, decide_true, decide_false, Int.reduceToNat, tl3, Int.reduceBNe, Int.reduceBEq, Int.toNat_natCast, hm1, hw1, hd1, hw2, getD_ints hit, getD_ints hix, g1, g2, trn_len, map_set, h3, hxl]
    rw [trn_step (by omega) (by omega) hi2 (getD_get hit), trn_step (by omega) (by omega) hi2 (getD_get hix)]
    have z1 : (0 : Int) ≤ ((i % c * r + i / c : Nat) : Int) := Int.natCast_nonneg _
    have z2 : ((i % c * r + i / c : Nat) : Int) < ((r * c : Nat) : Int) := by exact_mod_cast hk
    refine ⟨by omega, by omega, by kernel_rfl, by omega, by omega, ⟨z1, z2⟩, hk, ⟨z1, z2⟩, hk, by kernel_rfl, i + 1, by omega, by omega, .of [(1, some 1), (2, some 2)] [] rfl (by rw [hst]; rfl) ?_ ?_⟩
    · simp only [ltSto, ltO2, ltO1, ltAs, ltA, ltC, ltCs, ltT, ltFr, ltS, wrOk, wrO, TL.get, hasFr, ↓reduceIte, Nat.reduceEqDiff, reduceCtorEq, Option.getD_some, Option.isSome_some, List.length_map, List.length_append, List.length_cons, List.length_nil, List.append_nil, List.mem_singleton, List.mem_cons, List.not_mem_nil, and_true, true_and, and_self, imp_self, forall_const, false_implies, implies_true, true_implies, or_false, Bool.false_eq_true, Bool.true_eq_false, ImXs_nil, true_or, or_true, false_or, false_and, and_false]
      exact ⟨ltXs_ints _, ltXs_ints _⟩
    · simp only [ltSto, ltO2, ltO1, ltAs, ltA, ltC, ltCs, ltT, ltFr, ltS, wrOk, wrO, TL.get, hasFr, ↓reduceIte, Nat.reduceEqDiff, reduceCtorEq, Option.getD_some, Option.isSome_some, List.length_map, List.length_append, List.length_cons, List.length_nil, List.append_nil, List.mem_singleton, List.mem_cons, List.not_mem_nil, and_true, true_and, and_self, imp_self, forall_const, false_implies, implies_true, true_implies, or_false, Bool.false_eq_true, Bool.true_eq_false, ImXs_nil, true_or, or_true, false_or, false_and, and_false]
      rw [IntWalk.i64_in _ (by omega)]
      rfl
  · have hi2 : i = r * c := by omega
    subst hi2
    have hcomm : c * r = r * c := Nat.mul_comm c r
    have ha : trnS t r c (r * c) = trn t r c := rfl
    have hb' : trnS x r c (r * c) = trn x r c := rfl
    have k2 := c11t (r := c) (c := r) (t := trn t r c) (x := trn x r c) (b := b) (by omega) (by omega) (by omega) (by unfold trn; rw [trn_len, hcomm]) (by unfold trn; rw [trn_len, hcomm]) (by omega) (fun n hn => by have := h4 n (trn_mem (by omega) h3 n hn); omega)
    rw [trn_sol (by omega) (by omega) h3 hxl hsol] at k2
    rw [ha, hb']
    refine C1.shut [1, 2] k2 ?_ (by rfl) rfl ?_
    · simp only [ltSto, ltO2, ltO1, ltAs, ltA, ltC, ltCs, ltT, ltFr, ltS, wrOk, wrO, TL.get, hasFr, ↓reduceIte, Nat.reduceEqDiff, reduceCtorEq, Option.getD_some, Option.isSome_some, List.length_map, List.length_append, List.length_cons, List.length_nil, List.append_nil, List.mem_singleton, List.mem_cons, List.not_mem_nil, and_true, true_and, and_self, imp_self, forall_const, false_implies, implies_true, true_implies, or_false, Bool.false_eq_true, Bool.true_eq_false, ImXs_nil, true_or, or_true, false_or, false_and, and_false]
      exact ⟨⟨trn_len _ _ _ _, ints_v _⟩, ⟨trn_len _ _ _ _, ints_v _⟩⟩
    simp only [tl, tl2, isCallR, entX, argFr, ret, retI, retB, intT, unT, endR, ressR, resR, tupT, bslR, boxR, lenAll, ↓reduceIte, Nat.reduceEqDiff, Nat.reduceAdd, Nat.reduceMul, Nat.reduceLT, Nat.reduceLeDiff, reduceCtorEq, Int.reduceLE, Int.reduceLT, ne_eq, Int.reduceEq, not_false_eq_true, decide_true, decide_false, Int.reduceToNat, tl3, Int.reduceBNe, Int.reduceBEq]
    have h16 := c16 t b (by omega)
    have hrt : rightB t b = true := (check_0 (check_of (r := r) (c := c) (t := t) (b := b) (by omega) (by omega) (by omega) h3 (by omega) (fun n hn => by have := h4 n hn; omega))).2.2
    have hv : valsR t b = .tup [.sl 1 ((t.map fun n => choi n b).map vIs), vI 0] := by
      rw [valsR, if_neg (by omega), if_pos hrt]
    rw [hv] at h16
    obtain ⟨V, hV⟩ : ∃ V, (t.map fun n => choi n b) = V := ⟨_, rfl⟩
    have hVl : V.length = r * c := by rw [← hV]; simp [h3]
    rw [hV] at h16
    refine C1.im h16 rfl (by rfl) ?_
    simp only [tl, tl2, isCallR, entX, argFr, ret, retI, retB, intT, unT, endR, ressR, resR, tupT, bslR, boxR, lenAll, ↓reduceIte, Nat.reduceEqDiff, Nat.reduceAdd, Nat.reduceMul, Nat.reduceLT, Nat.reduceLeDiff, reduceCtorEq, Int.reduceLE, Int.reduceLT, ne_eq, Int.reduceEq, not_false_eq_true, decide_true, decide_false, Int.reduceToNat, tl3, Int.reduceBNe, Int.reduceBEq, List.length_map, hVl, h3]
    refine ⟨fun h => by simp at h, fun _ => ?_⟩
    refine W_loop mixm (α := Nat) (fun i => i ≤ r * c) (fun i => [(5, vIs t), (6, vI b), (7, vIs x), (13, vB true), (14, vI 0), (15, .sl 1 (V.map vIs)), (106, vI ((r * c : Nat) : Int)), (107, vI i)]) (fun _ => []) (fun i => r * c - i) 0 (by omega) ?_ fun i hi => ?_
    · refine .of [] [] rfl (by rw [hst]; rfl) trivial ?_
      simp only [ltSto, ltO2, ltO1, ltAs, ltA, ltC, ltCs, ltT, ltFr, ltS, wrOk, wrO, TL.get, hasFr, ↓reduceIte, Nat.reduceEqDiff, reduceCtorEq, Option.getD_some, Option.isSome_some, List.length_map, List.length_append, List.length_cons, List.length_nil, List.append_nil, List.mem_singleton, List.mem_cons, List.not_mem_nil, and_true, true_and, and_self, imp_self, forall_const, false_implies, implies_true, true_implies, or_false, Bool.false_eq_true, Bool.true_eq_false, ImXs_nil, true_or, or_true, false_or, false_and, and_false, hVl]
      rfl
    simp only [tl, tl2, isCallR, entX, argFr, ret, retI, retB, intT, unT, endR, ressR, resR, tupT, bslR, boxR, lenAll, ↓reduceIte, Nat.reduceEqDiff, Nat.reduceAdd, Nat.reduceMul, Nat.reduceLT, Nat.reduceLeDiff, reduceCtorEq, Int.reduceLE, Int.reduceLT, ne_eq, Int.reduceEq, not_false_eq_true, decide_true, decide_false, Int.reduceToNat, tl3, Int.reduceBNe, Int.reduceBEq, decide_eq_true_eq, decide_eq_false_iff_not]
    refine ⟨fun h => ?_, fun h => ?_⟩
    · have hi2 : i < V.length := by omega
      have hit : i < t.length := by omega
      have hix : i < x.length := by omega
      have hgv : (V.map vIs).getD i .junk = vIs V[i] := by
        rw [getD_get (by simpa using hi2)]; simp
      have hVi : V[i] = choi t[i] b := by subst hV; simp
      have hxc : x[i] ∈ V[i] := by
        have hn := (nearAll_iff (t := t) (x := x) (b := b) (by omega)).1 (by
          unfold solB at hsol
          simp only [Bool.and_eq_true] at hsol
          exact hsol.1) i hit
        rw [show at0 t i = t[i] from getD_get hit, show at0 x i = x[i] from getD_get hix, near_choi (by omega)] at hn
        rw [hVi]; exact hn
      simp only [tl, tl2, isCallR, entX, argFr, ret, retI, retB, intT, unT, endR, ressR, resR, tupT, bslR, boxR, lenAll, ↓reduceIte, Nat.reduceEqDiff, Nat.reduceAdd, Nat.reduceMul, Nat.reduceLT, Nat.reduceLeDiff, reduceCtorEq, Int.reduceLE, Int.reduceLT, ne_eq, Int.reduceEq, not_false_eq_true, decide_true, decide_false, Int.reduceToNat, tl3, Int.reduceBNe, Int.reduceBEq, Int.toNat_natCast, hgv]
      refine ⟨by omega, ?_⟩
      refine W_loop mixm (α := Nat) (fun j => j ≤ V[i].length) (fun j => [(5, vIs t), (6, vI b), (7, vIs x), (13, vB true), (14, vI 0), (15, .sl 1 (V.map vIs)), (17, vI i), (18, vB ((V[i].take j).any (· == x[i]))), (106, vI ((r * c : Nat) : Int)), (107, vI i), (113, vIs V[i]), (114, vI V[i].length), (115, vI j)]) (fun _ => []) (fun j => V[i].length - j) 0 (by omega) ?_ fun j hj => ?_
      · refine .of [] [] rfl (by rw [hst]; rfl) trivial ?_
        simp only [ltSto, ltO2, ltO1, ltAs, ltA, ltC, ltCs, ltT, ltFr, ltS, wrOk, wrO, TL.get, hasFr, ↓reduceIte, Nat.reduceEqDiff, reduceCtorEq, Option.getD_some, Option.isSome_some, List.length_map, List.length_append, List.length_cons, List.length_nil, List.append_nil, List.mem_singleton, List.mem_cons, List.not_mem_nil, and_true, true_and, and_self, imp_self, forall_const, false_implies, implies_true, true_implies, or_false, Bool.false_eq_true, Bool.true_eq_false, ImXs_nil, true_or, or_true, false_or, false_and, and_false]
        exact ⟨rfl, rfl⟩
      have hVi2 : V[i].length ≤ 2 := by rw [hVi]; exact (choi_len _ _).2
      simp only [tl, tl2, isCallR, entX, argFr, ret, retI, retB, intT, unT, endR, ressR, resR, tupT, bslR, boxR, lenAll, ↓reduceIte, Nat.reduceEqDiff, Nat.reduceAdd, Nat.reduceMul, Nat.reduceLT, Nat.reduceLeDiff, reduceCtorEq, Int.reduceLE, Int.reduceLT, ne_eq, Int.reduceEq, not_false_eq_true, decide_true, decide_false, Int.reduceToNat, tl3, Int.reduceBNe, Int.reduceBEq, decide_eq_true_eq, decide_eq_false_iff_not]
      refine ⟨fun h => ?_, fun h => ?_⟩
      · have hj2 : j < V[i].length := by omega
        simp only [tl, tl2, isCallR, entX, argFr, ret, retI, retB, intT, unT, endR, ressR, resR, tupT, bslR, boxR, lenAll, ↓reduceIte, Nat.reduceEqDiff, Nat.reduceAdd, Nat.reduceMul, Nat.reduceLT, Nat.reduceLeDiff, reduceCtorEq, Int.reduceLE, Int.reduceLT, ne_eq, Int.reduceEq, not_false_eq_true, decide_true, decide_false, Int.reduceToNat, tl3, Int.reduceBNe, Int.reduceBEq, Int.toNat_natCast, getD_ints hj2, getD_ints hix]
        refine ⟨by omega, fun _ => by omega, j + 1, by omega, by omega, .of [] [] rfl (by rw [hst]; rfl) trivial ?_⟩
        simp only [ltSto, ltO2, ltO1, ltAs, ltA, ltC, ltCs, ltT, ltFr, ltS, wrOk, wrO, TL.get, hasFr, ↓reduceIte, Nat.reduceEqDiff, reduceCtorEq, Option.getD_some, Option.isSome_some, List.length_map, List.length_append, List.length_cons, List.length_nil, List.append_nil, List.mem_singleton, List.mem_cons, List.not_mem_nil, and_true, true_and, and_self, imp_self, forall_const, false_implies, implies_true, true_implies, or_false, Bool.false_eq_true, Bool.true_eq_false, ImXs_nil, true_or, or_true, false_or, false_and, and_false, any_take hj2]
        rw [IntWalk.i64_in _ (by omega)]
        rfl
      · have hj2 : j = V[i].length := by omega
        subst hj2
        rw [List.take_length]
        have hany : V[i].any (· == x[i]) = true := List.any_eq_true.2 ⟨x[i], hxc, by simp⟩
        have hml : IntKind.i64.wrap (1 + minI 1 (t[i].tmod b)) = (V[i].length : Int) := by
          have ht0 := h4 _ (List.getElem_mem hit)
          have := choi_len2 (n := t[i]) (b := b) (by omega)
          rw [Int.tmod_eq_emod_of_nonneg ht0.1, ← this, ← hVi]
          have := choi_len t[i] b
          rw [← hVi] at this
          exact IntWalk.i64_in _ (by omega)
        simp only [hany]
        simp only [tl, tl2, isCallR, entX, argFr, ret, retI, retB, intT, unT, endR, ressR, resR, tupT, bslR, boxR, lenAll, ↓reduceIte, Nat.reduceEqDiff, Nat.reduceAdd, Nat.reduceMul, Nat.reduceLT, Nat.reduceLeDiff, reduceCtorEq, Int.reduceLE, Int.reduceLT, ne_eq, Int.reduceEq, not_false_eq_true, decide_true, decide_false, Int.reduceToNat, tl3, Int.reduceBNe, Int.reduceBEq, Int.toNat_natCast, hgv, getD_ints hit, hml]
        refine ⟨by omega, by omega, by omega, by kernel_rfl, fun h => by simp at h, fun _ => ⟨i + 1, by omega, by omega, .of [] [] rfl (by rw [hst]; rfl) trivial ?_⟩⟩
        simp only [ltSto, ltO2, ltO1, ltAs, ltA, ltC, ltCs, ltT, ltFr, ltS, wrOk, wrO, TL.get, hasFr, ↓reduceIte, Nat.reduceEqDiff, reduceCtorEq, Option.getD_some, Option.isSome_some, List.length_map, List.length_append, List.length_cons, List.length_nil, List.append_nil, List.mem_singleton, List.mem_cons, List.not_mem_nil, and_true, true_and, and_self, imp_self, forall_const, false_implies, implies_true, true_implies, or_false, Bool.false_eq_true, Bool.true_eq_false, ImXs_nil, true_or, or_true, false_or, false_and, and_false]
        rw [IntWalk.i64_in _ (by omega)]
        rfl
    · refine C2.im (fun _ => c12) (fun _ => rfl) (by rfl) ?_
      simp only [tl, tl2, isCallR, entX, argFr, ret, retI, retB, intT, unT, endR, ressR, resR, tupT, bslR, boxR, lenAll, ↓reduceIte, Nat.reduceEqDiff, Nat.reduceAdd, Nat.reduceMul, Nat.reduceLT, Nat.reduceLeDiff, reduceCtorEq, Int.reduceLE, Int.reduceLT, ne_eq, Int.reduceEq, not_false_eq_true, decide_true, decide_false, Int.reduceToNat, tl3, Int.reduceBNe, Int.reduceBEq]
      exact .imR (by rfl) rfl
end Go.Proofs

