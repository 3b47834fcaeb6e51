import Derived.Test.YtnhhmfplebpipaaQ
set_option linter.unusedSimpArgs false
set_option linter.unusedVariables false
namespace Go.Proofs
open Go Go.TL
def ansT (r c : Int) (t : List Int) (b : Int) : T := if checkE r c t b = 0 then .tup [vIs (fstT r.toNat c.toNat t b), vI 0] else .tup [.sl 1 [], vI (checkE r c t b)]
theorem chk_all {r c : Int} {t : List Int} {b : Int} (h : checkE r c t b = 0) : ∃ r' c' : Nat, r = r' ∧ c = c' ∧ (1 ≤ r' ∧ r' ≤ 12) ∧ (1 ≤ c' ∧ c' ≤ 12) ∧ r' * c' ≤ 12 ∧ t.length = r' * c' ∧ (1 ≤ b ∧ b ≤ 20) ∧ ∀ n ∈ t, 0 ≤ n ∧ n ≤ 1000000 := by
  obtain ⟨t0, t1, t2⟩ := check_0 h
  obtain ⟨s1, s2, s3⟩ := sp_ok t0
  obtain ⟨hb, hn⟩ := right_all t2
  obtain ⟨r, rfl, r1, r2⟩ := nat_of s1
  obtain ⟨c, rfl, c1, c2⟩ := nat_of s2
  exact ⟨r, c, rfl, rfl, ⟨r1, r2⟩, ⟨c1, c2⟩, by exact_mod_cast s3, by exact_mod_cast t1, hb, hn⟩
theorem rnd_ans (r c : Int) (t : List Int) (b : Int) : rndT r c t b = ansT r c t b := by
  unfold rndT ansT
  split
  · rename_i h
    obtain ⟨r, c, rfl, rfl, h1, h2, h3, h4, h5, h6⟩ := chk_all h
    simp only [Int.toNat_natCast]
    rw [rnd_fst (by omega) (by omega) (by omega) h4]
  · rfl
theorem ref_ans (r c : Int) (t : List Int) (b : Int) : refT r c t b = ansT r c t b := by
  unfold refT ansT
  split
  · rename_i h
    obtain ⟨r, c, rfl, rfl, h1, h2, h3, h4, h5, h6⟩ := chk_all h
    simp only [Int.toNat_natCast]
    rw [ref_fst (by omega) (by omega) h4]
  · rfl
theorem c10a (r c : Int) (t : List Int) (b : Int) (hl : t.length < 4611686018427387904) : Spc Try.prog 10 [vI r, vI c, vIs t, vI b] [] (ansT r c t b) [] := rnd_ans r c t b ▸ c10 r c t b hl
theorem c14a (r c : Int) (t : List Int) (b : Int) (hl : t.length < 4611686018427387904) : Spc Try.prog 14 [vI r, vI c, vIs t, vI b] [] (ansT r c t b) [] := ref_ans r c t b ▸ c14 r c t b hl
theorem check_of {r c : Nat} {t : List Int} {b : Int} (h1 : 1 ≤ r ∧ r ≤ 12) (h2 : 1 ≤ c ∧ c ≤ 12) (h3 : r * c ≤ 12) (h4 : t.length = r * c) (hb : 1 ≤ b ∧ b ≤ 20) (hn : ∀ n ∈ t, 0 ≤ n ∧ n ≤ 1000000) : checkE r c t b = 0 := by
  have e1 : spB (r : Int) (c : Int) = false := by
    simp only [spB, Bool.or_eq_false_iff, decide_eq_false_iff_not]
    have : ((r * c : Nat) : Int) ≤ 12 := by exact_mod_cast h3
    push_cast at this
    omega
  have e2 : rightB t b = true := by
    simp only [rightB, Bool.and_eq_true, decide_eq_true_eq, Bool.not_eq_true', List.any_eq_false]
    refine ⟨by omega, fun n hn2 => ?_⟩
    have := hn n hn2
    simp [outB]
    omega
  unfold checkE
  rw [if_neg (by rw [e1]; simp), if_neg (by rw [h4]; push_cast; omega), if_pos e2]
theorem ans_of {r c : Nat} {t : List Int} {b : Int} (h1 : 1 ≤ r ∧ r ≤ 12) (h2 : 1 ≤ c ∧ c ≤ 12) (h3 : r * c ≤ 12) (h4 : t.length = r * c) (hb : 1 ≤ b ∧ b ≤ 20) (hn : ∀ n ∈ t, 0 ≤ n ∧ n ≤ 1000000) : ansT r c t b = .tup [vIs (fstT r c t b), vI 0] := by
  unfold ansT
  rw [if_pos (check_of h1 h2 h3 h4 hb hn)]
  rfl
theorem tbl_len {r c : Nat} (h1 : 1 ≤ r ∧ r ≤ 3) (h2 : 1 ≤ c ∧ c ≤ 3) : r * c ≤ 9 := Nat.mul_le_mul h1.2 h2.2
theorem c10t {r c : Nat} {t : List Int} {b : Int} (h1 : 1 ≤ r ∧ r ≤ 12) (h2 : 1 ≤ c ∧ c ≤ 12) (h3 : r * c ≤ 12) (h4 : t.length = r * c) (hb : 1 ≤ b ∧ b ≤ 20) (hn : ∀ n ∈ t, 0 ≤ n ∧ n ≤ 1000000) : Spc Try.prog 10 [vI r, vI c, vIs t, vI b] [] (.tup [vIs (fstT r c t b), vI 0]) [] :=
  ans_of h1 h2 h3 h4 hb hn ▸ c10a r c t b (by omega)
theorem c11t {r c : Nat} {t x : List Int} {b : Int} (h1 : 1 ≤ r ∧ r ≤ 12) (h2 : 1 ≤ c ∧ c ≤ 12) (h3 : r * c ≤ 12) (h4 : t.length = r * c) (hx : x.length = r * c) (hb : 1 ≤ b ∧ b ≤ 20) (hn : ∀ n ∈ t, 0 ≤ n ∧ n ≤ 1000000) : Spc Try.prog 11 [vI r, vI c, vIs t, vIs x, vI b] [] (.tup [vB (solB r c t x b), vI 0]) [] := by
  have e := c11 r c t x b (by omega) (by omega)
  have hc := check_of h1 h2 h3 h4 hb hn
  have e2 : chkT r c t x b = .tup [vB (solB r c t x b), vI 0] := by
    unfold chkT
    rw [if_neg (by rw [(check_0 hc).1]; simp), if_neg (by rw [hx]; push_cast; omega), if_pos hc]
    rfl
  rwa [e2] at e
/-! ltSto, ltO2, ltO1, ltAs, ltA, ltC, ltCs, ltT, ltFr, ltS, wrOk, wrO, TL.get, hasFr, ↓reduceIte, Nat.reduceEqDiff, reduceCtorEq, Option.getD_some, Option.isSome_some, List.length_map, List.length_append, List.length_cons, List.length_nil, List.append_nil, List.mem_singleton, List.mem_cons, List.not_mem_nil, and_true, true_and, and_self, imp_self, forall_const, false_implies, implies_true, true_implies, or_false, Bool.false_eq_true, Bool.true_eq_false, ImXs_nil, true_or, or_true, false_or, false_and, and_false# awake -/
theorem fst_ex : fstT 2 2 [1, 1, 1, 2] 3 = [0, 0, 0, 3] := by decide
theorem sol_ex : solB 2 2 [1, 1, 1, 2] [0, 0, 0, 3] 3 = true := by decide
theorem c12 : Spc Try.prog 12 [] [] (vB true) [] := by
  have h10 := c10t (r := 2) (c := 2) (t := [1, 1, 1, 2]) (b := 3) (by omega) (by omega) (by omega) rfl (by omega) (by decide)
  have h11 := c11t (r := 2) (c := 2) (t := [1, 1, 1, 2]) (x := [0, 0, 0, 3]) (b := 3) (by omega) (by omega) (by omega) rfl rfl (by omega) (by decide)
  rw [fst_ex] at h10
  rw [sol_ex] at h11
  refine spec_of_ir fn12 mixm (by simp) fun e _ hst => W_start ?_
  unfold ir12
  simp only [tl, tl2, isCallR, entX, argFr, ret, retI, retB, intT, unT, endR, ressR, resR, tupT, bslR, boxR, lenAll, ↓reduceIte, Nat.reduceEqDiff, Nat.reduceAdd, Nat.reduceMul, Nat.reduceLT, Nat.reduceLeDiff, reduceCtorEq, Int.reduceLE, Int.reduceLT, ne_eq, Int.reduceEq, not_false_eq_true, decide_true, decide_false, Int.reduceToNat, tl3, Int.reduceBNe, Int.reduceBEq]
  refine C1.shut [8192] h10 ?_ (by rfl) rfl ?_
  · simp only [ltSto, ltO2, ltO1, ltAs, ltA, ltC, ltCs, ltT, ltFr, ltS, wrOk, wrO, TL.get, hasFr, ↓reduceIte, Nat.reduceEqDiff, reduceCtorEq, Option.getD_some, Option.isSome_some, List.length_map, List.length_append, List.length_cons, List.length_nil, List.append_nil, List.mem_singleton, List.mem_cons, List.not_mem_nil, and_true, true_and, and_self, imp_self, forall_const, false_implies, implies_true, true_implies, or_false, Bool.false_eq_true, Bool.true_eq_false, ImXs_nil, true_or, or_true, false_or, false_and, and_false]
    exact ⟨rfl, rfl, rfl, ints_v [1, 1, 1, 2]⟩
  simp only [tl, tl2, isCallR, entX, argFr, ret, retI, retB, intT, unT, endR, ressR, resR, tupT, bslR, boxR, lenAll, ↓reduceIte, Nat.reduceEqDiff, Nat.reduceAdd, Nat.reduceMul, Nat.reduceLT, Nat.reduceLeDiff, reduceCtorEq, Int.reduceLE, Int.reduceLT, ne_eq, Int.reduceEq, not_false_eq_true, decide_true, decide_false, Int.reduceToNat, tl3, Int.reduceBNe, Int.reduceBEq]
  refine C1.shut [12288, 12292] h11 ?_ (by rfl) rfl ?_
  · simp only [ltSto, ltO2, ltO1, ltAs, ltA, ltC, ltCs, ltT, ltFr, ltS, wrOk, wrO, TL.get, hasFr, ↓reduceIte, Nat.reduceEqDiff, reduceCtorEq, Option.getD_some, Option.isSome_some, List.length_map, List.length_append, List.length_cons, List.length_nil, List.append_nil, List.mem_singleton, List.mem_cons, List.not_mem_nil, and_true, true_and, and_self, imp_self, forall_const, false_implies, implies_true, true_implies, or_false, Bool.false_eq_true, Bool.true_eq_false, ImXs_nil, true_or, or_true, false_or, false_and, and_false]
    exact ⟨rfl, rfl, ⟨rfl, ints_v [1, 1, 1, 2]⟩, ⟨rfl, ints_v [0, 0, 0, 3]⟩⟩
  simp only [tl, tl2, isCallR, entX, argFr, ret, retI, retB, intT, unT, endR, ressR, resR, tupT, bslR, boxR, lenAll, ↓reduceIte, Nat.reduceEqDiff, Nat.reduceAdd, Nat.reduceMul, Nat.reduceLT, Nat.reduceLeDiff, reduceCtorEq, Int.reduceLE, Int.reduceLT, ne_eq, Int.reduceEq, not_false_eq_true, decide_true, decide_false, Int.reduceToNat, tl3, Int.reduceBNe, Int.reduceBEq]
  refine ⟨?_, fun h => absurd trivial h⟩
  refine C2.lend [16400] (fun _ => c13 [0, 0, 0, 3] [0, 0, 0, 3] (by decide) (by decide)) (fun _ => ?_) (by rfl) (by rfl) ?_
  · simp only [ltSto, ltO2, ltO1, ltAs, ltA, ltC, ltCs, ltT, ltFr, ltS, wrOk, wrO, TL.get, hasFr, ↓reduceIte, Nat.reduceEqDiff, reduceCtorEq, Option.getD_some, Option.isSome_some, List.length_map, List.length_append, List.length_cons, List.length_nil, List.append_nil, List.mem_singleton, List.mem_cons, List.not_mem_nil, and_true, true_and, and_self, imp_self, forall_const, false_implies, implies_true, true_implies, or_false, Bool.false_eq_true, Bool.true_eq_false, ImXs_nil, true_or, or_true, false_or, false_and, and_false]
    exact ⟨rfl, ints_v [0, 0, 0, 3]⟩
  simp only [tl, tl2, isCallR, entX, argFr, ret, retI, retB, intT, unT, endR, ressR, resR, tupT, bslR, boxR, lenAll, ↓reduceIte, Nat.reduceEqDiff, Nat.reduceAdd, Nat.reduceMul, Nat.reduceLT, Nat.reduceLeDiff, reduceCtorEq, Int.reduceLE, Int.reduceLT, ne_eq, Int.reduceEq, not_false_eq_true, decide_true, decide_false, Int.reduceToNat, tl3, Int.reduceBNe, Int.reduceBEq]
  exact .imR rfl rfl
/-- a new object of draws -/
theorem _root_.Go.TL.C1.newd {P : Program} {e : Env} {kss : List (Nat × List Nat)} {Q : Ex → St → Prop} {K : List KF} {rows : Option (List Nat)} {ks : List Nat} {nid : Nat} {ops : List ROp} {F : XF} {acc : Acc} {st : Sto} {fid : FuncId} {xs : List T} {d : Option Nat} (id : Nat) (l : List UInt8) (a : Nat)
    (hs : Spc P fid xs [] (.ptr 0 1 0 0) [(0, oC l a)]) (hg : TL.get st id = none) (hx : imAL xs = true)
    (h : R P e kss Q rows ks K nid ops (putX F d (.p (.ptr id 1 0 0))) (stUp st [(id, oC l a)]) (acc ++ [([] ++ [(id, oC l a)].map (·.1), [(id, oC l a)].map (·.1))])) : C1 P e kss Q rows ks K (.clo fid []) xs d nid ops F st acc := by
  refine C1.of [] [(id, some 0)] [] [(id, oC l a)] hs ?_ rfl trivial (by simp) rfl ?_ (by simp [renOk, TL.get]) (by rfl) ?_ (.inl (by rfl)) h
  · rw [List.append_nil]; exact ltAs_im hx
  · refine ⟨?_, trivial⟩
    simp only [TL.get, if_true, wrO, ltO1]
    exact ⟨⟨trivial, by simp, ltXs_cons ⟨rfl, rfl, rfl, rfl, trivial⟩ ltXs_nil, by simp⟩, .inl hg⟩
  · simp [ltT, ltA, ltC, TL.get]
theorem c9' (l : List UInt8) : Spc Try.prog 9 [vL l] [] (.ptr 0 1 0 0) [(0, oC (l.take 400) 0)] := c9 l
/-! ltSto, ltO2, ltO1, ltAs, ltA, ltC, ltCs, ltT, ltFr, ltS, wrOk, wrO, TL.get, hasFr, ↓reduceIte, Nat.reduceEqDiff, reduceCtorEq, Option.getD_some, Option.isSome_some, List.length_map, List.length_append, List.length_cons, List.length_nil, List.append_nil, List.mem_singleton, List.mem_cons, List.not_mem_nil, and_true, true_and, and_self, imp_self, forall_const, false_implies, implies_true, true_implies, or_false, Bool.false_eq_true, Bool.true_eq_false, ImXs_nil, true_or, or_true, false_or, false_and, and_false# rounding what is rounded -/
theorem choi_one (n : Int) : choi n 1 = [n] := by unfold choi; rw [if_pos (by omega)]
theorem prod_single : ∀ {V : List (List Int)} {x : List Int}, V = x.map (fun y => [y]) → prod V = [x]
  | [], [], _ => rfl
  | v :: V, y :: x, h => by
    simp only [List.map_cons, List.cons.injEq] at h
    obtain ⟨rfl, h⟩ := h
    have := prod_single h
    simp [prod, this]
  | [], y :: x, h => by cases h
  | v :: V, [], h => by cases h
theorem fst_stays {r c : Nat} {t : List Int} {b : Int} (hc : 0 < c) (hb : 1 ≤ b) (ht : t.length = r * c) (h : ∀ n ∈ t, n % b = 0) : fstT r c t b = t := by
  have h1 := fst_some hc hb ht
  have e : (t.map fun n => choi n b) = t.map (fun y => [y]) := List.map_congr_left fun n hn => by unfold choi; rw [if_pos (h n hn)]
  rw [prod_single e] at h1
  have := List.mem_of_find?_eq_some h1
  simpa using this
theorem fst_mult {r c : Nat} {t : List Int} {b : Int} (hc : 0 < c) (hb : 1 ≤ b) (ht : t.length = r * c) : ∀ n ∈ fstT r c t b, n % b = 0 := by
  obtain ⟨h1, h2⟩ := fst_ok hc hb ht
  unfold solB at h2
  simp only [Bool.and_eq_true] at h2
  intro n hn
  obtain ⟨i, hi, rfl⟩ := List.getElem_of_mem hn
  have := (nearAll_iff (by omega)).1 h2.1 i (by omega)
  simp only [nearB, Bool.and_eq_true, beq_iff_eq] at this
  have e : at0 (fstT r c t b) i = (fstT r c t b)[i] := getD_get hi
  rw [e] at this
  exact Int.emod_eq_zero_of_dvd (Int.dvd_of_tmod_eq_zero this.2)
theorem fst_range {r c : Nat} {t : List Int} {b : Int} (hc : 0 < c) (hb : 1 ≤ b) (ht : t.length = r * c) (m : Int) (h : ∀ n ∈ t, 0 ≤ n ∧ n ≤ m) : ∀ n ∈ fstT r c t b, 0 ≤ n ∧ n ≤ m + b := by
  obtain ⟨h1, h2⟩ := fst_ok hc hb ht
  have h3 := fst_mult hc hb ht
  unfold solB at h2
  simp only [Bool.and_eq_true] at h2
  intro n hn
  have h4 := h3 n hn
  obtain ⟨i, hi, rfl⟩ := List.getElem_of_mem hn
  have := (nearAll_iff (by omega)).1 h2.1 i (by omega)
  simp only [nearB, Bool.and_eq_true, decide_eq_true_eq] at this
  have e : at0 (fstT r c t b) i = (fstT r c t b)[i] := getD_get hi
  have e2 : at0 t i = t[i]'(by omega) := getD_get (by omega)
  rw [e, e2] at this
  have h5 := h _ (List.getElem_mem (show i < t.length by omega))
  obtain ⟨q, hq⟩ := Int.dvd_of_emod_eq_zero h4
  rw [hq] at this ⊢
  refine ⟨?_, by omega⟩
  have : -1 < q := by
    apply Int.lt_of_mul_lt_mul_left (a := b) (by omega) (by omega)
  exact Int.mul_nonneg (by omega) (by omega)
end Go.Proofs

