import Derived.Test.YtoamapbbjffldaaI
set_option linter.unusedSimpArgs false
set_option linter.unusedVariables false
namespace Go.Proofs
open Go Go.TL
theorem fe_zero {l : List Ent} {n i : Nat} (h : feI l n = 0) (hi : i < n) (hl : i < l.length) : feI l i = 0 ∧ errE l i l[i] = 0 := by
  have h1 : feI l (i + 1) = 0 := by
    apply Classical.byContradiction
    intro hn
    have := fe_stays hn n (by omega)
    rw [h] at this
    exact hn this.symm
  have h2 : feI l i = 0 := by
    apply Classical.byContradiction
    intro hn
    have := fe_stays hn (i + 1) (by omega)
    rw [h1] at this
    exact hn this.symm
  exact ⟨h2, by rw [← fe_next hl h2]; exact h1⟩
theorem err_about {l : List Ent} {i : Nat} {x : Ent} (h : errE l i x = 0) : x.num = i + 1 ∧ x.before = lastI (l.take i) ∧ x.link = linkI x ∧ aboutI (l.take i) x = 0 := by
  unfold errE at h
  split at h
  · cases h
  · rename_i h1
    split at h
    · cases h
    · rename_i h2
      simp at h1 h2
      exact ⟨h1, h2.1, h2.2, h⟩
theorem fe_ok {l : List Ent} {n : Nat} (h : feI l n = 0) : ∀ y ∈ l.take n, entOk y := by
  intro y hy
  obtain ⟨j, hj, rfl⟩ := List.getElem_of_mem hy
  rw [List.length_take] at hj
  rw [List.getElem_take]
  exact about_ok (err_about (fe_zero h (by omega) (by omega)).2).2.2.2
theorem chk_fe {l : List Ent} (h : chkI l = 0) : feI l l.length = 0 := by
  unfold chkI at h
  split at h
  · cases h
  · exact h
theorem chk_ok {l : List Ent} (h : chkI l = 0) : ∀ y ∈ l, entOk y := by
  have := fe_ok (chk_fe h)
  rwa [List.take_length] at this
theorem c_register_Check (l : List Ent) (hl : l.length < 4611686018427387904) (hs : small l) : Spc Try.prog F_register_Check [vEs l] [] (vI (chkI l)) [] := by
  refine spec_of_ir fn_register_Check mixm (by simp) fun e _ hst => W_start ?_
  unfold ir_register_Check
  simp only [tl, tl2, isCallR, entX, argFr, ret, retI, retB, intT, unT, endR, ressR, resR, tupT, bslR, boxR, lenAll, ↓reduceIte, Nat.reduceEqDiff, Nat.reduceAdd, Nat.reduceMul, Nat.reduceLT, Nat.reduceLeDiff, reduceCtorEq, Int.reduceLE, Int.reduceLT, ne_eq, Int.reduceEq, not_false_eq_true, decide_true, decide_false, Int.reduceToNat, tl3, Int.reduceBNe, Int.reduceBEq, rmK, rm1, not_true_eq_false, decide_eq_true_eq, decide_eq_false_iff_not]
  refine ⟨fun h1 => ?_, fun h1 => ?_⟩
  · rw [chkI, if_pos (by omega)]
    exact .imR rfl rfl
  rw [chkI, if_neg (by omega)]
  refine W_loopF mixm (α := Nat) [11] (fun i => i ≤ l.length ∧ (feI l i = 0)) (fun i => [(11, vI i)]) (fun i => []) (fun i => l.length - i) 0 ⟨by omega, ?_⟩ ?_ fun i hi => ?_
  · rfl
  · refine .of [] [] rfl (by first | rfl | (rw [hst]; rfl)) ?_ ?_
    all_goals (try simp only [ltSto, ltO2, ltO1, ltAs, ltA, ltC, ltCs, ltT, ltFr, ltS, wrOk, wrO, TL.get, hasFr, ↓reduceIte, Nat.reduceEqDiff, reduceCtorEq, Option.getD_some, Option.isSome_some, List.length_map, List.length_append, List.length_cons, List.length_nil, List.append_nil, List.mem_singleton, List.mem_cons, List.not_mem_nil, and_true, true_and, and_self, imp_self, forall_const, false_implies, implies_true, true_implies, or_false, Bool.false_eq_true, Bool.true_eq_false, ImXs_nil, true_or, or_true, false_or, false_and, and_false, rmK, rm1, List.map_append, List.map_cons, List.map_nil, List.cons_append, List.nil_append])
    all_goals (try (repeat' (first
        | exact ltXs_nil
        | (apply ltXs_map; intro _; exact ⟨rfl, rfl⟩)
        | (apply imXs_map; intro _; exact ⟨rfl, rfl⟩)
        | with_reducible apply imXs_append
        | with_reducible refine imXs_cons ⟨rfl, rfl⟩ ?_
        | exact imXs_nil
        | with_reducible apply ltXs_append
        | with_reducible refine ltXs_cons ⟨rfl, rfl, ?_⟩ ?_
        | with_reducible apply And.intro
        | exact ltCs_im rfl
        | exact ltCs_im (by assumption)
        | (refine ⟨⟨?_, rfl, ?_, rfl, ?_⟩, trivial⟩ <;> first | (simp; done) | (apply imXs_map; intro _; exact ⟨rfl, rfl⟩))
        | trivial
        | rfl
        | (rw [i64_succ (by omega)])
        | omega)))
  simp only [tl, tl2, isCallR, entX, argFr, ret, retI, retB, intT, unT, endR, ressR, resR, tupT, bslR, boxR, lenAll, ↓reduceIte, Nat.reduceEqDiff, Nat.reduceAdd, Nat.reduceMul, Nat.reduceLT, Nat.reduceLeDiff, reduceCtorEq, Int.reduceLE, Int.reduceLT, ne_eq, Int.reduceEq, not_false_eq_true, decide_true, decide_false, Int.reduceToNat, tl3, Int.reduceBNe, Int.reduceBEq, rmK, rm1, not_true_eq_false, decide_eq_true_eq, decide_eq_false_iff_not]
  refine ⟨fun h => ?_, fun h => ?_⟩
  · have hfn := fe_next (l := l) (i := i) (by omega) hi.2
    have hxs := hs (l[i]'(by omega)) (List.getElem_mem _)
    have hab := fits_eq (x := l[i]'(by omega)) (fe_ok hi.2)
    have hstay := fe_stays (l := l) (i := i + 1)
    have hi2 : i < l.length := by omega
    have hwi := i64_succ (i := i) (by omega)
    simp only [tl, tl2, isCallR, entX, argFr, ret, retI, retB, intT, unT, endR, ressR, resR, tupT, bslR, boxR, lenAll, ↓reduceIte, Nat.reduceEqDiff, Nat.reduceAdd, Nat.reduceMul, Nat.reduceLT, Nat.reduceLeDiff, reduceCtorEq, Int.reduceLE, Int.reduceLT, ne_eq, Int.reduceEq, not_false_eq_true, decide_true, decide_false, Int.reduceToNat, tl3, Int.reduceBNe, Int.reduceBEq, rmK, rm1, not_true_eq_false, Int.toNat_natCast, getD_mapT hi2, hwi, entT]
    generalize l[i] = x at *
    have hend : ∀ v : Int, v ≠ 0 → errE l i x = v → feI l l.length = v := fun v hv he => by
      rw [he] at hfn
      rw [hstay (by rw [hfn]; exact hv) l.length (by omega), hfn]
    refine ⟨by omega, fun h3 => ?_, fun h3 => ?_⟩
    · rw [hend 48 (by decide) (by rw [errE, if_pos (by simpa using h3)])]
      exact .imR rfl rfl
    have h3' : ¬ ((x.num != (i : Int) + 1) = true) := by simpa using h3
    simp only [cut_map, cut_to]
    refine ⟨by omega, ?_⟩
    refine C1.im (c_register_last (l.take i) (by rw [List.length_take]; omega)) rfl (by rfl) ?_
    simp only [tl, tl2, isCallR, entX, argFr, ret, retI, retB, intT, unT, endR, ressR, resR, tupT, bslR, boxR, lenAll, ↓reduceIte, Nat.reduceEqDiff, Nat.reduceAdd, Nat.reduceMul, Nat.reduceLT, Nat.reduceLeDiff, reduceCtorEq, Int.reduceLE, Int.reduceLT, ne_eq, Int.reduceEq, not_false_eq_true, decide_true, decide_false, Int.reduceToNat, tl3, Int.reduceBNe, Int.reduceBEq, rmK, rm1, not_true_eq_false]
    refine C2.im (fun _ => c_register_Link x hxs) (fun _ => rfl) (by rfl) ?_
    simp only [tl, tl2, isCallR, entX, argFr, ret, retI, retB, intT, unT, endR, ressR, resR, tupT, bslR, boxR, lenAll, ↓reduceIte, Nat.reduceEqDiff, Nat.reduceAdd, Nat.reduceMul, Nat.reduceLT, Nat.reduceLeDiff, reduceCtorEq, Int.reduceLE, Int.reduceLT, ne_eq, Int.reduceEq, not_false_eq_true, decide_true, decide_false, Int.reduceToNat, tl3, Int.reduceBNe, Int.reduceBEq, rmK, rm1, not_true_eq_false]
    refine ⟨by kernel_rfl, fun h4 => ?_, fun h4 => ?_⟩
    · rw [hend 47 (by decide) (by rw [errE, if_neg h3', if_pos (by simpa using h4)])]
      exact .imR rfl rfl
    simp only [cut_map, cut_to]
    refine ⟨by omega, ?_⟩
    refine C1.im (c_register_fits (l.take i) x (by rw [List.length_take]; omega)) rfl (by rfl) ?_
    have hee : errE l i x = fitsI (l.take i) x := by rw [errE, if_neg h3', if_neg (by simpa using h4), hab]
    simp only [tl, tl2, isCallR, entX, argFr, ret, retI, retB, intT, unT, endR, ressR, resR, tupT, bslR, boxR, lenAll, ↓reduceIte, Nat.reduceEqDiff, Nat.reduceAdd, Nat.reduceMul, Nat.reduceLT, Nat.reduceLeDiff, reduceCtorEq, Int.reduceLE, Int.reduceLT, ne_eq, Int.reduceEq, not_false_eq_true, decide_true, decide_false, Int.reduceToNat, tl3, Int.reduceBNe, Int.reduceBEq, rmK, rm1, not_true_eq_false, bne_iff_ne, bne_eq_false_iff_eq]
    refine ⟨by kernel_rfl, fun h5 => ?_, fun h5 => ?_⟩
    · rw [hend _ h5 hee]
      exact .imR rfl rfl
    · refine ⟨i + 1, ⟨by omega, by rw [hfn, hee, h5]⟩, by omega, ?_⟩
      refine .of [] [] rfl (by first | rfl | (rw [hst]; rfl)) ?_ ?_
      all_goals (try simp only [ltSto, ltO2, ltO1, ltAs, ltA, ltC, ltCs, ltT, ltFr, ltS, wrOk, wrO, TL.get, hasFr, ↓reduceIte, Nat.reduceEqDiff, reduceCtorEq, Option.getD_some, Option.isSome_some, List.length_map, List.length_append, List.length_cons, List.length_nil, List.append_nil, List.mem_singleton, List.mem_cons, List.not_mem_nil, and_true, true_and, and_self, imp_self, forall_const, false_implies, implies_true, true_implies, or_false, Bool.false_eq_true, Bool.true_eq_false, ImXs_nil, true_or, or_true, false_or, false_and, and_false, rmK, rm1, List.map_append, List.map_cons, List.map_nil, List.cons_append, List.nil_append])
      all_goals (try (repeat' (first
          | exact ltXs_nil
          | (apply ltXs_map; intro _; exact ⟨rfl, rfl⟩)
          | (apply imXs_map; intro _; exact ⟨rfl, rfl⟩)
          | with_reducible apply imXs_append
          | with_reducible refine imXs_cons ⟨rfl, rfl⟩ ?_
          | exact imXs_nil
          | with_reducible apply ltXs_append
          | with_reducible refine ltXs_cons ⟨rfl, rfl, ?_⟩ ?_
          | with_reducible apply And.intro
          | exact ltCs_im rfl
          | exact ltCs_im (by assumption)
          | (refine ⟨⟨?_, rfl, ?_, rfl, ?_⟩, trivial⟩ <;> first | (simp; done) | (apply imXs_map; intro _; exact ⟨rfl, rfl⟩))
          | trivial
          | rfl
          | (rw [i64_succ (by omega)])
          | omega)))
  · have h2 : i = l.length := by omega
    rw [← h2, hi.2]
    exact .imR rfl rfl
theorem c_register_InForce (l : List Ent) (hl : l.length < 4611686018427387904) (hs : small l) : Spc Try.prog F_register_InForce [vEs l] [] (vIs (forceA l)) [] := by
  refine spec_of_ir fn_register_InForce mixm (by simp) fun e _ hst => W_start ?_
  unfold ir_register_InForce
  simp only [tl, tl2, isCallR, entX, argFr, ret, retI, retB, intT, unT, endR, ressR, resR, tupT, bslR, boxR, lenAll, ↓reduceIte, Nat.reduceEqDiff, Nat.reduceAdd, Nat.reduceMul, Nat.reduceLT, Nat.reduceLeDiff, reduceCtorEq, Int.reduceLE, Int.reduceLT, ne_eq, Int.reduceEq, not_false_eq_true, decide_true, decide_false, Int.reduceToNat, tl3, Int.reduceBNe, Int.reduceBEq, rmK, rm1, not_true_eq_false]
  refine C1.im (c_register_Check l hl hs) rfl (by rfl) ?_
  simp only [tl, tl2, isCallR, entX, argFr, ret, retI, retB, intT, unT, endR, ressR, resR, tupT, bslR, boxR, lenAll, ↓reduceIte, Nat.reduceEqDiff, Nat.reduceAdd, Nat.reduceMul, Nat.reduceLT, Nat.reduceLeDiff, reduceCtorEq, Int.reduceLE, Int.reduceLT, ne_eq, Int.reduceEq, not_false_eq_true, decide_true, decide_false, Int.reduceToNat, tl3, Int.reduceBNe, Int.reduceBEq, rmK, rm1, not_true_eq_false, bne_iff_ne, bne_eq_false_iff_eq]
  refine ⟨fun h => ?_, fun h => ?_⟩
  · rw [forceA, if_neg h]
    refine .of [] [] rfl (by first | rfl | (rw [hst]; rfl)) ?_ ?_
    all_goals (try simp only [ltSto, ltO2, ltO1, ltAs, ltA, ltC, ltCs, ltT, ltFr, ltS, wrOk, wrO, TL.get, hasFr, ↓reduceIte, Nat.reduceEqDiff, reduceCtorEq, Option.getD_some, Option.isSome_some, List.length_map, List.length_append, List.length_cons, List.length_nil, List.append_nil, List.mem_singleton, List.mem_cons, List.not_mem_nil, and_true, true_and, and_self, imp_self, forall_const, false_implies, implies_true, true_implies, or_false, Bool.false_eq_true, Bool.true_eq_false, ImXs_nil, true_or, or_true, false_or, false_and, and_false, rmK, rm1, List.map_append, List.map_cons, List.map_nil, List.cons_append, List.nil_append])
    all_goals (try (repeat' (first
        | exact ltXs_nil
        | (apply ltXs_map; intro _; exact ⟨rfl, rfl⟩)
        | (apply imXs_map; intro _; exact ⟨rfl, rfl⟩)
        | with_reducible apply imXs_append
        | with_reducible refine imXs_cons ⟨rfl, rfl⟩ ?_
        | exact imXs_nil
        | with_reducible apply ltXs_append
        | with_reducible refine ltXs_cons ⟨rfl, rfl, ?_⟩ ?_
        | with_reducible apply And.intro
        | exact ltCs_im rfl
        | exact ltCs_im (by assumption)
        | (refine ⟨⟨?_, rfl, ?_, rfl, ?_⟩, trivial⟩ <;> first | (simp; done) | (apply imXs_map; intro _; exact ⟨rfl, rfl⟩))
        | trivial
        | rfl
        | (rw [i64_succ (by omega)])
        | omega)))
  · rw [forceA, if_pos h]
    have := chk_len h
    refine C1.im (c_register_standing l (by omega)) rfl (by rfl) ?_
    simp only [tl, tl2, isCallR, entX, argFr, ret, retI, retB, intT, unT, endR, ressR, resR, tupT, bslR, boxR, lenAll, ↓reduceIte, Nat.reduceEqDiff, Nat.reduceAdd, Nat.reduceMul, Nat.reduceLT, Nat.reduceLeDiff, reduceCtorEq, Int.reduceLE, Int.reduceLT, ne_eq, Int.reduceEq, not_false_eq_true, decide_true, decide_false, Int.reduceToNat, tl3, Int.reduceBNe, Int.reduceBEq, rmK, rm1, not_true_eq_false]
    rw [show standI l = forceI l from stand_eq fun y hy => (chk_ok h y hy).1]
    exact .imR rfl rfl
theorem find_eq {l : List Ent} (n : Int) (h : chkI l = 0) : findA l n = match l.find? (fun x => relE x && (x.out == n)) with | some x => x.num | none => 0 := by
  have hok := chk_ok h
  unfold findA
  rw [h]
  have hrel : ∀ x ∈ l, relE x = true ↔ x.kind ≠ 2 := fun x hx => by
    obtain ⟨⟨h1, h2⟩, _⟩ := hok x hx
    unfold relE
    simp
    omega
  by_cases hn : n < 1
  · rw [if_pos (by simp [hn])]
    have : l.find? (fun x => relE x && (x.out == n)) = none := by
      rw [List.find?_eq_none]
      intro x hx hq
      simp only [Bool.and_eq_true, beq_iff_eq] at hq
      have h3 := (hok x hx).2.2 ((hrel x hx).1 hq.1)
      omega
    rw [this]
  · rw [if_neg (by simp; omega)]
    have hcong : ∀ l' : List Ent, (∀ x ∈ l', x ∈ l) → l'.find? (fun x => x.out == n) = l'.find? (fun x => relE x && (x.out == n)) := by
      intro l'
      induction l' with
      | nil => intro _; rfl
      | cons x r ih =>
        intro hx
        simp only [List.find?_cons]
        have hq : (relE x && (x.out == n)) = (x.out == n) := by
          cases he : (x.out == n)
          · simp
          · have he : x.out = n := by simpa using he
            have h4 := hok x (hx x (by simp))
            rw [(hrel x (hx x (by simp))).2 (fun hk => by have := h4.2.1 hk; omega)]
            rfl
        rw [hq, ih fun y hy => hx y (by simp [hy])]
    rw [hcong l fun x hx => hx]
    cases l.find? (fun x => relE x && x.out == n) <;> rfl
theorem c_register_Find (l : List Ent) (n : Int) (hl : l.length < 4611686018427387904) (hs : small l) : Spc Try.prog F_register_Find [vEs l, vI n] [] (vI (findA l n)) [] := by
  refine spec_of_ir fn_register_Find mixm (by simp) fun e _ hst => W_start ?_
  unfold ir_register_Find
  simp only [tl, tl2, isCallR, entX, argFr, ret, retI, retB, intT, unT, endR, ressR, resR, tupT, bslR, boxR, lenAll, ↓reduceIte, Nat.reduceEqDiff, Nat.reduceAdd, Nat.reduceMul, Nat.reduceLT, Nat.reduceLeDiff, reduceCtorEq, Int.reduceLE, Int.reduceLT, ne_eq, Int.reduceEq, not_false_eq_true, decide_true, decide_false, Int.reduceToNat, tl3, Int.reduceBNe, Int.reduceBEq, rmK, rm1, not_true_eq_false]
  refine C1.im (c_register_Check l hl hs) rfl (by rfl) ?_
  simp only [tl, tl2, isCallR, entX, argFr, ret, retI, retB, intT, unT, endR, ressR, resR, tupT, bslR, boxR, lenAll, ↓reduceIte, Nat.reduceEqDiff, Nat.reduceAdd, Nat.reduceMul, Nat.reduceLT, Nat.reduceLeDiff, reduceCtorEq, Int.reduceLE, Int.reduceLT, ne_eq, Int.reduceEq, not_false_eq_true, decide_true, decide_false, Int.reduceToNat, tl3, Int.reduceBNe, Int.reduceBEq, rmK, rm1, not_true_eq_false, bne_iff_ne, bne_eq_false_iff_eq]
  refine ⟨fun h => ?_, fun h => ?_⟩
  · rw [findA, if_pos (by simp [h])]
    exact .imR rfl rfl
  rw [find_eq n h]
  obtain ⟨p, hp⟩ : ∃ p : Ent → Bool, p = fun x => relE x && (x.out == n) := ⟨_, rfl⟩
  rw [← hp]
  refine W_loopF mixm (α := Nat) [12] (fun i => i ≤ l.length ∧ ((l.take i).any p = false)) (fun i => [(12, vI i)]) (fun i => []) (fun i => l.length - i) 0 ⟨by omega, ?_⟩ ?_ fun i hi => ?_
  · simp
  · refine .of [] [] rfl (by first | rfl | (rw [hst]; rfl)) ?_ ?_
    all_goals (try simp only [ltSto, ltO2, ltO1, ltAs, ltA, ltC, ltCs, ltT, ltFr, ltS, wrOk, wrO, TL.get, hasFr, ↓reduceIte, Nat.reduceEqDiff, reduceCtorEq, Option.getD_some, Option.isSome_some, List.length_map, List.length_append, List.length_cons, List.length_nil, List.append_nil, List.mem_singleton, List.mem_cons, List.not_mem_nil, and_true, true_and, and_self, imp_self, forall_const, false_implies, implies_true, true_implies, or_false, Bool.false_eq_true, Bool.true_eq_false, ImXs_nil, true_or, or_true, false_or, false_and, and_false, rmK, rm1, List.map_append, List.map_cons, List.map_nil, List.cons_append, List.nil_append])
    all_goals (try (repeat' (first
        | exact ltXs_nil
        | (apply ltXs_map; intro _; exact ⟨rfl, rfl⟩)
        | (apply imXs_map; intro _; exact ⟨rfl, rfl⟩)
        | with_reducible apply imXs_append
        | with_reducible refine imXs_cons ⟨rfl, rfl⟩ ?_
        | exact imXs_nil
        | with_reducible apply ltXs_append
        | with_reducible refine ltXs_cons ⟨rfl, rfl, ?_⟩ ?_
        | with_reducible apply And.intro
        | exact ltCs_im rfl
        | exact ltCs_im (by assumption)
        | (refine ⟨⟨?_, rfl, ?_, rfl, ?_⟩, trivial⟩ <;> first | (simp; done) | (apply imXs_map; intro _; exact ⟨rfl, rfl⟩))
        | trivial
        | rfl
        | (rw [i64_succ (by omega)])
        | omega)))
  simp only [tl, tl2, isCallR, entX, argFr, ret, retI, retB, intT, unT, endR, ressR, resR, tupT, bslR, boxR, lenAll, ↓reduceIte, Nat.reduceEqDiff, Nat.reduceAdd, Nat.reduceMul, Nat.reduceLT, Nat.reduceLeDiff, reduceCtorEq, Int.reduceLE, Int.reduceLT, ne_eq, Int.reduceEq, not_false_eq_true, decide_true, decide_false, Int.reduceToNat, tl3, Int.reduceBNe, Int.reduceBEq, rmK, rm1, not_true_eq_false, decide_eq_true_eq, decide_eq_false_iff_not]
  refine ⟨fun h => ?_, fun h => ?_⟩
  · have hi3 : i < l.length := by omega
    have hfa := fun h2 => find_atQ (p := p) hi3 hi.2 h2
    have hsn := fun h2 => any_snoc (p := p) hi3 hi.2 h2
    have hi2 : i < l.length := by omega
    have hwi := i64_succ (i := i) (by omega)
    simp only [tl, tl2, isCallR, entX, argFr, ret, retI, retB, intT, unT, endR, ressR, resR, tupT, bslR, boxR, lenAll, ↓reduceIte, Nat.reduceEqDiff, Nat.reduceAdd, Nat.reduceMul, Nat.reduceLT, Nat.reduceLeDiff, reduceCtorEq, Int.reduceLE, Int.reduceLT, ne_eq, Int.reduceEq, not_false_eq_true, decide_true, decide_false, Int.reduceToNat, tl3, Int.reduceBNe, Int.reduceBEq, rmK, rm1, not_true_eq_false, Int.toNat_natCast, getD_mapT hi2, hwi, entT]
    generalize l[i] = x at *
    refine ⟨by omega, ?_⟩
    refine C1.im (c_register_releases x) rfl (by rfl) ?_
    simp only [tl, tl2, isCallR, entX, argFr, ret, retI, retB, intT, unT, endR, ressR, resR, tupT, bslR, boxR, lenAll, ↓reduceIte, Nat.reduceEqDiff, Nat.reduceAdd, Nat.reduceMul, Nat.reduceLT, Nat.reduceLeDiff, reduceCtorEq, Int.reduceLE, Int.reduceLT, ne_eq, Int.reduceEq, not_false_eq_true, decide_true, decide_false, Int.reduceToNat, tl3, Int.reduceBNe, Int.reduceBEq, rmK, rm1, not_true_eq_false]
    have hpx : p x = (relE x && (x.out == n)) := by rw [hp]
    rw [← hpx]
    refine ⟨fun h8 => ?_, fun h8 => ⟨i + 1, ⟨by omega, hsn h8⟩, by omega, ?_⟩⟩
    · rw [hfa h8]
      exact .imR rfl rfl
    · refine .of [] [] rfl (by first | rfl | (rw [hst]; rfl)) ?_ ?_
      all_goals (try simp only [ltSto, ltO2, ltO1, ltAs, ltA, ltC, ltCs, ltT, ltFr, ltS, wrOk, wrO, TL.get, hasFr, ↓reduceIte, Nat.reduceEqDiff, reduceCtorEq, Option.getD_some, Option.isSome_some, List.length_map, List.length_append, List.length_cons, List.length_nil, List.append_nil, List.mem_singleton, List.mem_cons, List.not_mem_nil, and_true, true_and, and_self, imp_self, forall_const, false_implies, implies_true, true_implies, or_false, Bool.false_eq_true, Bool.true_eq_false, ImXs_nil, true_or, or_true, false_or, false_and, and_false, rmK, rm1, List.map_append, List.map_cons, List.map_nil, List.cons_append, List.nil_append])
      all_goals (try (repeat' (first
          | exact ltXs_nil
          | (apply ltXs_map; intro _; exact ⟨rfl, rfl⟩)
          | (apply imXs_map; intro _; exact ⟨rfl, rfl⟩)
          | with_reducible apply imXs_append
          | with_reducible refine imXs_cons ⟨rfl, rfl⟩ ?_
          | exact imXs_nil
          | with_reducible apply ltXs_append
          | with_reducible refine ltXs_cons ⟨rfl, rfl, ?_⟩ ?_
          | with_reducible apply And.intro
          | exact ltCs_im rfl
          | exact ltCs_im (by assumption)
          | (refine ⟨⟨?_, rfl, ?_, rfl, ?_⟩, trivial⟩ <;> first | (simp; done) | (apply imXs_map; intro _; exact ⟨rfl, rfl⟩))
          | trivial
          | rfl
          | (rw [i64_succ (by omega)])
          | omega)))
  · have h7 : i = l.length := by omega
    have h8 := hi.2
    rw [h7, List.take_length] at h8
    rw [find_noneQ h8]
    exact .imR rfl rfl

end Go.Proofs

