import Derived.Test.YtoamapbbjffldaaK
set_option linter.unusedSimpArgs false
set_option linter.unusedVariables false
namespace Go.Proofs
open Go Go.TL
/-! ltSto, ltO2, ltO1, ltAs, ltA, ltC, ltCs, ltT, ltFr, ltS, wrOk, wrO, TL.get, hasFr, ↓reduceIte, Nat.reduceEqDiff, reduceCtorEq, Option.getD_some, Option.isSome_some, List.length_map, List.length_append, List.length_cons, List.length_nil, List.append_nil, List.mem_singleton, List.mem_cons, List.not_mem_nil, and_true, true_and, and_self, imp_self, forall_const, false_implies, implies_true, true_implies, or_false, Bool.false_eq_true, Bool.true_eq_false, ImXs_nil, true_or, or_true, false_or, false_and, and_false, rmK, rm1# History -/
instance : Inhabited Ent := ⟨⟨0, 0, 0, 0, 0, ByteArray.empty, 0⟩⟩
theorem about_of {l : List Ent} {x : Ent} (h : aboutI l x = 0) : (x.kind = 1 → x.of_ = 0) ∧ (x.kind ≠ 1 → x.of_ ∈ forceI l) ∧ (x.kind ≠ 2 → l.any (fun y => y.out == x.out) = false) := by
  unfold aboutI at h
  split at h
  · cases h
  split at h
  · cases h
  rename_i h3
  split at h
  · cases h
  rename_i h4
  split at h
  · cases h
  rename_i h5
  simp at h4 h5
  refine ⟨h5, fun hk => h4 hk, fun hk => ?_⟩
  rw [if_neg (by simpa using hk)] at h
  split at h
  · cases h
  split at h
  · cases h
  rename_i h6
  simpa using h6
theorem force_mem {l : List Ent} : ∀ {i : Nat}, i ≤ l.length → (∀ j (h : j < l.length), j < i → l[j].num = j + 1) → ∀ m ∈ forceI (l.take i), ∃ j, ∃ h : j < l.length, j < i ∧ m = j + 1 ∧ l[j].kind ≠ 2
  | 0, _, _, m, hm => by simp [forceI] at hm
  | i + 1, hi, hn, m, hm => by
    have hlt : i < l.length := by omega
    rw [force_step hlt] at hm
    have ih := force_mem (i := i) (by omega) (fun j h hj => hn j h (by omega))
    have old : ∀ m ∈ forceI (l.take i), ∃ j, ∃ h : j < l.length, j < i + 1 ∧ m = j + 1 ∧ l[j].kind ≠ 2 := fun m hm => by
      obtain ⟨j, h, h1, h2⟩ := ih m hm
      exact ⟨j, h, by omega, h2⟩
    have hdrop : ∀ o, (∀ m ∈ o, m ∈ forceI (l.take i)) → (∀ m ∈ (if l[i].kind = 2 then o else o ++ [l[i].num]), ∃ j, ∃ h : j < l.length, j < i + 1 ∧ m = j + 1 ∧ l[j].kind ≠ 2) := by
      intro o ho m hm
      split at hm
      · exact old m (ho m hm)
      · rename_i hk
        rcases List.mem_append.1 hm with hm | hm
        · exact old m (ho m hm)
        · simp only [List.mem_cons, List.not_mem_nil, or_false] at hm
          exact ⟨i, hlt, by omega, by rw [hm]; exact hn i hlt (by omega), hk⟩
    unfold stepI at hm
    by_cases hk : l[i].kind = 1
    · simp only [hk, if_true] at hm
      exact hdrop _ (fun m h => h) m (by simpa [hk] using hm)
    · simp only [hk, if_false] at hm
      exact hdrop _ (fun m h => (List.mem_filter.1 h).1) m hm
theorem chk_num {l : List Ent} (h : chkI l = 0) (i : Nat) (hi : i < l.length) : l[i].num = i + 1 := (err_about (fe_zero (chk_fe h) hi hi).2).1
theorem chk_about {l : List Ent} (h : chkI l = 0) (i : Nat) (hi : i < l.length) : aboutI (l.take i) l[i] = 0 := (err_about (fe_zero (chk_fe h) hi hi).2).2.2.2
theorem chk_of {l : List Ent} (h : chkI l = 0) (i : Nat) (hi : i < l.length) (hk : l[i].kind ≠ 1) : ∃ j, ∃ hj : j < l.length, j < i ∧ l[i].of_ = j + 1 ∧ l[j].kind ≠ 2 :=
  force_mem (by omega) (fun j hj _ => chk_num h j hj) _ ((about_of (chk_about h i hi)).2.1 hk)
def histF (l : List Ent) : Nat → Nat → List Int
  | 0, _ => []
  | k + 1, n => (n : Int) :: (if (l.getD (n - 1) default).kind = 3 then histF l k ((l.getD (n - 1) default).of_).toNat else [])
def histN (l : List Ent) (n : Nat) : List Int := histF l n n
theorem hist_fuel {l : List Ent} (h : chkI l = 0) : ∀ (n k : Nat), 1 ≤ n → n ≤ l.length → n ≤ k → histF l k n = histN l n := by
  intro n
  induction n using Nat.strongRecOn with
  | _ n ih =>
    intro k h1 h2 h3
    obtain ⟨m, rfl⟩ : ∃ m, n = m + 1 := ⟨n - 1, by omega⟩
    obtain ⟨k, rfl⟩ : ∃ q, k = q + 1 := ⟨k - 1, by omega⟩
    have hm : m < l.length := by omega
    unfold histN
    simp only [histF, Nat.add_sub_cancel, getD_get hm]
    split
    · rename_i hk
      obtain ⟨j, hj, hji, ho, _⟩ := chk_of h m hm (by omega)
      rw [ho]
      have e : ((j : Int) + 1).toNat = j + 1 := by omega
      rw [e, ih (j + 1) (by omega) k (by omega) (by omega) (by omega), ih (j + 1) (by omega) m (by omega) (by omega) (by omega)]
    · rfl
/-- one step back -/
theorem hist_step {l : List Ent} (h : chkI l = 0) {i : Nat} (hi : i < l.length) : histN l (i + 1) = ((i + 1 : Nat) : Int) :: (if l[i].kind = 3 then histN l l[i].of_.toNat else []) := by
  unfold histN
  rw [show histF l (i + 1) (i + 1) = ((i + 1 : Nat) : Int) :: (if (l.getD (i + 1 - 1) default).kind = 3 then histF l i ((l.getD (i + 1 - 1) default).of_).toNat else []) from rfl]
  simp only [ Nat.add_sub_cancel, getD_get hi]
  split
  · rename_i hk
    obtain ⟨j, hj, hji, ho, _⟩ := chk_of h i hi (by omega)
    rw [ho]
    have e : ((j : Int) + 1).toNat = j + 1 := by omega
    rw [e, hist_fuel h (j + 1) i (by omega) (by omega) (by omega)]
    rfl
  · rfl
def histA (l : List Ent) (n : Int) : List Int × Int :=
  if chkI l ≠ 0 then ([], chkI l) else if n < 1 ∨ n > l.length ∨ (l.getD (n - 1).toNat default).kind = 2 then ([], 48) else (histN l n.toNat, 0)
theorem hist_len {l : List Ent} : ∀ (k n : Nat), (histF l k n).length ≤ k
  | 0, _ => by simp [histF]
  | k + 1, n => by
    simp only [histF, List.length_cons]
    split
    · have := hist_len (l := l) k ((l.getD (n - 1) default).of_).toNat; omega
    · simp
theorem hist_bad {l : List Ent} {n w : Int} (h1 : chkI l = 0) (hlen : l.length ≤ 60) (hw : IntKind.i64.wrap (n - 1) = w) (hm : w.toNat < l.length) (h : (decide (n < 1) || decide (n > (l.length : Int)) || l[w.toNat].kind == 2) = true) : histA l n = ([], 48) := by
  rw [histA, if_neg (fun h => h h1), if_pos]
  simp only [Bool.or_eq_true, decide_eq_true_eq] at h
  rcases h with (h | h) | h
  · exact .inl h
  · exact .inr (.inl h)
  · by_cases h2 : n < 1
    · exact .inl h2
    by_cases h3 : n > l.length
    · exact .inr (.inl h3)
    rw [IntWalk.i64_in _ (by omega)] at hw
    refine .inr (.inr ?_)
    rw [hw, getD_get hm]
    simpa using h
theorem hist_good {l : List Ent} {n w : Int} (h1 : chkI l = 0) (hlen : l.length ≤ 60) (hw : IntKind.i64.wrap (n - 1) = w) (hm : w.toNat < l.length) (h : (decide (n < 1) || decide (n > (l.length : Int)) || l[w.toNat].kind == 2) = false) :
    ∃ m : Nat, ∃ h : m < l.length, n = m + 1 ∧ l[m].kind ≠ 2 ∧ histA l n = (histN l (m + 1), 0) := by
  simp only [Bool.or_eq_false_iff, decide_eq_false_iff_not] at h
  rw [IntWalk.i64_in _ (by omega)] at hw
  have h2 : l[w.toNat].kind ≠ 2 := by simpa using h.2
  refine ⟨w.toNat, hm, by omega, h2, ?_⟩
  rw [histA, if_neg (fun h => h h1), if_neg, show n.toNat = w.toNat + 1 by omega]
  rintro (h | h | h)
  · omega
  · omega
  · rw [hw, getD_get hm] at h
    exact h2 h
theorem c_ref38_History (l : List Ent) (n : Int) (hl : l.length < 1000000000000) (hs : small l) :
    Spc Try.prog F_ref38_History [vEs l, vI n] [] (.tup [vIs (histA l n).1, vI (histA l n).2]) [] := by
  refine spec_of_ir fn_ref38_History mixm (by simp) fun e _ hst => W_start ?_
  unfold ir_ref38_History
  simp only [tl, tl2, isCallR, entX, argFr, ret, retI, retB, intT, unT, endR, ressR, resR, tupT, bslR, boxR, lenAll, ↓reduceIte, Nat.reduceEqDiff, Nat.reduceAdd, Nat.reduceMul, Nat.reduceLT, Nat.reduceLeDiff, reduceCtorEq, Int.reduceLE, Int.reduceLT, ne_eq, Int.reduceEq, not_false_eq_true, decide_true, decide_false, Int.reduceToNat, tl3, Int.reduceBNe, Int.reduceBEq, rmK, rm1, not_true_eq_false]
  refine C1.im (c_ref38_Check l (by omega) hs) rfl (by rfl) ?_
  simp only [tl, tl2, isCallR, entX, argFr, ret, retI, retB, intT, unT, endR, ressR, resR, tupT, bslR, boxR, lenAll, ↓reduceIte, Nat.reduceEqDiff, Nat.reduceAdd, Nat.reduceMul, Nat.reduceLT, Nat.reduceLeDiff, reduceCtorEq, Int.reduceLE, Int.reduceLT, ne_eq, Int.reduceEq, not_false_eq_true, decide_true, decide_false, Int.reduceToNat, tl3, Int.reduceBNe, Int.reduceBEq, rmK, rm1, not_true_eq_false, bne_iff_ne, bne_eq_false_iff_eq, beq_iff_eq, beq_eq_false_iff_ne]
  refine ⟨fun h1 => ?_, fun h1 => ?_⟩
  · rw [histA, if_pos h1]
    refine .of [] [] rfl (by first | rfl | (rw [hst]; rfl)) ?_ ?_
    all_goals (try simp only [ltSto, ltO2, ltO1, ltAs, ltA, ltC, ltCs, ltT, ltFr, ltS, wrOk, wrO, TL.get, hasFr, ↓reduceIte, Nat.reduceEqDiff, reduceCtorEq, Option.getD_some, Option.isSome_some, List.length_map, List.length_append, List.length_cons, List.length_nil, List.append_nil, List.mem_singleton, List.mem_cons, List.not_mem_nil, and_true, true_and, and_self, imp_self, forall_const, false_implies, implies_true, true_implies, or_false, Bool.false_eq_true, Bool.true_eq_false, ImXs_nil, true_or, or_true, false_or, false_and, and_false, rmK, rm1, List.map_append, List.map_cons, List.map_nil, List.cons_append, List.nil_append])
    all_goals (try (repeat' (first
        | exact ltXs_nil
        | (apply ltXs_map; intro _; exact ⟨rfl, rfl⟩)
        | (apply imXs_map; intro _; exact ⟨rfl, rfl⟩)
        | with_reducible apply imXs_append
        | with_reducible refine imXs_cons ⟨rfl, rfl⟩ ?_
        | exact imXs_nil
        | with_reducible apply ltXs_append
        | with_reducible refine ltXs_cons ⟨rfl, rfl, ?_⟩ ?_
        | with_reducible apply And.intro
        | exact ltCs_im rfl
        | exact ltCs_im (by assumption)
        | (refine ⟨⟨?_, rfl, ?_, rfl, ?_⟩, trivial⟩ <;> first | (simp; done) | (apply imXs_map; intro _; exact ⟨rfl, rfl⟩))
        | trivial
        | rfl
        | (rw [i64_succ (by omega)])
        | omega)))
  have hlen := chk_len h1
  have hin : (decide (n < 1) || decide (n > (l.length : Int))) = false → IntKind.i64.wrap (n - 1) = n - 1 ∧ 1 ≤ n ∧ n ≤ l.length := fun h => by
    simp at h
    exact ⟨IntWalk.i64_in _ (by omega), by omega, by omega⟩
  have hout : (decide (n < 1) || decide (n > (l.length : Int))) = true → histA l n = ([], 48) := fun h => by
    simp at h
    rw [histA, if_neg (fun h => h h1), if_pos (by omega)]
  generalize hw : IntKind.i64.wrap (n - 1) = w at *
  have hj : ¬ w.toNat < l.length → (l.map entT).getD w.toNat .junk = .junk := fun h => by
    rw [List.getD_eq_getElem?_getD, List.getElem?_eq_none (by simpa using h)]; rfl
  by_cases hm : w.toNat < l.length
  · have hbad := hist_bad h1 hlen hw hm
    have hgood := hist_good h1 hlen hw hm
    simp only [tl, tl2, isCallR, entX, argFr, ret, retI, retB, intT, unT, endR, ressR, resR, tupT, bslR, boxR, lenAll, ↓reduceIte, Nat.reduceEqDiff, Nat.reduceAdd, Nat.reduceMul, Nat.reduceLT, Nat.reduceLeDiff, reduceCtorEq, Int.reduceLE, Int.reduceLT, ne_eq, Int.reduceEq, not_false_eq_true, decide_true, decide_false, Int.reduceToNat, tl3, Int.reduceBNe, Int.reduceBEq, rmK, rm1, not_true_eq_false, getD_mapT hm, entT]
    refine ⟨fun h => ⟨by have := hin h; omega, by have := hin h; omega⟩, fun h3 => ?_, fun h3 => ?_⟩
    · rw [hbad h3]
      refine .of [] [] rfl (by first | rfl | (rw [hst]; rfl)) ?_ ?_
      all_goals (try simp only [ltSto, ltO2, ltO1, ltAs, ltA, ltC, ltCs, ltT, ltFr, ltS, wrOk, wrO, TL.get, hasFr, ↓reduceIte, Nat.reduceEqDiff, reduceCtorEq, Option.getD_some, Option.isSome_some, List.length_map, List.length_append, List.length_cons, List.length_nil, List.append_nil, List.mem_singleton, List.mem_cons, List.not_mem_nil, and_true, true_and, and_self, imp_self, forall_const, false_implies, implies_true, true_implies, or_false, Bool.false_eq_true, Bool.true_eq_false, ImXs_nil, true_or, or_true, false_or, false_and, and_false, rmK, rm1, List.map_append, List.map_cons, List.map_nil, List.cons_append, List.nil_append])
      all_goals (try (repeat' (first
          | exact ltXs_nil
          | (apply ltXs_map; intro _; exact ⟨rfl, rfl⟩)
          | (apply imXs_map; intro _; exact ⟨rfl, rfl⟩)
          | with_reducible apply imXs_append
          | with_reducible refine imXs_cons ⟨rfl, rfl⟩ ?_
          | exact imXs_nil
          | with_reducible apply ltXs_append
          | with_reducible refine ltXs_cons ⟨rfl, rfl, ?_⟩ ?_
          | with_reducible apply And.intro
          | exact ltCs_im rfl
          | exact ltCs_im (by assumption)
          | (refine ⟨⟨?_, rfl, ?_, rfl, ?_⟩, trivial⟩ <;> first | (simp; done) | (apply imXs_map; intro _; exact ⟨rfl, rfl⟩))
          | trivial
          | rfl
          | (rw [i64_succ (by omega)])
          | omega)))
    · obtain ⟨m, hml, hnm, hk2, hA⟩ := hgood h3
      rw [hA]
      refine W_loopF mixm (α := List Int × Nat) [7, 1] (fun x => ∃ h : x.2 < l.length, l[x.2].kind ≠ 2 ∧ x.1 ++ histN l (x.2 + 1) = histN l (m + 1)) (fun x => [(7, .asl 1 (x.1.length + 1)), (1, vI ((x.2 + 1 : Nat) : Int))]) (fun x => [(1, .arr 1 ((x.1 ++ [((x.2 + 1 : Nat) : Int)]).map vI) false)]) (fun x => x.2) ([], m) ⟨hml, hk2, rfl⟩ ?_ fun x hx => ?_
      · refine .of [(1, some 28676)] [] rfl (by first | rfl | (rw [hst]; rfl)) ?_ ?_
        all_goals (try simp only [ltSto, ltO2, ltO1, ltAs, ltA, ltC, ltCs, ltT, ltFr, ltS, wrOk, wrO, TL.get, hasFr, ↓reduceIte, Nat.reduceEqDiff, reduceCtorEq, Option.getD_some, Option.isSome_some, List.length_map, List.length_append, List.length_cons, List.length_nil, List.append_nil, List.mem_singleton, List.mem_cons, List.not_mem_nil, and_true, true_and, and_self, imp_self, forall_const, false_implies, implies_true, true_implies, or_false, Bool.false_eq_true, Bool.true_eq_false, ImXs_nil, true_or, or_true, false_or, false_and, and_false, rmK, rm1, List.map_append, List.map_cons, List.map_nil, List.cons_append, List.nil_append, hnm])
        all_goals (try (repeat' (first
            | exact ltXs_nil
            | (apply ltXs_map; intro _; exact ⟨rfl, rfl⟩)
            | (apply imXs_map; intro _; exact ⟨rfl, rfl⟩)
            | with_reducible apply imXs_append
            | with_reducible refine imXs_cons ⟨rfl, rfl⟩ ?_
            | exact imXs_nil
            | with_reducible apply ltXs_append
            | with_reducible refine ltXs_cons ⟨rfl, rfl, ?_⟩ ?_
            | with_reducible apply And.intro
            | exact ltCs_im rfl
            | exact ltCs_im (by assumption)
            | (refine ⟨⟨?_, rfl, ?_, rfl, ?_⟩, trivial⟩ <;> first | (simp; done) | (apply imXs_map; intro _; exact ⟨rfl, rfl⟩))
            | trivial
            | rfl
            | (rw [i64_succ (by omega)])
            | omega)))
      obtain ⟨pre, c⟩ := x
      obtain ⟨hc, hck, hcH⟩ := hx
      dsimp only at hc hck hcH
      have hw1 : IntKind.i64.wrap (((c + 1 : Nat) : Int) - 1) = c := by rw [IntWalk.i64_in _ (by omega)]; omega
      have hsp := hist_step h1 hc
      have hlenH := congrArg List.length hcH
      have hl1 := hist_len (l := l) (m + 1) (m + 1)
      rw [List.length_append] at hlenH
      unfold histN at hlenH
      simp only [tl, tl2, isCallR, entX, argFr, ret, retI, retB, intT, unT, endR, ressR, resR, tupT, bslR, boxR, lenAll, ↓reduceIte, Nat.reduceEqDiff, Nat.reduceAdd, Nat.reduceMul, Nat.reduceLT, Nat.reduceLeDiff, reduceCtorEq, Int.reduceLE, Int.reduceLT, ne_eq, Int.reduceEq, not_false_eq_true, decide_true, decide_false, Int.reduceToNat, tl3, Int.reduceBNe, Int.reduceBEq, rmK, rm1, not_true_eq_false, hw1, Int.toNat_natCast, getD_mapT hc, entT, beq_iff_eq, beq_eq_false_iff_ne]
      refine ⟨by omega, fun h5 => ?_, fun h5 => ?_⟩
      · obtain ⟨j, hj, hjc, ho, hjk⟩ := chk_of h1 c hc (by omega)
        rw [if_pos h5] at hsp
        simp only [tl, tl2, isCallR, entX, argFr, ret, retI, retB, intT, unT, endR, ressR, resR, tupT, bslR, boxR, lenAll, ↓reduceIte, Nat.reduceEqDiff, Nat.reduceAdd, Nat.reduceMul, Nat.reduceLT, Nat.reduceLeDiff, reduceCtorEq, Int.reduceLE, Int.reduceLT, ne_eq, Int.reduceEq, not_false_eq_true, decide_true, decide_false, Int.reduceToNat, tl3, Int.reduceBNe, Int.reduceBEq, rmK, rm1, not_true_eq_false, hw1, Int.toNat_natCast, getD_mapT hc, entT, ho]
        refine ⟨by omega, by omega, (pre ++ [((c + 1 : Nat) : Int)], j), ⟨hj, hjk, ?_⟩, by simp only; omega, ?_⟩
        · simp only
          rw [← hcH, hsp, ho, show ((j : Int) + 1).toNat = j + 1 by omega, List.append_assoc]
          rfl
        · refine .of [(1, some 1)] [] rfl (by first | rfl | (rw [hst]; rfl)) ?_ ?_
          all_goals (try simp only [ltSto, ltO2, ltO1, ltAs, ltA, ltC, ltCs, ltT, ltFr, ltS, wrOk, wrO, TL.get, hasFr, ↓reduceIte, Nat.reduceEqDiff, reduceCtorEq, Option.getD_some, Option.isSome_some, List.length_map, List.length_append, List.length_cons, List.length_nil, List.append_nil, List.mem_singleton, List.mem_cons, List.not_mem_nil, and_true, true_and, and_self, imp_self, forall_const, false_implies, implies_true, true_implies, or_false, Bool.false_eq_true, Bool.true_eq_false, ImXs_nil, true_or, or_true, false_or, false_and, and_false, rmK, rm1, List.map_append, List.map_cons, List.map_nil, List.cons_append, List.nil_append, List.length_append, List.length_cons, List.length_nil])
          all_goals (try (repeat' (first
              | exact ltXs_nil
              | (apply ltXs_map; intro _; exact ⟨rfl, rfl⟩)
              | (apply imXs_map; intro _; exact ⟨rfl, rfl⟩)
              | with_reducible apply imXs_append
              | with_reducible refine imXs_cons ⟨rfl, rfl⟩ ?_
              | exact imXs_nil
              | with_reducible apply ltXs_append
              | with_reducible refine ltXs_cons ⟨rfl, rfl, ?_⟩ ?_
              | with_reducible apply And.intro
              | exact ltCs_im rfl
              | exact ltCs_im (by assumption)
              | (refine ⟨⟨?_, rfl, ?_, rfl, ?_⟩, trivial⟩ <;> first | (simp; done) | (apply imXs_map; intro _; exact ⟨rfl, rfl⟩))
              | trivial
              | rfl
              | (rw [i64_succ (by omega)])
              | omega)))
      · rw [if_neg h5] at hsp
        rw [← hcH, hsp]
        refine .of [] [1] rfl (by first | rfl | (rw [hst]; rfl)) ?_ ?_
        all_goals (try simp only [ltSto, ltO2, ltO1, ltAs, ltA, ltC, ltCs, ltT, ltFr, ltS, wrOk, wrO, TL.get, hasFr, ↓reduceIte, Nat.reduceEqDiff, reduceCtorEq, Option.getD_some, Option.isSome_some, List.length_map, List.length_append, List.length_cons, List.length_nil, List.append_nil, List.mem_singleton, List.mem_cons, List.not_mem_nil, and_true, true_and, and_self, imp_self, forall_const, false_implies, implies_true, true_implies, or_false, Bool.false_eq_true, Bool.true_eq_false, ImXs_nil, true_or, or_true, false_or, false_and, and_false, rmK, rm1, List.map_append, List.map_cons, List.map_nil, List.cons_append, List.nil_append])
        all_goals (try (repeat' (first
            | exact ltXs_nil
            | (apply ltXs_map; intro _; exact ⟨rfl, rfl⟩)
            | (apply imXs_map; intro _; exact ⟨rfl, rfl⟩)
            | with_reducible apply imXs_append
            | with_reducible refine imXs_cons ⟨rfl, rfl⟩ ?_
            | exact imXs_nil
            | with_reducible apply ltXs_append
            | with_reducible refine ltXs_cons ⟨rfl, rfl, ?_⟩ ?_
            | with_reducible apply And.intro
            | exact ltCs_im rfl
            | exact ltCs_im (by assumption)
            | (refine ⟨⟨?_, rfl, ?_, rfl, ?_⟩, trivial⟩ <;> first | (simp; done) | (apply imXs_map; intro _; exact ⟨rfl, rfl⟩))
            | trivial
            | rfl
            | (rw [i64_succ (by omega)])
            | omega)))
  · have hc : (decide (n < 1) || decide (n > (l.length : Int))) = true := by
      cases hc : (decide (n < 1) || decide (n > (l.length : Int)))
      · obtain ⟨e1, e2, e3⟩ := hin hc
        omega
      · rfl
    simp only [hj hm]
    simp only [tl, tl2, isCallR, entX, argFr, ret, retI, retB, intT, unT, endR, ressR, resR, tupT, bslR, boxR, lenAll, ↓reduceIte, Nat.reduceEqDiff, Nat.reduceAdd, Nat.reduceMul, Nat.reduceLT, Nat.reduceLeDiff, reduceCtorEq, Int.reduceLE, Int.reduceLT, ne_eq, Int.reduceEq, not_false_eq_true, decide_true, decide_false, Int.reduceToNat, tl3, Int.reduceBNe, Int.reduceBEq, rmK, rm1, not_true_eq_false, hc]
    rw [hout hc]
    refine .of [] [] rfl (by first | rfl | (rw [hst]; rfl)) ?_ ?_
    all_goals (try simp only [ltSto, ltO2, ltO1, ltAs, ltA, ltC, ltCs, ltT, ltFr, ltS, wrOk, wrO, TL.get, hasFr, ↓reduceIte, Nat.reduceEqDiff, reduceCtorEq, Option.getD_some, Option.isSome_some, List.length_map, List.length_append, List.length_cons, List.length_nil, List.append_nil, List.mem_singleton, List.mem_cons, List.not_mem_nil, and_true, true_and, and_self, imp_self, forall_const, false_implies, implies_true, true_implies, or_false, Bool.false_eq_true, Bool.true_eq_false, ImXs_nil, true_or, or_true, false_or, false_and, and_false, rmK, rm1, List.map_append, List.map_cons, List.map_nil, List.cons_append, List.nil_append])
    all_goals (try (repeat' (first
        | exact ltXs_nil
        | (apply ltXs_map; intro _; exact ⟨rfl, rfl⟩)
        | (apply imXs_map; intro _; exact ⟨rfl, rfl⟩)
        | with_reducible apply imXs_append
        | with_reducible refine imXs_cons ⟨rfl, rfl⟩ ?_
        | exact imXs_nil
        | with_reducible apply ltXs_append
        | with_reducible refine ltXs_cons ⟨rfl, rfl, ?_⟩ ?_
        | with_reducible apply And.intro
        | exact ltCs_im rfl
        | exact ltCs_im (by assumption)
        | (refine ⟨⟨?_, rfl, ?_, rfl, ?_⟩, trivial⟩ <;> first | (simp; done) | (apply imXs_map; intro _; exact ⟨rfl, rfl⟩))
        | trivial
        | rfl
        | (rw [i64_succ (by omega)])
        | omega)))
theorem c_register_History (l : List Ent) (n : Int) (hl : l.length < 1000000000000) (hs : small l) :
    Spc Try.prog F_register_History [vEs l, vI n] [] (.tup [vIs (histA l n).1, vI (histA l n).2]) [] := by
  refine spec_of_ir fn_register_History mixm (by simp) fun e _ hst => W_start ?_
  unfold ir_register_History
  simp only [tl, tl2, isCallR, entX, argFr, ret, retI, retB, intT, unT, endR, ressR, resR, tupT, bslR, boxR, lenAll, ↓reduceIte, Nat.reduceEqDiff, Nat.reduceAdd, Nat.reduceMul, Nat.reduceLT, Nat.reduceLeDiff, reduceCtorEq, Int.reduceLE, Int.reduceLT, ne_eq, Int.reduceEq, not_false_eq_true, decide_true, decide_false, Int.reduceToNat, tl3, Int.reduceBNe, Int.reduceBEq, rmK, rm1, not_true_eq_false]
  refine C1.im (c_register_Check l (by omega) hs) rfl (by rfl) ?_
  simp only [tl, tl2, isCallR, entX, argFr, ret, retI, retB, intT, unT, endR, ressR, resR, tupT, bslR, boxR, lenAll, ↓reduceIte, Nat.reduceEqDiff, Nat.reduceAdd, Nat.reduceMul, Nat.reduceLT, Nat.reduceLeDiff, reduceCtorEq, Int.reduceLE, Int.reduceLT, ne_eq, Int.reduceEq, not_false_eq_true, decide_true, decide_false, Int.reduceToNat, tl3, Int.reduceBNe, Int.reduceBEq, rmK, rm1, not_true_eq_false, bne_iff_ne, bne_eq_false_iff_eq, beq_iff_eq, beq_eq_false_iff_ne]
  refine ⟨fun h1 => ?_, fun h1 => ?_⟩
  · rw [histA, if_pos h1]
    refine .of [] [] rfl (by first | rfl | (rw [hst]; rfl)) ?_ ?_
    all_goals (try simp only [ltSto, ltO2, ltO1, ltAs, ltA, ltC, ltCs, ltT, ltFr, ltS, wrOk, wrO, TL.get, hasFr, ↓reduceIte, Nat.reduceEqDiff, reduceCtorEq, Option.getD_some, Option.isSome_some, List.length_map, List.length_append, List.length_cons, List.length_nil, List.append_nil, List.mem_singleton, List.mem_cons, List.not_mem_nil, and_true, true_and, and_self, imp_self, forall_const, false_implies, implies_true, true_implies, or_false, Bool.false_eq_true, Bool.true_eq_false, ImXs_nil, true_or, or_true, false_or, false_and, and_false, rmK, rm1, List.map_append, List.map_cons, List.map_nil, List.cons_append, List.nil_append])
    all_goals (try (repeat' (first
        | exact ltXs_nil
        | (apply ltXs_map; intro _; exact ⟨rfl, rfl⟩)
        | (apply imXs_map; intro _; exact ⟨rfl, rfl⟩)
        | with_reducible apply imXs_append
        | with_reducible refine imXs_cons ⟨rfl, rfl⟩ ?_
        | exact imXs_nil
        | with_reducible apply ltXs_append
        | with_reducible refine ltXs_cons ⟨rfl, rfl, ?_⟩ ?_
        | with_reducible apply And.intro
        | exact ltCs_im rfl
        | exact ltCs_im (by assumption)
        | (refine ⟨⟨?_, rfl, ?_, rfl, ?_⟩, trivial⟩ <;> first | (simp; done) | (apply imXs_map; intro _; exact ⟨rfl, rfl⟩))
        | trivial
        | rfl
        | (rw [i64_succ (by omega)])
        | omega)))
  have hlen := chk_len h1
  have hin : (decide (n < 1) || decide (n > (l.length : Int))) = false → IntKind.i64.wrap (n - 1) = n - 1 ∧ 1 ≤ n ∧ n ≤ l.length := fun h => by
    simp at h
    exact ⟨IntWalk.i64_in _ (by omega), by omega, by omega⟩
  have hout : (decide (n < 1) || decide (n > (l.length : Int))) = true → histA l n = ([], 48) := fun h => by
    simp at h
    rw [histA, if_neg (fun h => h h1), if_pos (by omega)]
  generalize hw : IntKind.i64.wrap (n - 1) = w at *
  have hj : ¬ w.toNat < l.length → (l.map entT).getD w.toNat .junk = .junk := fun h => by
    rw [List.getD_eq_getElem?_getD, List.getElem?_eq_none (by simpa using h)]; rfl
  by_cases hm : w.toNat < l.length
  · have hbad := hist_bad h1 hlen hw hm
    have hgood := hist_good h1 hlen hw hm
    have hrel : (!relE l[w.toNat]) = (l[w.toNat].kind == 2) := by
      obtain ⟨⟨k1, k2⟩, _⟩ := chk_ok h1 l[w.toNat] (List.getElem_mem _)
      unfold relE
      have : l[w.toNat].kind = 1 ∨ l[w.toNat].kind = 2 ∨ l[w.toNat].kind = 3 := by omega
      rcases this with e | e | e <;> rw [e] <;> rfl
    simp only [tl, tl2, isCallR, entX, argFr, ret, retI, retB, intT, unT, endR, ressR, resR, tupT, bslR, boxR, lenAll, ↓reduceIte, Nat.reduceEqDiff, Nat.reduceAdd, Nat.reduceMul, Nat.reduceLT, Nat.reduceLeDiff, reduceCtorEq, Int.reduceLE, Int.reduceLT, ne_eq, Int.reduceEq, not_false_eq_true, decide_true, decide_false, Int.reduceToNat, tl3, Int.reduceBNe, Int.reduceBEq, rmK, rm1, not_true_eq_false, getD_mapT hm, ent_all, ent_len]
    refine ⟨fun h => ⟨by have := hin h; omega, by have := hin h; omega⟩, ?_⟩
    have hrl := c_register_releases l[w.toNat]
    refine C2.im (fun _ => hrl) (fun _ => rfl) (by rfl) ?_
    simp only [tl, tl2, isCallR, entX, argFr, ret, retI, retB, intT, unT, endR, ressR, resR, tupT, bslR, boxR, lenAll, ↓reduceIte, Nat.reduceEqDiff, Nat.reduceAdd, Nat.reduceMul, Nat.reduceLT, Nat.reduceLeDiff, reduceCtorEq, Int.reduceLE, Int.reduceLT, ne_eq, Int.reduceEq, not_false_eq_true, decide_true, decide_false, Int.reduceToNat, tl3, Int.reduceBNe, Int.reduceBEq, rmK, rm1, not_true_eq_false, hrel]
    refine ⟨fun h3 => ?_, fun h3 => ?_⟩
    · rw [hbad h3]
      refine .of [] [] rfl (by first | rfl | (rw [hst]; rfl)) ?_ ?_
      all_goals (try simp only [ltSto, ltO2, ltO1, ltAs, ltA, ltC, ltCs, ltT, ltFr, ltS, wrOk, wrO, TL.get, hasFr, ↓reduceIte, Nat.reduceEqDiff, reduceCtorEq, Option.getD_some, Option.isSome_some, List.length_map, List.length_append, List.length_cons, List.length_nil, List.append_nil, List.mem_singleton, List.mem_cons, List.not_mem_nil, and_true, true_and, and_self, imp_self, forall_const, false_implies, implies_true, true_implies, or_false, Bool.false_eq_true, Bool.true_eq_false, ImXs_nil, true_or, or_true, false_or, false_and, and_false, rmK, rm1, List.map_append, List.map_cons, List.map_nil, List.cons_append, List.nil_append])
      all_goals (try (repeat' (first
          | exact ltXs_nil
          | (apply ltXs_map; intro _; exact ⟨rfl, rfl⟩)
          | (apply imXs_map; intro _; exact ⟨rfl, rfl⟩)
          | with_reducible apply imXs_append
          | with_reducible refine imXs_cons ⟨rfl, rfl⟩ ?_
          | exact imXs_nil
          | with_reducible apply ltXs_append
          | with_reducible refine ltXs_cons ⟨rfl, rfl, ?_⟩ ?_
          | with_reducible apply And.intro
          | exact ltCs_im rfl
          | exact ltCs_im (by assumption)
          | (refine ⟨⟨?_, rfl, ?_, rfl, ?_⟩, trivial⟩ <;> first | (simp; done) | (apply imXs_map; intro _; exact ⟨rfl, rfl⟩))
          | trivial
          | rfl
          | (rw [i64_succ (by omega)])
          | omega)))
    · obtain ⟨m, hml, hnm, hk2, hA⟩ := hgood h3
      rw [hA]
      refine W_loopF mixm (α := List Int × Nat) [7, 8] (fun x => x.2 ≤ l.length ∧ (∀ h : x.2 - 1 < l.length, 0 < x.2 → l[x.2 - 1].kind ≠ 2) ∧ x.1 ++ (if x.2 = 0 then [] else histN l x.2) = histN l (m + 1)) (fun x => [(7, .asl 1 x.1.length), (8, vI x.2)]) (fun x => [(1, .arr 1 (x.1.map vI) false)]) (fun x => x.2) ([], m + 1) ⟨by simp only; omega, fun _ _ => by simpa using hk2, by simp⟩ ?_ fun x hx => ?_
      · refine .of [(1, none)] [] rfl (by first | rfl | (rw [hst]; rfl)) ?_ ?_
        all_goals (try simp only [ltSto, ltO2, ltO1, ltAs, ltA, ltC, ltCs, ltT, ltFr, ltS, wrOk, wrO, TL.get, hasFr, ↓reduceIte, Nat.reduceEqDiff, reduceCtorEq, Option.getD_some, Option.isSome_some, List.length_map, List.length_append, List.length_cons, List.length_nil, List.append_nil, List.mem_singleton, List.mem_cons, List.not_mem_nil, and_true, true_and, and_self, imp_self, forall_const, false_implies, implies_true, true_implies, or_false, Bool.false_eq_true, Bool.true_eq_false, ImXs_nil, true_or, or_true, false_or, false_and, and_false, rmK, rm1, List.map_append, List.map_cons, List.map_nil, List.cons_append, List.nil_append, hnm])
        all_goals (try (repeat' (first
            | exact ltXs_nil
            | (apply ltXs_map; intro _; exact ⟨rfl, rfl⟩)
            | (apply imXs_map; intro _; exact ⟨rfl, rfl⟩)
            | with_reducible apply imXs_append
            | with_reducible refine imXs_cons ⟨rfl, rfl⟩ ?_
            | exact imXs_nil
            | with_reducible apply ltXs_append
            | with_reducible refine ltXs_cons ⟨rfl, rfl, ?_⟩ ?_
            | with_reducible apply And.intro
            | exact ltCs_im rfl
            | exact ltCs_im (by assumption)
            | (refine ⟨⟨?_, rfl, ?_, rfl, ?_⟩, trivial⟩ <;> first | (simp; done) | (apply imXs_map; intro _; exact ⟨rfl, rfl⟩))
            | trivial
            | rfl
            | (rw [i64_succ (by omega)])
            | omega)))
      obtain ⟨pre, q⟩ := x
      obtain ⟨hq, hqk, hqH⟩ := hx
      dsimp only at hq hqk hqH
      have hlenH := congrArg List.length hqH
      have hl1 := hist_len (l := l) (m + 1) (m + 1)
      rw [List.length_append] at hlenH
      unfold histN at hlenH
      simp only [tl, tl2, isCallR, entX, argFr, ret, retI, retB, intT, unT, endR, ressR, resR, tupT, bslR, boxR, lenAll, ↓reduceIte, Nat.reduceEqDiff, Nat.reduceAdd, Nat.reduceMul, Nat.reduceLT, Nat.reduceLeDiff, reduceCtorEq, Int.reduceLE, Int.reduceLT, ne_eq, Int.reduceEq, not_false_eq_true, decide_true, decide_false, Int.reduceToNat, tl3, Int.reduceBNe, Int.reduceBEq, rmK, rm1, not_true_eq_false, decide_eq_true_eq, decide_eq_false_iff_not]
      refine ⟨fun h5 => ?_, fun h5 => ?_⟩
      · obtain ⟨c, rfl⟩ : ∃ c, q = c + 1 := ⟨q - 1, by omega⟩
        have hc : c < l.length := by omega
        have hw1 : IntKind.i64.wrap (((c + 1 : Nat) : Int) - 1) = c := by rw [IntWalk.i64_in _ (by omega)]; omega
        have hsp := hist_step h1 hc
        simp only [tl, tl2, isCallR, entX, argFr, ret, retI, retB, intT, unT, endR, ressR, resR, tupT, bslR, boxR, lenAll, ↓reduceIte, Nat.reduceEqDiff, Nat.reduceAdd, Nat.reduceMul, Nat.reduceLT, Nat.reduceLeDiff, reduceCtorEq, Int.reduceLE, Int.reduceLT, ne_eq, Int.reduceEq, not_false_eq_true, decide_true, decide_false, Int.reduceToNat, tl3, Int.reduceBNe, Int.reduceBEq, rmK, rm1, not_true_eq_false, hw1, Int.toNat_natCast, getD_mapT hc, entT]
        rw [if_neg (by omega), hsp] at hqH
        refine ⟨by omega, by omega, ?_⟩
        by_cases hk : l[c].kind = 3
        · obtain ⟨j, hj, hjc, ho, hjk⟩ := chk_of h1 c hc (by omega)
          rw [if_pos hk, ho, show ((j : Int) + 1).toNat = j + 1 by omega] at hqH
          refine ⟨(pre ++ [((c + 1 : Nat) : Int)], j + 1), ⟨by simp only; omega, fun _ _ => by simpa using hjk, ?_⟩, by simp only; omega, ?_⟩
          · simp only
            rw [if_neg (by omega), List.append_assoc]
            exact hqH
          · refine .of [(1, some 1)] [] rfl (by first | rfl | (rw [hst]; rfl)) ?_ ?_
            all_goals (try simp only [ltSto, ltO2, ltO1, ltAs, ltA, ltC, ltCs, ltT, ltFr, ltS, wrOk, wrO, TL.get, hasFr, ↓reduceIte, Nat.reduceEqDiff, reduceCtorEq, Option.getD_some, Option.isSome_some, List.length_map, List.length_append, List.length_cons, List.length_nil, List.append_nil, List.mem_singleton, List.mem_cons, List.not_mem_nil, and_true, true_and, and_self, imp_self, forall_const, false_implies, implies_true, true_implies, or_false, Bool.false_eq_true, Bool.true_eq_false, ImXs_nil, true_or, or_true, false_or, false_and, and_false, rmK, rm1, List.map_append, List.map_cons, List.map_nil, List.cons_append, List.nil_append, List.length_append, List.length_cons, List.length_nil, ho])
            all_goals (try (repeat' (first
                | exact ltXs_nil
                | (apply ltXs_map; intro _; exact ⟨rfl, rfl⟩)
                | (apply imXs_map; intro _; exact ⟨rfl, rfl⟩)
                | with_reducible apply imXs_append
                | with_reducible refine imXs_cons ⟨rfl, rfl⟩ ?_
                | exact imXs_nil
                | with_reducible apply ltXs_append
                | with_reducible refine ltXs_cons ⟨rfl, rfl, ?_⟩ ?_
                | with_reducible apply And.intro
                | exact ltCs_im rfl
                | exact ltCs_im (by assumption)
                | (refine ⟨⟨?_, rfl, ?_, rfl, ?_⟩, trivial⟩ <;> first | (simp; done) | (apply imXs_map; intro _; exact ⟨rfl, rfl⟩))
                | trivial
                | rfl
                | (rw [i64_succ (by omega)])
                | omega)))
        · have hk1 : l[c].kind = 1 := by
            have h7 := hqk (by simpa using hc) (by omega)
            simp only [Nat.add_sub_cancel] at h7
            obtain ⟨⟨k1, k2⟩, _⟩ := chk_ok h1 l[c] (List.getElem_mem _)
            omega
          have ho := (about_of (chk_about h1 c hc)).1 hk1
          rw [if_neg hk] at hqH
          refine ⟨(pre ++ [((c + 1 : Nat) : Int)], 0), ⟨by simp only; omega, fun _ h => by simp at h, ?_⟩, by simp only; omega, ?_⟩
          · simp only [if_true, List.append_nil]
            exact hqH
          · refine .of [(1, some 1)] [] rfl (by first | rfl | (rw [hst]; rfl)) ?_ ?_
            all_goals (try simp only [ltSto, ltO2, ltO1, ltAs, ltA, ltC, ltCs, ltT, ltFr, ltS, wrOk, wrO, TL.get, hasFr, ↓reduceIte, Nat.reduceEqDiff, reduceCtorEq, Option.getD_some, Option.isSome_some, List.length_map, List.length_append, List.length_cons, List.length_nil, List.append_nil, List.mem_singleton, List.mem_cons, List.not_mem_nil, and_true, true_and, and_self, imp_self, forall_const, false_implies, implies_true, true_implies, or_false, Bool.false_eq_true, Bool.true_eq_false, ImXs_nil, true_or, or_true, false_or, false_and, and_false, rmK, rm1, List.map_append, List.map_cons, List.map_nil, List.cons_append, List.nil_append, List.length_append, List.length_cons, List.length_nil, ho])
            all_goals (try (repeat' (first
                | exact ltXs_nil
                | (apply ltXs_map; intro _; exact ⟨rfl, rfl⟩)
                | (apply imXs_map; intro _; exact ⟨rfl, rfl⟩)
                | with_reducible apply imXs_append
                | with_reducible refine imXs_cons ⟨rfl, rfl⟩ ?_
                | exact imXs_nil
                | with_reducible apply ltXs_append
                | with_reducible refine ltXs_cons ⟨rfl, rfl, ?_⟩ ?_
                | with_reducible apply And.intro
                | exact ltCs_im rfl
                | exact ltCs_im (by assumption)
                | (refine ⟨⟨?_, rfl, ?_, rfl, ?_⟩, trivial⟩ <;> first | (simp; done) | (apply imXs_map; intro _; exact ⟨rfl, rfl⟩))
                | trivial
                | rfl
                | (rw [i64_succ (by omega)])
                | omega)))
      · obtain rfl : q = 0 := by omega
        rw [if_pos rfl, List.append_nil] at hqH
        rw [← hqH]
        refine .of [] [1] rfl (by first | rfl | (rw [hst]; rfl)) ?_ ?_
        all_goals (try simp only [ltSto, ltO2, ltO1, ltAs, ltA, ltC, ltCs, ltT, ltFr, ltS, wrOk, wrO, TL.get, hasFr, ↓reduceIte, Nat.reduceEqDiff, reduceCtorEq, Option.getD_some, Option.isSome_some, List.length_map, List.length_append, List.length_cons, List.length_nil, List.append_nil, List.mem_singleton, List.mem_cons, List.not_mem_nil, and_true, true_and, and_self, imp_self, forall_const, false_implies, implies_true, true_implies, or_false, Bool.false_eq_true, Bool.true_eq_false, ImXs_nil, true_or, or_true, false_or, false_and, and_false, rmK, rm1, List.map_append, List.map_cons, List.map_nil, List.cons_append, List.nil_append])
        all_goals (try (repeat' (first
            | exact ltXs_nil
            | (apply ltXs_map; intro _; exact ⟨rfl, rfl⟩)
            | (apply imXs_map; intro _; exact ⟨rfl, rfl⟩)
            | with_reducible apply imXs_append
            | with_reducible refine imXs_cons ⟨rfl, rfl⟩ ?_
            | exact imXs_nil
            | with_reducible apply ltXs_append
            | with_reducible refine ltXs_cons ⟨rfl, rfl, ?_⟩ ?_
            | with_reducible apply And.intro
            | exact ltCs_im rfl
            | exact ltCs_im (by assumption)
            | (refine ⟨⟨?_, rfl, ?_, rfl, ?_⟩, trivial⟩ <;> first | (simp; done) | (apply imXs_map; intro _; exact ⟨rfl, rfl⟩))
            | trivial
            | rfl
            | (rw [i64_succ (by omega)])
            | omega)))
  · have hc : (decide (n < 1) || decide (n > (l.length : Int))) = true := by
      cases hc : (decide (n < 1) || decide (n > (l.length : Int)))
      · obtain ⟨e1, e2, e3⟩ := hin hc
        omega
      · rfl
    simp only [hj hm]
    simp only [tl, tl2, isCallR, entX, argFr, ret, retI, retB, intT, unT, endR, ressR, resR, tupT, bslR, boxR, lenAll, ↓reduceIte, Nat.reduceEqDiff, Nat.reduceAdd, Nat.reduceMul, Nat.reduceLT, Nat.reduceLeDiff, reduceCtorEq, Int.reduceLE, Int.reduceLT, ne_eq, Int.reduceEq, not_false_eq_true, decide_true, decide_false, Int.reduceToNat, tl3, Int.reduceBNe, Int.reduceBEq, rmK, rm1, not_true_eq_false]
    refine ⟨fun h => absurd (hc.symm.trans h) (by decide), fun h => absurd (hc.symm.trans h) (by decide), ?_⟩
    refine C2.im (r := vB true) (fun h => absurd (hc.symm.trans h) (by decide)) (fun h => absurd (hc.symm.trans h) (by decide)) (by rfl) ?_
    simp only [tl, tl2, isCallR, entX, argFr, ret, retI, retB, intT, unT, endR, ressR, resR, tupT, bslR, boxR, lenAll, ↓reduceIte, Nat.reduceEqDiff, Nat.reduceAdd, Nat.reduceMul, Nat.reduceLT, Nat.reduceLeDiff, reduceCtorEq, Int.reduceLE, Int.reduceLT, ne_eq, Int.reduceEq, not_false_eq_true, decide_true, decide_false, Int.reduceToNat, tl3, Int.reduceBNe, Int.reduceBEq, rmK, rm1, not_true_eq_false, hc]
    rw [hout hc]
    refine .of [] [] rfl (by first | rfl | (rw [hst]; rfl)) ?_ ?_
    all_goals (try simp only [ltSto, ltO2, ltO1, ltAs, ltA, ltC, ltCs, ltT, ltFr, ltS, wrOk, wrO, TL.get, hasFr, ↓reduceIte, Nat.reduceEqDiff, reduceCtorEq, Option.getD_some, Option.isSome_some, List.length_map, List.length_append, List.length_cons, List.length_nil, List.append_nil, List.mem_singleton, List.mem_cons, List.not_mem_nil, and_true, true_and, and_self, imp_self, forall_const, false_implies, implies_true, true_implies, or_false, Bool.false_eq_true, Bool.true_eq_false, ImXs_nil, true_or, or_true, false_or, false_and, and_false, rmK, rm1, List.map_append, List.map_cons, List.map_nil, List.cons_append, List.nil_append])
    all_goals (try (repeat' (first
        | exact ltXs_nil
        | (apply ltXs_map; intro _; exact ⟨rfl, rfl⟩)
        | (apply imXs_map; intro _; exact ⟨rfl, rfl⟩)
        | with_reducible apply imXs_append
        | with_reducible refine imXs_cons ⟨rfl, rfl⟩ ?_
        | exact imXs_nil
        | with_reducible apply ltXs_append
        | with_reducible refine ltXs_cons ⟨rfl, rfl, ?_⟩ ?_
        | with_reducible apply And.intro
        | exact ltCs_im rfl
        | exact ltCs_im (by assumption)
        | (refine ⟨⟨?_, rfl, ?_, rfl, ?_⟩, trivial⟩ <;> first | (simp; done) | (apply imXs_map; intro _; exact ⟨rfl, rfl⟩))
        | trivial
        | rfl
        | (rw [i64_succ (by omega)])
        | omega)))

end Go.Proofs

