import Derived.Test.YtoamapbbjffldaaP2
set_option linter.unusedSimpArgs false
set_option linter.unusedVariables false
namespace Go.Proofs
open Go Go.TL
/-! ltSto, ltO2, ltO1, ltAs, ltA, ltC, ltCs, ltT, ltFr, ltS, wrOk, wrO, TL.get, hasFr, ↓reduceIte, Nat.reduceEqDiff, reduceCtorEq, Option.getD_some, Option.isSome_some, List.length_map, List.length_append, List.length_cons, List.length_nil, List.append_nil, List.mem_singleton, List.mem_cons, List.not_mem_nil, and_true, true_and, and_self, imp_self, forall_const, false_implies, implies_true, true_implies, or_false, Bool.false_eq_true, Bool.true_eq_false, ImXs_nil, true_or, or_true, false_or, false_and, and_false, rmK, rm1# RegisterLine -/
/-- how a history goes back -/
structure HistOk (l : List Ent) (n : Nat) (H : List Int) : Prop where
  head : ∃ r, H = ((n + 1 : Nat) : Int) :: r
  range : ∀ m ∈ H, 1 ≤ m ∧ m ≤ l.length
  step : ∀ i, i + 1 < H.length → H.getD (i + 1) 0 < H.getD i 0 ∧ (l.getD (H.getD i 0 - 1).toNat default).of_ = H.getD (i + 1) 0 ∧ (l.getD (H.getD i 0 - 1).toNat default).kind ≠ 1
  last : (l.getD (H.getD (H.length - 1) 0 - 1).toNat default).kind = 1
theorem hist_shape {l : List Ent} (hc : chkI l = 0) : ∀ (n : Nat) (h : n < l.length), l[n].kind ≠ 2 → HistOk l n (histN l (n + 1)) := by
  intro n
  induction n using Nat.strongRecOn with
  | _ n ih =>
    intro h hk
    have hs := hist_step hc h
    have hn : (((n + 1 : Nat) : Int) - 1).toNat = n := by omega
    by_cases h3 : l[n].kind = 3
    · obtain ⟨j, hj, hjn, ho, hjk⟩ := chk_of hc n h (by omega)
      rw [if_pos h3, ho, show ((j : Int) + 1).toNat = j + 1 by omega] at hs
      have g := ih j hjn hj hjk
      rw [hs]
      generalize histN l (j + 1) = H at *
      obtain ⟨r, e⟩ := g.head
      refine ⟨⟨_, rfl⟩, ?_, ?_, ?_⟩
      · intro m hm
        rcases List.mem_cons.1 hm with rfl | hm
        · omega
        · exact g.range m hm
      · intro i hi
        cases i with
        | zero =>
          simp only [List.getD_cons_zero, List.getD_cons_succ, e, hn, getD_get h, ho]
          refine ⟨by omega, by omega, by omega⟩
        | succ i =>
          simp only [List.getD_cons_succ]
          exact g.step i (by simpa using hi)
      · have hl : 0 < H.length := by rw [e]; simp
        have hp : (((n + 1 : Nat) : Int) :: H).length - 1 = (H.length - 1) + 1 := by simp only [List.length_cons]; omega
        rw [hp, List.getD_cons_succ]
        exact g.last
    · have h1 : l[n].kind = 1 := by
        obtain ⟨⟨k1, k2⟩, _⟩ := chk_ok hc l[n] (List.getElem_mem _)
        omega
      rw [if_neg h3] at hs
      rw [hs]
      refine ⟨⟨[], rfl⟩, ?_, ?_, ?_⟩
      · intro m hm
        simp at hm
        omega
      · intro i hi
        simp at hi
      · simp only [List.length_cons, List.length_nil, Nat.zero_add, Nat.sub_self, List.getD_cons_zero, hn, getD_get h]
        exact h1
theorem hist_own {l : List Ent} (hc : chkI l = 0) {i : Nat} (hi : i < l.length) : histA l l[i].num = if l[i].kind = 2 then ([], 48) else (histN l (i + 1), 0) := by
  rw [chk_num hc i hi, histA, if_neg (fun h => h hc)]
  have hn : ((i : Int) + 1 - 1).toNat = i := by omega
  rw [hn, getD_get hi]
  split
  · rename_i h
    have : l[i].kind = 2 := by omega
    rw [if_pos this]
  · rename_i h
    rw [if_neg (fun h2 => h (.inr (.inr h2)))]
    rfl
theorem c_law38_RegisterLine (l : List UInt8) : Spc Try.prog F_law38_RegisterLine [vL l] [] (vB true) [] := by
  refine spec_of_ir fn_law38_RegisterLine mixm (by simp) fun e _ hst => W_start ?_
  unfold ir_law38_RegisterLine
  simp only [tl, tl2, isCallR, entX, argFr, ret, retI, retB, intT, unT, endR, ressR, resR, tupT, bslR, boxR, lenAll, ↓reduceIte, Nat.reduceEqDiff, Nat.reduceAdd, Nat.reduceMul, Nat.reduceLT, Nat.reduceLeDiff, reduceCtorEq, Int.reduceLE, Int.reduceLT, ne_eq, Int.reduceEq, not_false_eq_true, decide_true, decide_false, Int.reduceToNat, tl3, Int.reduceBNe, Int.reduceBEq, rmK, rm1, not_true_eq_false]
  refine C1.newdraw 8196 (c_draw_New l) rfl rfl ?_
  simp only [tl, tl2, isCallR, entX, argFr, ret, retI, retB, intT, unT, endR, ressR, resR, tupT, bslR, boxR, lenAll, ↓reduceIte, Nat.reduceEqDiff, Nat.reduceAdd, Nat.reduceMul, Nat.reduceLT, Nat.reduceLeDiff, reduceCtorEq, Int.reduceLE, Int.reduceLT, ne_eq, Int.reduceEq, not_false_eq_true, decide_true, decide_false, Int.reduceToNat, tl3, Int.reduceBNe, Int.reduceBEq, rmK, rm1, not_true_eq_false]
  refine C1.draw 8196 (l.take 400) 0 _ (c_made l) rfl rfl rfl ?_
  obtain ⟨hc, hlen, hsm⟩ := made_ok l
  obtain ⟨L, hL⟩ : ∃ L, L = madeR l := ⟨_, rfl⟩
  rw [← hL] at hc hlen hsm ⊢
  simp only [tl, tl2, isCallR, entX, argFr, ret, retI, retB, intT, unT, endR, ressR, resR, tupT, bslR, boxR, lenAll, ↓reduceIte, Nat.reduceEqDiff, Nat.reduceAdd, Nat.reduceMul, Nat.reduceLT, Nat.reduceLeDiff, reduceCtorEq, Int.reduceLE, Int.reduceLT, ne_eq, Int.reduceEq, not_false_eq_true, decide_true, decide_false, Int.reduceToNat, tl3, Int.reduceBNe, Int.reduceBEq, rmK, rm1, not_true_eq_false]
  refine C1.im (c_register_InForce L (by omega) hsm) rfl (by rfl) ?_
  simp only [tl, tl2, isCallR, entX, argFr, ret, retI, retB, intT, unT, endR, ressR, resR, tupT, bslR, boxR, lenAll, ↓reduceIte, Nat.reduceEqDiff, Nat.reduceAdd, Nat.reduceMul, Nat.reduceLT, Nat.reduceLeDiff, reduceCtorEq, Int.reduceLE, Int.reduceLT, ne_eq, Int.reduceEq, not_false_eq_true, decide_true, decide_false, Int.reduceToNat, tl3, Int.reduceBNe, Int.reduceBEq, rmK, rm1, not_true_eq_false]
  have hfl := forceA_len hc
  have hin := forceA_iff hc
  obtain ⟨A, hA⟩ : ∃ A, A = forceA L := ⟨_, rfl⟩
  rw [← hA] at hfl hin ⊢
  refine W_loopF mixm (α := Nat) [20] (fun i => i ≤ L.length) (fun i => [(20, vI i)]) (fun i => []) (fun i => L.length - i) 0 (by omega) ?_ fun i hi => ?_
  · refine .of [] [] rfl (by first | rfl | (rw [hst]; rfl)) ?_ ?_
    all_goals (try simp only [ltSto, ltO2, ltO1, ltAs, ltA, ltC, ltCs, ltT, ltFr, ltS, wrOk, wrO, TL.get, hasFr, ↓reduceIte, Nat.reduceEqDiff, reduceCtorEq, Option.getD_some, Option.isSome_some, List.length_map, List.length_append, List.length_cons, List.length_nil, List.append_nil, List.mem_singleton, List.mem_cons, List.not_mem_nil, and_true, true_and, and_self, imp_self, forall_const, false_implies, implies_true, true_implies, or_false, Bool.false_eq_true, Bool.true_eq_false, ImXs_nil, true_or, or_true, false_or, false_and, and_false, rmK, rm1, List.map_append, List.map_cons, List.map_nil, List.cons_append, List.nil_append])
    all_goals (try (repeat' (first
        | exact ltXs_nil
        | (apply ltXs_map; intro _; exact ⟨rfl, rfl⟩)
        | (apply imXs_map; intro _; exact ⟨rfl, rfl⟩)
        | with_reducible apply imXs_append
        | with_reducible refine imXs_cons ⟨rfl, rfl⟩ ?_
        | exact imXs_nil
        | with_reducible apply ltXs_append
        | with_reducible refine ltXs_cons ⟨rfl, rfl, ?_⟩ ?_
        | with_reducible apply And.intro
        | exact ltCs_im rfl
        | exact ltCs_im (by assumption)
        | (refine ⟨⟨?_, rfl, ?_, rfl, ?_⟩, trivial⟩ <;> first | (simp; done) | (apply imXs_map; intro _; exact ⟨rfl, rfl⟩))
        | trivial
        | rfl
        | (rw [i64_succ (by omega)])
        | omega)))
  simp only [tl, tl2, isCallR, entX, argFr, ret, retI, retB, intT, unT, endR, ressR, resR, tupT, bslR, boxR, lenAll, ↓reduceIte, Nat.reduceEqDiff, Nat.reduceAdd, Nat.reduceMul, Nat.reduceLT, Nat.reduceLeDiff, reduceCtorEq, Int.reduceLE, Int.reduceLT, ne_eq, Int.reduceEq, not_false_eq_true, decide_true, decide_false, Int.reduceToNat, tl3, Int.reduceBNe, Int.reduceBEq, rmK, rm1, not_true_eq_false, decide_eq_true_eq, decide_eq_false_iff_not]
  refine ⟨fun h => ?_, fun h => ?_⟩
  · have hown := hist_own hc (i := i) (by omega)
    have hshape := hist_shape hc i (by omega)
    have hnum := chk_num hc i (by omega)
    have hlenH := hist_len (l := L) (i + 1) (i + 1)
    have hi2 : i < L.length := by omega
    have hwi := i64_succ (i := i) (by omega)
    simp only [tl, tl2, isCallR, entX, argFr, ret, retI, retB, intT, unT, endR, ressR, resR, tupT, bslR, boxR, lenAll, ↓reduceIte, Nat.reduceEqDiff, Nat.reduceAdd, Nat.reduceMul, Nat.reduceLT, Nat.reduceLeDiff, reduceCtorEq, Int.reduceLE, Int.reduceLT, ne_eq, Int.reduceEq, not_false_eq_true, decide_true, decide_false, Int.reduceToNat, tl3, Int.reduceBNe, Int.reduceBEq, rmK, rm1, not_true_eq_false, Int.toNat_natCast, getD_mapT hi2, hwi, entT]
    generalize L[i] = x at *
    refine ⟨by omega, ?_⟩
    refine C1.im (c_register_History L x.num (by omega) hsm) rfl (by rfl) ?_
    simp only [tl, tl2, isCallR, entX, argFr, ret, retI, retB, intT, unT, endR, ressR, resR, tupT, bslR, boxR, lenAll, ↓reduceIte, Nat.reduceEqDiff, Nat.reduceAdd, Nat.reduceMul, Nat.reduceLT, Nat.reduceLeDiff, reduceCtorEq, Int.reduceLE, Int.reduceLT, ne_eq, Int.reduceEq, not_false_eq_true, decide_true, decide_false, Int.reduceToNat, tl3, Int.reduceBNe, Int.reduceBEq, rmK, rm1, not_true_eq_false, ent2, ent0]
    by_cases hk : x.kind = 2
    · rw [if_pos hk] at hown
      simp only [tl, tl2, isCallR, entX, argFr, ret, retI, retB, intT, unT, endR, ressR, resR, tupT, bslR, boxR, lenAll, ↓reduceIte, Nat.reduceEqDiff, Nat.reduceAdd, Nat.reduceMul, Nat.reduceLT, Nat.reduceLeDiff, reduceCtorEq, Int.reduceLE, Int.reduceLT, ne_eq, Int.reduceEq, not_false_eq_true, decide_true, decide_false, Int.reduceToNat, tl3, Int.reduceBNe, Int.reduceBEq, rmK, rm1, not_true_eq_false, hown, hk, bne_self_eq_false]
      refine ⟨i + 1, by omega, by omega, ?_⟩
      refine .of [] [] rfl (by first | rfl | (rw [hst]; rfl)) ?_ ?_
      all_goals (try simp only [ltSto, ltO2, ltO1, ltAs, ltA, ltC, ltCs, ltT, ltFr, ltS, wrOk, wrO, TL.get, hasFr, ↓reduceIte, Nat.reduceEqDiff, reduceCtorEq, Option.getD_some, Option.isSome_some, List.length_map, List.length_append, List.length_cons, List.length_nil, List.append_nil, List.mem_singleton, List.mem_cons, List.not_mem_nil, and_true, true_and, and_self, imp_self, forall_const, false_implies, implies_true, true_implies, or_false, Bool.false_eq_true, Bool.true_eq_false, ImXs_nil, true_or, or_true, false_or, false_and, and_false, rmK, rm1, List.map_append, List.map_cons, List.map_nil, List.cons_append, List.nil_append])
      all_goals (try (repeat' (first
          | exact ltXs_nil
          | (apply ltXs_map; intro _; exact ⟨rfl, rfl⟩)
          | (apply imXs_map; intro _; exact ⟨rfl, rfl⟩)
          | with_reducible apply imXs_append
          | with_reducible refine imXs_cons ⟨rfl, rfl⟩ ?_
          | exact imXs_nil
          | with_reducible apply ltXs_append
          | with_reducible refine ltXs_cons ⟨rfl, rfl, ?_⟩ ?_
          | with_reducible apply And.intro
          | exact ltCs_im rfl
          | exact ltCs_im (by assumption)
          | (refine ⟨⟨?_, rfl, ?_, rfl, ?_⟩, trivial⟩ <;> first | (simp; done) | (apply imXs_map; intro _; exact ⟨rfl, rfl⟩))
          | trivial
          | rfl
          | (rw [i64_succ (by omega)])
          | omega)))
    · rw [if_neg hk] at hown
      have hS := hshape hk
      have hkb : (x.kind == 2) = false := by simpa using hk
      obtain ⟨H, hH⟩ : ∃ H, H = histN L (i + 1) := ⟨_, rfl⟩
      rw [← hH] at hown
      rw [← hH] at hS
      have hpos : 0 < H.length := by obtain ⟨r, e⟩ := hS.head; rw [e]; simp
      have h0 : H[0] = x.num := by
        obtain ⟨r, e⟩ := hS.head
        simp only [e, List.getElem_cons_zero, hnum]
        omega
      have hne : ((H.length : Int) == 0) = false := beq_eq_false_iff_ne.2 (by omega)
      have hHl : H.length ≤ 61 := by rw [hH, histN]; omega
      simp only [tl, tl2, isCallR, entX, argFr, ret, retI, retB, intT, unT, endR, ressR, resR, tupT, bslR, boxR, lenAll, ↓reduceIte, Nat.reduceEqDiff, Nat.reduceAdd, Nat.reduceMul, Nat.reduceLT, Nat.reduceLeDiff, reduceCtorEq, Int.reduceLE, Int.reduceLT, ne_eq, Int.reduceEq, not_false_eq_true, decide_true, decide_false, Int.reduceToNat, tl3, Int.reduceBNe, Int.reduceBEq, rmK, rm1, not_true_eq_false, hown, hkb, bne_self_eq_false, hne, getD_mapT hpos, h0]
      refine ⟨by omega, by kernel_rfl, ?_⟩
      refine W_loopF mixm (α := Nat) [52] (fun j => j ≤ H.length) (fun j => [(52, vI j)]) (fun j => []) (fun j => H.length - j) 0 (by omega) ?_ fun j hj => ?_
      · refine .of [] [] rfl (by first | rfl | (rw [hst]; rfl)) ?_ ?_
        all_goals (try simp only [ltSto, ltO2, ltO1, ltAs, ltA, ltC, ltCs, ltT, ltFr, ltS, wrOk, wrO, TL.get, hasFr, ↓reduceIte, Nat.reduceEqDiff, reduceCtorEq, Option.getD_some, Option.isSome_some, List.length_map, List.length_append, List.length_cons, List.length_nil, List.append_nil, List.mem_singleton, List.mem_cons, List.not_mem_nil, and_true, true_and, and_self, imp_self, forall_const, false_implies, implies_true, true_implies, or_false, Bool.false_eq_true, Bool.true_eq_false, ImXs_nil, true_or, or_true, false_or, false_and, and_false, rmK, rm1, List.map_append, List.map_cons, List.map_nil, List.cons_append, List.nil_append])
        all_goals (try (repeat' (first
            | exact ltXs_nil
            | (apply ltXs_map; intro _; exact ⟨rfl, rfl⟩)
            | (apply imXs_map; intro _; exact ⟨rfl, rfl⟩)
            | with_reducible apply imXs_append
            | with_reducible refine imXs_cons ⟨rfl, rfl⟩ ?_
            | exact imXs_nil
            | with_reducible apply ltXs_append
            | with_reducible refine ltXs_cons ⟨rfl, rfl, ?_⟩ ?_
            | with_reducible apply And.intro
            | exact ltCs_im rfl
            | exact ltCs_im (by assumption)
            | (refine ⟨⟨?_, rfl, ?_, rfl, ?_⟩, trivial⟩ <;> first | (simp; done) | (apply imXs_map; intro _; exact ⟨rfl, rfl⟩))
            | trivial
            | rfl
            | (rw [i64_succ (by omega)])
            | omega)))
      simp only [tl, tl2, isCallR, entX, argFr, ret, retI, retB, intT, unT, endR, ressR, resR, tupT, bslR, boxR, lenAll, ↓reduceIte, Nat.reduceEqDiff, Nat.reduceAdd, Nat.reduceMul, Nat.reduceLT, Nat.reduceLeDiff, reduceCtorEq, Int.reduceLE, Int.reduceLT, ne_eq, Int.reduceEq, not_false_eq_true, decide_true, decide_false, Int.reduceToNat, tl3, Int.reduceBNe, Int.reduceBEq, rmK, rm1, not_true_eq_false, decide_eq_true_eq, decide_eq_false_iff_not]
      refine ⟨fun h => ?_, fun h => ?_⟩
      · have hj2 : j < H.length := by omega
        obtain ⟨p, hp⟩ : ∃ p, p = (IntKind.i64.wrap ((j : Int) - 1)).toNat := ⟨_, rfl⟩
        have hpj : p = j - 1 := by rw [hp, IntWalk.i64_in _ (by omega)]; omega
        have hpl : p < H.length := by omega
        have hrg := hS.range H[p] (List.getElem_mem _)
        have hrn := hS.range H[j] (List.getElem_mem _)
        have hwm : IntKind.i64.wrap (H[p] - 1) = H[p] - 1 := IntWalk.i64_in _ (by omega)
        have hql : (H[p] - 1).toNat < L.length := by omega
        have hst2 : 0 < j → H[j] < H[p] ∧ L[(H[p] - 1).toNat].of_ = H[j] ∧ L[(H[p] - 1).toNat].kind ≠ 1 := fun h => by
          have := hS.step p (by omega)
          rw [show p + 1 = j by omega, getD_get hj2, getD_get hpl, getD_get hql] at this
          exact this
        have hnA : 0 < j → H[j] ∉ A := fun h hm => by
          obtain ⟨_, _, _, _, h5⟩ := (hin _).1 hm
          obtain ⟨_, g2, g3⟩ := hst2 h
          rcases h5 _ hql with h6 | h6
          · exact g3 h6
          · exact h6 g2
        have hwj := i64_succ (i := j) (by omega)
        have hcond : (decide (H[j] < 1) || decide (H[j] > (L.length : Int)) || (decide ((j : Int) > 0) && (decide (H[p] ≤ H[j]) || (L[(H[p] - 1).toNat].of_ != H[j])))) = false := by
          by_cases hj0 : 0 < j
          · obtain ⟨g1, g2, _⟩ := hst2 hj0
            simp only [g2, bne_self_eq_false, Bool.or_false, Bool.or_eq_false_iff, Bool.and_eq_false_iff, decide_eq_false_iff_not]
            exact ⟨⟨by omega, by omega⟩, .inr (by omega)⟩
          · obtain rfl : j = 0 := by omega
            simp only [Bool.or_eq_false_iff, Bool.and_eq_false_iff, decide_eq_false_iff_not]
            exact ⟨⟨by omega, by omega⟩, .inl (by omega)⟩
        simp only [Int.toNat_natCast, getD_mapT hj2, hwj, ← hp, getD_mapT hpl, hwm, getD_mapT hql]
        simp only [tl, tl2, isCallR, entX, argFr, ret, retI, retB, intT, unT, endR, ressR, resR, tupT, bslR, boxR, lenAll, ↓reduceIte, Nat.reduceEqDiff, Nat.reduceAdd, Nat.reduceMul, Nat.reduceLT, Nat.reduceLeDiff, reduceCtorEq, Int.reduceLE, Int.reduceLT, ne_eq, Int.reduceEq, not_false_eq_true, decide_true, decide_false, Int.reduceToNat, tl3, Int.reduceBNe, Int.reduceBEq, rmK, rm1, not_true_eq_false, Int.toNat_natCast, getD_mapT hj2, hwj, ← hp, getD_mapT hpl, hwm, getD_mapT hql, entT]
        have hwp : decide ((j : Int) > 0) = true → IntKind.i64.wrap ((j : Int) - 1) = (j : Int) - 1 ∧ 0 < j := fun h => ⟨IntWalk.i64_in _ (by omega), by simpa using h⟩
        refine ⟨by omega, fun h => ⟨by have := hwp h.2; omega, by have := hwp h.2; omega⟩, fun h => ⟨by have := hwp h.1.2; omega, by have := hwp h.1.2; omega⟩, fun _ => by omega, fun h => absurd (hcond.symm.trans h) (by decide), fun _ => ?_⟩
        refine W_loopF mixm (α := Nat) [94] (fun k => k ≤ A.length) (fun k => [(94, vI k)]) (fun k => []) (fun k => A.length - k) 0 (by omega) ?_ fun k hk => ?_
        · refine .of [] [] rfl (by first | rfl | (rw [hst]; rfl)) ?_ ?_
          all_goals (try simp only [ltSto, ltO2, ltO1, ltAs, ltA, ltC, ltCs, ltT, ltFr, ltS, wrOk, wrO, TL.get, hasFr, ↓reduceIte, Nat.reduceEqDiff, reduceCtorEq, Option.getD_some, Option.isSome_some, List.length_map, List.length_append, List.length_cons, List.length_nil, List.append_nil, List.mem_singleton, List.mem_cons, List.not_mem_nil, and_true, true_and, and_self, imp_self, forall_const, false_implies, implies_true, true_implies, or_false, Bool.false_eq_true, Bool.true_eq_false, ImXs_nil, true_or, or_true, false_or, false_and, and_false, rmK, rm1, List.map_append, List.map_cons, List.map_nil, List.cons_append, List.nil_append])
          all_goals (try (repeat' (first
              | exact ltXs_nil
              | (apply ltXs_map; intro _; exact ⟨rfl, rfl⟩)
              | (apply imXs_map; intro _; exact ⟨rfl, rfl⟩)
              | with_reducible apply imXs_append
              | with_reducible refine imXs_cons ⟨rfl, rfl⟩ ?_
              | exact imXs_nil
              | with_reducible apply ltXs_append
              | with_reducible refine ltXs_cons ⟨rfl, rfl, ?_⟩ ?_
              | with_reducible apply And.intro
              | exact ltCs_im rfl
              | exact ltCs_im (by assumption)
              | (refine ⟨⟨?_, rfl, ?_, rfl, ?_⟩, trivial⟩ <;> first | (simp; done) | (apply imXs_map; intro _; exact ⟨rfl, rfl⟩))
              | trivial
              | rfl
              | (rw [i64_succ (by omega)])
              | omega)))
        simp only [tl, tl2, isCallR, entX, argFr, ret, retI, retB, intT, unT, endR, ressR, resR, tupT, bslR, boxR, lenAll, ↓reduceIte, Nat.reduceEqDiff, Nat.reduceAdd, Nat.reduceMul, Nat.reduceLT, Nat.reduceLeDiff, reduceCtorEq, Int.reduceLE, Int.reduceLT, ne_eq, Int.reduceEq, not_false_eq_true, decide_true, decide_false, Int.reduceToNat, tl3, Int.reduceBNe, Int.reduceBEq, rmK, rm1, not_true_eq_false, decide_eq_true_eq, decide_eq_false_iff_not]
        refine ⟨fun h => ?_, fun h => ?_⟩
        · have hk2 : k < A.length := by omega
          have hwk := i64_succ (i := k) (by omega)
          have hmem : (decide ((j : Int) > 0) && (A[k] == H[j])) = false := by
            cases hd : decide ((j : Int) > 0)
            · rfl
            · rw [Bool.true_and, beq_eq_false_iff_ne]
              intro he
              exact hnA (by simpa using hd) (he ▸ List.getElem_mem hk2)
          simp only [tl, tl2, isCallR, entX, argFr, ret, retI, retB, intT, unT, endR, ressR, resR, tupT, bslR, boxR, lenAll, ↓reduceIte, Nat.reduceEqDiff, Nat.reduceAdd, Nat.reduceMul, Nat.reduceLT, Nat.reduceLeDiff, reduceCtorEq, Int.reduceLE, Int.reduceLT, ne_eq, Int.reduceEq, not_false_eq_true, decide_true, decide_false, Int.reduceToNat, tl3, Int.reduceBNe, Int.reduceBEq, rmK, rm1, not_true_eq_false, Int.toNat_natCast, getD_mapT hk2, hwk, hmem]
          refine ⟨by omega, k + 1, by omega, by omega, ?_⟩
          refine .of [] [] rfl (by first | rfl | (rw [hst]; rfl)) ?_ ?_
          all_goals (try simp only [ltSto, ltO2, ltO1, ltAs, ltA, ltC, ltCs, ltT, ltFr, ltS, wrOk, wrO, TL.get, hasFr, ↓reduceIte, Nat.reduceEqDiff, reduceCtorEq, Option.getD_some, Option.isSome_some, List.length_map, List.length_append, List.length_cons, List.length_nil, List.append_nil, List.mem_singleton, List.mem_cons, List.not_mem_nil, and_true, true_and, and_self, imp_self, forall_const, false_implies, implies_true, true_implies, or_false, Bool.false_eq_true, Bool.true_eq_false, ImXs_nil, true_or, or_true, false_or, false_and, and_false, rmK, rm1, List.map_append, List.map_cons, List.map_nil, List.cons_append, List.nil_append])
          all_goals (try (repeat' (first
              | exact ltXs_nil
              | (apply ltXs_map; intro _; exact ⟨rfl, rfl⟩)
              | (apply imXs_map; intro _; exact ⟨rfl, rfl⟩)
              | with_reducible apply imXs_append
              | with_reducible refine imXs_cons ⟨rfl, rfl⟩ ?_
              | exact imXs_nil
              | with_reducible apply ltXs_append
              | with_reducible refine ltXs_cons ⟨rfl, rfl, ?_⟩ ?_
              | with_reducible apply And.intro
              | exact ltCs_im rfl
              | exact ltCs_im (by assumption)
              | (refine ⟨⟨?_, rfl, ?_, rfl, ?_⟩, trivial⟩ <;> first | (simp; done) | (apply imXs_map; intro _; exact ⟨rfl, rfl⟩))
              | trivial
              | rfl
              | (rw [i64_succ (by omega)])
              | omega)))
        · refine ⟨j + 1, by omega, by omega, ?_⟩
          refine .of [] [] rfl (by first | rfl | (rw [hst]; rfl)) ?_ ?_
          all_goals (try simp only [ltSto, ltO2, ltO1, ltAs, ltA, ltC, ltCs, ltT, ltFr, ltS, wrOk, wrO, TL.get, hasFr, ↓reduceIte, Nat.reduceEqDiff, reduceCtorEq, Option.getD_some, Option.isSome_some, List.length_map, List.length_append, List.length_cons, List.length_nil, List.append_nil, List.mem_singleton, List.mem_cons, List.not_mem_nil, and_true, true_and, and_self, imp_self, forall_const, false_implies, implies_true, true_implies, or_false, Bool.false_eq_true, Bool.true_eq_false, ImXs_nil, true_or, or_true, false_or, false_and, and_false, rmK, rm1, List.map_append, List.map_cons, List.map_nil, List.cons_append, List.nil_append])
          all_goals (try (repeat' (first
              | exact ltXs_nil
              | (apply ltXs_map; intro _; exact ⟨rfl, rfl⟩)
              | (apply imXs_map; intro _; exact ⟨rfl, rfl⟩)
              | with_reducible apply imXs_append
              | with_reducible refine imXs_cons ⟨rfl, rfl⟩ ?_
              | exact imXs_nil
              | with_reducible apply ltXs_append
              | with_reducible refine ltXs_cons ⟨rfl, rfl, ?_⟩ ?_
              | with_reducible apply And.intro
              | exact ltCs_im rfl
              | exact ltCs_im (by assumption)
              | (refine ⟨⟨?_, rfl, ?_, rfl, ?_⟩, trivial⟩ <;> first | (simp; done) | (apply imXs_map; intro _; exact ⟨rfl, rfl⟩))
              | trivial
              | rfl
              | (rw [i64_succ (by omega)])
              | omega)))
      · have hwl : IntKind.i64.wrap ((H.length : Int) - 1) = ((H.length - 1 : Nat) : Int) := i64_pred (by omega) (by omega)
        have hll : H.length - 1 < H.length := by omega
        have hrg := hS.range H[H.length - 1] (List.getElem_mem _)
        have hwm : IntKind.i64.wrap (H[H.length - 1] - 1) = H[H.length - 1] - 1 := IntWalk.i64_in _ (by omega)
        have hql : (H[H.length - 1] - 1).toNat < L.length := by omega
        have hlast := hS.last
        rw [getD_get hll, getD_get hql] at hlast
        have hwi2 := i64_succ (i := i) (by omega)
        simp only [tl, tl2, isCallR, entX, argFr, ret, retI, retB, intT, unT, endR, ressR, resR, tupT, bslR, boxR, lenAll, ↓reduceIte, Nat.reduceEqDiff, Nat.reduceAdd, Nat.reduceMul, Nat.reduceLT, Nat.reduceLeDiff, reduceCtorEq, Int.reduceLE, Int.reduceLT, ne_eq, Int.reduceEq, not_false_eq_true, decide_true, decide_false, Int.reduceToNat, tl3, Int.reduceBNe, Int.reduceBEq, rmK, rm1, not_true_eq_false, Int.toNat_natCast, hwl, getD_mapT hll, hwm, getD_mapT hql, entT, hlast, hwi2]
        refine ⟨by omega, by omega, i + 1, by omega, by omega, ?_⟩
        refine .of [] [] rfl (by first | rfl | (rw [hst]; rfl)) ?_ ?_
        all_goals (try simp only [ltSto, ltO2, ltO1, ltAs, ltA, ltC, ltCs, ltT, ltFr, ltS, wrOk, wrO, TL.get, hasFr, ↓reduceIte, Nat.reduceEqDiff, reduceCtorEq, Option.getD_some, Option.isSome_some, List.length_map, List.length_append, List.length_cons, List.length_nil, List.append_nil, List.mem_singleton, List.mem_cons, List.not_mem_nil, and_true, true_and, and_self, imp_self, forall_const, false_implies, implies_true, true_implies, or_false, Bool.false_eq_true, Bool.true_eq_false, ImXs_nil, true_or, or_true, false_or, false_and, and_false, rmK, rm1, List.map_append, List.map_cons, List.map_nil, List.cons_append, List.nil_append])
        all_goals (try (repeat' (first
            | exact ltXs_nil
            | (apply ltXs_map; intro _; exact ⟨rfl, rfl⟩)
            | (apply imXs_map; intro _; exact ⟨rfl, rfl⟩)
            | with_reducible apply imXs_append
            | with_reducible refine imXs_cons ⟨rfl, rfl⟩ ?_
            | exact imXs_nil
            | with_reducible apply ltXs_append
            | with_reducible refine ltXs_cons ⟨rfl, rfl, ?_⟩ ?_
            | with_reducible apply And.intro
            | exact ltCs_im rfl
            | exact ltCs_im (by assumption)
            | (refine ⟨⟨?_, rfl, ?_, rfl, ?_⟩, trivial⟩ <;> first | (simp; done) | (apply imXs_map; intro _; exact ⟨rfl, rfl⟩))
            | trivial
            | rfl
            | (rw [i64_succ (by omega)])
            | omega)))
  · refine C1.im c_law38_awake rfl (by rfl) ?_
    simp only [tl, tl2, isCallR, entX, argFr, ret, retI, retB, intT, unT, endR, ressR, resR, tupT, bslR, boxR, lenAll, ↓reduceIte, Nat.reduceEqDiff, Nat.reduceAdd, Nat.reduceMul, Nat.reduceLT, Nat.reduceLeDiff, reduceCtorEq, Int.reduceLE, Int.reduceLT, ne_eq, Int.reduceEq, not_false_eq_true, decide_true, decide_false, Int.reduceToNat, tl3, Int.reduceBNe, Int.reduceBEq, rmK, rm1, not_true_eq_false]
    exact .imR rfl rfl

end Go.Proofs

