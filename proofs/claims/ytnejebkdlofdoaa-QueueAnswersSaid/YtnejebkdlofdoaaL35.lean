import Derived.Test.YtnejebkdlofdoaaK35
set_option linter.unusedSimpArgs false
set_option linter.unusedVariables false
namespace Go.Proofs
open Go Go.TL
/-! ltSto, ltO2, ltO1, ltAs, ltA, ltC, ltC0, ltC0s, ltCs, ltT, ltFr, ltS, wrOk, wrO, TL.get, hasFr, ↓reduceIte, Nat.reduceEqDiff, reduceCtorEq, Option.getD_some, Option.isSome_some, List.length_map, List.length_append, List.length_cons, List.length_nil, List.append_nil, List.mem_singleton, List.mem_cons, List.not_mem_nil, and_true, true_and, and_self, imp_self, forall_const, false_implies, implies_true, true_implies, or_false, Bool.false_eq_true, Bool.true_eq_false, ImXs_nil, true_or, or_true, false_or, false_and, and_false, rmK, rm1# the outputs of a journal -/
theorem decP_some {b : List UInt8} {x : Out} (h : decP b = some x) : validO x = true := by
  unfold decP at h
  split at h
  · split at h
    · cases h
    · rename_i h2
      cases h
      simpa using (not_or.mp h2).2
  · cases h
def outsL : List (List UInt8) → List Out → Int × List Out
  | [], l => (0, l)
  | b :: bs, l => match decP b with
    | none => (11, [])
    | some x => if x.num > (l.length : Int) + 1 then (48, []) else if x.num = (l.length : Int) + 1 then outsL bs (l ++ [x]) else outsL bs (l.set (x.num - 1).toNat x)
theorem rdL_small : ∀ (f : Nat) (r : List UInt8), (∀ l ∈ (rdL f r).1, l.length ≤ 4096) ∧ (rdL f r).1.length ≤ f
  | 0, r => by simp [rdL]
  | f + 1, r => by
    rw [rdL]
    split
    · rename_i h
      have := rdL_small f (r.drop ((num r).toNat + 8))
      simp only [good, Bool.and_eq_true, decide_eq_true_eq] at h
      refine ⟨fun l hl => ?_, ?_⟩
      · rcases List.mem_cons.mp hl with rfl | hl
        · have := num_range r
          simp only [List.length_drop, List.length_take]; omega
        · exact this.1 l hl
      · simp only [List.length_cons]; omega
    · simp
theorem readB_small (b : List UInt8) : (∀ l ∈ (readB b).1, l.length ≤ 4096) ∧ (readB b).1.length ≤ b.length + 1 := rdL_small _ _
theorem outT_ims (l : List Out) : ImXs 7 (l.map outT) := (by apply imXs_map; intro _; exact ⟨rfl, rfl⟩)
theorem c_ref35_outputs (ls : List (List UInt8)) (hs : ∀ l ∈ ls, l.length ≤ 4096) (hl : ls.length ≤ 2000000) :
    Spc Try.prog F_ref35_outputs [.sl 1 (ls.map vL)] [] (.tup [vOs (outsL ls []).2, vI (outsL ls []).1]) [] := by
  generalize hq : outsL ls [] = q
  refine spec_of_ir fn_ref35_outputs mixm (by simp) fun e _ hst => W_start ?_
  unfold ir_ref35_outputs
  simp only [tl, tl2, tl4, ↓un_u, isCallR, entX, argFr, ret, retI, retB, intT, unT, endR, ressR, resR, tupT, bslR, boxR, lenAll, ↓reduceIte, Nat.reduceEqDiff, Nat.reduceAdd, Nat.reduceMul, Nat.reduceLT, Nat.reduceLeDiff, reduceCtorEq, Int.reduceLE, Int.reduceLT, ne_eq, Int.reduceEq, not_false_eq_true, decide_true, decide_false, Int.reduceToNat, tl3, Int.reduceBNe, Int.reduceBEq, rmK, rm1, not_true_eq_false]
  refine W_loopF mixm (α := Nat × List Out) [4, 11] (fun x => x.1 ≤ ls.length ∧ x.2.length ≤ x.1 ∧ q = outsL (ls.drop x.1) x.2) (fun x => [(4, .asl 53260 x.2.length), (11, vI x.1)]) (fun x => [(53260, .arr 7 (x.2.map outT) false)]) (fun x => ls.length - x.1) (0, []) ⟨by omega, Nat.le_refl _, hq.symm⟩ ?_ fun x hx => ?_
  · simp only [List.map_nil]
    refine .of [(53260, none)] [] rfl (by first | rfl | (rw [hst]; rfl)) ?_ ?_
    all_goals (try exact clA)
  obtain ⟨i, l⟩ := x
  obtain ⟨hi, hli, heq⟩ := hx
  dsimp only at hi hli heq
  simp only [tl, tl2, tl4, ↓un_u, isCallR, entX, argFr, ret, retI, retB, intT, unT, endR, ressR, resR, tupT, bslR, boxR, lenAll, ↓reduceIte, Nat.reduceEqDiff, Nat.reduceAdd, Nat.reduceMul, Nat.reduceLT, Nat.reduceLeDiff, reduceCtorEq, Int.reduceLE, Int.reduceLT, ne_eq, Int.reduceEq, not_false_eq_true, decide_true, decide_false, Int.reduceToNat, tl3, Int.reduceBNe, Int.reduceBEq, rmK, rm1, not_true_eq_false, decide_eq_true_eq, decide_eq_false_iff_not]
  refine ⟨fun h3 => ?_, fun h3 => ?_⟩
  · have hi2 : i < ls.length := by omega
    have hwi := i64_succ (i := i) (by omega)
    have hwl := i64_succ (i := l.length) (by omega)
    have hd := decR_eq' ls[i] (by have := hs _ (List.getElem_mem hi2); omega)
    rw [List.drop_eq_getElem_cons hi2, outsL] at heq
    simp only [tl, tl2, tl4, ↓un_u, isCallR, entX, argFr, ret, retI, retB, intT, unT, endR, ressR, resR, tupT, bslR, boxR, lenAll, ↓reduceIte, Nat.reduceEqDiff, Nat.reduceAdd, Nat.reduceMul, Nat.reduceLT, Nat.reduceLeDiff, reduceCtorEq, Int.reduceLE, Int.reduceLT, ne_eq, Int.reduceEq, not_false_eq_true, decide_true, decide_false, Int.reduceToNat, tl3, Int.reduceBNe, Int.reduceBEq, rmK, rm1, not_true_eq_false, Int.toNat_natCast, getD_mapT hi2]
    refine ⟨by omega, ?_⟩
    unfold decTT at hd
    cases hp : decP ls[i] with
    | none =>
      rw [hp] at hd heq
      refine C1.im hd (by rfl) (by rfl) ?_
      simp only [tl, tl2, tl4, ↓un_u, isCallR, entX, argFr, ret, retI, retB, intT, unT, endR, ressR, resR, tupT, bslR, boxR, lenAll, ↓reduceIte, Nat.reduceEqDiff, Nat.reduceAdd, Nat.reduceMul, Nat.reduceLT, Nat.reduceLeDiff, reduceCtorEq, Int.reduceLE, Int.reduceLT, ne_eq, Int.reduceEq, not_false_eq_true, decide_true, decide_false, Int.reduceToNat, tl3, Int.reduceBNe, Int.reduceBEq, rmK, rm1, not_true_eq_false]
      rw [heq]
      refine .of [] [] rfl (by first | rfl | (rw [hst]; rfl)) ?_ ?_
      all_goals (try exact clA)
    | some x =>
      rw [hp] at hd heq
      refine C1.im hd (by rfl) (by rfl) ?_
      dsimp only at heq
      obtain ⟨⟨hx1, hx2⟩, _⟩ := valid_parts (decP_some hp)
      obtain ⟨k, hk⟩ : ∃ k : Nat, x.num = (k : Int) + 1 := ⟨(x.num - 1).toNat, by omega⟩
      have hwn : IntKind.i64.wrap (x.num - 1) = (k : Int) := by rw [IntWalk.i64_in _ (by omega)]; omega
      have hkn : (x.num - 1).toNat = k := by omega
      simp only [tl, tl2, tl4, ↓un_u, isCallR, entX, argFr, ret, retI, retB, intT, unT, endR, ressR, resR, tupT, bslR, boxR, lenAll, ↓reduceIte, Nat.reduceEqDiff, Nat.reduceAdd, Nat.reduceMul, Nat.reduceLT, Nat.reduceLeDiff, reduceCtorEq, Int.reduceLE, Int.reduceLT, ne_eq, Int.reduceEq, not_false_eq_true, decide_true, decide_false, Int.reduceToNat, tl3, Int.reduceBNe, Int.reduceBEq, rmK, rm1, not_true_eq_false, hwl, hwn, hwi, decide_eq_true_eq, decide_eq_false_iff_not, Bool.or_eq_true, Bool.or_eq_false_iff, Bool.and_eq_true, Bool.and_eq_false_iff, beq_iff_eq, beq_eq_false_iff_ne, Int.toNat_natCast]
      refine ⟨fun g1 => ?_, fun g1 => ⟨fun g2 => ?_, fun g2 => ?_⟩⟩
      · rw [if_pos (by omega)] at heq
        rw [heq]
        refine .of [] [] rfl (by first | rfl | (rw [hst]; rfl)) ?_ ?_
        all_goals (try exact clA)
      · rw [if_neg (by omega), if_pos (by omega)] at heq
        refine ⟨by omega, (i + 1, l ++ [x]), ⟨by dsimp only; omega, by simp; omega, heq⟩, by dsimp only; omega, ?_⟩
        refine .of [(53260, some 53260)] [] rfl (by first | rfl | (rw [hst]; rfl)) ?_ ?_
        all_goals (try exact clA)
      · rw [if_neg (by omega), if_neg (by omega), hkn] at heq
        have hk2 : k < l.length := by omega
        have hgk : (List.map outT l).getD k .junk = outT l[k] := getD_mapT hk2
        refine ⟨by omega, ⟨hk2, by rw [hgk]; trivial⟩, (i + 1, l.set k x), ⟨by dsimp only; omega, by simp; omega, heq⟩, by dsimp only; omega, ?_⟩
        rw [hgk]
        have hrp : repl (outT l[k]) 0 (.agg [vI x.num, vS x.proj, vS x.res, vI x.tm, vS x.text, vI x.state, vSs x.sigs]) = outT x := rfl
        rw [hrp, ← List.map_set]
        simp only [List.length_set]
        refine .of [(53260, some 53260)] [] rfl (by first | rfl | (rw [hst]; rfl)) ?_ ?_
        all_goals (try exact clA)
  · have hi2 : i = ls.length := by omega
    subst hi2
    rw [List.drop_length, outsL] at heq
    rw [heq]
    refine .of [] [53260] rfl (by first | rfl | (rw [hst]; rfl)) ?_ ?_
    all_goals (try exact clA)
def loadT (a : List UInt8) : T := if (outsL (readB a).1 []).1 = 0 then .tup [vF (a.take (readB a).2) [], vOs (outsL (readB a).1 []).2, vI 0] else .tup [vF [] [], vOs [], vI (outsL (readB a).1 []).1]
theorem outsL_err : ∀ (ls : List (List UInt8)) (l : List Out), (outsL ls l).1 = 0 ∨ outsL ls l = (11, []) ∨ outsL ls l = (48, [])
  | [], l => .inl rfl
  | b :: bs, l => by
    unfold outsL
    cases decP b with
    | none => exact .inr (.inl rfl)
    | some x =>
      dsimp only
      split
      · exact .inr (.inr rfl)
      · split
        · exact outsL_err bs _
        · exact outsL_err bs _
theorem c_ref35_Load (a p : List UInt8) (ha : a.length ≤ 1000000) (hp : p.length ≤ 1000000) : Spc Try.prog F_ref35_Load [vF a p] [] (loadT a) [] := by
  obtain ⟨hs, hl⟩ := readB_small a
  have hr := c_ref23_Recover a p ha hp
  have ho := c_ref35_outputs (readB a).1 hs (by omega)
  have he := outsL_err (readB a).1 []
  unfold recS at hr
  unfold loadT
  generalize outsL (readB a).1 [] = q at *
  obtain ⟨er, os⟩ := q
  refine spec_of_ir fn_ref35_Load mixm (by simp) fun e _ hst => W_start ?_
  unfold ir_ref35_Load
  simp only [tl, tl2, tl4, ↓un_u, isCallR, entX, argFr, ret, retI, retB, intT, unT, endR, ressR, resR, tupT, bslR, boxR, lenAll, ↓reduceIte, Nat.reduceEqDiff, Nat.reduceAdd, Nat.reduceMul, Nat.reduceLT, Nat.reduceLeDiff, reduceCtorEq, Int.reduceLE, Int.reduceLT, ne_eq, Int.reduceEq, not_false_eq_true, decide_true, decide_false, Int.reduceToNat, tl3, Int.reduceBNe, Int.reduceBEq, rmK, rm1, not_true_eq_false]
  refine C1.im hr (by rfl) (by rfl) ?_
  simp only [tl, tl2, tl4, ↓un_u, isCallR, entX, argFr, ret, retI, retB, intT, unT, endR, ressR, resR, tupT, bslR, boxR, lenAll, ↓reduceIte, Nat.reduceEqDiff, Nat.reduceAdd, Nat.reduceMul, Nat.reduceLT, Nat.reduceLeDiff, reduceCtorEq, Int.reduceLE, Int.reduceLT, ne_eq, Int.reduceEq, not_false_eq_true, decide_true, decide_false, Int.reduceToNat, tl3, Int.reduceBNe, Int.reduceBEq, rmK, rm1, not_true_eq_false]
  refine C1.im ho (by rfl) (by rfl) ?_
  simp only [tl, tl2, tl4, ↓un_u, isCallR, entX, argFr, ret, retI, retB, intT, unT, endR, ressR, resR, tupT, bslR, boxR, lenAll, ↓reduceIte, Nat.reduceEqDiff, Nat.reduceAdd, Nat.reduceMul, Nat.reduceLT, Nat.reduceLeDiff, reduceCtorEq, Int.reduceLE, Int.reduceLT, ne_eq, Int.reduceEq, not_false_eq_true, decide_true, decide_false, Int.reduceToNat, tl3, Int.reduceBNe, Int.reduceBEq, rmK, rm1, not_true_eq_false, decide_eq_true_eq, decide_eq_false_iff_not, Bool.or_eq_true, Bool.or_eq_false_iff, Bool.and_eq_true, Bool.and_eq_false_iff, bne_iff_ne, bne_eq_false_iff_eq]
  refine ⟨fun h => ?_, fun h => ?_⟩
  · rw [if_neg h]
    refine .of [] [] rfl (by first | rfl | (rw [hst]; rfl)) ?_ ?_
    all_goals (try simp only [ltSto, ltO2, ltO1, ltAs, ltA, ltC, ltC0, ltC0s, ltCs, ltT, ltFr, ltS, wrOk, wrO, TL.get, hasFr, ↓reduceIte, Nat.reduceEqDiff, reduceCtorEq, Option.getD_some, Option.isSome_some, List.length_map, List.length_append, List.length_cons, List.length_nil, List.append_nil, List.mem_singleton, List.mem_cons, List.not_mem_nil, and_true, true_and, and_self, imp_self, forall_const, false_implies, implies_true, true_implies, or_false, Bool.false_eq_true, Bool.true_eq_false, ImXs_nil, true_or, or_true, false_or, false_and, and_false, rmK, rm1, List.map_append, List.map_cons, List.map_nil, List.cons_append, List.nil_append, List.map_nil])
    all_goals (try (repeat' (first | exact ltXs_nil | (apply ltXs_map; intro _; exact ⟨rfl, rfl⟩) | (apply imXs_map; intro _; exact ⟨rfl, rfl⟩) | with_reducible apply imXs_append | with_reducible refine imXs_cons ⟨rfl, rfl⟩ ?_ | exact imXs_nil | with_reducible apply ltXs_append | with_reducible refine ltXs_cons ⟨rfl, rfl, ?_⟩ ?_ | with_reducible apply And.intro | exact ltCs_im rfl | exact ltCs_im (by assumption) | (refine ⟨⟨?_, rfl, ?_, rfl, ?_⟩, trivial⟩ <;> first | (simp; done) | (apply imXs_map; intro _; exact ⟨rfl, rfl⟩)) | trivial | rfl | (rw [i64_succ (by omega)]) | omega)))
  · rw [if_pos h]
    subst h
    refine .of [] [] rfl (by first | rfl | (rw [hst]; rfl)) ?_ ?_
    all_goals (try exact clA)
theorem c_queue_Load (a p : List UInt8) (ha : a.length ≤ 1000000) (hp : p.length ≤ 1000000) : Spc Try.prog F_queue_Load [vF a p] [] (loadT a) [] := by
  obtain ⟨hs, hl⟩ := readB_small a
  have hr := c_journal_Recover a p ha hp
  unfold recS at hr
  unfold loadT
  generalize (readB a).1 = ls at *
  generalize (readB a).2 = m at *
  generalize hq : outsL ls [] = q
  refine spec_of_ir fn_queue_Load mixm (by simp) fun e _ hst => W_start ?_
  unfold ir_queue_Load
  simp only [tl, tl2, tl4, ↓un_u, isCallR, entX, argFr, ret, retI, retB, intT, unT, endR, ressR, resR, tupT, bslR, boxR, lenAll, ↓reduceIte, Nat.reduceEqDiff, Nat.reduceAdd, Nat.reduceMul, Nat.reduceLT, Nat.reduceLeDiff, reduceCtorEq, Int.reduceLE, Int.reduceLT, ne_eq, Int.reduceEq, not_false_eq_true, decide_true, decide_false, Int.reduceToNat, tl3, Int.reduceBNe, Int.reduceBEq, rmK, rm1, not_true_eq_false]
  refine C1.im hr (by rfl) (by rfl) ?_
  simp only [tl, tl2, tl4, ↓un_u, isCallR, entX, argFr, ret, retI, retB, intT, unT, endR, ressR, resR, tupT, bslR, boxR, lenAll, ↓reduceIte, Nat.reduceEqDiff, Nat.reduceAdd, Nat.reduceMul, Nat.reduceLT, Nat.reduceLeDiff, reduceCtorEq, Int.reduceLE, Int.reduceLT, ne_eq, Int.reduceEq, not_false_eq_true, decide_true, decide_false, Int.reduceToNat, tl3, Int.reduceBNe, Int.reduceBEq, rmK, rm1, not_true_eq_false]
  refine W_loopF mixm (α := Nat × List Out) [7, 19] (fun x => x.1 ≤ ls.length ∧ x.2.length ≤ x.1 ∧ q = outsL (ls.drop x.1) x.2) (fun x => [(7, .asl 57356 x.2.length), (19, vI x.1)]) (fun x => [(4100, .arr 2 [.agg [.v (.slice none 0 0), .v (.slice none 0 0)]] false), (8212, .arr 2 [vF (a.take m) []] false), (57356, .arr 7 (x.2.map outT) false)]) (fun x => ls.length - x.1) (0, []) ⟨by omega, Nat.le_refl _, hq.symm⟩ ?_ fun x hx => ?_
  · simp only [List.map_nil]
    refine .of [(4100, some 4100), (8212, some 8212), (57356, none)] [] rfl (by first | rfl | (rw [hst]; rfl)) ?_ ?_
    all_goals (try exact clA)
  obtain ⟨i, l⟩ := x
  obtain ⟨hi, hli, heq⟩ := hx
  dsimp only at hi hli heq
  simp only [tl, tl2, tl4, ↓un_u, isCallR, entX, argFr, ret, retI, retB, intT, unT, endR, ressR, resR, tupT, bslR, boxR, lenAll, ↓reduceIte, Nat.reduceEqDiff, Nat.reduceAdd, Nat.reduceMul, Nat.reduceLT, Nat.reduceLeDiff, reduceCtorEq, Int.reduceLE, Int.reduceLT, ne_eq, Int.reduceEq, not_false_eq_true, decide_true, decide_false, Int.reduceToNat, tl3, Int.reduceBNe, Int.reduceBEq, rmK, rm1, not_true_eq_false, decide_eq_true_eq, decide_eq_false_iff_not]
  refine ⟨fun h3 => ?_, fun h3 => ?_⟩
  · have hi2 : i < ls.length := by omega
    have hwi := i64_succ (i := i) (by omega)
    have hwl := i64_succ (i := l.length) (by omega)
    have hd := decT_eq' ls[i] (by have := hs _ (List.getElem_mem hi2); omega)
    rw [List.drop_eq_getElem_cons hi2, outsL] at heq
    simp only [tl, tl2, tl4, ↓un_u, isCallR, entX, argFr, ret, retI, retB, intT, unT, endR, ressR, resR, tupT, bslR, boxR, lenAll, ↓reduceIte, Nat.reduceEqDiff, Nat.reduceAdd, Nat.reduceMul, Nat.reduceLT, Nat.reduceLeDiff, reduceCtorEq, Int.reduceLE, Int.reduceLT, ne_eq, Int.reduceEq, not_false_eq_true, decide_true, decide_false, Int.reduceToNat, tl3, Int.reduceBNe, Int.reduceBEq, rmK, rm1, not_true_eq_false, Int.toNat_natCast, getD_mapT hi2]
    refine ⟨by omega, ?_⟩
    unfold decTT at hd
    cases hp : decP ls[i] with
    | none =>
      rw [hp] at hd heq
      refine C1.im hd (by rfl) (by rfl) ?_
      dsimp only at heq
      simp only [tl, tl2, tl4, ↓un_u, isCallR, entX, argFr, ret, retI, retB, intT, unT, endR, ressR, resR, tupT, bslR, boxR, lenAll, ↓reduceIte, Nat.reduceEqDiff, Nat.reduceAdd, Nat.reduceMul, Nat.reduceLT, Nat.reduceLeDiff, reduceCtorEq, Int.reduceLE, Int.reduceLT, ne_eq, Int.reduceEq, not_false_eq_true, decide_true, decide_false, Int.reduceToNat, tl3, Int.reduceBNe, Int.reduceBEq, rmK, rm1, not_true_eq_false]
      rw [heq, if_neg (by decide)]
      refine .of [] [] rfl (by first | rfl | (rw [hst]; rfl)) ?_ ?_
      all_goals (try simp only [ltSto, ltO2, ltO1, ltAs, ltA, ltC, ltC0, ltC0s, ltCs, ltT, ltFr, ltS, wrOk, wrO, TL.get, hasFr, ↓reduceIte, Nat.reduceEqDiff, reduceCtorEq, Option.getD_some, Option.isSome_some, List.length_map, List.length_append, List.length_cons, List.length_nil, List.append_nil, List.mem_singleton, List.mem_cons, List.not_mem_nil, and_true, true_and, and_self, imp_self, forall_const, false_implies, implies_true, true_implies, or_false, Bool.false_eq_true, Bool.true_eq_false, ImXs_nil, true_or, or_true, false_or, false_and, and_false, rmK, rm1, List.map_append, List.map_cons, List.map_nil, List.cons_append, List.nil_append, List.map_nil])
      all_goals (try (repeat' (first | exact ltXs_nil | (apply ltXs_map; intro _; exact ⟨rfl, rfl⟩) | (apply imXs_map; intro _; exact ⟨rfl, rfl⟩) | with_reducible apply imXs_append | with_reducible refine imXs_cons ⟨rfl, rfl⟩ ?_ | exact imXs_nil | with_reducible apply ltXs_append | with_reducible refine ltXs_cons ⟨rfl, rfl, ?_⟩ ?_ | with_reducible apply And.intro | exact ltCs_im rfl | exact ltCs_im (by assumption) | (refine ⟨⟨?_, rfl, ?_, rfl, ?_⟩, trivial⟩ <;> first | (simp; done) | (apply imXs_map; intro _; exact ⟨rfl, rfl⟩)) | trivial | rfl | (rw [i64_succ (by omega)]) | omega)))
    | some x =>
      rw [hp] at hd heq
      refine C1.im hd (by rfl) (by rfl) ?_
      dsimp only at heq
      obtain ⟨⟨hx1, hx2⟩, _⟩ := valid_parts (decP_some hp)
      obtain ⟨k, hk⟩ : ∃ k : Nat, x.num = (k : Int) + 1 := ⟨(x.num - 1).toNat, by omega⟩
      have hwn : IntKind.i64.wrap (x.num - 1) = (k : Int) := by rw [IntWalk.i64_in _ (by omega)]; omega
      have hkn : (x.num - 1).toNat = k := by omega
      simp only [tl, tl2, tl4, ↓un_u, isCallR, entX, argFr, ret, retI, retB, intT, unT, endR, ressR, resR, tupT, bslR, boxR, lenAll, ↓reduceIte, Nat.reduceEqDiff, Nat.reduceAdd, Nat.reduceMul, Nat.reduceLT, Nat.reduceLeDiff, reduceCtorEq, Int.reduceLE, Int.reduceLT, ne_eq, Int.reduceEq, not_false_eq_true, decide_true, decide_false, Int.reduceToNat, tl3, Int.reduceBNe, Int.reduceBEq, rmK, rm1, not_true_eq_false, hwl, hwn, hwi, decide_eq_true_eq, decide_eq_false_iff_not, Bool.or_eq_true, Bool.or_eq_false_iff, Bool.and_eq_true, Bool.and_eq_false_iff, beq_iff_eq, beq_eq_false_iff_ne, Int.toNat_natCast]
      refine ⟨fun g1 => ?_, fun g1 => ⟨fun g2 => ?_, fun g2 => ?_⟩⟩
      · rw [if_pos (by omega)] at heq
        rw [heq, if_neg (by decide)]
        refine .of [] [] rfl (by first | rfl | (rw [hst]; rfl)) ?_ ?_
        all_goals (try simp only [ltSto, ltO2, ltO1, ltAs, ltA, ltC, ltC0, ltC0s, ltCs, ltT, ltFr, ltS, wrOk, wrO, TL.get, hasFr, ↓reduceIte, Nat.reduceEqDiff, reduceCtorEq, Option.getD_some, Option.isSome_some, List.length_map, List.length_append, List.length_cons, List.length_nil, List.append_nil, List.mem_singleton, List.mem_cons, List.not_mem_nil, and_true, true_and, and_self, imp_self, forall_const, false_implies, implies_true, true_implies, or_false, Bool.false_eq_true, Bool.true_eq_false, ImXs_nil, true_or, or_true, false_or, false_and, and_false, rmK, rm1, List.map_append, List.map_cons, List.map_nil, List.cons_append, List.nil_append, List.map_nil])
        all_goals (try (repeat' (first | exact ltXs_nil | (apply ltXs_map; intro _; exact ⟨rfl, rfl⟩) | (apply imXs_map; intro _; exact ⟨rfl, rfl⟩) | with_reducible apply imXs_append | with_reducible refine imXs_cons ⟨rfl, rfl⟩ ?_ | exact imXs_nil | with_reducible apply ltXs_append | with_reducible refine ltXs_cons ⟨rfl, rfl, ?_⟩ ?_ | with_reducible apply And.intro | exact ltCs_im rfl | exact ltCs_im (by assumption) | (refine ⟨⟨?_, rfl, ?_, rfl, ?_⟩, trivial⟩ <;> first | (simp; done) | (apply imXs_map; intro _; exact ⟨rfl, rfl⟩)) | trivial | rfl | (rw [i64_succ (by omega)]) | omega)))
      · rw [if_neg (by omega), if_pos (by omega)] at heq
        refine ⟨by omega, (i + 1, l ++ [x]), ⟨by dsimp only; omega, by simp; omega, heq⟩, by dsimp only; omega, ?_⟩
        refine .of [(4100, some 4100), (8212, some 8212), (57356, some 57356)] [] rfl (by first | rfl | (rw [hst]; rfl)) ?_ ?_
        all_goals (try exact clA)
      · rw [if_neg (by omega), if_neg (by omega), hkn] at heq
        have hk2 : k < l.length := by omega
        have hgk : (List.map outT l).getD k .junk = outT l[k] := getD_mapT hk2
        refine ⟨by omega, ⟨hk2, by rw [hgk]; trivial⟩, (i + 1, l.set k x), ⟨by dsimp only; omega, by simp; omega, heq⟩, by dsimp only; omega, ?_⟩
        rw [hgk]
        have hrp : repl (outT l[k]) 0 (.agg [vI x.num, vS x.proj, vS x.res, vI x.tm, vS x.text, vI x.state, vSs x.sigs]) = outT x := rfl
        rw [hrp, ← List.map_set]
        simp only [List.length_set]
        refine .of [(4100, some 4100), (8212, some 8212), (57356, some 57356)] [] rfl (by first | rfl | (rw [hst]; rfl)) ?_ ?_
        all_goals (try exact clA)
  · have hi2 : i = ls.length := by omega
    subst hi2
    rw [List.drop_length, outsL] at heq
    rw [heq, if_pos rfl]
    refine .of [] [57356] rfl (by first | rfl | (rw [hst]; rfl)) ?_ ?_
    all_goals (try exact clA)

end Go.Proofs

