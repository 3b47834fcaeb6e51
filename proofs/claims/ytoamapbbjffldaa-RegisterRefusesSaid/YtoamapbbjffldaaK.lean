import Derived.Test.YtoamapbbjffldaaJ
set_option linter.unusedSimpArgs false
set_option linter.unusedVariables false
namespace Go.Proofs
open Go Go.TL
/-! ltSto, ltO2, ltO1, ltAs, ltA, ltC, ltCs, ltT, ltFr, ltS, wrOk, wrO, TL.get, hasFr, ↓reduceIte, Nat.reduceEqDiff, reduceCtorEq, Option.getD_some, Option.isSome_some, List.length_map, List.length_append, List.length_cons, List.length_nil, List.append_nil, List.mem_singleton, List.mem_cons, List.not_mem_nil, and_true, true_and, and_self, imp_self, forall_const, false_implies, implies_true, true_implies, or_false, Bool.false_eq_true, Bool.true_eq_false, ImXs_nil, true_or, or_true, false_or, false_and, and_false, rmK, rm1# Add -/
def newE (l : List Ent) (kind of_ out : Int) (text : ByteArray) : Ent := ⟨l.length + 1, lastI l, kind, of_, out, text, 0⟩
def linked (x : Ent) : Ent := { x with link := linkI x }
def addA (l : List Ent) (kind of_ out : Int) (text : ByteArray) : List Ent × Int :=
  if chkI l ≠ 0 then (l, chkI l) else if l.length = 60 then (l, 42)
  else if aboutI l (newE l kind of_ out text) ≠ 0 then (l, aboutI l (newE l kind of_ out text)) else (l ++ [linked (newE l kind of_ out text)], 0)
theorem about_size {l : List Ent} {x : Ent} (h : aboutI l x = 0) : x.text.size ≤ 4096 := by
  unfold aboutI at h
  split at h
  · cases h
  · omega
theorem last_nil : lastI [] = 0 := rfl
theorem last_get {l : List Ent} (h : 0 < l.length) : lastI l = (l[l.length - 1]'(by omega)).link := by
  unfold lastI
  rw [List.getLast?_eq_getElem?, List.getElem?_eq_getElem (by omega)]
theorem c_register_Add (l : List Ent) (kind of_ out : Int) (text : ByteArray) (hl : l.length < 1000000000000) (hs : small l) :
    Spc Try.prog F_register_Add [vEs l, vI kind, vI of_, vI out, vS text] [] (.tup [vEs (addA l kind of_ out text).1, vI (addA l kind of_ out text).2]) [] := by
  refine spec_of_ir fn_register_Add mixm (by simp) fun e _ hst => W_start ?_
  unfold ir_register_Add
  simp only [tl, tl2, isCallR, entX, argFr, ret, retI, retB, intT, unT, endR, ressR, resR, tupT, bslR, boxR, lenAll, ↓reduceIte, Nat.reduceEqDiff, Nat.reduceAdd, Nat.reduceMul, Nat.reduceLT, Nat.reduceLeDiff, reduceCtorEq, Int.reduceLE, Int.reduceLT, ne_eq, Int.reduceEq, not_false_eq_true, decide_true, decide_false, Int.reduceToNat, tl3, Int.reduceBNe, Int.reduceBEq, rmK, rm1, not_true_eq_false]
  refine C1.fresh 8196 (c_slices_Clone_Entry l hl) rfl (by apply imXs_map; intro _; exact ⟨rfl, rfl⟩) rfl ?_
  simp only [tl, tl2, isCallR, entX, argFr, ret, retI, retB, intT, unT, endR, ressR, resR, tupT, bslR, boxR, lenAll, ↓reduceIte, Nat.reduceEqDiff, Nat.reduceAdd, Nat.reduceMul, Nat.reduceLT, Nat.reduceLeDiff, reduceCtorEq, Int.reduceLE, Int.reduceLT, ne_eq, Int.reduceEq, not_false_eq_true, decide_true, decide_false, Int.reduceToNat, tl3, Int.reduceBNe, Int.reduceBEq, rmK, rm1, not_true_eq_false]
  refine C1.im (c_register_Check l (by omega) hs) rfl (by rfl) ?_
  simp only [tl, tl2, isCallR, entX, argFr, ret, retI, retB, intT, unT, endR, ressR, resR, tupT, bslR, boxR, lenAll, ↓reduceIte, Nat.reduceEqDiff, Nat.reduceAdd, Nat.reduceMul, Nat.reduceLT, Nat.reduceLeDiff, reduceCtorEq, Int.reduceLE, Int.reduceLT, ne_eq, Int.reduceEq, not_false_eq_true, decide_true, decide_false, Int.reduceToNat, tl3, Int.reduceBNe, Int.reduceBEq, rmK, rm1, not_true_eq_false, bne_iff_ne, bne_eq_false_iff_eq, beq_iff_eq, beq_eq_false_iff_ne]
  refine ⟨fun h1 => ?_, fun h1 => ?_⟩
  · rw [addA, if_pos h1]
    refine .of [] [8196] rfl (by first | rfl | (rw [hst]; rfl)) ?_ ?_
    all_goals (try simp only [ltSto, ltO2, ltO1, ltAs, ltA, ltC, ltCs, ltT, ltFr, ltS, wrOk, wrO, TL.get, hasFr, ↓reduceIte, Nat.reduceEqDiff, reduceCtorEq, Option.getD_some, Option.isSome_some, List.length_map, List.length_append, List.length_cons, List.length_nil, List.append_nil, List.mem_singleton, List.mem_cons, List.not_mem_nil, and_true, true_and, and_self, imp_self, forall_const, false_implies, implies_true, true_implies, or_false, Bool.false_eq_true, Bool.true_eq_false, ImXs_nil, true_or, or_true, false_or, false_and, and_false, rmK, rm1, List.map_append, List.map_cons, List.map_nil, List.cons_append, List.nil_append])
    all_goals (try (repeat' (first
        | exact ltXs_nil
        | (apply ltXs_map; intro _; exact ⟨rfl, rfl⟩)
        | (apply imXs_map; intro _; exact ⟨rfl, rfl⟩)
        | with_reducible apply imXs_append
        | with_reducible refine imXs_cons ⟨rfl, rfl⟩ ?_
        | exact imXs_nil
        | with_reducible apply ltXs_append
        | with_reducible refine ltXs_cons ⟨rfl, rfl, ?_⟩ ?_
        | with_reducible apply And.intro
        | exact ltCs_im rfl
        | exact ltCs_im (by assumption)
        | (refine ⟨⟨?_, rfl, ?_, rfl, ?_⟩, trivial⟩ <;> first | (simp; done) | (apply imXs_map; intro _; exact ⟨rfl, rfl⟩))
        | trivial
        | rfl
        | (rw [i64_succ (by omega)])
        | omega)))
  refine ⟨fun h2 => ?_, fun h2 => ?_⟩
  · rw [addA, if_neg (fun h => h h1), if_pos (by omega)]
    refine .of [] [8196] rfl (by first | rfl | (rw [hst]; rfl)) ?_ ?_
    all_goals (try simp only [ltSto, ltO2, ltO1, ltAs, ltA, ltC, ltCs, ltT, ltFr, ltS, wrOk, wrO, TL.get, hasFr, ↓reduceIte, Nat.reduceEqDiff, reduceCtorEq, Option.getD_some, Option.isSome_some, List.length_map, List.length_append, List.length_cons, List.length_nil, List.append_nil, List.mem_singleton, List.mem_cons, List.not_mem_nil, and_true, true_and, and_self, imp_self, forall_const, false_implies, implies_true, true_implies, or_false, Bool.false_eq_true, Bool.true_eq_false, ImXs_nil, true_or, or_true, false_or, false_and, and_false, rmK, rm1, List.map_append, List.map_cons, List.map_nil, List.cons_append, List.nil_append])
    all_goals (try (repeat' (first
        | exact ltXs_nil
        | (apply ltXs_map; intro _; exact ⟨rfl, rfl⟩)
        | (apply imXs_map; intro _; exact ⟨rfl, rfl⟩)
        | with_reducible apply imXs_append
        | with_reducible refine imXs_cons ⟨rfl, rfl⟩ ?_
        | exact imXs_nil
        | with_reducible apply ltXs_append
        | with_reducible refine ltXs_cons ⟨rfl, rfl, ?_⟩ ?_
        | with_reducible apply And.intro
        | exact ltCs_im rfl
        | exact ltCs_im (by assumption)
        | (refine ⟨⟨?_, rfl, ?_, rfl, ?_⟩, trivial⟩ <;> first | (simp; done) | (apply imXs_map; intro _; exact ⟨rfl, rfl⟩))
        | trivial
        | rfl
        | (rw [i64_succ (by omega)])
        | omega)))
  have hlen := chk_len h1
  refine C1.im (c_register_last l (by omega)) rfl (by rfl) ?_
  have hw : IntKind.i64.wrap ((l.length : Int) + 1) = (l.length : Int) + 1 := IntWalk.i64_in _ (by omega)
  simp only [tl, tl2, isCallR, entX, argFr, ret, retI, retB, intT, unT, endR, ressR, resR, tupT, bslR, boxR, lenAll, ↓reduceIte, Nat.reduceEqDiff, Nat.reduceAdd, Nat.reduceMul, Nat.reduceLT, Nat.reduceLeDiff, reduceCtorEq, Int.reduceLE, Int.reduceLT, ne_eq, Int.reduceEq, not_false_eq_true, decide_true, decide_false, Int.reduceToNat, tl3, Int.reduceBNe, Int.reduceBEq, rmK, rm1, not_true_eq_false, hw]
  obtain ⟨x, hx⟩ : ∃ x, x = newE l kind of_ out text := ⟨_, rfl⟩
  have hfe : fitsI l x = aboutI l x := fits_eq (chk_ok h1)
  have hxt : T.agg [vI ((l.length : Int) + 1), vU (lastI l), vI kind, vI of_, vI out, vS text, vU 0] = entT x := by rw [hx]; rfl
  rw [hxt]
  refine C1.im (c_register_fits l x (by omega)) rfl (by rfl) ?_
  simp only [tl, tl2, isCallR, entX, argFr, ret, retI, retB, intT, unT, endR, ressR, resR, tupT, bslR, boxR, lenAll, ↓reduceIte, Nat.reduceEqDiff, Nat.reduceAdd, Nat.reduceMul, Nat.reduceLT, Nat.reduceLeDiff, reduceCtorEq, Int.reduceLE, Int.reduceLT, ne_eq, Int.reduceEq, not_false_eq_true, decide_true, decide_false, Int.reduceToNat, tl3, Int.reduceBNe, Int.reduceBEq, rmK, rm1, not_true_eq_false, hfe, bne_iff_ne, bne_eq_false_iff_eq]
  refine ⟨fun h3 => ?_, fun h3 => ?_⟩
  · rw [addA, if_neg (fun h => h h1), if_neg (by omega), ← hx, if_pos h3]
    refine .of [] [8196] rfl (by first | rfl | (rw [hst]; rfl)) ?_ ?_
    all_goals (try simp only [ltSto, ltO2, ltO1, ltAs, ltA, ltC, ltCs, ltT, ltFr, ltS, wrOk, wrO, TL.get, hasFr, ↓reduceIte, Nat.reduceEqDiff, reduceCtorEq, Option.getD_some, Option.isSome_some, List.length_map, List.length_append, List.length_cons, List.length_nil, List.append_nil, List.mem_singleton, List.mem_cons, List.not_mem_nil, and_true, true_and, and_self, imp_self, forall_const, false_implies, implies_true, true_implies, or_false, Bool.false_eq_true, Bool.true_eq_false, ImXs_nil, true_or, or_true, false_or, false_and, and_false, rmK, rm1, List.map_append, List.map_cons, List.map_nil, List.cons_append, List.nil_append])
    all_goals (try (repeat' (first
        | exact ltXs_nil
        | (apply ltXs_map; intro _; exact ⟨rfl, rfl⟩)
        | (apply imXs_map; intro _; exact ⟨rfl, rfl⟩)
        | with_reducible apply imXs_append
        | with_reducible refine imXs_cons ⟨rfl, rfl⟩ ?_
        | exact imXs_nil
        | with_reducible apply ltXs_append
        | with_reducible refine ltXs_cons ⟨rfl, rfl, ?_⟩ ?_
        | with_reducible apply And.intro
        | exact ltCs_im rfl
        | exact ltCs_im (by assumption)
        | (refine ⟨⟨?_, rfl, ?_, rfl, ?_⟩, trivial⟩ <;> first | (simp; done) | (apply imXs_map; intro _; exact ⟨rfl, rfl⟩))
        | trivial
        | rfl
        | (rw [i64_succ (by omega)])
        | omega)))
  have hsz := about_size h3
  simp only [tl, tl2, isCallR, entX, argFr, ret, retI, retB, intT, unT, endR, ressR, resR, tupT, bslR, boxR, lenAll, ↓reduceIte, Nat.reduceEqDiff, Nat.reduceAdd, Nat.reduceMul, Nat.reduceLT, Nat.reduceLeDiff, reduceCtorEq, Int.reduceLE, Int.reduceLT, ne_eq, Int.reduceEq, not_false_eq_true, decide_true, decide_false, Int.reduceToNat, tl3, Int.reduceBNe, Int.reduceBEq, rmK, rm1, not_true_eq_false, ent_all]
  refine C1.im (c_register_Link x (by omega)) rfl (by rfl) ?_
  have hlx : T.agg [vI x.num, vU x.before, vI x.kind, vI x.of_, vI x.out, T.v (.string x.text), vU (linkI x)] = entT (linked x) := by simp only [entT, linked]
  simp only [tl, tl2, isCallR, entX, argFr, ret, retI, retB, intT, unT, endR, ressR, resR, tupT, bslR, boxR, lenAll, ↓reduceIte, Nat.reduceEqDiff, Nat.reduceAdd, Nat.reduceMul, Nat.reduceLT, Nat.reduceLeDiff, reduceCtorEq, Int.reduceLE, Int.reduceLT, ne_eq, Int.reduceEq, not_false_eq_true, decide_true, decide_false, Int.reduceToNat, tl3, Int.reduceBNe, Int.reduceBEq, rmK, rm1, not_true_eq_false, entT]
  rw [addA, if_neg (fun h => h h1), if_neg (by omega), ← hx, if_neg (fun h => h h3)]
  simp only [hlx]
  refine ⟨by omega, ?_⟩
  refine .of [] [8196] rfl (by first | rfl | (rw [hst]; rfl)) ?_ ?_
  all_goals (try simp only [ltSto, ltO2, ltO1, ltAs, ltA, ltC, ltCs, ltT, ltFr, ltS, wrOk, wrO, TL.get, hasFr, ↓reduceIte, Nat.reduceEqDiff, reduceCtorEq, Option.getD_some, Option.isSome_some, List.length_map, List.length_append, List.length_cons, List.length_nil, List.append_nil, List.mem_singleton, List.mem_cons, List.not_mem_nil, and_true, true_and, and_self, imp_self, forall_const, false_implies, implies_true, true_implies, or_false, Bool.false_eq_true, Bool.true_eq_false, ImXs_nil, true_or, or_true, false_or, false_and, and_false, rmK, rm1, List.map_append, List.map_cons, List.map_nil, List.cons_append, List.nil_append])
  all_goals (try (repeat' (first
      | exact ltXs_nil
      | (apply ltXs_map; intro _; exact ⟨rfl, rfl⟩)
      | (apply imXs_map; intro _; exact ⟨rfl, rfl⟩)
      | with_reducible apply imXs_append
      | with_reducible refine imXs_cons ⟨rfl, rfl⟩ ?_
      | exact imXs_nil
      | with_reducible apply ltXs_append
      | with_reducible refine ltXs_cons ⟨rfl, rfl, ?_⟩ ?_
      | with_reducible apply And.intro
      | exact ltCs_im rfl
      | exact ltCs_im (by assumption)
      | (refine ⟨⟨?_, rfl, ?_, rfl, ?_⟩, trivial⟩ <;> first | (simp; done) | (apply imXs_map; intro _; exact ⟨rfl, rfl⟩))
      | trivial
      | rfl
      | (rw [i64_succ (by omega)])
      | omega)))
theorem c_ref38_Add (l : List Ent) (kind of_ out : Int) (text : ByteArray) (hl : l.length < 1000000000000) (hs : small l) :
    Spc Try.prog F_ref38_Add [vEs l, vI kind, vI of_, vI out, vS text] [] (.tup [vEs (addA l kind of_ out text).1, vI (addA l kind of_ out text).2]) [] := by
  refine spec_of_ir fn_ref38_Add mixm (by simp) fun e _ hst => W_start ?_
  unfold ir_ref38_Add
  simp only [tl, tl2, isCallR, entX, argFr, ret, retI, retB, intT, unT, endR, ressR, resR, tupT, bslR, boxR, lenAll, ↓reduceIte, Nat.reduceEqDiff, Nat.reduceAdd, Nat.reduceMul, Nat.reduceLT, Nat.reduceLeDiff, reduceCtorEq, Int.reduceLE, Int.reduceLT, ne_eq, Int.reduceEq, not_false_eq_true, decide_true, decide_false, Int.reduceToNat, tl3, Int.reduceBNe, Int.reduceBEq, rmK, rm1, not_true_eq_false]
  refine ⟨by omega, ?_⟩
  refine C1.im (c_ref38_Check l (by omega) hs) rfl (by rfl) ?_
  simp only [tl, tl2, isCallR, entX, argFr, ret, retI, retB, intT, unT, endR, ressR, resR, tupT, bslR, boxR, lenAll, ↓reduceIte, Nat.reduceEqDiff, Nat.reduceAdd, Nat.reduceMul, Nat.reduceLT, Nat.reduceLeDiff, reduceCtorEq, Int.reduceLE, Int.reduceLT, ne_eq, Int.reduceEq, not_false_eq_true, decide_true, decide_false, Int.reduceToNat, tl3, Int.reduceBNe, Int.reduceBEq, rmK, rm1, not_true_eq_false, bne_iff_ne, bne_eq_false_iff_eq, beq_iff_eq, beq_eq_false_iff_ne]
  refine ⟨fun h1 => ?_, fun h1 => ?_⟩
  · rw [addA, if_pos h1]
    refine .of [] [8192] rfl (by first | rfl | (rw [hst]; rfl)) ?_ ?_
    all_goals (try simp only [ltSto, ltO2, ltO1, ltAs, ltA, ltC, ltCs, ltT, ltFr, ltS, wrOk, wrO, TL.get, hasFr, ↓reduceIte, Nat.reduceEqDiff, reduceCtorEq, Option.getD_some, Option.isSome_some, List.length_map, List.length_append, List.length_cons, List.length_nil, List.append_nil, List.mem_singleton, List.mem_cons, List.not_mem_nil, and_true, true_and, and_self, imp_self, forall_const, false_implies, implies_true, true_implies, or_false, Bool.false_eq_true, Bool.true_eq_false, ImXs_nil, true_or, or_true, false_or, false_and, and_false, rmK, rm1, List.map_append, List.map_cons, List.map_nil, List.cons_append, List.nil_append])
    all_goals (try (repeat' (first
        | exact ltXs_nil
        | (apply ltXs_map; intro _; exact ⟨rfl, rfl⟩)
        | (apply imXs_map; intro _; exact ⟨rfl, rfl⟩)
        | with_reducible apply imXs_append
        | with_reducible refine imXs_cons ⟨rfl, rfl⟩ ?_
        | exact imXs_nil
        | with_reducible apply ltXs_append
        | with_reducible refine ltXs_cons ⟨rfl, rfl, ?_⟩ ?_
        | with_reducible apply And.intro
        | exact ltCs_im rfl
        | exact ltCs_im (by assumption)
        | (refine ⟨⟨?_, rfl, ?_, rfl, ?_⟩, trivial⟩ <;> first | (simp; done) | (apply imXs_map; intro _; exact ⟨rfl, rfl⟩))
        | trivial
        | rfl
        | (rw [i64_succ (by omega)])
        | omega)))
  refine ⟨fun h2 => ?_, fun h2 => ?_⟩
  · rw [addA, if_neg (fun h => h h1), if_pos (by omega)]
    refine .of [] [8192] rfl (by first | rfl | (rw [hst]; rfl)) ?_ ?_
    all_goals (try simp only [ltSto, ltO2, ltO1, ltAs, ltA, ltC, ltCs, ltT, ltFr, ltS, wrOk, wrO, TL.get, hasFr, ↓reduceIte, Nat.reduceEqDiff, reduceCtorEq, Option.getD_some, Option.isSome_some, List.length_map, List.length_append, List.length_cons, List.length_nil, List.append_nil, List.mem_singleton, List.mem_cons, List.not_mem_nil, and_true, true_and, and_self, imp_self, forall_const, false_implies, implies_true, true_implies, or_false, Bool.false_eq_true, Bool.true_eq_false, ImXs_nil, true_or, or_true, false_or, false_and, and_false, rmK, rm1, List.map_append, List.map_cons, List.map_nil, List.cons_append, List.nil_append])
    all_goals (try (repeat' (first
        | exact ltXs_nil
        | (apply ltXs_map; intro _; exact ⟨rfl, rfl⟩)
        | (apply imXs_map; intro _; exact ⟨rfl, rfl⟩)
        | with_reducible apply imXs_append
        | with_reducible refine imXs_cons ⟨rfl, rfl⟩ ?_
        | exact imXs_nil
        | with_reducible apply ltXs_append
        | with_reducible refine ltXs_cons ⟨rfl, rfl, ?_⟩ ?_
        | with_reducible apply And.intro
        | exact ltCs_im rfl
        | exact ltCs_im (by assumption)
        | (refine ⟨⟨?_, rfl, ?_, rfl, ?_⟩, trivial⟩ <;> first | (simp; done) | (apply imXs_map; intro _; exact ⟨rfl, rfl⟩))
        | trivial
        | rfl
        | (rw [i64_succ (by omega)])
        | omega)))
  have hlen := chk_len h1
  have hw : IntKind.i64.wrap ((l.length : Int) + 1) = (l.length : Int) + 1 := IntWalk.i64_in _ (by omega)
  simp only [tl, tl2, isCallR, entX, argFr, ret, retI, retB, intT, unT, endR, ressR, resR, tupT, bslR, boxR, lenAll, ↓reduceIte, Nat.reduceEqDiff, Nat.reduceAdd, Nat.reduceMul, Nat.reduceLT, Nat.reduceLeDiff, reduceCtorEq, Int.reduceLE, Int.reduceLT, ne_eq, Int.reduceEq, not_false_eq_true, decide_true, decide_false, Int.reduceToNat, tl3, Int.reduceBNe, Int.reduceBEq, rmK, rm1, not_true_eq_false, decide_eq_true_eq, decide_eq_false_iff_not, hw]
  obtain ⟨x, hx⟩ : ∃ x, x = newE l kind of_ out text := ⟨_, rfl⟩
  have hlx : T.agg [vI x.num, vU x.before, vI x.kind, vI x.of_, vI x.out, T.v (.string x.text), vU (linkI x)] = entT (linked x) := by simp only [entT, linked]
  refine ⟨fun h2 => ?_, fun h2 => ?_⟩
  · have h4 : l.length - 1 < l.length := by omega
    have hw2 := i64_pred (i := l.length) (by omega) (by omega)
    simp only [tl, tl2, isCallR, entX, argFr, ret, retI, retB, intT, unT, endR, ressR, resR, tupT, bslR, boxR, lenAll, ↓reduceIte, Nat.reduceEqDiff, Nat.reduceAdd, Nat.reduceMul, Nat.reduceLT, Nat.reduceLeDiff, reduceCtorEq, Int.reduceLE, Int.reduceLT, ne_eq, Int.reduceEq, not_false_eq_true, decide_true, decide_false, Int.reduceToNat, tl3, Int.reduceBNe, Int.reduceBEq, rmK, rm1, not_true_eq_false, hw2, Int.toNat_natCast, getD_mapT h4, entT]
    refine ⟨by omega, ?_⟩
    have hxt : T.agg [vI ((l.length : Int) + 1), vU (l[l.length - 1]).link, vI kind, vI of_, vI out, vS text, vU 0] = entT x := by rw [hx, ← last_get (by omega)]; rfl
    rw [hxt]
    refine C1.im (c_ref38_about l x (by omega)) rfl (by rfl) ?_
    simp only [tl, tl2, isCallR, entX, argFr, ret, retI, retB, intT, unT, endR, ressR, resR, tupT, bslR, boxR, lenAll, ↓reduceIte, Nat.reduceEqDiff, Nat.reduceAdd, Nat.reduceMul, Nat.reduceLT, Nat.reduceLeDiff, reduceCtorEq, Int.reduceLE, Int.reduceLT, ne_eq, Int.reduceEq, not_false_eq_true, decide_true, decide_false, Int.reduceToNat, tl3, Int.reduceBNe, Int.reduceBEq, rmK, rm1, not_true_eq_false, bne_iff_ne, bne_eq_false_iff_eq]
    refine ⟨fun h3 => ?_, fun h3 => ?_⟩
    · rw [addA, if_neg (fun h => h h1), if_neg (by omega), ← hx, if_pos h3]
      refine .of [] [8192] rfl (by first | rfl | (rw [hst]; rfl)) ?_ ?_
      all_goals (try simp only [ltSto, ltO2, ltO1, ltAs, ltA, ltC, ltCs, ltT, ltFr, ltS, wrOk, wrO, TL.get, hasFr, ↓reduceIte, Nat.reduceEqDiff, reduceCtorEq, Option.getD_some, Option.isSome_some, List.length_map, List.length_append, List.length_cons, List.length_nil, List.append_nil, List.mem_singleton, List.mem_cons, List.not_mem_nil, and_true, true_and, and_self, imp_self, forall_const, false_implies, implies_true, true_implies, or_false, Bool.false_eq_true, Bool.true_eq_false, ImXs_nil, true_or, or_true, false_or, false_and, and_false, rmK, rm1, List.map_append, List.map_cons, List.map_nil, List.cons_append, List.nil_append])
      all_goals (try (repeat' (first
          | exact ltXs_nil
          | (apply ltXs_map; intro _; exact ⟨rfl, rfl⟩)
          | (apply imXs_map; intro _; exact ⟨rfl, rfl⟩)
          | with_reducible apply imXs_append
          | with_reducible refine imXs_cons ⟨rfl, rfl⟩ ?_
          | exact imXs_nil
          | with_reducible apply ltXs_append
          | with_reducible refine ltXs_cons ⟨rfl, rfl, ?_⟩ ?_
          | with_reducible apply And.intro
          | exact ltCs_im rfl
          | exact ltCs_im (by assumption)
          | (refine ⟨⟨?_, rfl, ?_, rfl, ?_⟩, trivial⟩ <;> first | (simp; done) | (apply imXs_map; intro _; exact ⟨rfl, rfl⟩))
          | trivial
          | rfl
          | (rw [i64_succ (by omega)])
          | omega)))
    have hsz := about_size h3
    simp only [tl, tl2, isCallR, entX, argFr, ret, retI, retB, intT, unT, endR, ressR, resR, tupT, bslR, boxR, lenAll, ↓reduceIte, Nat.reduceEqDiff, Nat.reduceAdd, Nat.reduceMul, Nat.reduceLT, Nat.reduceLeDiff, reduceCtorEq, Int.reduceLE, Int.reduceLT, ne_eq, Int.reduceEq, not_false_eq_true, decide_true, decide_false, Int.reduceToNat, tl3, Int.reduceBNe, Int.reduceBEq, rmK, rm1, not_true_eq_false, ent_all]
    refine C1.im (c_ref38_Link x (by omega)) rfl (by rfl) ?_
    simp only [tl, tl2, isCallR, entX, argFr, ret, retI, retB, intT, unT, endR, ressR, resR, tupT, bslR, boxR, lenAll, ↓reduceIte, Nat.reduceEqDiff, Nat.reduceAdd, Nat.reduceMul, Nat.reduceLT, Nat.reduceLeDiff, reduceCtorEq, Int.reduceLE, Int.reduceLT, ne_eq, Int.reduceEq, not_false_eq_true, decide_true, decide_false, Int.reduceToNat, tl3, Int.reduceBNe, Int.reduceBEq, rmK, rm1, not_true_eq_false, entT]
    rw [addA, if_neg (fun h => h h1), if_neg (by omega), ← hx, if_neg (fun h => h h3)]
    simp only [hlx]
    refine ⟨by omega, ?_⟩
    refine .of [] [8192] rfl (by first | rfl | (rw [hst]; rfl)) ?_ ?_
    all_goals (try simp only [ltSto, ltO2, ltO1, ltAs, ltA, ltC, ltCs, ltT, ltFr, ltS, wrOk, wrO, TL.get, hasFr, ↓reduceIte, Nat.reduceEqDiff, reduceCtorEq, Option.getD_some, Option.isSome_some, List.length_map, List.length_append, List.length_cons, List.length_nil, List.append_nil, List.mem_singleton, List.mem_cons, List.not_mem_nil, and_true, true_and, and_self, imp_self, forall_const, false_implies, implies_true, true_implies, or_false, Bool.false_eq_true, Bool.true_eq_false, ImXs_nil, true_or, or_true, false_or, false_and, and_false, rmK, rm1, List.map_append, List.map_cons, List.map_nil, List.cons_append, List.nil_append])
    all_goals (try (repeat' (first
        | exact ltXs_nil
        | (apply ltXs_map; intro _; exact ⟨rfl, rfl⟩)
        | (apply imXs_map; intro _; exact ⟨rfl, rfl⟩)
        | with_reducible apply imXs_append
        | with_reducible refine imXs_cons ⟨rfl, rfl⟩ ?_
        | exact imXs_nil
        | with_reducible apply ltXs_append
        | with_reducible refine ltXs_cons ⟨rfl, rfl, ?_⟩ ?_
        | with_reducible apply And.intro
        | exact ltCs_im rfl
        | exact ltCs_im (by assumption)
        | (refine ⟨⟨?_, rfl, ?_, rfl, ?_⟩, trivial⟩ <;> first | (simp; done) | (apply imXs_map; intro _; exact ⟨rfl, rfl⟩))
        | trivial
        | rfl
        | (rw [i64_succ (by omega)])
        | omega)))
  · have h4 : l = [] := List.eq_nil_of_length_eq_zero (by omega)
    have hxt : T.agg [vI ((l.length : Int) + 1), vU 0, vI kind, vI of_, vI out, vS text, vU 0] = entT x := by rw [hx, h4]; rfl
    rw [hxt]
    refine C1.im (c_ref38_about l x (by omega)) rfl (by rfl) ?_
    simp only [tl, tl2, isCallR, entX, argFr, ret, retI, retB, intT, unT, endR, ressR, resR, tupT, bslR, boxR, lenAll, ↓reduceIte, Nat.reduceEqDiff, Nat.reduceAdd, Nat.reduceMul, Nat.reduceLT, Nat.reduceLeDiff, reduceCtorEq, Int.reduceLE, Int.reduceLT, ne_eq, Int.reduceEq, not_false_eq_true, decide_true, decide_false, Int.reduceToNat, tl3, Int.reduceBNe, Int.reduceBEq, rmK, rm1, not_true_eq_false, bne_iff_ne, bne_eq_false_iff_eq]
    refine ⟨fun h3 => ?_, fun h3 => ?_⟩
    · rw [addA, if_neg (fun h => h h1), if_neg (by omega), ← hx, if_pos h3]
      refine .of [] [8192] rfl (by first | rfl | (rw [hst]; rfl)) ?_ ?_
      all_goals (try simp only [ltSto, ltO2, ltO1, ltAs, ltA, ltC, ltCs, ltT, ltFr, ltS, wrOk, wrO, TL.get, hasFr, ↓reduceIte, Nat.reduceEqDiff, reduceCtorEq, Option.getD_some, Option.isSome_some, List.length_map, List.length_append, List.length_cons, List.length_nil, List.append_nil, List.mem_singleton, List.mem_cons, List.not_mem_nil, and_true, true_and, and_self, imp_self, forall_const, false_implies, implies_true, true_implies, or_false, Bool.false_eq_true, Bool.true_eq_false, ImXs_nil, true_or, or_true, false_or, false_and, and_false, rmK, rm1, List.map_append, List.map_cons, List.map_nil, List.cons_append, List.nil_append])
      all_goals (try (repeat' (first
          | exact ltXs_nil
          | (apply ltXs_map; intro _; exact ⟨rfl, rfl⟩)
          | (apply imXs_map; intro _; exact ⟨rfl, rfl⟩)
          | with_reducible apply imXs_append
          | with_reducible refine imXs_cons ⟨rfl, rfl⟩ ?_
          | exact imXs_nil
          | with_reducible apply ltXs_append
          | with_reducible refine ltXs_cons ⟨rfl, rfl, ?_⟩ ?_
          | with_reducible apply And.intro
          | exact ltCs_im rfl
          | exact ltCs_im (by assumption)
          | (refine ⟨⟨?_, rfl, ?_, rfl, ?_⟩, trivial⟩ <;> first | (simp; done) | (apply imXs_map; intro _; exact ⟨rfl, rfl⟩))
          | trivial
          | rfl
          | (rw [i64_succ (by omega)])
          | omega)))
    have hsz := about_size h3
    simp only [tl, tl2, isCallR, entX, argFr, ret, retI, retB, intT, unT, endR, ressR, resR, tupT, bslR, boxR, lenAll, ↓reduceIte, Nat.reduceEqDiff, Nat.reduceAdd, Nat.reduceMul, Nat.reduceLT, Nat.reduceLeDiff, reduceCtorEq, Int.reduceLE, Int.reduceLT, ne_eq, Int.reduceEq, not_false_eq_true, decide_true, decide_false, Int.reduceToNat, tl3, Int.reduceBNe, Int.reduceBEq, rmK, rm1, not_true_eq_false, ent_all]
    refine C1.im (c_ref38_Link x (by omega)) rfl (by rfl) ?_
    simp only [tl, tl2, isCallR, entX, argFr, ret, retI, retB, intT, unT, endR, ressR, resR, tupT, bslR, boxR, lenAll, ↓reduceIte, Nat.reduceEqDiff, Nat.reduceAdd, Nat.reduceMul, Nat.reduceLT, Nat.reduceLeDiff, reduceCtorEq, Int.reduceLE, Int.reduceLT, ne_eq, Int.reduceEq, not_false_eq_true, decide_true, decide_false, Int.reduceToNat, tl3, Int.reduceBNe, Int.reduceBEq, rmK, rm1, not_true_eq_false, entT]
    rw [addA, if_neg (fun h => h h1), if_neg (by omega), ← hx, if_neg (fun h => h h3)]
    simp only [hlx]
    refine ⟨by omega, ?_⟩
    refine .of [] [8192] rfl (by first | rfl | (rw [hst]; rfl)) ?_ ?_
    all_goals (try simp only [ltSto, ltO2, ltO1, ltAs, ltA, ltC, ltCs, ltT, ltFr, ltS, wrOk, wrO, TL.get, hasFr, ↓reduceIte, Nat.reduceEqDiff, reduceCtorEq, Option.getD_some, Option.isSome_some, List.length_map, List.length_append, List.length_cons, List.length_nil, List.append_nil, List.mem_singleton, List.mem_cons, List.not_mem_nil, and_true, true_and, and_self, imp_self, forall_const, false_implies, implies_true, true_implies, or_false, Bool.false_eq_true, Bool.true_eq_false, ImXs_nil, true_or, or_true, false_or, false_and, and_false, rmK, rm1, List.map_append, List.map_cons, List.map_nil, List.cons_append, List.nil_append])
    all_goals (try (repeat' (first
        | exact ltXs_nil
        | (apply ltXs_map; intro _; exact ⟨rfl, rfl⟩)
        | (apply imXs_map; intro _; exact ⟨rfl, rfl⟩)
        | with_reducible apply imXs_append
        | with_reducible refine imXs_cons ⟨rfl, rfl⟩ ?_
        | exact imXs_nil
        | with_reducible apply ltXs_append
        | with_reducible refine ltXs_cons ⟨rfl, rfl, ?_⟩ ?_
        | with_reducible apply And.intro
        | exact ltCs_im rfl
        | exact ltCs_im (by assumption)
        | (refine ⟨⟨?_, rfl, ?_, rfl, ?_⟩, trivial⟩ <;> first | (simp; done) | (apply imXs_map; intro _; exact ⟨rfl, rfl⟩))
        | trivial
        | rfl
        | (rw [i64_succ (by omega)])
        | omega)))

end Go.Proofs

