import Derived.Test.YtnejebkdlofdoaaF35
set_option linter.unusedSimpArgs false
set_option linter.unusedVariables false
namespace Go.Proofs
open Go Go.TL
/-! ltSto, ltO2, ltO1, ltAs, ltA, ltC, ltC0, ltC0s, ltCs, ltT, ltFr, ltS, wrOk, wrO, TL.get, hasFr, ↓reduceIte, Nat.reduceEqDiff, reduceCtorEq, Option.getD_some, Option.isSome_some, List.length_map, List.length_append, List.length_cons, List.length_nil, List.append_nil, List.mem_singleton, List.mem_cons, List.not_mem_nil, and_true, true_and, and_self, imp_self, forall_const, false_implies, implies_true, true_implies, or_false, Bool.false_eq_true, Bool.true_eq_false, ImXs_nil, true_or, or_true, false_or, false_and, and_false, rmK, rm1# an output is written -/
def encP (x : Out) : List (List UInt8) := [five x.num, txtB x.proj, txtB x.res, five x.tm, txtB x.text, five x.state, five x.sigs.length ++ x.sigs.flatMap sigB]
def encK (x : Out) (i : Nat) : List UInt8 := ((encP x).take i).flatten
theorem encK_7 (x : Out) : encK x 7 = encB x := by
  simp [encK, encP, encB]
theorem txt_length (t : ByteArray) : (txtB t).length = 5 + t.size := by
  have hsz : t.size = t.data.toList.length := by rw [Array.length_toList]; rfl
  rw [txtB, List.length_append, five_length, hsz]
theorem encK_small {x : Out} (h : validO x = true) (i : Nat) (hi : i ≤ 6) : (encK x i).length ≤ 2000 := by
  obtain ⟨_, h2, h3, _, h5, _⟩ := valid_parts h
  have n2 := name_size h2
  have n3 := name_size h3
  have : i = 0 ∨ i = 1 ∨ i = 2 ∨ i = 3 ∨ i = 4 ∨ i = 5 ∨ i = 6 := by omega
  rcases this with h | h | h | h | h | h | h <;> subst h <;> simp [encK, encP, five_length, txt_length] <;> omega
theorem c_queue_Encode (x : Out) (hl : x.sigs.length < 4611686018427387904) : Spc Try.prog F_queue_Encode [outT x] [] (encT x) [] := by
  have hv := c_queue_Valid x hl
  refine spec_of_ir fn_queue_Encode mixm (by simp) fun e _ hst => W_start ?_
  unfold ir_queue_Encode
  simp only [tl, tl2, tl4, ↓un_u, isCallR, entX, argFr, ret, retI, retB, intT, unT, endR, ressR, resR, tupT, bslR, boxR, lenAll, ↓reduceIte, Nat.reduceEqDiff, Nat.reduceAdd, Nat.reduceMul, Nat.reduceLT, Nat.reduceLeDiff, reduceCtorEq, Int.reduceLE, Int.reduceLT, ne_eq, Int.reduceEq, not_false_eq_true, decide_true, decide_false, Int.reduceToNat, tl3, Int.reduceBNe, Int.reduceBEq, rmK, rm1, not_true_eq_false]
  refine C1.im hv rfl (by rfl) ?_
  simp only [tl, tl2, tl4, ↓un_u, isCallR, entX, argFr, ret, retI, retB, intT, unT, endR, ressR, resR, tupT, bslR, boxR, lenAll, ↓reduceIte, Nat.reduceEqDiff, Nat.reduceAdd, Nat.reduceMul, Nat.reduceLT, Nat.reduceLeDiff, reduceCtorEq, Int.reduceLE, Int.reduceLT, ne_eq, Int.reduceEq, not_false_eq_true, decide_true, decide_false, Int.reduceToNat, tl3, Int.reduceBNe, Int.reduceBEq, rmK, rm1, not_true_eq_false, Bool.not_eq_true', Bool.not_eq_false']
  refine ⟨fun h => ?_, fun h => ?_⟩
  · rw [encT, if_neg (by rw [h]; simp)]
    refine .of [] [] rfl (by first | rfl | (rw [hst]; rfl)) ?_ ?_
    all_goals (try exact clA)
  rw [encT, if_pos h]
  obtain ⟨_, v2, v3, _, v5, _, v7, v8⟩ := valid_parts h
  have n2 := name_size v2
  have n3 := name_size v3
  refine C1.im c_queue_fields (by rfl) (by rfl) ?_
  simp only [tl, tl2, tl4, ↓un_u, isCallR, entX, argFr, ret, retI, retB, intT, unT, endR, ressR, resR, tupT, bslR, boxR, lenAll, ↓reduceIte, Nat.reduceEqDiff, Nat.reduceAdd, Nat.reduceMul, Nat.reduceLT, Nat.reduceLeDiff, reduceCtorEq, Int.reduceLE, Int.reduceLT, ne_eq, Int.reduceEq, not_false_eq_true, decide_true, decide_false, Int.reduceToNat, tl3, Int.reduceBNe, Int.reduceBEq, rmK, rm1, not_true_eq_false]
  refine W_loopF mixm (α := Nat) [14] (fun i => i ≤ 7) (fun i => [(14, vI i)]) (fun i => [(4096, .arr 7 [outT x] false), (16388, .arr 1 [.agg [.asl 99 (encK x i).length]] false), (99, .arr 1 ((encK x i).map byteT) false)]) (fun i => 7 - i) 0 (by omega) ?_ fun i hi => ?_
  · refine .of [(4096, some 4096), (16388, some 16388), (99, none)] [] rfl (by first | rfl | (rw [hst]; rfl)) ?_ ?_
    all_goals (try simp only [ltSto, ltO2, ltO1, ltAs, ltA, ltC, ltC0, ltC0s, ltCs, ltT, ltFr, ltS, wrOk, wrO, TL.get, hasFr, ↓reduceIte, Nat.reduceEqDiff, reduceCtorEq, Option.getD_some, Option.isSome_some, List.length_map, List.length_append, List.length_cons, List.length_nil, List.append_nil, List.mem_singleton, List.mem_cons, List.not_mem_nil, and_true, true_and, and_self, imp_self, forall_const, false_implies, implies_true, true_implies, or_false, Bool.false_eq_true, Bool.true_eq_false, ImXs_nil, true_or, or_true, false_or, false_and, and_false, rmK, rm1, List.map_append, List.map_cons, List.map_nil, List.cons_append, List.nil_append])
    all_goals (try (repeat' (first | exact ltXs_nil | (apply ltXs_map; intro _; exact ⟨rfl, rfl⟩) | (apply imXs_map; intro _; exact ⟨rfl, rfl⟩) | with_reducible apply imXs_append | with_reducible refine imXs_cons ⟨rfl, rfl⟩ ?_ | exact imXs_nil | with_reducible apply ltXs_append | with_reducible refine ltXs_cons ⟨rfl, rfl, ?_⟩ ?_ | with_reducible apply And.intro | exact ltCs_im rfl | exact ltCs_im (by assumption) | (refine ⟨⟨?_, rfl, ?_, rfl, ?_⟩, trivial⟩ <;> first | (simp; done) | (apply imXs_map; intro _; exact ⟨rfl, rfl⟩)) | trivial | rfl | (rw [i64_succ (by omega)]) | omega)))
    all_goals done
  have hfl : flds.length = 7 := rfl
  simp only [tl, tl2, tl4, ↓un_u, isCallR, entX, argFr, ret, retI, retB, intT, unT, endR, ressR, resR, tupT, bslR, boxR, lenAll, ↓reduceIte, Nat.reduceEqDiff, Nat.reduceAdd, Nat.reduceMul, Nat.reduceLT, Nat.reduceLeDiff, reduceCtorEq, Int.reduceLE, Int.reduceLT, ne_eq, Int.reduceEq, not_false_eq_true, decide_true, decide_false, Int.reduceToNat, tl3, Int.reduceBNe, Int.reduceBEq, rmK, rm1, not_true_eq_false, decide_eq_true_eq, decide_eq_false_iff_not, hfl]
  refine ⟨fun h3 => ?_, fun h3 => ?_⟩
  · have hi7 : i = 0 ∨ i = 1 ∨ i = 2 ∨ i = 3 ∨ i = 4 ∨ i = 5 ∨ i = 6 := by omega
    have hks := encK_small h i (by omega)
    have hws := i64_succ (i := i) (by omega)
    simp only [tl, tl2, tl4, ↓un_u, isCallR, entX, argFr, ret, retI, retB, intT, unT, endR, ressR, resR, tupT, bslR, boxR, lenAll, ↓reduceIte, Nat.reduceEqDiff, Nat.reduceAdd, Nat.reduceMul, Nat.reduceLT, Nat.reduceLeDiff, reduceCtorEq, Int.reduceLE, Int.reduceLT, ne_eq, Int.reduceEq, not_false_eq_true, decide_true, decide_false, Int.reduceToNat, tl3, Int.reduceBNe, Int.reduceBEq, rmK, rm1, not_true_eq_false, Int.toNat_natCast]
    refine ⟨by omega, ?_⟩
    rcases hi7 with e7 | e7 | e7 | e7 | e7 | e7 | e7 <;> subst e7
    · have hc := c_queue_number_1 (encK x 0) (outT x) (outT_im x) F_queue_fields_1 0 x.num (by omega) rfl (by omega) (c_queue_fields_1 (outT x) (outT_im x))
      have he : encK x 0 ++ five x.num = encK x 1 := by simp [encK, encP]
      rw [he] at hc
      have hg : flds.getD 0 .junk = fldN F_queue_fields_1 := rfl
      simp only [tl, tl2, tl4, ↓un_u, isCallR, entX, argFr, ret, retI, retB, intT, unT, endR, ressR, resR, tupT, bslR, boxR, lenAll, ↓reduceIte, Nat.reduceEqDiff, Nat.reduceAdd, Nat.reduceMul, Nat.reduceLT, Nat.reduceLeDiff, reduceCtorEq, Int.reduceLE, Int.reduceLT, ne_eq, Int.reduceEq, not_false_eq_true, decide_true, decide_false, Int.reduceToNat, tl3, Int.reduceBNe, Int.reduceBEq, rmK, rm1, not_true_eq_false, hg]
      refine ⟨by kernel_rfl, ?_⟩
      refine C1.of [(0, some 16388), (1, some 99), (2, some 4096)] [(16388, some 0), (99, some 1), (4096, some 2)] [] [(16388, .arr 1 [.agg [.asl 99 (encK x 1).length]] false), (99, .arr 1 ((encK x 1).map byteT) false), (4096, .arr 7 [outT x] false)] (val := .tup []) hc ?_ (by rfl) ?_ (by rfl) (by rfl) ?_ (by rfl) (by rfl) ?_ (.inl (by rfl)) ?_
      · all_goals (try exact clA)
      · all_goals (try exact clA)
      · all_goals (try exact clA)
      · all_goals (try exact clA)
      simp only [tl, tl2, tl4, ↓un_u, isCallR, entX, argFr, ret, retI, retB, intT, unT, endR, ressR, resR, tupT, bslR, boxR, lenAll, ↓reduceIte, Nat.reduceEqDiff, Nat.reduceAdd, Nat.reduceMul, Nat.reduceLT, Nat.reduceLeDiff, reduceCtorEq, Int.reduceLE, Int.reduceLT, ne_eq, Int.reduceEq, not_false_eq_true, decide_true, decide_false, Int.reduceToNat, tl3, Int.reduceBNe, Int.reduceBEq, rmK, rm1, not_true_eq_false, hws]
      refine ⟨1, by omega, by omega, ?_⟩
      refine .of [(4096, some 4096), (16388, some 16388), (99, some 99)] [] rfl (by first | rfl | (rw [hst]; rfl)) ?_ ?_
      all_goals (try exact clA)
    · have hc := c_queue_text_1 (encK x 1) (outT x) (outT_im x) F_queue_fields_2 1 x.proj (by omega) rfl (by omega) (by omega) (c_queue_fields_2 (outT x) (outT_im x))
      have he : encK x 1 ++ txtB x.proj = encK x 2 := by simp [encK, encP]
      rw [he] at hc
      have hg : flds.getD 1 .junk = fldT F_queue_fields_2 := rfl
      simp only [tl, tl2, tl4, ↓un_u, isCallR, entX, argFr, ret, retI, retB, intT, unT, endR, ressR, resR, tupT, bslR, boxR, lenAll, ↓reduceIte, Nat.reduceEqDiff, Nat.reduceAdd, Nat.reduceMul, Nat.reduceLT, Nat.reduceLeDiff, reduceCtorEq, Int.reduceLE, Int.reduceLT, ne_eq, Int.reduceEq, not_false_eq_true, decide_true, decide_false, Int.reduceToNat, tl3, Int.reduceBNe, Int.reduceBEq, rmK, rm1, not_true_eq_false, hg]
      refine ⟨by kernel_rfl, ?_⟩
      refine C1.of [(0, some 16388), (1, some 99), (2, some 4096)] [(16388, some 0), (99, some 1), (4096, some 2)] [] [(16388, .arr 1 [.agg [.asl 99 (encK x 2).length]] false), (99, .arr 1 ((encK x 2).map byteT) false), (4096, .arr 7 [outT x] false)] (val := .tup []) hc ?_ (by rfl) ?_ (by rfl) (by rfl) ?_ (by rfl) (by rfl) ?_ (.inl (by rfl)) ?_
      · all_goals (try exact clA)
      · all_goals (try exact clA)
      · all_goals (try exact clA)
      · all_goals (try exact clA)
      simp only [tl, tl2, tl4, ↓un_u, isCallR, entX, argFr, ret, retI, retB, intT, unT, endR, ressR, resR, tupT, bslR, boxR, lenAll, ↓reduceIte, Nat.reduceEqDiff, Nat.reduceAdd, Nat.reduceMul, Nat.reduceLT, Nat.reduceLeDiff, reduceCtorEq, Int.reduceLE, Int.reduceLT, ne_eq, Int.reduceEq, not_false_eq_true, decide_true, decide_false, Int.reduceToNat, tl3, Int.reduceBNe, Int.reduceBEq, rmK, rm1, not_true_eq_false, hws]
      refine ⟨2, by omega, by omega, ?_⟩
      refine .of [(4096, some 4096), (16388, some 16388), (99, some 99)] [] rfl (by first | rfl | (rw [hst]; rfl)) ?_ ?_
      all_goals (try exact clA)
    · have hc := c_queue_text_1 (encK x 2) (outT x) (outT_im x) F_queue_fields_3 2 x.res (by omega) rfl (by omega) (by omega) (c_queue_fields_3 (outT x) (outT_im x))
      have he : encK x 2 ++ txtB x.res = encK x 3 := by simp [encK, encP]
      rw [he] at hc
      have hg : flds.getD 2 .junk = fldT F_queue_fields_3 := rfl
      simp only [tl, tl2, tl4, ↓un_u, isCallR, entX, argFr, ret, retI, retB, intT, unT, endR, ressR, resR, tupT, bslR, boxR, lenAll, ↓reduceIte, Nat.reduceEqDiff, Nat.reduceAdd, Nat.reduceMul, Nat.reduceLT, Nat.reduceLeDiff, reduceCtorEq, Int.reduceLE, Int.reduceLT, ne_eq, Int.reduceEq, not_false_eq_true, decide_true, decide_false, Int.reduceToNat, tl3, Int.reduceBNe, Int.reduceBEq, rmK, rm1, not_true_eq_false, hg]
      refine ⟨by kernel_rfl, ?_⟩
      refine C1.of [(0, some 16388), (1, some 99), (2, some 4096)] [(16388, some 0), (99, some 1), (4096, some 2)] [] [(16388, .arr 1 [.agg [.asl 99 (encK x 3).length]] false), (99, .arr 1 ((encK x 3).map byteT) false), (4096, .arr 7 [outT x] false)] (val := .tup []) hc ?_ (by rfl) ?_ (by rfl) (by rfl) ?_ (by rfl) (by rfl) ?_ (.inl (by rfl)) ?_
      · all_goals (try exact clA)
      · all_goals (try exact clA)
      · all_goals (try exact clA)
      · all_goals (try exact clA)
      simp only [tl, tl2, tl4, ↓un_u, isCallR, entX, argFr, ret, retI, retB, intT, unT, endR, ressR, resR, tupT, bslR, boxR, lenAll, ↓reduceIte, Nat.reduceEqDiff, Nat.reduceAdd, Nat.reduceMul, Nat.reduceLT, Nat.reduceLeDiff, reduceCtorEq, Int.reduceLE, Int.reduceLT, ne_eq, Int.reduceEq, not_false_eq_true, decide_true, decide_false, Int.reduceToNat, tl3, Int.reduceBNe, Int.reduceBEq, rmK, rm1, not_true_eq_false, hws]
      refine ⟨3, by omega, by omega, ?_⟩
      refine .of [(4096, some 4096), (16388, some 16388), (99, some 99)] [] rfl (by first | rfl | (rw [hst]; rfl)) ?_ ?_
      all_goals (try exact clA)
    · have hc := c_queue_number_1 (encK x 3) (outT x) (outT_im x) F_queue_fields_4 3 x.tm (by omega) rfl (by omega) (c_queue_fields_4 (outT x) (outT_im x))
      have he : encK x 3 ++ five x.tm = encK x 4 := by simp [encK, encP]
      rw [he] at hc
      have hg : flds.getD 3 .junk = fldN F_queue_fields_4 := rfl
      simp only [tl, tl2, tl4, ↓un_u, isCallR, entX, argFr, ret, retI, retB, intT, unT, endR, ressR, resR, tupT, bslR, boxR, lenAll, ↓reduceIte, Nat.reduceEqDiff, Nat.reduceAdd, Nat.reduceMul, Nat.reduceLT, Nat.reduceLeDiff, reduceCtorEq, Int.reduceLE, Int.reduceLT, ne_eq, Int.reduceEq, not_false_eq_true, decide_true, decide_false, Int.reduceToNat, tl3, Int.reduceBNe, Int.reduceBEq, rmK, rm1, not_true_eq_false, hg]
      refine ⟨by kernel_rfl, ?_⟩
      refine C1.of [(0, some 16388), (1, some 99), (2, some 4096)] [(16388, some 0), (99, some 1), (4096, some 2)] [] [(16388, .arr 1 [.agg [.asl 99 (encK x 4).length]] false), (99, .arr 1 ((encK x 4).map byteT) false), (4096, .arr 7 [outT x] false)] (val := .tup []) hc ?_ (by rfl) ?_ (by rfl) (by rfl) ?_ (by rfl) (by rfl) ?_ (.inl (by rfl)) ?_
      · all_goals (try exact clA)
      · all_goals (try exact clA)
      · all_goals (try exact clA)
      · all_goals (try exact clA)
      simp only [tl, tl2, tl4, ↓un_u, isCallR, entX, argFr, ret, retI, retB, intT, unT, endR, ressR, resR, tupT, bslR, boxR, lenAll, ↓reduceIte, Nat.reduceEqDiff, Nat.reduceAdd, Nat.reduceMul, Nat.reduceLT, Nat.reduceLeDiff, reduceCtorEq, Int.reduceLE, Int.reduceLT, ne_eq, Int.reduceEq, not_false_eq_true, decide_true, decide_false, Int.reduceToNat, tl3, Int.reduceBNe, Int.reduceBEq, rmK, rm1, not_true_eq_false, hws]
      refine ⟨4, by omega, by omega, ?_⟩
      refine .of [(4096, some 4096), (16388, some 16388), (99, some 99)] [] rfl (by first | rfl | (rw [hst]; rfl)) ?_ ?_
      all_goals (try exact clA)
    · have hc := c_queue_text_1 (encK x 4) (outT x) (outT_im x) F_queue_fields_5 4 x.text (by omega) rfl (by omega) (by omega) (c_queue_fields_5 (outT x) (outT_im x))
      have he : encK x 4 ++ txtB x.text = encK x 5 := by simp [encK, encP]
      rw [he] at hc
      have hg : flds.getD 4 .junk = fldT F_queue_fields_5 := rfl
      simp only [tl, tl2, tl4, ↓un_u, isCallR, entX, argFr, ret, retI, retB, intT, unT, endR, ressR, resR, tupT, bslR, boxR, lenAll, ↓reduceIte, Nat.reduceEqDiff, Nat.reduceAdd, Nat.reduceMul, Nat.reduceLT, Nat.reduceLeDiff, reduceCtorEq, Int.reduceLE, Int.reduceLT, ne_eq, Int.reduceEq, not_false_eq_true, decide_true, decide_false, Int.reduceToNat, tl3, Int.reduceBNe, Int.reduceBEq, rmK, rm1, not_true_eq_false, hg]
      refine ⟨by kernel_rfl, ?_⟩
      refine C1.of [(0, some 16388), (1, some 99), (2, some 4096)] [(16388, some 0), (99, some 1), (4096, some 2)] [] [(16388, .arr 1 [.agg [.asl 99 (encK x 5).length]] false), (99, .arr 1 ((encK x 5).map byteT) false), (4096, .arr 7 [outT x] false)] (val := .tup []) hc ?_ (by rfl) ?_ (by rfl) (by rfl) ?_ (by rfl) (by rfl) ?_ (.inl (by rfl)) ?_
      · all_goals (try exact clA)
      · all_goals (try exact clA)
      · all_goals (try exact clA)
      · all_goals (try exact clA)
      simp only [tl, tl2, tl4, ↓un_u, isCallR, entX, argFr, ret, retI, retB, intT, unT, endR, ressR, resR, tupT, bslR, boxR, lenAll, ↓reduceIte, Nat.reduceEqDiff, Nat.reduceAdd, Nat.reduceMul, Nat.reduceLT, Nat.reduceLeDiff, reduceCtorEq, Int.reduceLE, Int.reduceLT, ne_eq, Int.reduceEq, not_false_eq_true, decide_true, decide_false, Int.reduceToNat, tl3, Int.reduceBNe, Int.reduceBEq, rmK, rm1, not_true_eq_false, hws]
      refine ⟨5, by omega, by omega, ?_⟩
      refine .of [(4096, some 4096), (16388, some 16388), (99, some 99)] [] rfl (by first | rfl | (rw [hst]; rfl)) ?_ ?_
      all_goals (try exact clA)
    · have hc := c_queue_number_1 (encK x 5) (outT x) (outT_im x) F_queue_fields_6 5 x.state (by omega) rfl (by omega) (c_queue_fields_6 (outT x) (outT_im x))
      have he : encK x 5 ++ five x.state = encK x 6 := by simp [encK, encP]
      rw [he] at hc
      have hg : flds.getD 5 .junk = fldN F_queue_fields_6 := rfl
      simp only [tl, tl2, tl4, ↓un_u, isCallR, entX, argFr, ret, retI, retB, intT, unT, endR, ressR, resR, tupT, bslR, boxR, lenAll, ↓reduceIte, Nat.reduceEqDiff, Nat.reduceAdd, Nat.reduceMul, Nat.reduceLT, Nat.reduceLeDiff, reduceCtorEq, Int.reduceLE, Int.reduceLT, ne_eq, Int.reduceEq, not_false_eq_true, decide_true, decide_false, Int.reduceToNat, tl3, Int.reduceBNe, Int.reduceBEq, rmK, rm1, not_true_eq_false, hg]
      refine ⟨by kernel_rfl, ?_⟩
      refine C1.of [(0, some 16388), (1, some 99), (2, some 4096)] [(16388, some 0), (99, some 1), (4096, some 2)] [] [(16388, .arr 1 [.agg [.asl 99 (encK x 6).length]] false), (99, .arr 1 ((encK x 6).map byteT) false), (4096, .arr 7 [outT x] false)] (val := .tup []) hc ?_ (by rfl) ?_ (by rfl) (by rfl) ?_ (by rfl) (by rfl) ?_ (.inl (by rfl)) ?_
      · all_goals (try exact clA)
      · all_goals (try exact clA)
      · all_goals (try exact clA)
      · all_goals (try exact clA)
      simp only [tl, tl2, tl4, ↓un_u, isCallR, entX, argFr, ret, retI, retB, intT, unT, endR, ressR, resR, tupT, bslR, boxR, lenAll, ↓reduceIte, Nat.reduceEqDiff, Nat.reduceAdd, Nat.reduceMul, Nat.reduceLT, Nat.reduceLeDiff, reduceCtorEq, Int.reduceLE, Int.reduceLT, ne_eq, Int.reduceEq, not_false_eq_true, decide_true, decide_false, Int.reduceToNat, tl3, Int.reduceBNe, Int.reduceBEq, rmK, rm1, not_true_eq_false, hws]
      refine ⟨6, by omega, by omega, ?_⟩
      refine .of [(4096, some 4096), (16388, some 16388), (99, some 99)] [] rfl (by first | rfl | (rw [hst]; rfl)) ?_ ?_
      all_goals (try exact clA)
    · have hc := c_queue_signatures (encK x 6) x (by omega) v7 (fun s hs => by have := name_size (v8 s hs).1; omega)
      have he : encK x 6 ++ (five x.sigs.length ++ x.sigs.flatMap sigB) = encK x 7 := by simp [encK, encP]
      rw [he] at hc
      have hg : flds.getD 6 .junk = .agg [.clo F_queue_signatures [], .clo F_queue_signed []] := rfl
      simp only [tl, tl2, tl4, ↓un_u, isCallR, entX, argFr, ret, retI, retB, intT, unT, endR, ressR, resR, tupT, bslR, boxR, lenAll, ↓reduceIte, Nat.reduceEqDiff, Nat.reduceAdd, Nat.reduceMul, Nat.reduceLT, Nat.reduceLeDiff, reduceCtorEq, Int.reduceLE, Int.reduceLT, ne_eq, Int.reduceEq, not_false_eq_true, decide_true, decide_false, Int.reduceToNat, tl3, Int.reduceBNe, Int.reduceBEq, rmK, rm1, not_true_eq_false, hg]
      refine ⟨by kernel_rfl, ?_⟩
      refine C1.of [(0, some 16388), (1, some 99), (2, some 4096)] [(16388, some 0), (99, some 1), (4096, some 2)] [] [(16388, .arr 1 [.agg [.asl 99 (encK x 7).length]] false), (99, .arr 1 ((encK x 7).map byteT) false), (4096, .arr 7 [outT x] false)] (val := .tup []) hc ?_ (by rfl) ?_ (by rfl) (by rfl) ?_ (by rfl) (by rfl) ?_ (.inl (by rfl)) ?_
      · all_goals (try exact clA)
      · all_goals (try exact clA)
      · all_goals (try exact clA)
      · all_goals (try exact clA)
      simp only [tl, tl2, tl4, ↓un_u, isCallR, entX, argFr, ret, retI, retB, intT, unT, endR, ressR, resR, tupT, bslR, boxR, lenAll, ↓reduceIte, Nat.reduceEqDiff, Nat.reduceAdd, Nat.reduceMul, Nat.reduceLT, Nat.reduceLeDiff, reduceCtorEq, Int.reduceLE, Int.reduceLT, ne_eq, Int.reduceEq, not_false_eq_true, decide_true, decide_false, Int.reduceToNat, tl3, Int.reduceBNe, Int.reduceBEq, rmK, rm1, not_true_eq_false, hws]
      refine ⟨7, by omega, by omega, ?_⟩
      refine .of [(4096, some 4096), (16388, some 16388), (99, some 99)] [] rfl (by first | rfl | (rw [hst]; rfl)) ?_ ?_
      all_goals (try exact clA)
  · have hi7 : i = 7 := by omega
    subst hi7
    rw [encK_7]
    refine .of [] [99] rfl (by first | rfl | (rw [hst]; rfl)) ?_ ?_
    all_goals (try exact clA)

end Go.Proofs

