import Derived.Test.YtnejebkdlofdoaaD35
set_option linter.unusedSimpArgs false
set_option linter.unusedVariables false
namespace Go.Proofs
open Go Go.TL
/-! ltSto, ltO2, ltO1, ltAs, ltA, ltC, ltC0, ltC0s, ltCs, ltT, ltFr, ltS, wrOk, wrO, TL.get, hasFr, ↓reduceIte, Nat.reduceEqDiff, reduceCtorEq, Option.getD_some, Option.isSome_some, List.length_map, List.length_append, List.length_cons, List.length_nil, List.append_nil, List.mem_singleton, List.mem_cons, List.not_mem_nil, and_true, true_and, and_self, imp_self, forall_const, false_implies, implies_true, true_implies, or_false, Bool.false_eq_true, Bool.true_eq_false, ImXs_nil, true_or, or_true, false_or, false_and, and_false, rmK, rm1# fields: closures -/
abbrev wrS (bs : List UInt8) : Sto := [(0, .arr 1 [.agg [.asl 1 bs.length]] false), (1, .arr 1 (bs.map byteT) false)]
theorem shr8 {n : Int} (h : 0 ≤ n ∧ n < 1099511627776) (k : Nat) (hk : k ≤ 4) : shrI .i64 n (8 * (k : Int)) = n / 256 ^ k := by
  unfold shrI
  rw [Int.fdiv_eq_ediv_of_nonneg _ (Int.pow_nonneg (by decide))]
  have : k = 0 ∨ k = 1 ∨ k = 2 ∨ k = 3 ∨ k = 4 := by omega
  rcases this with h | h | h | h | h <;> subst h <;> rfl
theorem five_rev (n : Int) : five n = [u8 (shrI .i64 n 32), u8 (shrI .i64 n 24), u8 (shrI .i64 n 16), u8 (shrI .i64 n 8), u8 (shrI .i64 n 0)] := by
  have : shrI .i64 n 0 = n := by simp [shrI]
  rw [this]; rfl
/-- the bytes from the front on, k left -/
def fiveK (n : Int) (k : Nat) : List UInt8 := (five n).take (5 - k)
theorem c_queue_writer_number (bs : List UInt8) (n : Int) (hb : bs.length ≤ 1000000) : Spc Try.prog F_queue_writer_number [.ptr 0 1 0 0, vI n] (wrS bs) (.tup []) (wrS (bs ++ five n)) := by
  refine spec_of_ir fn_queue_writer_number mixm (by simp) fun e _ hst => W_start ?_
  unfold ir_queue_writer_number
  simp only [tl, tl2, tl4, ↓un_u, isCallR, entX, argFr, ret, retI, retB, intT, unT, endR, ressR, resR, tupT, bslR, boxR, lenAll, ↓reduceIte, Nat.reduceEqDiff, Nat.reduceAdd, Nat.reduceMul, Nat.reduceLT, Nat.reduceLeDiff, reduceCtorEq, Int.reduceLE, Int.reduceLT, ne_eq, Int.reduceEq, not_false_eq_true, decide_true, decide_false, Int.reduceToNat, tl3, Int.reduceBNe, Int.reduceBEq, rmK, rm1, not_true_eq_false]
  refine W_loopF mixm (α := Nat) [4] (fun k => k ≤ 5) (fun k => [(4, vI ((k : Int) - 1))]) (fun k => wrS (bs ++ fiveK n k)) (fun k => k) 5 (by omega) ?_ fun k hk => ?_
  · simp only [fiveK, Nat.sub_self, List.take_zero, List.append_nil]
    refine .of [(0, some 0), (1, some 1)] [] rfl (by first | rfl | (rw [hst]; rfl)) ?_ ?_
    all_goals (try exact clA)
  simp only [tl, tl2, tl4, ↓un_u, isCallR, entX, argFr, ret, retI, retB, intT, unT, endR, ressR, resR, tupT, bslR, boxR, lenAll, ↓reduceIte, Nat.reduceEqDiff, Nat.reduceAdd, Nat.reduceMul, Nat.reduceLT, Nat.reduceLeDiff, reduceCtorEq, Int.reduceLE, Int.reduceLT, ne_eq, Int.reduceEq, not_false_eq_true, decide_true, decide_false, Int.reduceToNat, tl3, Int.reduceBNe, Int.reduceBEq, rmK, rm1, not_true_eq_false, decide_eq_true_eq, decide_eq_false_iff_not]
  refine ⟨fun h => ?_, fun h => ?_⟩
  · obtain ⟨k, rfl⟩ : ∃ j, k = j + 1 := ⟨k - 1, by omega⟩
    have e1 : ((k + 1 : Nat) : Int) - 1 = (k : Int) := by omega
    have hw : IntKind.i64.wrap (8 * (k : Int)) = 8 * (k : Int) := IntWalk.i64_in _ (by omega)
    have hw2 : IntKind.i64.wrap ((k : Int) - 1) = (k : Int) - 1 := IntWalk.i64_in _ (by omega)
    have hf : fiveK n k = fiveK n (k + 1) ++ [u8 (shrI .i64 n (8 * (k : Int)))] := by
      have : k = 0 ∨ k = 1 ∨ k = 2 ∨ k = 3 ∨ k = 4 := by omega
      unfold fiveK
      rw [five_rev]
      rcases this with h | h | h | h | h <;> subst h <;> rfl
    have hfl : (fiveK n (k + 1)).length ≤ 5 := by unfold fiveK; rw [List.length_take, five_length]; omega
    simp only [tl, tl2, tl4, ↓un_u, isCallR, entX, argFr, ret, retI, retB, intT, unT, endR, ressR, resR, tupT, bslR, boxR, lenAll, ↓reduceIte, Nat.reduceEqDiff, Nat.reduceAdd, Nat.reduceMul, Nat.reduceLT, Nat.reduceLeDiff, reduceCtorEq, Int.reduceLE, Int.reduceLT, ne_eq, Int.reduceEq, not_false_eq_true, decide_true, decide_false, Int.reduceToNat, tl3, Int.reduceBNe, Int.reduceBEq, rmK, rm1, not_true_eq_false, e1, hw, hw2, byteT_u8]
    refine ⟨by omega, by omega, by kernel_rfl, k, by omega, by omega, ?_⟩
    rw [hf]
    simp only [wrS, List.length_append, ← List.append_assoc]
    refine .of [(0, some 0), (1, some 1)] [] rfl (by first | rfl | (rw [hst]; rfl)) ?_ ?_
    all_goals (try exact clA)
  · have hk0 : k = 0 := by omega
    subst hk0
    have : fiveK n 0 = five n := rfl
    rw [this]
    refine .of [(0, some 0), (1, some 1)] [] rfl (by first | rfl | (rw [hst]; rfl)) ?_ ?_
    all_goals (try exact clA)
theorem c_queue_writer_text (bs : List UInt8) (t : ByteArray) (hb : bs.length ≤ 900000) (ht : t.size ≤ 50000) : Spc Try.prog F_queue_writer_text [.ptr 0 1 0 0, vS t] (wrS bs) (.tup []) (wrS (bs ++ txtB t)) := by
  have h1 := c_queue_writer_number bs t.size (by omega)
  have hsz : t.size = t.data.toList.length := by rw [Array.length_toList]; rfl
  refine spec_of_ir fn_queue_writer_text mixm (by simp) fun e _ hst => W_start ?_
  unfold ir_queue_writer_text
  simp only [tl, tl2, tl4, ↓un_u, isCallR, entX, argFr, ret, retI, retB, intT, unT, endR, ressR, resR, tupT, bslR, boxR, lenAll, ↓reduceIte, Nat.reduceEqDiff, Nat.reduceAdd, Nat.reduceMul, Nat.reduceLT, Nat.reduceLeDiff, reduceCtorEq, Int.reduceLE, Int.reduceLT, ne_eq, Int.reduceEq, not_false_eq_true, decide_true, decide_false, Int.reduceToNat, tl3, Int.reduceBNe, Int.reduceBEq, rmK, rm1, not_true_eq_false]
  refine C1.of [(0, some 0), (1, some 1)] [(0, some 0), (1, some 1)] [] (wrS (bs ++ five t.size)) (val := .tup []) h1 ?_ (by rfl) ?_ (by rfl) (by rfl) ?_ (by rfl) (by rfl) ?_ (.inl (by rfl)) ?_
  · all_goals (try exact clA)
  · all_goals (try exact clA)
  · all_goals (try exact clA)
  · all_goals (try exact clA)
  simp only [tl, tl2, tl4, ↓un_u, isCallR, entX, argFr, ret, retI, retB, intT, unT, endR, ressR, resR, tupT, bslR, boxR, lenAll, ↓reduceIte, Nat.reduceEqDiff, Nat.reduceAdd, Nat.reduceMul, Nat.reduceLT, Nat.reduceLeDiff, reduceCtorEq, Int.reduceLE, Int.reduceLT, ne_eq, Int.reduceEq, not_false_eq_true, decide_true, decide_false, Int.reduceToNat, tl3, Int.reduceBNe, Int.reduceBEq, rmK, rm1, not_true_eq_false]
  refine ⟨by rw [five_length]; omega, ?_⟩
  simp only [wrS, txtB, List.map_append, List.length_append, ← List.append_assoc, ← Nat.add_assoc]
  refine .of [(0, some 0), (1, some 1)] [] rfl (by first | rfl | (rw [hst]; rfl)) ?_ ?_
  all_goals (try exact clA)
theorem c_queue_fields_1 (X : T) (hX : ImXs 7 [X]) : Spc Try.prog F_queue_fields_1 [.ptr 0 1 0 0] [(0, .arr 7 [X] false)] (.ptr 0 1 0 0) [(0, .arr 7 [X] false)] := by
  refine spec_of_ir fn_queue_fields_1 mixm (by simp) fun e _ hst => W_start ?_
  unfold ir_queue_fields_1
  simp only [tl, tl2, tl4, ↓un_u, isCallR, entX, argFr, ret, retI, retB, intT, unT, endR, ressR, resR, tupT, bslR, boxR, lenAll, ↓reduceIte, Nat.reduceEqDiff, Nat.reduceAdd, Nat.reduceMul, Nat.reduceLT, Nat.reduceLeDiff, reduceCtorEq, Int.reduceLE, Int.reduceLT, ne_eq, Int.reduceEq, not_false_eq_true, decide_true, decide_false, Int.reduceToNat, tl3, Int.reduceBNe, Int.reduceBEq, rmK, rm1, not_true_eq_false]
  refine .of [(0, some 0)] [] rfl (by first | rfl | (rw [hst]; rfl)) ?_ ?_
  all_goals (try exact clA)
theorem c_queue_fields_2 (X : T) (hX : ImXs 7 [X]) : Spc Try.prog F_queue_fields_2 [.ptr 0 1 0 0] [(0, .arr 7 [X] false)] (.ptr 0 1 0 1) [(0, .arr 7 [X] false)] := by
  refine spec_of_ir fn_queue_fields_2 mixm (by simp) fun e _ hst => W_start ?_
  unfold ir_queue_fields_2
  simp only [tl, tl2, tl4, ↓un_u, isCallR, entX, argFr, ret, retI, retB, intT, unT, endR, ressR, resR, tupT, bslR, boxR, lenAll, ↓reduceIte, Nat.reduceEqDiff, Nat.reduceAdd, Nat.reduceMul, Nat.reduceLT, Nat.reduceLeDiff, reduceCtorEq, Int.reduceLE, Int.reduceLT, ne_eq, Int.reduceEq, not_false_eq_true, decide_true, decide_false, Int.reduceToNat, tl3, Int.reduceBNe, Int.reduceBEq, rmK, rm1, not_true_eq_false]
  refine .of [(0, some 0)] [] rfl (by first | rfl | (rw [hst]; rfl)) ?_ ?_
  all_goals (try exact clA)
theorem c_queue_fields_3 (X : T) (hX : ImXs 7 [X]) : Spc Try.prog F_queue_fields_3 [.ptr 0 1 0 0] [(0, .arr 7 [X] false)] (.ptr 0 1 0 2) [(0, .arr 7 [X] false)] := by
  refine spec_of_ir fn_queue_fields_3 mixm (by simp) fun e _ hst => W_start ?_
  unfold ir_queue_fields_3
  simp only [tl, tl2, tl4, ↓un_u, isCallR, entX, argFr, ret, retI, retB, intT, unT, endR, ressR, resR, tupT, bslR, boxR, lenAll, ↓reduceIte, Nat.reduceEqDiff, Nat.reduceAdd, Nat.reduceMul, Nat.reduceLT, Nat.reduceLeDiff, reduceCtorEq, Int.reduceLE, Int.reduceLT, ne_eq, Int.reduceEq, not_false_eq_true, decide_true, decide_false, Int.reduceToNat, tl3, Int.reduceBNe, Int.reduceBEq, rmK, rm1, not_true_eq_false]
  refine .of [(0, some 0)] [] rfl (by first | rfl | (rw [hst]; rfl)) ?_ ?_
  all_goals (try exact clA)
theorem c_queue_fields_4 (X : T) (hX : ImXs 7 [X]) : Spc Try.prog F_queue_fields_4 [.ptr 0 1 0 0] [(0, .arr 7 [X] false)] (.ptr 0 1 0 3) [(0, .arr 7 [X] false)] := by
  refine spec_of_ir fn_queue_fields_4 mixm (by simp) fun e _ hst => W_start ?_
  unfold ir_queue_fields_4
  simp only [tl, tl2, tl4, ↓un_u, isCallR, entX, argFr, ret, retI, retB, intT, unT, endR, ressR, resR, tupT, bslR, boxR, lenAll, ↓reduceIte, Nat.reduceEqDiff, Nat.reduceAdd, Nat.reduceMul, Nat.reduceLT, Nat.reduceLeDiff, reduceCtorEq, Int.reduceLE, Int.reduceLT, ne_eq, Int.reduceEq, not_false_eq_true, decide_true, decide_false, Int.reduceToNat, tl3, Int.reduceBNe, Int.reduceBEq, rmK, rm1, not_true_eq_false]
  refine .of [(0, some 0)] [] rfl (by first | rfl | (rw [hst]; rfl)) ?_ ?_
  all_goals (try exact clA)
theorem c_queue_fields_5 (X : T) (hX : ImXs 7 [X]) : Spc Try.prog F_queue_fields_5 [.ptr 0 1 0 0] [(0, .arr 7 [X] false)] (.ptr 0 1 0 4) [(0, .arr 7 [X] false)] := by
  refine spec_of_ir fn_queue_fields_5 mixm (by simp) fun e _ hst => W_start ?_
  unfold ir_queue_fields_5
  simp only [tl, tl2, tl4, ↓un_u, isCallR, entX, argFr, ret, retI, retB, intT, unT, endR, ressR, resR, tupT, bslR, boxR, lenAll, ↓reduceIte, Nat.reduceEqDiff, Nat.reduceAdd, Nat.reduceMul, Nat.reduceLT, Nat.reduceLeDiff, reduceCtorEq, Int.reduceLE, Int.reduceLT, ne_eq, Int.reduceEq, not_false_eq_true, decide_true, decide_false, Int.reduceToNat, tl3, Int.reduceBNe, Int.reduceBEq, rmK, rm1, not_true_eq_false]
  refine .of [(0, some 0)] [] rfl (by first | rfl | (rw [hst]; rfl)) ?_ ?_
  all_goals (try exact clA)
theorem c_queue_fields_6 (X : T) (hX : ImXs 7 [X]) : Spc Try.prog F_queue_fields_6 [.ptr 0 1 0 0] [(0, .arr 7 [X] false)] (.ptr 0 1 0 5) [(0, .arr 7 [X] false)] := by
  refine spec_of_ir fn_queue_fields_6 mixm (by simp) fun e _ hst => W_start ?_
  unfold ir_queue_fields_6
  simp only [tl, tl2, tl4, ↓un_u, isCallR, entX, argFr, ret, retI, retB, intT, unT, endR, ressR, resR, tupT, bslR, boxR, lenAll, ↓reduceIte, Nat.reduceEqDiff, Nat.reduceAdd, Nat.reduceMul, Nat.reduceLT, Nat.reduceLeDiff, reduceCtorEq, Int.reduceLE, Int.reduceLT, ne_eq, Int.reduceEq, not_false_eq_true, decide_true, decide_false, Int.reduceToNat, tl3, Int.reduceBNe, Int.reduceBEq, rmK, rm1, not_true_eq_false]
  refine .of [(0, some 0)] [] rfl (by first | rfl | (rw [hst]; rfl)) ?_ ?_
  all_goals (try exact clA)
theorem c_queue_number (f : FuncId) : Spc Try.prog F_queue_number [.clo f []] [] (.agg [.clo F_queue_number_1 [.ip [.clo f []]], .clo F_queue_number_2 [.ip [.clo f []]]]) [] := by
  refine spec_of_ir fn_queue_number mixm (by simp) fun e _ hst => W_start ?_
  unfold ir_queue_number
  simp only [tl, tl2, tl4, ↓un_u, isCallR, entX, argFr, ret, retI, retB, intT, unT, endR, ressR, resR, tupT, bslR, boxR, lenAll, ↓reduceIte, Nat.reduceEqDiff, Nat.reduceAdd, Nat.reduceMul, Nat.reduceLT, Nat.reduceLeDiff, reduceCtorEq, Int.reduceLE, Int.reduceLT, ne_eq, Int.reduceEq, not_false_eq_true, decide_true, decide_false, Int.reduceToNat, tl3, Int.reduceBNe, Int.reduceBEq, rmK, rm1, not_true_eq_false]
  refine ⟨by kernel_rfl, ?_⟩
  refine .of [] [4096] rfl (by first | rfl | (rw [hst]; rfl)) ?_ ?_
  all_goals (try simp only [ltSto, ltO2, ltO1, ltAs, ltA, ltC, ltC0, ltC0s, ltCs, ltT, ltFr, ltS, wrOk, wrO, TL.get, hasFr, ↓reduceIte, Nat.reduceEqDiff, reduceCtorEq, Option.getD_some, Option.isSome_some, List.length_map, List.length_append, List.length_cons, List.length_nil, List.append_nil, List.mem_singleton, List.mem_cons, List.not_mem_nil, and_true, true_and, and_self, imp_self, forall_const, false_implies, implies_true, true_implies, or_false, Bool.false_eq_true, Bool.true_eq_false, ImXs_nil, true_or, or_true, false_or, false_and, and_false, rmK, rm1, List.map_append, List.map_cons, List.map_nil, List.cons_append, List.nil_append])
  all_goals (try (repeat' (first | exact ltXs_nil | (apply ltXs_map; intro _; exact ⟨rfl, rfl⟩) | (apply imXs_map; intro _; exact ⟨rfl, rfl⟩) | with_reducible apply imXs_append | with_reducible refine imXs_cons ⟨rfl, rfl⟩ ?_ | exact imXs_nil | with_reducible apply ltXs_append | with_reducible refine ltXs_cons ⟨rfl, rfl, ?_⟩ ?_ | with_reducible apply And.intro | exact ltCs_im rfl | exact ltCs_im (by assumption) | (refine ⟨⟨?_, rfl, ?_, rfl, ?_⟩, trivial⟩ <;> first | (simp; done) | (apply imXs_map; intro _; exact ⟨rfl, rfl⟩)) | trivial | rfl | (rw [i64_succ (by omega)]) | omega)))
  all_goals exact ⟨rfl, by omega, rfl, imXs_cons ⟨rfl, rfl⟩ imXs_nil⟩
theorem c_queue_text (f : FuncId) : Spc Try.prog F_queue_text [.clo f []] [] (.agg [.clo F_queue_text_1 [.ip [.clo f []]], .clo F_queue_text_2 [.ip [.clo f []]]]) [] := by
  refine spec_of_ir fn_queue_text mixm (by simp) fun e _ hst => W_start ?_
  unfold ir_queue_text
  simp only [tl, tl2, tl4, ↓un_u, isCallR, entX, argFr, ret, retI, retB, intT, unT, endR, ressR, resR, tupT, bslR, boxR, lenAll, ↓reduceIte, Nat.reduceEqDiff, Nat.reduceAdd, Nat.reduceMul, Nat.reduceLT, Nat.reduceLeDiff, reduceCtorEq, Int.reduceLE, Int.reduceLT, ne_eq, Int.reduceEq, not_false_eq_true, decide_true, decide_false, Int.reduceToNat, tl3, Int.reduceBNe, Int.reduceBEq, rmK, rm1, not_true_eq_false]
  refine ⟨by kernel_rfl, ?_⟩
  refine .of [] [4096] rfl (by first | rfl | (rw [hst]; rfl)) ?_ ?_
  all_goals (try simp only [ltSto, ltO2, ltO1, ltAs, ltA, ltC, ltC0, ltC0s, ltCs, ltT, ltFr, ltS, wrOk, wrO, TL.get, hasFr, ↓reduceIte, Nat.reduceEqDiff, reduceCtorEq, Option.getD_some, Option.isSome_some, List.length_map, List.length_append, List.length_cons, List.length_nil, List.append_nil, List.mem_singleton, List.mem_cons, List.not_mem_nil, and_true, true_and, and_self, imp_self, forall_const, false_implies, implies_true, true_implies, or_false, Bool.false_eq_true, Bool.true_eq_false, ImXs_nil, true_or, or_true, false_or, false_and, and_false, rmK, rm1, List.map_append, List.map_cons, List.map_nil, List.cons_append, List.nil_append])
  all_goals (try (repeat' (first | exact ltXs_nil | (apply ltXs_map; intro _; exact ⟨rfl, rfl⟩) | (apply imXs_map; intro _; exact ⟨rfl, rfl⟩) | with_reducible apply imXs_append | with_reducible refine imXs_cons ⟨rfl, rfl⟩ ?_ | exact imXs_nil | with_reducible apply ltXs_append | with_reducible refine ltXs_cons ⟨rfl, rfl, ?_⟩ ?_ | with_reducible apply And.intro | exact ltCs_im rfl | exact ltCs_im (by assumption) | (refine ⟨⟨?_, rfl, ?_, rfl, ?_⟩, trivial⟩ <;> first | (simp; done) | (apply imXs_map; intro _; exact ⟨rfl, rfl⟩)) | trivial | rfl | (rw [i64_succ (by omega)]) | omega)))
  all_goals exact ⟨rfl, by omega, rfl, imXs_cons ⟨rfl, rfl⟩ imXs_nil⟩
abbrev fldN (f : FuncId) : T := .agg [.clo F_queue_number_1 [.ip [.clo f []]], .clo F_queue_number_2 [.ip [.clo f []]]]
abbrev fldT (f : FuncId) : T := .agg [.clo F_queue_text_1 [.ip [.clo f []]], .clo F_queue_text_2 [.ip [.clo f []]]]
def flds : List T := [fldN F_queue_fields_1, fldT F_queue_fields_2, fldT F_queue_fields_3, fldN F_queue_fields_4, fldT F_queue_fields_5, fldN F_queue_fields_6, .agg [.clo F_queue_signatures [], .clo F_queue_signed []]]
theorem flds_im : ImXs 2 flds := by
  unfold flds
  repeat' (first | exact imXs_nil | refine imXs_cons ⟨rfl, rfl⟩ ?_)
theorem c_queue_fields : Spc Try.prog F_queue_fields [] [] (.sl 2 flds) [] := by
  refine spec_of_ir fn_queue_fields mixm (by simp) fun e _ hst => W_start ?_
  unfold ir_queue_fields
  simp only [tl, tl2, tl4, ↓un_u, isCallR, entX, argFr, ret, retI, retB, intT, unT, endR, ressR, resR, tupT, bslR, boxR, lenAll, ↓reduceIte, Nat.reduceEqDiff, Nat.reduceAdd, Nat.reduceMul, Nat.reduceLT, Nat.reduceLeDiff, reduceCtorEq, Int.reduceLE, Int.reduceLT, ne_eq, Int.reduceEq, not_false_eq_true, decide_true, decide_false, Int.reduceToNat, tl3, Int.reduceBNe, Int.reduceBEq, rmK, rm1, not_true_eq_false]
  refine C1.im (c_queue_number F_queue_fields_1) (by rfl) (by rfl) ?_
  simp only [tl, tl2, tl4, ↓un_u, isCallR, entX, argFr, ret, retI, retB, intT, unT, endR, ressR, resR, tupT, bslR, boxR, lenAll, ↓reduceIte, Nat.reduceEqDiff, Nat.reduceAdd, Nat.reduceMul, Nat.reduceLT, Nat.reduceLeDiff, reduceCtorEq, Int.reduceLE, Int.reduceLT, ne_eq, Int.reduceEq, not_false_eq_true, decide_true, decide_false, Int.reduceToNat, tl3, Int.reduceBNe, Int.reduceBEq, rmK, rm1, not_true_eq_false]
  refine C1.im (c_queue_text F_queue_fields_2) (by rfl) (by rfl) ?_
  simp only [tl, tl2, tl4, ↓un_u, isCallR, entX, argFr, ret, retI, retB, intT, unT, endR, ressR, resR, tupT, bslR, boxR, lenAll, ↓reduceIte, Nat.reduceEqDiff, Nat.reduceAdd, Nat.reduceMul, Nat.reduceLT, Nat.reduceLeDiff, reduceCtorEq, Int.reduceLE, Int.reduceLT, ne_eq, Int.reduceEq, not_false_eq_true, decide_true, decide_false, Int.reduceToNat, tl3, Int.reduceBNe, Int.reduceBEq, rmK, rm1, not_true_eq_false]
  refine C1.im (c_queue_text F_queue_fields_3) (by rfl) (by rfl) ?_
  simp only [tl, tl2, tl4, ↓un_u, isCallR, entX, argFr, ret, retI, retB, intT, unT, endR, ressR, resR, tupT, bslR, boxR, lenAll, ↓reduceIte, Nat.reduceEqDiff, Nat.reduceAdd, Nat.reduceMul, Nat.reduceLT, Nat.reduceLeDiff, reduceCtorEq, Int.reduceLE, Int.reduceLT, ne_eq, Int.reduceEq, not_false_eq_true, decide_true, decide_false, Int.reduceToNat, tl3, Int.reduceBNe, Int.reduceBEq, rmK, rm1, not_true_eq_false]
  refine C1.im (c_queue_number F_queue_fields_4) (by rfl) (by rfl) ?_
  simp only [tl, tl2, tl4, ↓un_u, isCallR, entX, argFr, ret, retI, retB, intT, unT, endR, ressR, resR, tupT, bslR, boxR, lenAll, ↓reduceIte, Nat.reduceEqDiff, Nat.reduceAdd, Nat.reduceMul, Nat.reduceLT, Nat.reduceLeDiff, reduceCtorEq, Int.reduceLE, Int.reduceLT, ne_eq, Int.reduceEq, not_false_eq_true, decide_true, decide_false, Int.reduceToNat, tl3, Int.reduceBNe, Int.reduceBEq, rmK, rm1, not_true_eq_false]
  refine C1.im (c_queue_text F_queue_fields_5) (by rfl) (by rfl) ?_
  simp only [tl, tl2, tl4, ↓un_u, isCallR, entX, argFr, ret, retI, retB, intT, unT, endR, ressR, resR, tupT, bslR, boxR, lenAll, ↓reduceIte, Nat.reduceEqDiff, Nat.reduceAdd, Nat.reduceMul, Nat.reduceLT, Nat.reduceLeDiff, reduceCtorEq, Int.reduceLE, Int.reduceLT, ne_eq, Int.reduceEq, not_false_eq_true, decide_true, decide_false, Int.reduceToNat, tl3, Int.reduceBNe, Int.reduceBEq, rmK, rm1, not_true_eq_false]
  refine C1.im (c_queue_number F_queue_fields_6) (by rfl) (by rfl) ?_
  simp only [tl, tl2, tl4, ↓un_u, isCallR, entX, argFr, ret, retI, retB, intT, unT, endR, ressR, resR, tupT, bslR, boxR, lenAll, ↓reduceIte, Nat.reduceEqDiff, Nat.reduceAdd, Nat.reduceMul, Nat.reduceLT, Nat.reduceLeDiff, reduceCtorEq, Int.reduceLE, Int.reduceLT, ne_eq, Int.reduceEq, not_false_eq_true, decide_true, decide_false, Int.reduceToNat, tl3, Int.reduceBNe, Int.reduceBEq, rmK, rm1, not_true_eq_false]
  refine .of [] [8220] rfl (by first | rfl | (rw [hst]; rfl)) ?_ ?_
  all_goals (try simp only [ltSto, ltO2, ltO1, ltAs, ltA, ltC, ltC0, ltC0s, ltCs, ltT, ltFr, ltS, wrOk, wrO, TL.get, hasFr, ↓reduceIte, Nat.reduceEqDiff, reduceCtorEq, Option.getD_some, Option.isSome_some, List.length_map, List.length_append, List.length_cons, List.length_nil, List.append_nil, List.mem_singleton, List.mem_cons, List.not_mem_nil, and_true, true_and, and_self, imp_self, forall_const, false_implies, implies_true, true_implies, or_false, Bool.false_eq_true, Bool.true_eq_false, ImXs_nil, true_or, or_true, false_or, false_and, and_false, rmK, rm1, List.map_append, List.map_cons, List.map_nil, List.cons_append, List.nil_append])
  all_goals (try (repeat' (first | exact ltXs_nil | (apply ltXs_map; intro _; exact ⟨rfl, rfl⟩) | (apply imXs_map; intro _; exact ⟨rfl, rfl⟩) | with_reducible apply imXs_append | with_reducible refine imXs_cons ⟨rfl, rfl⟩ ?_ | exact imXs_nil | with_reducible apply ltXs_append | with_reducible refine ltXs_cons ⟨rfl, rfl, ?_⟩ ?_ | with_reducible apply And.intro | exact ltCs_im rfl | exact ltCs_im (by assumption) | (refine ⟨⟨?_, rfl, ?_, rfl, ?_⟩, trivial⟩ <;> first | (simp; done) | (apply imXs_map; intro _; exact ⟨rfl, rfl⟩)) | trivial | rfl | (rw [i64_succ (by omega)]) | omega)))
  all_goals exact ⟨rfl, rfl, rfl, flds_im⟩
/-- what a field's writer does -/
theorem c_queue_number_1 (bs : List UInt8) (X : T) (hX : ImXs 7 [X]) (g : FuncId) (off : Nat) (n : Int) (ho : off < 7) (hc : X.cells.getD off .junk = vI n) (hb : bs.length ≤ 900000)
    (hg : Spc Try.prog g [.ptr 0 1 0 0] [(0, .arr 7 [X] false)] (.ptr 0 1 0 off) [(0, .arr 7 [X] false)]) :
    Spc Try.prog F_queue_number_1 [.ptr 0 1 0 0, .ptr 2 1 0 0, .ip [.clo g []]] (wrS bs ++ [(2, .arr 7 [X] false)]) (.tup []) (wrS (bs ++ five n) ++ [(2, .arr 7 [X] false)]) := by
  have hn := c_queue_writer_number bs n (by omega)
  refine spec_of_ir fn_queue_number_1 mixm (by simp) fun e _ hst => W_start ?_
  unfold ir_queue_number_1
  simp only [tl, tl2, tl4, ↓un_u, isCallR, entX, argFr, ret, retI, retB, intT, unT, endR, ressR, resR, tupT, bslR, boxR, lenAll, ↓reduceIte, Nat.reduceEqDiff, Nat.reduceAdd, Nat.reduceMul, Nat.reduceLT, Nat.reduceLeDiff, reduceCtorEq, Int.reduceLE, Int.reduceLT, ne_eq, Int.reduceEq, not_false_eq_true, decide_true, decide_false, Int.reduceToNat, tl3, Int.reduceBNe, Int.reduceBEq, rmK, rm1, not_true_eq_false]
  refine C1.of [(0, some 2)] [(2, some 0)] [] [(2, .arr 7 [X] false)] (val := .ptr 2 1 0 off) hg ?_ (by rfl) ?_ (by rfl) (by rfl) ?_ (by rfl) (by rfl) ?_ (.inl (by rfl)) ?_
  · all_goals (try exact clA)
  · all_goals (try exact clA)
  · all_goals (try exact clA)
  · all_goals (try exact clA)
  simp only [tl, tl2, tl4, ↓un_u, isCallR, entX, argFr, ret, retI, retB, intT, unT, endR, ressR, resR, tupT, bslR, boxR, lenAll, ↓reduceIte, Nat.reduceEqDiff, Nat.reduceAdd, Nat.reduceMul, Nat.reduceLT, Nat.reduceLeDiff, reduceCtorEq, Int.reduceLE, Int.reduceLT, ne_eq, Int.reduceEq, not_false_eq_true, decide_true, decide_false, Int.reduceToNat, tl3, Int.reduceBNe, Int.reduceBEq, rmK, rm1, not_true_eq_false, hc]
  refine ⟨by omega, ?_⟩
  refine C1.of [(0, some 0), (1, some 1)] [(0, some 0), (1, some 1)] [] (wrS (bs ++ five n)) (val := .tup []) hn ?_ (by rfl) ?_ (by rfl) (by rfl) ?_ (by rfl) (by rfl) ?_ (.inl (by rfl)) ?_
  · all_goals (try exact clA)
  · all_goals (try exact clA)
  · all_goals (try exact clA)
  · all_goals (try exact clA)
  simp only [tl, tl2, tl4, ↓un_u, isCallR, entX, argFr, ret, retI, retB, intT, unT, endR, ressR, resR, tupT, bslR, boxR, lenAll, ↓reduceIte, Nat.reduceEqDiff, Nat.reduceAdd, Nat.reduceMul, Nat.reduceLT, Nat.reduceLeDiff, reduceCtorEq, Int.reduceLE, Int.reduceLT, ne_eq, Int.reduceEq, not_false_eq_true, decide_true, decide_false, Int.reduceToNat, tl3, Int.reduceBNe, Int.reduceBEq, rmK, rm1, not_true_eq_false]
  refine .of [(0, some 0), (1, some 1), (2, some 2)] [] rfl (by first | rfl | (rw [hst]; rfl)) ?_ ?_
  all_goals (try exact clA)
theorem c_queue_text_1 (bs : List UInt8) (X : T) (hX : ImXs 7 [X]) (g : FuncId) (off : Nat) (t : ByteArray) (ho : off < 7) (hc : X.cells.getD off .junk = vS t) (hb : bs.length ≤ 900000) (ht : t.size ≤ 50000)
    (hg : Spc Try.prog g [.ptr 0 1 0 0] [(0, .arr 7 [X] false)] (.ptr 0 1 0 off) [(0, .arr 7 [X] false)]) :
    Spc Try.prog F_queue_text_1 [.ptr 0 1 0 0, .ptr 2 1 0 0, .ip [.clo g []]] (wrS bs ++ [(2, .arr 7 [X] false)]) (.tup []) (wrS (bs ++ txtB t) ++ [(2, .arr 7 [X] false)]) := by
  have hn := c_queue_writer_text bs t (by omega) ht
  refine spec_of_ir fn_queue_text_1 mixm (by simp) fun e _ hst => W_start ?_
  unfold ir_queue_text_1
  simp only [tl, tl2, tl4, ↓un_u, isCallR, entX, argFr, ret, retI, retB, intT, unT, endR, ressR, resR, tupT, bslR, boxR, lenAll, ↓reduceIte, Nat.reduceEqDiff, Nat.reduceAdd, Nat.reduceMul, Nat.reduceLT, Nat.reduceLeDiff, reduceCtorEq, Int.reduceLE, Int.reduceLT, ne_eq, Int.reduceEq, not_false_eq_true, decide_true, decide_false, Int.reduceToNat, tl3, Int.reduceBNe, Int.reduceBEq, rmK, rm1, not_true_eq_false]
  refine C1.of [(0, some 2)] [(2, some 0)] [] [(2, .arr 7 [X] false)] (val := .ptr 2 1 0 off) hg ?_ (by rfl) ?_ (by rfl) (by rfl) ?_ (by rfl) (by rfl) ?_ (.inl (by rfl)) ?_
  · all_goals (try exact clA)
  · all_goals (try exact clA)
  · all_goals (try exact clA)
  · all_goals (try exact clA)
  simp only [tl, tl2, tl4, ↓un_u, isCallR, entX, argFr, ret, retI, retB, intT, unT, endR, ressR, resR, tupT, bslR, boxR, lenAll, ↓reduceIte, Nat.reduceEqDiff, Nat.reduceAdd, Nat.reduceMul, Nat.reduceLT, Nat.reduceLeDiff, reduceCtorEq, Int.reduceLE, Int.reduceLT, ne_eq, Int.reduceEq, not_false_eq_true, decide_true, decide_false, Int.reduceToNat, tl3, Int.reduceBNe, Int.reduceBEq, rmK, rm1, not_true_eq_false, hc]
  refine ⟨by omega, ?_⟩
  refine C1.of [(0, some 0), (1, some 1)] [(0, some 0), (1, some 1)] [] (wrS (bs ++ txtB t)) (val := .tup []) hn ?_ (by rfl) ?_ (by rfl) (by rfl) ?_ (by rfl) (by rfl) ?_ (.inl (by rfl)) ?_
  · all_goals (try exact clA)
  · all_goals (try exact clA)
  · all_goals (try exact clA)
  · all_goals (try exact clA)
  simp only [tl, tl2, tl4, ↓un_u, isCallR, entX, argFr, ret, retI, retB, intT, unT, endR, ressR, resR, tupT, bslR, boxR, lenAll, ↓reduceIte, Nat.reduceEqDiff, Nat.reduceAdd, Nat.reduceMul, Nat.reduceLT, Nat.reduceLeDiff, reduceCtorEq, Int.reduceLE, Int.reduceLT, ne_eq, Int.reduceEq, not_false_eq_true, decide_true, decide_false, Int.reduceToNat, tl3, Int.reduceBNe, Int.reduceBEq, rmK, rm1, not_true_eq_false]
  refine .of [(0, some 0), (1, some 1), (2, some 2)] [] rfl (by first | rfl | (rw [hst]; rfl)) ?_ ?_
  all_goals (try exact clA)
/-- what a field's reader does -/
theorem c_queue_number_2 (s : RS) (cs cs' : List T) (hX : ImXs 7 [.agg cs]) (hX2 : ImXs 7 [.agg cs']) (g : FuncId) (off : Nat) (ho : off < 7) (hc : repl (.agg cs) off (vI (qN s).1) = .agg cs') (hl : s.1.length < 1000000000)
    (hg : Spc Try.prog g [.ptr 0 1 0 0] [(0, .arr 7 [.agg cs] false)] (.ptr 0 1 0 off) [(0, .arr 7 [.agg cs] false)]) :
    Spc Try.prog F_queue_number_2 [.ptr 0 1 0 0, .ptr 1 1 0 0, .ip [.clo g []]] [(0, rdO s), (1, .arr 7 [.agg cs] false)] (.tup []) [(0, rdO (qN s).2), (1, .arr 7 [.agg cs'] false)] := by
  have hn := c_queue_reader_number s hl
  refine spec_of_ir fn_queue_number_2 mixm (by simp) fun e _ hst => W_start ?_
  unfold ir_queue_number_2
  simp only [tl, tl2, tl4, ↓un_u, isCallR, entX, argFr, ret, retI, retB, intT, unT, endR, ressR, resR, tupT, bslR, boxR, lenAll, ↓reduceIte, Nat.reduceEqDiff, Nat.reduceAdd, Nat.reduceMul, Nat.reduceLT, Nat.reduceLeDiff, reduceCtorEq, Int.reduceLE, Int.reduceLT, ne_eq, Int.reduceEq, not_false_eq_true, decide_true, decide_false, Int.reduceToNat, tl3, Int.reduceBNe, Int.reduceBEq, rmK, rm1, not_true_eq_false]
  refine C1.of [(0, some 1)] [(1, some 0)] [] [(1, .arr 7 [.agg cs] false)] (val := .ptr 1 1 0 off) hg ?_ (by rfl) ?_ (by rfl) (by rfl) ?_ (by rfl) (by rfl) ?_ (.inl (by rfl)) ?_
  · all_goals (try exact clA)
  · all_goals (try exact clA)
  · all_goals (try exact clA)
  · all_goals (try exact clA)
  simp only [tl, tl2, tl4, ↓un_u, isCallR, entX, argFr, ret, retI, retB, intT, unT, endR, ressR, resR, tupT, bslR, boxR, lenAll, ↓reduceIte, Nat.reduceEqDiff, Nat.reduceAdd, Nat.reduceMul, Nat.reduceLT, Nat.reduceLeDiff, reduceCtorEq, Int.reduceLE, Int.reduceLT, ne_eq, Int.reduceEq, not_false_eq_true, decide_true, decide_false, Int.reduceToNat, tl3, Int.reduceBNe, Int.reduceBEq, rmK, rm1, not_true_eq_false]
  refine C1.upd 0 2 _ _ hn rfl (imXs_cons ⟨rfl, rfl⟩ imXs_nil) (imXs_cons ⟨rfl, rfl⟩ imXs_nil) ?_ (by rfl) ?_
  · all_goals (try exact clA)
  simp only [tl, tl2, tl4, ↓un_u, isCallR, entX, argFr, ret, retI, retB, intT, unT, endR, ressR, resR, tupT, bslR, boxR, lenAll, ↓reduceIte, Nat.reduceEqDiff, Nat.reduceAdd, Nat.reduceMul, Nat.reduceLT, Nat.reduceLeDiff, reduceCtorEq, Int.reduceLE, Int.reduceLT, ne_eq, Int.reduceEq, not_false_eq_true, decide_true, decide_false, Int.reduceToNat, tl3, Int.reduceBNe, Int.reduceBEq, rmK, rm1, not_true_eq_false, hc]
  refine ⟨by omega, ?_⟩
  refine .of [(0, some 0), (1, some 1)] [] rfl (by first | rfl | (rw [hst]; rfl)) ?_ ?_
  all_goals (try exact clA)
theorem c_queue_text_2 (s : RS) (cs cs' : List T) (hX : ImXs 7 [.agg cs]) (hX2 : ImXs 7 [.agg cs']) (g : FuncId) (off : Nat) (ho : off < 7) (hc : repl (.agg cs) off (vS (qT s).1) = .agg cs') (hl : s.1.length < 1000000000)
    (hg : Spc Try.prog g [.ptr 0 1 0 0] [(0, .arr 7 [.agg cs] false)] (.ptr 0 1 0 off) [(0, .arr 7 [.agg cs] false)]) :
    Spc Try.prog F_queue_text_2 [.ptr 0 1 0 0, .ptr 1 1 0 0, .ip [.clo g []]] [(0, rdO s), (1, .arr 7 [.agg cs] false)] (.tup []) [(0, rdO (qT s).2), (1, .arr 7 [.agg cs'] false)] := by
  have hn := c_queue_reader_text s hl
  refine spec_of_ir fn_queue_text_2 mixm (by simp) fun e _ hst => W_start ?_
  unfold ir_queue_text_2
  simp only [tl, tl2, tl4, ↓un_u, isCallR, entX, argFr, ret, retI, retB, intT, unT, endR, ressR, resR, tupT, bslR, boxR, lenAll, ↓reduceIte, Nat.reduceEqDiff, Nat.reduceAdd, Nat.reduceMul, Nat.reduceLT, Nat.reduceLeDiff, reduceCtorEq, Int.reduceLE, Int.reduceLT, ne_eq, Int.reduceEq, not_false_eq_true, decide_true, decide_false, Int.reduceToNat, tl3, Int.reduceBNe, Int.reduceBEq, rmK, rm1, not_true_eq_false]
  refine C1.of [(0, some 1)] [(1, some 0)] [] [(1, .arr 7 [.agg cs] false)] (val := .ptr 1 1 0 off) hg ?_ (by rfl) ?_ (by rfl) (by rfl) ?_ (by rfl) (by rfl) ?_ (.inl (by rfl)) ?_
  · all_goals (try exact clA)
  · all_goals (try exact clA)
  · all_goals (try exact clA)
  · all_goals (try exact clA)
  simp only [tl, tl2, tl4, ↓un_u, isCallR, entX, argFr, ret, retI, retB, intT, unT, endR, ressR, resR, tupT, bslR, boxR, lenAll, ↓reduceIte, Nat.reduceEqDiff, Nat.reduceAdd, Nat.reduceMul, Nat.reduceLT, Nat.reduceLeDiff, reduceCtorEq, Int.reduceLE, Int.reduceLT, ne_eq, Int.reduceEq, not_false_eq_true, decide_true, decide_false, Int.reduceToNat, tl3, Int.reduceBNe, Int.reduceBEq, rmK, rm1, not_true_eq_false]
  refine C1.upd 0 2 _ _ hn rfl (imXs_cons ⟨rfl, rfl⟩ imXs_nil) (imXs_cons ⟨rfl, rfl⟩ imXs_nil) ?_ (by rfl) ?_
  · all_goals (try exact clA)
  simp only [tl, tl2, tl4, ↓un_u, isCallR, entX, argFr, ret, retI, retB, intT, unT, endR, ressR, resR, tupT, bslR, boxR, lenAll, ↓reduceIte, Nat.reduceEqDiff, Nat.reduceAdd, Nat.reduceMul, Nat.reduceLT, Nat.reduceLeDiff, reduceCtorEq, Int.reduceLE, Int.reduceLT, ne_eq, Int.reduceEq, not_false_eq_true, decide_true, decide_false, Int.reduceToNat, tl3, Int.reduceBNe, Int.reduceBEq, rmK, rm1, not_true_eq_false, hc]
  refine ⟨by omega, ?_⟩
  refine .of [(0, some 0), (1, some 1)] [] rfl (by first | rfl | (rw [hst]; rfl)) ?_ ?_
  all_goals (try exact clA)
theorem outT_im (x : Out) : ImXs 7 [outT x] := imXs_cons ⟨rfl, rfl⟩ imXs_nil
theorem c_queue_signatures (bs : List UInt8) (x : Out) (hb : bs.length ≤ 700000) (hs : x.sigs.length ≤ 2) (hp : ∀ s ∈ x.sigs, s.pers.size ≤ 50000) :
    Spc Try.prog F_queue_signatures [.ptr 0 1 0 0, .ptr 2 1 0 0] (wrS bs ++ [(2, .arr 7 [outT x] false)]) (.tup []) (wrS (bs ++ (five x.sigs.length ++ x.sigs.flatMap sigB)) ++ [(2, .arr 7 [outT x] false)]) := by
  have h1 := c_queue_writer_number bs x.sigs.length (by omega)
  generalize hc : (five x.sigs.length) = f5 at *
  have hf5 : f5.length = 5 := by rw [← hc]; rfl
  generalize hL : x.sigs = L at *
  have hfl : ∀ i, i ≤ L.length → ((L.take i).flatMap sigB).length ≤ i * 50010 := by
    intro i
    induction i with
    | zero => intro _; simp
    | succ i ih =>
      intro hi
      have hi2 : i < L.length := by omega
      rw [take_snoc hi2, List.flatMap_append, List.length_append]
      have := ih (by omega)
      have hq := hp L[i] (List.getElem_mem hi2)
      have hsz : L[i].pers.size = L[i].pers.data.toList.length := by rw [Array.length_toList]; rfl
      simp only [List.flatMap_cons, List.flatMap_nil, List.append_nil, sigB, txtB, List.length_append, five_length]
      omega
  refine spec_of_ir fn_queue_signatures mixm (by simp) fun e _ hst => W_start ?_
  unfold ir_queue_signatures
  simp only [tl, tl2, tl4, ↓un_u, isCallR, entX, argFr, ret, retI, retB, intT, unT, endR, ressR, resR, tupT, bslR, boxR, lenAll, ↓reduceIte, Nat.reduceEqDiff, Nat.reduceAdd, Nat.reduceMul, Nat.reduceLT, Nat.reduceLeDiff, reduceCtorEq, Int.reduceLE, Int.reduceLT, ne_eq, Int.reduceEq, not_false_eq_true, decide_true, decide_false, Int.reduceToNat, tl3, Int.reduceBNe, Int.reduceBEq, rmK, rm1, not_true_eq_false, hL]
  refine C1.of [(0, some 0), (1, some 1)] [(0, some 0), (1, some 1)] [] (wrS (bs ++ f5)) (val := .tup []) h1 ?_ (by rfl) ?_ (by rfl) (by rfl) ?_ (by rfl) (by rfl) ?_ (.inl (by rfl)) ?_
  · all_goals (try exact clA)
  · all_goals (try exact clA)
  · all_goals (try exact clA)
  · all_goals (try exact clA)
  simp only [tl, tl2, tl4, ↓un_u, isCallR, entX, argFr, ret, retI, retB, intT, unT, endR, ressR, resR, tupT, bslR, boxR, lenAll, ↓reduceIte, Nat.reduceEqDiff, Nat.reduceAdd, Nat.reduceMul, Nat.reduceLT, Nat.reduceLeDiff, reduceCtorEq, Int.reduceLE, Int.reduceLT, ne_eq, Int.reduceEq, not_false_eq_true, decide_true, decide_false, Int.reduceToNat, tl3, Int.reduceBNe, Int.reduceBEq, rmK, rm1, not_true_eq_false, hL]
  refine W_loopF mixm (α := Nat) [18] (fun i => i ≤ L.length) (fun i => [(18, vI i)]) (fun i => wrS (bs ++ (f5 ++ (L.take i).flatMap sigB)) ++ [(2, .arr 7 [outT x] false)]) (fun i => L.length - i) 0 (by omega) ?_ fun i hi => ?_
  · simp only [List.take_zero, List.flatMap_nil, List.append_nil]
    refine .of [(0, some 0), (1, some 1), (2, some 2)] [] rfl (by first | rfl | (rw [hst]; rfl)) ?_ ?_
    all_goals (try exact clA)
  simp only [tl, tl2, tl4, ↓un_u, isCallR, entX, argFr, ret, retI, retB, intT, unT, endR, ressR, resR, tupT, bslR, boxR, lenAll, ↓reduceIte, Nat.reduceEqDiff, Nat.reduceAdd, Nat.reduceMul, Nat.reduceLT, Nat.reduceLeDiff, reduceCtorEq, Int.reduceLE, Int.reduceLT, ne_eq, Int.reduceEq, not_false_eq_true, decide_true, decide_false, Int.reduceToNat, tl3, Int.reduceBNe, Int.reduceBEq, rmK, rm1, not_true_eq_false, decide_eq_true_eq, decide_eq_false_iff_not]
  refine ⟨fun h => ?_, fun h => ?_⟩
  · have hi2 : i < L.length := by omega
    have hwi := i64_succ (i := i) (by omega)
    have hfi := hfl i hi
    have hq := hp L[i] (List.getElem_mem hi2)
    have h2 : i * 50010 ≤ 100020 := by have : i * 50010 ≤ 2 * 50010 := Nat.mul_le_mul_right _ (by omega); omega
    have hsz : L[i].pers.size = L[i].pers.data.toList.length := by rw [Array.length_toList]; rfl
    have hl1 : (bs ++ (f5 ++ (L.take i).flatMap sigB)).length ≤ 850000 := by simp only [List.length_append]; omega
    have w1 := c_queue_writer_text (bs ++ (f5 ++ (L.take i).flatMap sigB)) L[i].pers (by omega) hq
    have hl2 : (bs ++ (f5 ++ (L.take i).flatMap sigB) ++ txtB L[i].pers).length ≤ 950000 := by
      simp only [List.length_append, txtB, five_length] at hl1 ⊢; omega
    have w2 := c_queue_writer_number (bs ++ (f5 ++ (L.take i).flatMap sigB) ++ txtB L[i].pers) L[i].tm (by omega)
    have hfin : bs ++ (f5 ++ (L.take i).flatMap sigB) ++ txtB L[i].pers ++ five L[i].tm = bs ++ (f5 ++ (L.take (i + 1)).flatMap sigB) := by
      rw [take_snoc hi2, List.flatMap_append]
      simp [sigB, List.append_assoc]
    rw [hfin] at w2
    have hbl : bs.length + (f5.length + (List.flatMap sigB (List.take i L)).length) = (bs ++ (f5 ++ (L.take i).flatMap sigB)).length := by simp only [List.length_append]
    generalize bs ++ (f5 ++ (L.take i).flatMap sigB) = b1 at *
    generalize b1 ++ txtB L[i].pers = b2 at *
    simp only [tl, tl2, tl4, ↓un_u, isCallR, entX, argFr, ret, retI, retB, intT, unT, endR, ressR, resR, tupT, bslR, boxR, lenAll, ↓reduceIte, Nat.reduceEqDiff, Nat.reduceAdd, Nat.reduceMul, Nat.reduceLT, Nat.reduceLeDiff, reduceCtorEq, Int.reduceLE, Int.reduceLT, ne_eq, Int.reduceEq, not_false_eq_true, decide_true, decide_false, Int.reduceToNat, tl3, Int.reduceBNe, Int.reduceBEq, rmK, rm1, not_true_eq_false, Int.toNat_natCast, getD_mapT hi2, hbl]
    refine ⟨by omega, ?_⟩
    refine C1.of [(0, some 0), (1, some 1)] [(0, some 0), (1, some 1)] [] (wrS b2) (val := .tup []) w1 ?_ (by rfl) ?_ (by rfl) (by rfl) ?_ (by rfl) (by rfl) ?_ (.inl (by rfl)) ?_
    · all_goals (try exact clA)
    · all_goals (try exact clA)
    · all_goals (try exact clA)
    · all_goals (try exact clA)
    simp only [tl, tl2, tl4, ↓un_u, isCallR, entX, argFr, ret, retI, retB, intT, unT, endR, ressR, resR, tupT, bslR, boxR, lenAll, ↓reduceIte, Nat.reduceEqDiff, Nat.reduceAdd, Nat.reduceMul, Nat.reduceLT, Nat.reduceLeDiff, reduceCtorEq, Int.reduceLE, Int.reduceLT, ne_eq, Int.reduceEq, not_false_eq_true, decide_true, decide_false, Int.reduceToNat, tl3, Int.reduceBNe, Int.reduceBEq, rmK, rm1, not_true_eq_false]
    refine C1.of [(0, some 0), (1, some 1)] [(0, some 0), (1, some 1)] [] (wrS (bs ++ (f5 ++ (L.take (i + 1)).flatMap sigB))) (val := .tup []) w2 ?_ (by rfl) ?_ (by rfl) (by rfl) ?_ (by rfl) (by rfl) ?_ (.inl (by rfl)) ?_
    · all_goals (try exact clA)
    · all_goals (try exact clA)
    · all_goals (try exact clA)
    · all_goals (try exact clA)
    simp only [tl, tl2, tl4, ↓un_u, isCallR, entX, argFr, ret, retI, retB, intT, unT, endR, ressR, resR, tupT, bslR, boxR, lenAll, ↓reduceIte, Nat.reduceEqDiff, Nat.reduceAdd, Nat.reduceMul, Nat.reduceLT, Nat.reduceLeDiff, reduceCtorEq, Int.reduceLE, Int.reduceLT, ne_eq, Int.reduceEq, not_false_eq_true, decide_true, decide_false, Int.reduceToNat, tl3, Int.reduceBNe, Int.reduceBEq, rmK, rm1, not_true_eq_false, hwi]
    refine ⟨i + 1, by omega, by omega, ?_⟩
    refine .of [(0, some 0), (1, some 1), (2, some 2)] [] rfl (by first | rfl | (rw [hst]; rfl)) ?_ ?_
    all_goals (try exact clA)
  · have hi2 : i = L.length := by omega
    subst hi2
    rw [List.take_length]
    refine .of [(0, some 0), (1, some 1), (2, some 2)] [] rfl (by first | rfl | (rw [hst]; rfl)) ?_ ?_
    all_goals (try exact clA)

end Go.Proofs

