import Derived.Test.YtnejebkdlofdoaaBase
set_option linter.unusedSimpArgs false
set_option linter.unusedVariables false
namespace Go.Proofs
open Go Go.TL
/-! ltSto, ltO2, ltO1, ltAs, ltA, ltC, ltC0, ltC0s, ltCs, ltT, ltFr, ltS, wrOk, wrO, TL.get, hasFr, ↓reduceIte, Nat.reduceEqDiff, reduceCtorEq, Option.getD_some, Option.isSome_some, List.length_map, List.length_append, List.length_cons, List.length_nil, List.append_nil, List.mem_singleton, List.mem_cons, List.not_mem_nil, and_true, true_and, and_self, imp_self, forall_const, false_implies, implies_true, true_implies, or_false, Bool.false_eq_true, Bool.true_eq_false, ImXs_nil, true_or, or_true, false_or, false_and, and_false, rmK, rm1# plain -/
def four (n : Int) : List UInt8 := [u8 (shrI .i64 n 24), u8 (shrI .i64 n 16), u8 (shrI .i64 n 8), u8 n]
def cs (bs : List UInt8) : Nat → Int
  | 0 => 0
  | i + 1 => cs bs i + ((i : Int) + 1) * (bs.getD i 0).toNat
def val (bs : List UInt8) : Int := cs bs bs.length % 65521
theorem cs_range (bs : List UInt8) : ∀ i : Nat, 0 ≤ cs bs i ∧ cs bs i ≤ 256 * ((i : Int) * i + i)
  | 0 => ⟨by simp [cs], by simp [cs]⟩
  | i + 1 => by
    obtain ⟨h1, h2⟩ := cs_range bs i
    have h3 := byte_lt (bs.getD i 0)
    simp only [cs]
    generalize ((bs.getD i 0).toNat) = b at h3
    have h4 : ((i : Int) + 1) * b ≤ ((i : Int) + 1) * 256 := Int.mul_le_mul_of_nonneg_left (by omega) (by omega)
    have h5 : 0 ≤ ((i : Int) + 1) * b := Int.mul_nonneg (by omega) (by omega)
    refine ⟨by omega, ?_⟩
    push_cast
    have h6 : ((i : Int) + 1) * ((i : Int) + 1) + ((i : Int) + 1) = (i : Int) * i + i + (2 * i + 2) := by
      rw [Int.add_mul, Int.mul_add]; omega
    rw [h6]
    omega
theorem cs_small {bs : List UInt8} {i : Nat} (h : i ≤ 1048576) : cs bs i < 1000000000000000 := by
  have h1 := (cs_range bs i).2
  have h2 : (i : Int) * i ≤ 1048576 * 1048576 := Int.mul_le_mul (by omega) (by omega) (by omega) (by omega)
  omega
theorem val_range (bs : List UInt8) : 0 ≤ val bs ∧ val bs < 65521 := by unfold val; omega
def num (bs : List UInt8) : Int := (bs.getD 0 0).toNat * 16777216 + (bs.getD 1 0).toNat * 65536 + (bs.getD 2 0).toNat * 256 + (bs.getD 3 0).toNat
theorem num_range (bs : List UInt8) : 0 ≤ num bs ∧ num bs < 4294967296 := by
  have h0 := byte_lt (bs.getD 0 0)
  have h1 := byte_lt (bs.getD 1 0)
  have h2 := byte_lt (bs.getD 2 0)
  have h3 := byte_lt (bs.getD 3 0)
  unfold num
  omega

/-! ltSto, ltO2, ltO1, ltAs, ltA, ltC, ltC0, ltC0s, ltCs, ltT, ltFr, ltS, wrOk, wrO, TL.get, hasFr, ↓reduceIte, Nat.reduceEqDiff, reduceCtorEq, Option.getD_some, Option.isSome_some, List.length_map, List.length_append, List.length_cons, List.length_nil, List.append_nil, List.mem_singleton, List.mem_cons, List.not_mem_nil, and_true, true_and, and_self, imp_self, forall_const, false_implies, implies_true, true_implies, or_false, Bool.false_eq_true, Bool.true_eq_false, ImXs_nil, true_or, or_true, false_or, false_and, and_false, rmK, rm1# contracts -/
theorem c_journal_put (bs : List UInt8) (n : Int) (hb : bs.length ≤ 1048576) : Spc Try.prog F_journal_put [.asl 0 bs.length, vI n] [(0, .arr 1 (bs.map byteT) false)] (.asl 0 (bs.length + 4)) [(0, .arr 1 ((bs ++ four n).map byteT) false)] := by
  refine spec_of_ir fn_journal_put mixm (by simp) fun e _ hst => W_start ?_
  unfold ir_journal_put
  simp only [tl, tl2, tl4, ↓un_u, isCallR, entX, argFr, ret, retI, retB, intT, unT, endR, ressR, resR, tupT, bslR, boxR, lenAll, ↓reduceIte, Nat.reduceEqDiff, Nat.reduceAdd, Nat.reduceMul, Nat.reduceLT, Nat.reduceLeDiff, reduceCtorEq, Int.reduceLE, Int.reduceLT, ne_eq, Int.reduceEq, not_false_eq_true, decide_true, decide_false, Int.reduceToNat, tl3, Int.reduceBNe, Int.reduceBEq, rmK, rm1, not_true_eq_false, byteT_u8]
  refine ⟨by omega, .of [(0, some 0)] [] rfl rfl ?_ ?_⟩
  · simp only [ltSto, ltO2, ltO1, ltAs, ltA, ltC, ltC0, ltC0s, ltCs, ltT, ltFr, ltS, wrOk, wrO, TL.get, hasFr, ↓reduceIte, Nat.reduceEqDiff, reduceCtorEq, Option.getD_some, Option.isSome_some, List.length_map, List.length_append, List.length_cons, List.length_nil, List.append_nil, List.mem_singleton, List.mem_cons, List.not_mem_nil, and_true, true_and, and_self, imp_self, forall_const, false_implies, implies_true, true_implies, or_false, Bool.false_eq_true, Bool.true_eq_false, ImXs_nil, true_or, or_true, false_or, false_and, and_false, rmK, rm1, List.map_append]
    exact ltXs_append (ltXs_bytes bs) (ltXs_bytes (four n))
  · simp only [ltSto, ltO2, ltO1, ltAs, ltA, ltC, ltC0, ltC0s, ltCs, ltT, ltFr, ltS, wrOk, wrO, TL.get, hasFr, ↓reduceIte, Nat.reduceEqDiff, reduceCtorEq, Option.getD_some, Option.isSome_some, List.length_map, List.length_append, List.length_cons, List.length_nil, List.append_nil, List.mem_singleton, List.mem_cons, List.not_mem_nil, and_true, true_and, and_self, imp_self, forall_const, false_implies, implies_true, true_implies, or_false, Bool.false_eq_true, Bool.true_eq_false, ImXs_nil, true_or, or_true, false_or, false_and, and_false, rmK, rm1]
theorem c_journal_check (bs : List UInt8) (hb : bs.length ≤ 1048576) : Spc Try.prog F_journal_check [vL bs] [] (vI (val bs)) [] := by
  refine spec_of_ir fn_journal_check mixm (by simp) fun e _ hst => W_start ?_
  unfold ir_journal_check
  simp only [tl, tl2, tl4, ↓un_u, isCallR, entX, argFr, ret, retI, retB, intT, unT, endR, ressR, resR, tupT, bslR, boxR, lenAll, ↓reduceIte, Nat.reduceEqDiff, Nat.reduceAdd, Nat.reduceMul, Nat.reduceLT, Nat.reduceLeDiff, reduceCtorEq, Int.reduceLE, Int.reduceLT, ne_eq, Int.reduceEq, not_false_eq_true, decide_true, decide_false, Int.reduceToNat, tl3, Int.reduceBNe, Int.reduceBEq, rmK, rm1, not_true_eq_false]
  refine W_loop mixm (α := Nat) (fun i => i ≤ bs.length) (fun i => [(3, vI (cs bs i)), (6, vL bs), (7, vI bs.length), (8, vI i)]) (fun _ => []) (fun i => bs.length - i) 0 (by omega) (.ofFr (by simp [hasFr, TL.get, cs])) fun i hi => ?_
  simp only [tl, tl2, tl4, ↓un_u, isCallR, entX, argFr, ret, retI, retB, intT, unT, endR, ressR, resR, tupT, bslR, boxR, lenAll, ↓reduceIte, Nat.reduceEqDiff, Nat.reduceAdd, Nat.reduceMul, Nat.reduceLT, Nat.reduceLeDiff, reduceCtorEq, Int.reduceLE, Int.reduceLT, ne_eq, Int.reduceEq, not_false_eq_true, decide_true, decide_false, Int.reduceToNat, tl3, Int.reduceBNe, Int.reduceBEq, rmK, rm1, not_true_eq_false, decide_eq_true_eq, decide_eq_false_iff_not]
  refine ⟨fun h => ?_, fun h => ?_⟩
  · have h2 : i < bs.length := by omega
    simp only [tl, tl2, tl4, ↓un_u, isCallR, entX, argFr, ret, retI, retB, intT, unT, endR, ressR, resR, tupT, bslR, boxR, lenAll, ↓reduceIte, Nat.reduceEqDiff, Nat.reduceAdd, Nat.reduceMul, Nat.reduceLT, Nat.reduceLeDiff, reduceCtorEq, Int.reduceLE, Int.reduceLT, ne_eq, Int.reduceEq, not_false_eq_true, decide_true, decide_false, Int.reduceToNat, tl3, Int.reduceBNe, Int.reduceBEq, rmK, rm1, not_true_eq_false, Int.toNat_natCast, getD_bytes h2]
    have h3 := byte_lt (bs.getD i 0)
    have h4 : ((i : Int) + 1) * (bs.getD i 0).toNat ≤ ((i : Int) + 1) * 256 := Int.mul_le_mul_of_nonneg_left (by omega) (by omega)
    have h5 : 0 ≤ ((i : Int) + 1) * (bs.getD i 0).toNat := Int.mul_nonneg (by omega) (by omega)
    have h6 := cs_small (bs := bs) (i := i) (by omega)
    have h7 := (cs_range bs i).1
    refine ⟨by omega, i + 1, by omega, by omega, .ofFr ?_⟩
    rw [IntWalk.i64_in ((i : Int) + 1) (by omega), IntWalk.i64_in ((bs.getD i 0).toNat : Int) (by omega), IntWalk.i64_in (((i : Int) + 1) * _) (by omega), IntWalk.i64_in _ (by omega)]
    simp only [ltSto, ltO2, ltO1, ltAs, ltA, ltC, ltC0, ltC0s, ltCs, ltT, ltFr, ltS, wrOk, wrO, TL.get, hasFr, ↓reduceIte, Nat.reduceEqDiff, reduceCtorEq, Option.getD_some, Option.isSome_some, List.length_map, List.length_append, List.length_cons, List.length_nil, List.append_nil, List.mem_singleton, List.mem_cons, List.not_mem_nil, and_true, true_and, and_self, imp_self, forall_const, false_implies, implies_true, true_implies, or_false, Bool.false_eq_true, Bool.true_eq_false, ImXs_nil, true_or, or_true, false_or, false_and, and_false, rmK, rm1, cs, Int.natCast_add, Int.natCast_one]
  · have : i = bs.length := by omega
    subst this
    refine .imR ?_ rfl
    rw [Int.tmod_eq_emod_of_nonneg (cs_range bs _).1]
    rfl
theorem c_ref23_Value (bs : List UInt8) (hb : bs.length ≤ 1048576) : Spc Try.prog F_ref23_Value [vL bs] [] (vI (val bs)) [] := by
  refine spec_of_ir fn_ref23_Value mixm (by simp) fun e _ hst => W_start ?_
  unfold ir_ref23_Value
  simp only [tl, tl2, tl4, ↓un_u, isCallR, entX, argFr, ret, retI, retB, intT, unT, endR, ressR, resR, tupT, bslR, boxR, lenAll, ↓reduceIte, Nat.reduceEqDiff, Nat.reduceAdd, Nat.reduceMul, Nat.reduceLT, Nat.reduceLeDiff, reduceCtorEq, Int.reduceLE, Int.reduceLT, ne_eq, Int.reduceEq, not_false_eq_true, decide_true, decide_false, Int.reduceToNat, tl3, Int.reduceBNe, Int.reduceBEq, rmK, rm1, not_true_eq_false]
  refine W_loop mixm (α := Nat) (fun i => i ≤ bs.length) (fun i => [(0, vL bs), (3, vI (cs bs i % 65521)), (4, vI i)]) (fun _ => []) (fun i => bs.length - i) 0 (by omega) (.ofFr (by simp [hasFr, TL.get, cs])) fun i hi => ?_
  simp only [tl, tl2, tl4, ↓un_u, isCallR, entX, argFr, ret, retI, retB, intT, unT, endR, ressR, resR, tupT, bslR, boxR, lenAll, ↓reduceIte, Nat.reduceEqDiff, Nat.reduceAdd, Nat.reduceMul, Nat.reduceLT, Nat.reduceLeDiff, reduceCtorEq, Int.reduceLE, Int.reduceLT, ne_eq, Int.reduceEq, not_false_eq_true, decide_true, decide_false, Int.reduceToNat, tl3, Int.reduceBNe, Int.reduceBEq, rmK, rm1, not_true_eq_false, decide_eq_true_eq, decide_eq_false_iff_not]
  refine ⟨fun h => ?_, fun h => ?_⟩
  · have h2 : i < bs.length := by omega
    simp only [tl, tl2, tl4, ↓un_u, isCallR, entX, argFr, ret, retI, retB, intT, unT, endR, ressR, resR, tupT, bslR, boxR, lenAll, ↓reduceIte, Nat.reduceEqDiff, Nat.reduceAdd, Nat.reduceMul, Nat.reduceLT, Nat.reduceLeDiff, reduceCtorEq, Int.reduceLE, Int.reduceLT, ne_eq, Int.reduceEq, not_false_eq_true, decide_true, decide_false, Int.reduceToNat, tl3, Int.reduceBNe, Int.reduceBEq, rmK, rm1, not_true_eq_false, Int.toNat_natCast, getD_bytes h2]
    have h3 := byte_lt (bs.getD i 0)
    have h4 : ((i : Int) + 1) * (bs.getD i 0).toNat ≤ ((i : Int) + 1) * 256 := Int.mul_le_mul_of_nonneg_left (by omega) (by omega)
    have h5 : 0 ≤ ((i : Int) + 1) * (bs.getD i 0).toNat := Int.mul_nonneg (by omega) (by omega)
    have h6 := cs_small (bs := bs) (i := i) (by omega)
    have h7 := (cs_range bs i).1
    refine ⟨by omega, i + 1, by omega, by omega, .ofFr ?_⟩
    rw [IntWalk.i64_in ((i : Int) + 1) (by omega), IntWalk.i64_in ((bs.getD i 0).toNat : Int) (by omega), IntWalk.i64_in (((i : Int) + 1) * _) (by omega), IntWalk.i64_in _ (by omega),
      Int.tmod_eq_emod_of_nonneg (by omega)]
    simp only [ltSto, ltO2, ltO1, ltAs, ltA, ltC, ltC0, ltC0s, ltCs, ltT, ltFr, ltS, wrOk, wrO, TL.get, hasFr, ↓reduceIte, Nat.reduceEqDiff, reduceCtorEq, Option.getD_some, Option.isSome_some, List.length_map, List.length_append, List.length_cons, List.length_nil, List.append_nil, List.mem_singleton, List.mem_cons, List.not_mem_nil, and_true, true_and, and_self, imp_self, forall_const, false_implies, implies_true, true_implies, or_false, Bool.false_eq_true, Bool.true_eq_false, ImXs_nil, true_or, or_true, false_or, false_and, and_false, rmK, rm1, cs, Int.natCast_add, Int.natCast_one]
    rw [Int.emod_add_emod]
  · have : i = bs.length := by omega
    subst this
    exact .imR rfl rfl
theorem c_journal_number (bs : List UInt8) (hb : 4 ≤ bs.length) : Spc Try.prog F_journal_number [vL bs] [] (vI (num bs)) [] := by
  refine spec_of_ir fn_journal_number mixm (by simp) fun e _ hst => W_start ?_
  unfold ir_journal_number
  have g0 := getD_bytes (bs := bs) (i := 0) (by omega)
  have g1 := getD_bytes (bs := bs) (i := 1) (by omega)
  have g2 := getD_bytes (bs := bs) (i := 2) (by omega)
  have g3 := getD_bytes (bs := bs) (i := 3) (by omega)
  simp only [tl, tl2, tl4, ↓un_u, isCallR, entX, argFr, ret, retI, retB, intT, unT, endR, ressR, resR, tupT, bslR, boxR, lenAll, ↓reduceIte, Nat.reduceEqDiff, Nat.reduceAdd, Nat.reduceMul, Nat.reduceLT, Nat.reduceLeDiff, reduceCtorEq, Int.reduceLE, Int.reduceLT, ne_eq, Int.reduceEq, not_false_eq_true, decide_true, decide_false, Int.reduceToNat, tl3, Int.reduceBNe, Int.reduceBEq, rmK, rm1, not_true_eq_false, g0, g1, g2, g3]
  refine ⟨by omega, by omega, by omega, by omega, by kernel_rfl, .imR ?_ rfl⟩
  have h0 := byte_lt (bs.getD 0 0)
  have h1 := byte_lt (bs.getD 1 0)
  have h2 := byte_lt (bs.getD 2 0)
  have h3 := byte_lt (bs.getD 3 0)
  rw [IntWalk.i64_in _ (by omega), IntWalk.i64_in _ (by omega), IntWalk.i64_in _ (by omega), IntWalk.i64_in _ (by omega), or4 (by omega) (by omega) (by omega) (by omega)]
  rfl
theorem c_ref23_number (bs : List UInt8) (hb : 4 ≤ bs.length) : Spc Try.prog F_ref23_number [vL bs] [] (vI (num bs)) [] := by
  refine spec_of_ir fn_ref23_number mixm (by simp) fun e _ hst => W_start ?_
  unfold ir_ref23_number
  have g0 := getD_bytes (bs := bs) (i := 0) (by omega)
  have g1 := getD_bytes (bs := bs) (i := 1) (by omega)
  have g2 := getD_bytes (bs := bs) (i := 2) (by omega)
  have g3 := getD_bytes (bs := bs) (i := 3) (by omega)
  simp only [tl, tl2, tl4, ↓un_u, isCallR, entX, argFr, ret, retI, retB, intT, unT, endR, ressR, resR, tupT, bslR, boxR, lenAll, ↓reduceIte, Nat.reduceEqDiff, Nat.reduceAdd, Nat.reduceMul, Nat.reduceLT, Nat.reduceLeDiff, reduceCtorEq, Int.reduceLE, Int.reduceLT, ne_eq, Int.reduceEq, not_false_eq_true, decide_true, decide_false, Int.reduceToNat, tl3, Int.reduceBNe, Int.reduceBEq, rmK, rm1, not_true_eq_false, g0, g1, g2, g3]
  refine ⟨by omega, by omega, by omega, by omega, by kernel_rfl, .imR ?_ rfl⟩
  have h0 := byte_lt (bs.getD 0 0)
  have h1 := byte_lt (bs.getD 1 0)
  have h2 := byte_lt (bs.getD 2 0)
  have h3 := byte_lt (bs.getD 3 0)
  rw [IntWalk.i64_in ((bs.getD 0 0).toNat : Int) (by omega), IntWalk.i64_in ((bs.getD 1 0).toNat : Int) (by omega), IntWalk.i64_in ((bs.getD 2 0).toNat : Int) (by omega), IntWalk.i64_in ((bs.getD 3 0).toNat : Int) (by omega),
    shl_small (m := 16777216) (by decide) (by decide) (by omega), shl_small (m := 65536) (by decide) (by decide) (by omega), shl_small (m := 256) (by decide) (by decide) (by omega),
    IntWalk.i64_in _ (by rw [IntWalk.i64_in _ (by rw [IntWalk.i64_in _ (by omega)]; omega), IntWalk.i64_in _ (by omega)]; omega), IntWalk.i64_in _ (by rw [IntWalk.i64_in _ (by omega)]; omega), IntWalk.i64_in _ (by omega)]
  rfl
/-- a copy that one owns -/
theorem c_slices_Clone_byte (bs : List UInt8) (hb : bs.length ≤ 1048576) : Spc Try.prog F_slices_Clone_byte [vL bs] [] (.asl 0 bs.length) [(0, .arr 1 (bs.map byteT) false)] := by
  refine spec_of_ir fn_slices_Clone_byte mixm (by simp) fun e _ hst => W_start ?_
  unfold ir_slices_Clone_byte
  simp only [tl, tl2, tl4, ↓un_u, isCallR, entX, argFr, ret, retI, retB, intT, unT, endR, ressR, resR, tupT, bslR, boxR, lenAll, ↓reduceIte, Nat.reduceEqDiff, Nat.reduceAdd, Nat.reduceMul, Nat.reduceLT, Nat.reduceLeDiff, reduceCtorEq, Int.reduceLE, Int.reduceLT, ne_eq, Int.reduceEq, not_false_eq_true, decide_true, decide_false, Int.reduceToNat, tl3, Int.reduceBNe, Int.reduceBEq, rmK, rm1, not_true_eq_false]
  refine ⟨fun h => ?_, by omega, ?_⟩
  · have : bs = [] := by simpa using h
    subst this
    exact .of [(0, none)] [] rfl rfl (by simp only [ltSto, ltO2, ltO1, ltAs, ltA, ltC, ltC0, ltC0s, ltCs, ltT, ltFr, ltS, wrOk, wrO, TL.get, hasFr, ↓reduceIte, Nat.reduceEqDiff, reduceCtorEq, Option.getD_some, Option.isSome_some, List.length_map, List.length_append, List.length_cons, List.length_nil, List.append_nil, List.mem_singleton, List.mem_cons, List.not_mem_nil, and_true, true_and, and_self, imp_self, forall_const, false_implies, implies_true, true_implies, or_false, Bool.false_eq_true, Bool.true_eq_false, ImXs_nil, true_or, or_true, false_or, false_and, and_false, rmK, rm1, List.map_nil]) (by simp only [ltSto, ltO2, ltO1, ltAs, ltA, ltC, ltC0, ltC0s, ltCs, ltT, ltFr, ltS, wrOk, wrO, TL.get, hasFr, ↓reduceIte, Nat.reduceEqDiff, reduceCtorEq, Option.getD_some, Option.isSome_some, List.length_map, List.length_append, List.length_cons, List.length_nil, List.append_nil, List.mem_singleton, List.mem_cons, List.not_mem_nil, and_true, true_and, and_self, imp_self, forall_const, false_implies, implies_true, true_implies, or_false, Bool.false_eq_true, Bool.true_eq_false, ImXs_nil, true_or, or_true, false_or, false_and, and_false, rmK, rm1])
  · refine .of [(0, some 16384)] [] rfl rfl ?_ ?_
    · simp only [ltSto, ltO2, ltO1, ltAs, ltA, ltC, ltC0, ltC0s, ltCs, ltT, ltFr, ltS, wrOk, wrO, TL.get, hasFr, ↓reduceIte, Nat.reduceEqDiff, reduceCtorEq, Option.getD_some, Option.isSome_some, List.length_map, List.length_append, List.length_cons, List.length_nil, List.append_nil, List.mem_singleton, List.mem_cons, List.not_mem_nil, and_true, true_and, and_self, imp_self, forall_const, false_implies, implies_true, true_implies, or_false, Bool.false_eq_true, Bool.true_eq_false, ImXs_nil, true_or, or_true, false_or, false_and, and_false, rmK, rm1, List.nil_append]
      exact ltXs_bytes bs
    · simp only [ltSto, ltO2, ltO1, ltAs, ltA, ltC, ltC0, ltC0s, ltCs, ltT, ltFr, ltS, wrOk, wrO, TL.get, hasFr, ↓reduceIte, Nat.reduceEqDiff, reduceCtorEq, Option.getD_some, Option.isSome_some, List.length_map, List.length_append, List.length_cons, List.length_nil, List.append_nil, List.mem_singleton, List.mem_cons, List.not_mem_nil, and_true, true_and, and_self, imp_self, forall_const, false_implies, implies_true, true_implies, or_false, Bool.false_eq_true, Bool.true_eq_false, ImXs_nil, true_or, or_true, false_or, false_and, and_false, rmK, rm1, Nat.zero_add]
theorem shutB (i n : Nat) (bs : List UInt8) (fz : Bool) (h : bs.length = n) : EndOk [] (.asl i n) [(i, .arr 1 (bs.map byteT) fz)] (vL bs) [] := by
  refine .of [] [i] rfl rfl trivial ?_
  simp only [ltSto, ltO2, ltO1, ltAs, ltA, ltC, ltC0, ltC0s, ltCs, ltT, ltFr, ltS, wrOk, wrO, TL.get, hasFr, ↓reduceIte, Nat.reduceEqDiff, reduceCtorEq, Option.getD_some, Option.isSome_some, List.length_map, List.length_append, List.length_cons, List.length_nil, List.append_nil, List.mem_singleton, List.mem_cons, List.not_mem_nil, and_true, true_and, and_self, imp_self, forall_const, false_implies, implies_true, true_implies, or_false, Bool.false_eq_true, Bool.true_eq_false, ImXs_nil, true_or, or_true, false_or, false_and, and_false, rmK, rm1]
  exact ⟨h, bytes_v bs⟩
theorem c27p (bs : List UInt8) (hb : bs.length ≤ 1048576) : Spc Try.prog F_slices_Clone_byte [vL bs] [] (vL bs) [] := (c_slices_Clone_byte bs hb).weaken (shutB 0 _ bs false rfl)
theorem c_ref23_Four (n : Int) : Spc Try.prog F_ref23_Four [vI n] [] (.asl 0 4) [(0, .arr 1 ((four n).map byteT) false)] := by
  refine spec_of_ir fn_ref23_Four mixm (by simp) fun e _ hst => W_start ?_
  unfold ir_ref23_Four
  simp only [tl, tl2, tl4, ↓un_u, isCallR, entX, argFr, ret, retI, retB, intT, unT, endR, ressR, resR, tupT, bslR, boxR, lenAll, ↓reduceIte, Nat.reduceEqDiff, Nat.reduceAdd, Nat.reduceMul, Nat.reduceLT, Nat.reduceLeDiff, reduceCtorEq, Int.reduceLE, Int.reduceLT, ne_eq, Int.reduceEq, not_false_eq_true, decide_true, decide_false, Int.reduceToNat, tl3, Int.reduceBNe, Int.reduceBEq, rmK, rm1, not_true_eq_false, byteT_u8]
  refine .of [(0, some 8236)] [] rfl rfl ?_ ?_
  · simp only [ltSto, ltO2, ltO1, ltAs, ltA, ltC, ltC0, ltC0s, ltCs, ltT, ltFr, ltS, wrOk, wrO, TL.get, hasFr, ↓reduceIte, Nat.reduceEqDiff, reduceCtorEq, Option.getD_some, Option.isSome_some, List.length_map, List.length_append, List.length_cons, List.length_nil, List.append_nil, List.mem_singleton, List.mem_cons, List.not_mem_nil, and_true, true_and, and_self, imp_self, forall_const, false_implies, implies_true, true_implies, or_false, Bool.false_eq_true, Bool.true_eq_false, ImXs_nil, true_or, or_true, false_or, false_and, and_false, rmK, rm1]
    exact ltXs_bytes (four n)
  · simp only [ltSto, ltO2, ltO1, ltAs, ltA, ltC, ltC0, ltC0s, ltCs, ltT, ltFr, ltS, wrOk, wrO, TL.get, hasFr, ↓reduceIte, Nat.reduceEqDiff, reduceCtorEq, Option.getD_some, Option.isSome_some, List.length_map, List.length_append, List.length_cons, List.length_nil, List.append_nil, List.mem_singleton, List.mem_cons, List.not_mem_nil, and_true, true_and, and_self, imp_self, forall_const, false_implies, implies_true, true_implies, or_false, Bool.false_eq_true, Bool.true_eq_false, ImXs_nil, true_or, or_true, false_or, false_and, and_false, rmK, rm1]
abbrev vF (a p : List UInt8) : T := .agg [vL a, vL p]
theorem c_journal_copied (a p : List UInt8) (ha : a.length ≤ 1048576) (hp : p.length ≤ 1048576) : Spc Try.prog F_journal_copied [vF a p] [] (vF a p) [] := by
  refine spec_of_ir fn_journal_copied mixm (by simp) fun e _ hst => W_start ?_
  unfold ir_journal_copied
  simp only [tl, tl2, tl4, ↓un_u, isCallR, entX, argFr, ret, retI, retB, intT, unT, endR, ressR, resR, tupT, bslR, boxR, lenAll, ↓reduceIte, Nat.reduceEqDiff, Nat.reduceAdd, Nat.reduceMul, Nat.reduceLT, Nat.reduceLeDiff, reduceCtorEq, Int.reduceLE, Int.reduceLT, ne_eq, Int.reduceEq, not_false_eq_true, decide_true, decide_false, Int.reduceToNat, tl3, Int.reduceBNe, Int.reduceBEq, rmK, rm1, not_true_eq_false]
  refine C1.im (c27p a ha) rfl rfl ?_
  simp only [tl, tl2, tl4, ↓un_u, isCallR, entX, argFr, ret, retI, retB, intT, unT, endR, ressR, resR, tupT, bslR, boxR, lenAll, ↓reduceIte, Nat.reduceEqDiff, Nat.reduceAdd, Nat.reduceMul, Nat.reduceLT, Nat.reduceLeDiff, reduceCtorEq, Int.reduceLE, Int.reduceLT, ne_eq, Int.reduceEq, not_false_eq_true, decide_true, decide_false, Int.reduceToNat, tl3, Int.reduceBNe, Int.reduceBEq, rmK, rm1, not_true_eq_false]
  refine C1.im (c27p p hp) rfl rfl ?_
  simp only [tl, tl2, tl4, ↓un_u, isCallR, entX, argFr, ret, retI, retB, intT, unT, endR, ressR, resR, tupT, bslR, boxR, lenAll, ↓reduceIte, Nat.reduceEqDiff, Nat.reduceAdd, Nat.reduceMul, Nat.reduceLT, Nat.reduceLeDiff, reduceCtorEq, Int.reduceLE, Int.reduceLT, ne_eq, Int.reduceEq, not_false_eq_true, decide_true, decide_false, Int.reduceToNat, tl3, Int.reduceBNe, Int.reduceBEq, rmK, rm1, not_true_eq_false]
  exact ⟨by kernel_rfl, .imR rfl rfl⟩
theorem c29o (a p : List UInt8) (ha : a.length ≤ 1048576) (hp : p.length ≤ 1048576) : Spc Try.prog F_journal_joined [vL a, vL p] [] (.asl 0 (a ++ p).length) [(0, .arr 1 ((a ++ p).map byteT) false)] := by
  refine spec_of_ir fn_journal_joined mixm (by simp) fun e _ hst => W_start ?_
  unfold ir_journal_joined
  simp only [tl, tl2, tl4, ↓un_u, isCallR, entX, argFr, ret, retI, retB, intT, unT, endR, ressR, resR, tupT, bslR, boxR, lenAll, ↓reduceIte, Nat.reduceEqDiff, Nat.reduceAdd, Nat.reduceMul, Nat.reduceLT, Nat.reduceLeDiff, reduceCtorEq, Int.reduceLE, Int.reduceLT, ne_eq, Int.reduceEq, not_false_eq_true, decide_true, decide_false, Int.reduceToNat, tl3, Int.reduceBNe, Int.reduceBEq, rmK, rm1, not_true_eq_false]
  refine C1.of [] [(1, some 0)] [] [(1, .arr 1 (a.map byteT) false)] (val := .asl 1 a.length) (c_slices_Clone_byte a ha) ?_ rfl trivial rfl rfl ?_ rfl rfl ?_ (.inl rfl) ?_
  · simp only [ltSto, ltO2, ltO1, ltAs, ltA, ltC, ltC0, ltC0s, ltCs, ltT, ltFr, ltS, wrOk, wrO, TL.get, hasFr, ↓reduceIte, Nat.reduceEqDiff, reduceCtorEq, Option.getD_some, Option.isSome_some, List.length_map, List.length_append, List.length_cons, List.length_nil, List.append_nil, List.mem_singleton, List.mem_cons, List.not_mem_nil, and_true, true_and, and_self, imp_self, forall_const, false_implies, implies_true, true_implies, or_false, Bool.false_eq_true, Bool.true_eq_false, ImXs_nil, true_or, or_true, false_or, false_and, and_false, rmK, rm1]
  · simp only [ltSto, ltO2, ltO1, ltAs, ltA, ltC, ltC0, ltC0s, ltCs, ltT, ltFr, ltS, wrOk, wrO, TL.get, hasFr, ↓reduceIte, Nat.reduceEqDiff, reduceCtorEq, Option.getD_some, Option.isSome_some, List.length_map, List.length_append, List.length_cons, List.length_nil, List.append_nil, List.mem_singleton, List.mem_cons, List.not_mem_nil, and_true, true_and, and_self, imp_self, forall_const, false_implies, implies_true, true_implies, or_false, Bool.false_eq_true, Bool.true_eq_false, ImXs_nil, true_or, or_true, false_or, false_and, and_false, rmK, rm1]
    exact ltXs_bytes a
  · simp only [ltSto, ltO2, ltO1, ltAs, ltA, ltC, ltC0, ltC0s, ltCs, ltT, ltFr, ltS, wrOk, wrO, TL.get, hasFr, ↓reduceIte, Nat.reduceEqDiff, reduceCtorEq, Option.getD_some, Option.isSome_some, List.length_map, List.length_append, List.length_cons, List.length_nil, List.append_nil, List.mem_singleton, List.mem_cons, List.not_mem_nil, and_true, true_and, and_self, imp_self, forall_const, false_implies, implies_true, true_implies, or_false, Bool.false_eq_true, Bool.true_eq_false, ImXs_nil, true_or, or_true, false_or, false_and, and_false, rmK, rm1]
  simp only [tl, tl2, tl4, ↓un_u, isCallR, entX, argFr, ret, retI, retB, intT, unT, endR, ressR, resR, tupT, bslR, boxR, lenAll, ↓reduceIte, Nat.reduceEqDiff, Nat.reduceAdd, Nat.reduceMul, Nat.reduceLT, Nat.reduceLeDiff, reduceCtorEq, Int.reduceLE, Int.reduceLT, ne_eq, Int.reduceEq, not_false_eq_true, decide_true, decide_false, Int.reduceToNat, tl3, Int.reduceBNe, Int.reduceBEq, rmK, rm1, not_true_eq_false]
  refine ⟨by omega, .of [(0, some 1)] [] rfl rfl ?_ ?_⟩
  · simp only [ltSto, ltO2, ltO1, ltAs, ltA, ltC, ltC0, ltC0s, ltCs, ltT, ltFr, ltS, wrOk, wrO, TL.get, hasFr, ↓reduceIte, Nat.reduceEqDiff, reduceCtorEq, Option.getD_some, Option.isSome_some, List.length_map, List.length_append, List.length_cons, List.length_nil, List.append_nil, List.mem_singleton, List.mem_cons, List.not_mem_nil, and_true, true_and, and_self, imp_self, forall_const, false_implies, implies_true, true_implies, or_false, Bool.false_eq_true, Bool.true_eq_false, ImXs_nil, true_or, or_true, false_or, false_and, and_false, rmK, rm1, List.map_append]
    exact ltXs_append (ltXs_bytes a) (ltXs_bytes p)
  · simp only [ltSto, ltO2, ltO1, ltAs, ltA, ltC, ltC0, ltC0s, ltCs, ltT, ltFr, ltS, wrOk, wrO, TL.get, hasFr, ↓reduceIte, Nat.reduceEqDiff, reduceCtorEq, Option.getD_some, Option.isSome_some, List.length_map, List.length_append, List.length_cons, List.length_nil, List.append_nil, List.mem_singleton, List.mem_cons, List.not_mem_nil, and_true, true_and, and_self, imp_self, forall_const, false_implies, implies_true, true_implies, or_false, Bool.false_eq_true, Bool.true_eq_false, ImXs_nil, true_or, or_true, false_or, false_and, and_false, rmK, rm1]
theorem c_journal_joined (a p : List UInt8) (ha : a.length ≤ 1048576) (hp : p.length ≤ 1048576) : Spc Try.prog F_journal_joined [vL a, vL p] [] (vL (a ++ p)) [] := (c29o a p ha hp).weaken (shutB 0 _ (a ++ p) false rfl)
theorem c_ref23_Copy (a p : List UInt8) (ha : a.length ≤ 1048576) (hp : p.length ≤ 1048576) : Spc Try.prog F_ref23_Copy [vF a p] [] (vF a p) [] := by
  refine spec_of_ir fn_ref23_Copy mixm (by simp) fun e _ hst => W_start ?_
  unfold ir_ref23_Copy
  simp only [tl, tl2, tl4, ↓un_u, isCallR, entX, argFr, ret, retI, retB, intT, unT, endR, ressR, resR, tupT, bslR, boxR, lenAll, ↓reduceIte, Nat.reduceEqDiff, Nat.reduceAdd, Nat.reduceMul, Nat.reduceLT, Nat.reduceLeDiff, reduceCtorEq, Int.reduceLE, Int.reduceLT, ne_eq, Int.reduceEq, not_false_eq_true, decide_true, decide_false, Int.reduceToNat, tl3, Int.reduceBNe, Int.reduceBEq, rmK, rm1, not_true_eq_false]
  refine ⟨by omega, by omega, by kernel_rfl, .of [] [8192, 8208] rfl rfl trivial ?_⟩
  simp only [ltSto, ltO2, ltO1, ltAs, ltA, ltC, ltC0, ltC0s, ltCs, ltT, ltFr, ltS, wrOk, wrO, TL.get, hasFr, ↓reduceIte, Nat.reduceEqDiff, reduceCtorEq, Option.getD_some, Option.isSome_some, List.length_map, List.length_append, List.length_cons, List.length_nil, List.append_nil, List.mem_singleton, List.mem_cons, List.not_mem_nil, and_true, true_and, and_self, imp_self, forall_const, false_implies, implies_true, true_implies, or_false, Bool.false_eq_true, Bool.true_eq_false, ImXs_nil, true_or, or_true, false_or, false_and, and_false, rmK, rm1]
  exact ⟨bytes_v a, bytes_v p⟩
def frame (p : List UInt8) : List UInt8 := four p.length ++ p ++ four (val (four p.length ++ p))
def frameR (p : List UInt8) : T := if p.length ≤ 4096 then .tup [vL (frame p), vI 0] else .tup [vL [], vI 1]
theorem four_length (n : Int) : (four n).length = 4 := rfl
theorem c_journal_Frame (p : List UInt8) (hp : p.length ≤ 1048576) : Spc Try.prog F_journal_Frame [vL p] [] (frameR p) [] := by
  refine spec_of_ir fn_journal_Frame mixm (by simp) fun e _ hst => W_start ?_
  unfold ir_journal_Frame
  simp only [tl, tl2, tl4, ↓un_u, isCallR, entX, argFr, ret, retI, retB, intT, unT, endR, ressR, resR, tupT, bslR, boxR, lenAll, ↓reduceIte, Nat.reduceEqDiff, Nat.reduceAdd, Nat.reduceMul, Nat.reduceLT, Nat.reduceLeDiff, reduceCtorEq, Int.reduceLE, Int.reduceLT, ne_eq, Int.reduceEq, not_false_eq_true, decide_true, decide_false, Int.reduceToNat, tl3, Int.reduceBNe, Int.reduceBEq, rmK, rm1, not_true_eq_false, decide_eq_true_eq, decide_eq_false_iff_not]
  refine ⟨fun h => ?_, fun h => ?_⟩
  · rw [frameR, if_neg (by omega)]
    refine .of [] [] rfl rfl trivial ?_
    simp only [ltSto, ltO2, ltO1, ltAs, ltA, ltC, ltC0, ltC0s, ltCs, ltT, ltFr, ltS, wrOk, wrO, TL.get, hasFr, ↓reduceIte, Nat.reduceEqDiff, reduceCtorEq, Option.getD_some, Option.isSome_some, List.length_map, List.length_append, List.length_cons, List.length_nil, List.append_nil, List.mem_singleton, List.mem_cons, List.not_mem_nil, and_true, true_and, and_self, imp_self, forall_const, false_implies, implies_true, true_implies, or_false, Bool.false_eq_true, Bool.true_eq_false, ImXs_nil, true_or, or_true, false_or, false_and, and_false, rmK, rm1, List.map_nil]
  rw [frameR, if_pos (by omega)]
  refine C1.of [(0, none)] [(1, some 0)] [] [(1, .arr 1 ((four p.length).map byteT) false)] (val := .asl 1 4) (c_journal_put [] p.length (by simp)) ?_ rfl ?_ rfl rfl ?_ rfl rfl ?_ (.inl rfl) ?_
  · simp only [ltSto, ltO2, ltO1, ltAs, ltA, ltC, ltC0, ltC0s, ltCs, ltT, ltFr, ltS, wrOk, wrO, TL.get, hasFr, ↓reduceIte, Nat.reduceEqDiff, reduceCtorEq, Option.getD_some, Option.isSome_some, List.length_map, List.length_append, List.length_cons, List.length_nil, List.append_nil, List.mem_singleton, List.mem_cons, List.not_mem_nil, and_true, true_and, and_self, imp_self, forall_const, false_implies, implies_true, true_implies, or_false, Bool.false_eq_true, Bool.true_eq_false, ImXs_nil, true_or, or_true, false_or, false_and, and_false, rmK, rm1]
  · simp only [ltSto, ltO2, ltO1, ltAs, ltA, ltC, ltC0, ltC0s, ltCs, ltT, ltFr, ltS, wrOk, wrO, TL.get, hasFr, ↓reduceIte, Nat.reduceEqDiff, reduceCtorEq, Option.getD_some, Option.isSome_some, List.length_map, List.length_append, List.length_cons, List.length_nil, List.append_nil, List.mem_singleton, List.mem_cons, List.not_mem_nil, and_true, true_and, and_self, imp_self, forall_const, false_implies, implies_true, true_implies, or_false, Bool.false_eq_true, Bool.true_eq_false, ImXs_nil, true_or, or_true, false_or, false_and, and_false, rmK, rm1, List.map_nil]
  · simp only [ltSto, ltO2, ltO1, ltAs, ltA, ltC, ltC0, ltC0s, ltCs, ltT, ltFr, ltS, wrOk, wrO, TL.get, hasFr, ↓reduceIte, Nat.reduceEqDiff, reduceCtorEq, Option.getD_some, Option.isSome_some, List.length_map, List.length_append, List.length_cons, List.length_nil, List.append_nil, List.mem_singleton, List.mem_cons, List.not_mem_nil, and_true, true_and, and_self, imp_self, forall_const, false_implies, implies_true, true_implies, or_false, Bool.false_eq_true, Bool.true_eq_false, ImXs_nil, true_or, or_true, false_or, false_and, and_false, rmK, rm1, List.nil_append]
    exact ltXs_bytes _
  · simp only [ltSto, ltO2, ltO1, ltAs, ltA, ltC, ltC0, ltC0s, ltCs, ltT, ltFr, ltS, wrOk, wrO, TL.get, hasFr, ↓reduceIte, Nat.reduceEqDiff, reduceCtorEq, Option.getD_some, Option.isSome_some, List.length_map, List.length_append, List.length_cons, List.length_nil, List.append_nil, List.mem_singleton, List.mem_cons, List.not_mem_nil, and_true, true_and, and_self, imp_self, forall_const, false_implies, implies_true, true_implies, or_false, Bool.false_eq_true, Bool.true_eq_false, ImXs_nil, true_or, or_true, false_or, false_and, and_false, rmK, rm1]
  simp only [tl, tl2, tl4, ↓un_u, isCallR, entX, argFr, ret, retI, retB, intT, unT, endR, ressR, resR, tupT, bslR, boxR, lenAll, ↓reduceIte, Nat.reduceEqDiff, Nat.reduceAdd, Nat.reduceMul, Nat.reduceLT, Nat.reduceLeDiff, reduceCtorEq, Int.reduceLE, Int.reduceLT, ne_eq, Int.reduceEq, not_false_eq_true, decide_true, decide_false, Int.reduceToNat, tl3, Int.reduceBNe, Int.reduceBEq, rmK, rm1, not_true_eq_false, ← List.map_append]
  have hl : (four p.length ++ p).length = 4 + p.length := by simp [four_length]
  have hl2 : (four p.length ++ p).length ≤ 1048576 := by omega
  refine ⟨⟨rfl, by omega⟩, ?_⟩
  refine C1.lend [1] (c_journal_check (four p.length ++ p) hl2) ?_ rfl rfl ?_
  · simp only [ltSto, ltO2, ltO1, ltAs, ltA, ltC, ltC0, ltC0s, ltCs, ltT, ltFr, ltS, wrOk, wrO, TL.get, hasFr, ↓reduceIte, Nat.reduceEqDiff, reduceCtorEq, Option.getD_some, Option.isSome_some, List.length_map, List.length_append, List.length_cons, List.length_nil, List.append_nil, List.mem_singleton, List.mem_cons, List.not_mem_nil, and_true, true_and, and_self, imp_self, forall_const, false_implies, implies_true, true_implies, or_false, Bool.false_eq_true, Bool.true_eq_false, ImXs_nil, true_or, or_true, false_or, false_and, and_false, rmK, rm1, four_length]
    exact bytes_v _
  simp only [tl, tl2, tl4, ↓un_u, isCallR, entX, argFr, ret, retI, retB, intT, unT, endR, ressR, resR, tupT, bslR, boxR, lenAll, ↓reduceIte, Nat.reduceEqDiff, Nat.reduceAdd, Nat.reduceMul, Nat.reduceLT, Nat.reduceLeDiff, reduceCtorEq, Int.reduceLE, Int.reduceLT, ne_eq, Int.reduceEq, not_false_eq_true, decide_true, decide_false, Int.reduceToNat, tl3, Int.reduceBNe, Int.reduceBEq, rmK, rm1, not_true_eq_false]
  refine C1.of [(0, some 1)] [(1, some 0)] [] [(1, .arr 1 ((four p.length ++ p ++ four (val (four p.length ++ p))).map byteT) false)] (val := .asl 1 (4 + p.length + 4)) (c_journal_put (four p.length ++ p) (val (four p.length ++ p)) hl2) ?_ rfl ?_ rfl rfl ?_ rfl rfl ?_ (.inl rfl) ?_
  · simp only [ltSto, ltO2, ltO1, ltAs, ltA, ltC, ltC0, ltC0s, ltCs, ltT, ltFr, ltS, wrOk, wrO, TL.get, hasFr, ↓reduceIte, Nat.reduceEqDiff, reduceCtorEq, Option.getD_some, Option.isSome_some, List.length_map, List.length_append, List.length_cons, List.length_nil, List.append_nil, List.mem_singleton, List.mem_cons, List.not_mem_nil, and_true, true_and, and_self, imp_self, forall_const, false_implies, implies_true, true_implies, or_false, Bool.false_eq_true, Bool.true_eq_false, ImXs_nil, true_or, or_true, false_or, false_and, and_false, rmK, rm1, four_length]
  · simp only [ltSto, ltO2, ltO1, ltAs, ltA, ltC, ltC0, ltC0s, ltCs, ltT, ltFr, ltS, wrOk, wrO, TL.get, hasFr, ↓reduceIte, Nat.reduceEqDiff, reduceCtorEq, Option.getD_some, Option.isSome_some, List.length_map, List.length_append, List.length_cons, List.length_nil, List.append_nil, List.mem_singleton, List.mem_cons, List.not_mem_nil, and_true, true_and, and_self, imp_self, forall_const, false_implies, implies_true, true_implies, or_false, Bool.false_eq_true, Bool.true_eq_false, ImXs_nil, true_or, or_true, false_or, false_and, and_false, rmK, rm1]
    exact ltXs_bytes _
  · simp only [ltSto, ltO2, ltO1, ltAs, ltA, ltC, ltC0, ltC0s, ltCs, ltT, ltFr, ltS, wrOk, wrO, TL.get, hasFr, ↓reduceIte, Nat.reduceEqDiff, reduceCtorEq, Option.getD_some, Option.isSome_some, List.length_map, List.length_append, List.length_cons, List.length_nil, List.append_nil, List.mem_singleton, List.mem_cons, List.not_mem_nil, and_true, true_and, and_self, imp_self, forall_const, false_implies, implies_true, true_implies, or_false, Bool.false_eq_true, Bool.true_eq_false, ImXs_nil, true_or, or_true, false_or, false_and, and_false, rmK, rm1]
    exact ltXs_bytes _
  · simp only [ltSto, ltO2, ltO1, ltAs, ltA, ltC, ltC0, ltC0s, ltCs, ltT, ltFr, ltS, wrOk, wrO, TL.get, hasFr, ↓reduceIte, Nat.reduceEqDiff, reduceCtorEq, Option.getD_some, Option.isSome_some, List.length_map, List.length_append, List.length_cons, List.length_nil, List.append_nil, List.mem_singleton, List.mem_cons, List.not_mem_nil, and_true, true_and, and_self, imp_self, forall_const, false_implies, implies_true, true_implies, or_false, Bool.false_eq_true, Bool.true_eq_false, ImXs_nil, true_or, or_true, false_or, false_and, and_false, rmK, rm1, four_length]
  simp only [tl, tl2, tl4, ↓un_u, isCallR, entX, argFr, ret, retI, retB, intT, unT, endR, ressR, resR, tupT, bslR, boxR, lenAll, ↓reduceIte, Nat.reduceEqDiff, Nat.reduceAdd, Nat.reduceMul, Nat.reduceLT, Nat.reduceLeDiff, reduceCtorEq, Int.reduceLE, Int.reduceLT, ne_eq, Int.reduceEq, not_false_eq_true, decide_true, decide_false, Int.reduceToNat, tl3, Int.reduceBNe, Int.reduceBEq, rmK, rm1, not_true_eq_false]
  refine .of [] [1] rfl rfl trivial ?_
  simp only [ltSto, ltO2, ltO1, ltAs, ltA, ltC, ltC0, ltC0s, ltCs, ltT, ltFr, ltS, wrOk, wrO, TL.get, hasFr, ↓reduceIte, Nat.reduceEqDiff, reduceCtorEq, Option.getD_some, Option.isSome_some, List.length_map, List.length_append, List.length_cons, List.length_nil, List.append_nil, List.mem_singleton, List.mem_cons, List.not_mem_nil, and_true, true_and, and_self, imp_self, forall_const, false_implies, implies_true, true_implies, or_false, Bool.false_eq_true, Bool.true_eq_false, ImXs_nil, true_or, or_true, false_or, false_and, and_false, rmK, rm1, four_length]
  exact ⟨rfl, bytes_v _⟩
theorem c_ref23_Frame (p : List UInt8) (hp : p.length ≤ 1048576) : Spc Try.prog F_ref23_Frame [vL p] [] (frameR p) [] := by
  refine spec_of_ir fn_ref23_Frame mixm (by simp) fun e _ hst => W_start ?_
  unfold ir_ref23_Frame
  simp only [tl, tl2, tl4, ↓un_u, isCallR, entX, argFr, ret, retI, retB, intT, unT, endR, ressR, resR, tupT, bslR, boxR, lenAll, ↓reduceIte, Nat.reduceEqDiff, Nat.reduceAdd, Nat.reduceMul, Nat.reduceLT, Nat.reduceLeDiff, reduceCtorEq, Int.reduceLE, Int.reduceLT, ne_eq, Int.reduceEq, not_false_eq_true, decide_true, decide_false, Int.reduceToNat, tl3, Int.reduceBNe, Int.reduceBEq, rmK, rm1, not_true_eq_false, decide_eq_true_eq, decide_eq_false_iff_not]
  refine ⟨fun h => ?_, fun h => ?_⟩
  · rw [frameR, if_neg (by omega)]
    refine .of [] [] rfl rfl trivial ?_
    simp only [ltSto, ltO2, ltO1, ltAs, ltA, ltC, ltC0, ltC0s, ltCs, ltT, ltFr, ltS, wrOk, wrO, TL.get, hasFr, ↓reduceIte, Nat.reduceEqDiff, reduceCtorEq, Option.getD_some, Option.isSome_some, List.length_map, List.length_append, List.length_cons, List.length_nil, List.append_nil, List.mem_singleton, List.mem_cons, List.not_mem_nil, and_true, true_and, and_self, imp_self, forall_const, false_implies, implies_true, true_implies, or_false, Bool.false_eq_true, Bool.true_eq_false, ImXs_nil, true_or, or_true, false_or, false_and, and_false, rmK, rm1, List.map_nil]
  rw [frameR, if_pos (by omega)]
  refine C1.of [] [(1, some 0)] [] [(1, .arr 1 ((four p.length).map byteT) false)] (val := .asl 1 4) (c_ref23_Four p.length) ?_ rfl trivial rfl rfl ?_ rfl rfl ?_ (.inl rfl) ?_
  · simp only [ltSto, ltO2, ltO1, ltAs, ltA, ltC, ltC0, ltC0s, ltCs, ltT, ltFr, ltS, wrOk, wrO, TL.get, hasFr, ↓reduceIte, Nat.reduceEqDiff, reduceCtorEq, Option.getD_some, Option.isSome_some, List.length_map, List.length_append, List.length_cons, List.length_nil, List.append_nil, List.mem_singleton, List.mem_cons, List.not_mem_nil, and_true, true_and, and_self, imp_self, forall_const, false_implies, implies_true, true_implies, or_false, Bool.false_eq_true, Bool.true_eq_false, ImXs_nil, true_or, or_true, false_or, false_and, and_false, rmK, rm1]
  · simp only [ltSto, ltO2, ltO1, ltAs, ltA, ltC, ltC0, ltC0s, ltCs, ltT, ltFr, ltS, wrOk, wrO, TL.get, hasFr, ↓reduceIte, Nat.reduceEqDiff, reduceCtorEq, Option.getD_some, Option.isSome_some, List.length_map, List.length_append, List.length_cons, List.length_nil, List.append_nil, List.mem_singleton, List.mem_cons, List.not_mem_nil, and_true, true_and, and_self, imp_self, forall_const, false_implies, implies_true, true_implies, or_false, Bool.false_eq_true, Bool.true_eq_false, ImXs_nil, true_or, or_true, false_or, false_and, and_false, rmK, rm1]
    exact ltXs_bytes _
  · simp only [ltSto, ltO2, ltO1, ltAs, ltA, ltC, ltC0, ltC0s, ltCs, ltT, ltFr, ltS, wrOk, wrO, TL.get, hasFr, ↓reduceIte, Nat.reduceEqDiff, reduceCtorEq, Option.getD_some, Option.isSome_some, List.length_map, List.length_append, List.length_cons, List.length_nil, List.append_nil, List.mem_singleton, List.mem_cons, List.not_mem_nil, and_true, true_and, and_self, imp_self, forall_const, false_implies, implies_true, true_implies, or_false, Bool.false_eq_true, Bool.true_eq_false, ImXs_nil, true_or, or_true, false_or, false_and, and_false, rmK, rm1]
  simp only [tl, tl2, tl4, ↓un_u, isCallR, entX, argFr, ret, retI, retB, intT, unT, endR, ressR, resR, tupT, bslR, boxR, lenAll, ↓reduceIte, Nat.reduceEqDiff, Nat.reduceAdd, Nat.reduceMul, Nat.reduceLT, Nat.reduceLeDiff, reduceCtorEq, Int.reduceLE, Int.reduceLT, ne_eq, Int.reduceEq, not_false_eq_true, decide_true, decide_false, Int.reduceToNat, tl3, Int.reduceBNe, Int.reduceBEq, rmK, rm1, not_true_eq_false, ← List.map_append]
  have hl : (four p.length ++ p).length = 4 + p.length := by simp [four_length]
  have hl2 : (four p.length ++ p).length ≤ 1048576 := by omega
  refine ⟨⟨rfl, by omega⟩, ?_⟩
  refine C1.lend [1] (c_ref23_Value (four p.length ++ p) hl2) ?_ rfl rfl ?_
  · simp only [ltSto, ltO2, ltO1, ltAs, ltA, ltC, ltC0, ltC0s, ltCs, ltT, ltFr, ltS, wrOk, wrO, TL.get, hasFr, ↓reduceIte, Nat.reduceEqDiff, reduceCtorEq, Option.getD_some, Option.isSome_some, List.length_map, List.length_append, List.length_cons, List.length_nil, List.append_nil, List.mem_singleton, List.mem_cons, List.not_mem_nil, and_true, true_and, and_self, imp_self, forall_const, false_implies, implies_true, true_implies, or_false, Bool.false_eq_true, Bool.true_eq_false, ImXs_nil, true_or, or_true, false_or, false_and, and_false, rmK, rm1, four_length]
    exact bytes_v _
  simp only [tl, tl2, tl4, ↓un_u, isCallR, entX, argFr, ret, retI, retB, intT, unT, endR, ressR, resR, tupT, bslR, boxR, lenAll, ↓reduceIte, Nat.reduceEqDiff, Nat.reduceAdd, Nat.reduceMul, Nat.reduceLT, Nat.reduceLeDiff, reduceCtorEq, Int.reduceLE, Int.reduceLT, ne_eq, Int.reduceEq, not_false_eq_true, decide_true, decide_false, Int.reduceToNat, tl3, Int.reduceBNe, Int.reduceBEq, rmK, rm1, not_true_eq_false]
  refine C1.of [] [(2, some 0)] [] [(2, .arr 1 ((four (val (four p.length ++ p))).map byteT) false)] (val := .asl 2 4) (c_ref23_Four (val (four p.length ++ p))) ?_ rfl trivial rfl rfl ?_ rfl rfl ?_ (.inl rfl) ?_
  · simp only [ltSto, ltO2, ltO1, ltAs, ltA, ltC, ltC0, ltC0s, ltCs, ltT, ltFr, ltS, wrOk, wrO, TL.get, hasFr, ↓reduceIte, Nat.reduceEqDiff, reduceCtorEq, Option.getD_some, Option.isSome_some, List.length_map, List.length_append, List.length_cons, List.length_nil, List.append_nil, List.mem_singleton, List.mem_cons, List.not_mem_nil, and_true, true_and, and_self, imp_self, forall_const, false_implies, implies_true, true_implies, or_false, Bool.false_eq_true, Bool.true_eq_false, ImXs_nil, true_or, or_true, false_or, false_and, and_false, rmK, rm1]
  · simp only [ltSto, ltO2, ltO1, ltAs, ltA, ltC, ltC0, ltC0s, ltCs, ltT, ltFr, ltS, wrOk, wrO, TL.get, hasFr, ↓reduceIte, Nat.reduceEqDiff, reduceCtorEq, Option.getD_some, Option.isSome_some, List.length_map, List.length_append, List.length_cons, List.length_nil, List.append_nil, List.mem_singleton, List.mem_cons, List.not_mem_nil, and_true, true_and, and_self, imp_self, forall_const, false_implies, implies_true, true_implies, or_false, Bool.false_eq_true, Bool.true_eq_false, ImXs_nil, true_or, or_true, false_or, false_and, and_false, rmK, rm1]
    exact ltXs_bytes _
  · simp only [ltSto, ltO2, ltO1, ltAs, ltA, ltC, ltC0, ltC0s, ltCs, ltT, ltFr, ltS, wrOk, wrO, TL.get, hasFr, ↓reduceIte, Nat.reduceEqDiff, reduceCtorEq, Option.getD_some, Option.isSome_some, List.length_map, List.length_append, List.length_cons, List.length_nil, List.append_nil, List.mem_singleton, List.mem_cons, List.not_mem_nil, and_true, true_and, and_self, imp_self, forall_const, false_implies, implies_true, true_implies, or_false, Bool.false_eq_true, Bool.true_eq_false, ImXs_nil, true_or, or_true, false_or, false_and, and_false, rmK, rm1]
  simp only [tl, tl2, tl4, ↓un_u, isCallR, entX, argFr, ret, retI, retB, intT, unT, endR, ressR, resR, tupT, bslR, boxR, lenAll, ↓reduceIte, Nat.reduceEqDiff, Nat.reduceAdd, Nat.reduceMul, Nat.reduceLT, Nat.reduceLeDiff, reduceCtorEq, Int.reduceLE, Int.reduceLT, ne_eq, Int.reduceEq, not_false_eq_true, decide_true, decide_false, Int.reduceToNat, tl3, Int.reduceBNe, Int.reduceBEq, rmK, rm1, not_true_eq_false, ← List.map_append, four_length]
  refine ⟨by omega, .of [] [1] rfl rfl trivial ?_⟩
  simp only [ltSto, ltO2, ltO1, ltAs, ltA, ltC, ltC0, ltC0s, ltCs, ltT, ltFr, ltS, wrOk, wrO, TL.get, hasFr, ↓reduceIte, Nat.reduceEqDiff, reduceCtorEq, Option.getD_some, Option.isSome_some, List.length_map, List.length_append, List.length_cons, List.length_nil, List.append_nil, List.mem_singleton, List.mem_cons, List.not_mem_nil, and_true, true_and, and_self, imp_self, forall_const, false_implies, implies_true, true_implies, or_false, Bool.false_eq_true, Bool.true_eq_false, ImXs_nil, true_or, or_true, false_or, false_and, and_false, rmK, rm1, four_length]
  exact ⟨rfl, bytes_v _⟩

/-! ltSto, ltO2, ltO1, ltAs, ltA, ltC, ltC0, ltC0s, ltCs, ltT, ltFr, ltS, wrOk, wrO, TL.get, hasFr, ↓reduceIte, Nat.reduceEqDiff, reduceCtorEq, Option.getD_some, Option.isSome_some, List.length_map, List.length_append, List.length_cons, List.length_nil, List.append_nil, List.mem_singleton, List.mem_cons, List.not_mem_nil, and_true, true_and, and_self, imp_self, forall_const, false_implies, implies_true, true_implies, or_false, Bool.false_eq_true, Bool.true_eq_false, ImXs_nil, true_or, or_true, false_or, false_and, and_false, rmK, rm1# reading -/
def good (r : List UInt8) : Bool := decide (8 ≤ r.length) && (decide (num r ≤ 4096) && (decide (num r + 8 ≤ r.length) && decide (num (r.drop (4 + (num r).toNat)) = val (r.take (4 + (num r).toNat)))))
def rdL : Nat → List UInt8 → List (List UInt8) × Nat
  | 0, _ => ([], 0)
  | f + 1, r => if good r = true then (((r.take (4 + (num r).toNat)).drop 4) :: (rdL f (r.drop ((num r).toNat + 8))).1, (num r).toNat + 8 + (rdL f (r.drop ((num r).toNat + 8))).2) else ([], 0)
def readB (b : List UInt8) : List (List UInt8) × Nat := rdL (b.length + 1) b
theorem c_journal_Read (b : List UInt8) (hb : b.length ≤ 1048576) : Spc Try.prog F_journal_Read [vL b] [] (.tup [.sl 1 ((readB b).1.map vL), vI (readB b).2]) [] := by
  refine spec_of_ir fn_journal_Read mixm (by simp) fun e _ hst => W_start ?_
  unfold ir_journal_Read
  simp only [tl, tl2, tl4, ↓un_u, isCallR, entX, argFr, ret, retI, retB, intT, unT, endR, ressR, resR, tupT, bslR, boxR, lenAll, ↓reduceIte, Nat.reduceEqDiff, Nat.reduceAdd, Nat.reduceMul, Nat.reduceLT, Nat.reduceLeDiff, reduceCtorEq, Int.reduceLE, Int.reduceLT, ne_eq, Int.reduceEq, not_false_eq_true, decide_true, decide_false, Int.reduceToNat, tl3, Int.reduceBNe, Int.reduceBEq, rmK, rm1, not_true_eq_false, decide_eq_true_eq, decide_eq_false_iff_not]
  refine W_loop mixm (α := Nat × List (List UInt8) × Nat) (fun x => x.2.2 ≤ b.length ∧ b.length - x.2.2 < x.1 ∧ x.2.1.length ≤ x.2.2 ∧ x.2.1 ++ (rdL x.1 (b.drop x.2.2)).1 = (readB b).1 ∧ x.2.2 + (rdL x.1 (b.drop x.2.2)).2 = (readB b).2)
    (fun x => [(0, vL b), (4, .asl 1 x.2.1.length), (5, vI x.2.2)]) (fun x => [(1, .arr 1 (x.2.1.map vL) false)]) (fun x => x.1) (b.length + 1, [], 0) ⟨by simp, by simp, by simp, by simp [readB], by simp [readB]⟩ ?_ ?_
  · refine .of [(1, none)] [] rfl (by rw [hst]; rfl) ?_ ?_
    · simp only [ltSto, ltO2, ltO1, ltAs, ltA, ltC, ltC0, ltC0s, ltCs, ltT, ltFr, ltS, wrOk, wrO, TL.get, hasFr, ↓reduceIte, Nat.reduceEqDiff, reduceCtorEq, Option.getD_some, Option.isSome_some, List.length_map, List.length_append, List.length_cons, List.length_nil, List.append_nil, List.mem_singleton, List.mem_cons, List.not_mem_nil, and_true, true_and, and_self, imp_self, forall_const, false_implies, implies_true, true_implies, or_false, Bool.false_eq_true, Bool.true_eq_false, ImXs_nil, true_or, or_true, false_or, false_and, and_false, rmK, rm1, List.map_nil]
    · simp only [ltSto, ltO2, ltO1, ltAs, ltA, ltC, ltC0, ltC0s, ltCs, ltT, ltFr, ltS, wrOk, wrO, TL.get, hasFr, ↓reduceIte, Nat.reduceEqDiff, reduceCtorEq, Option.getD_some, Option.isSome_some, List.length_map, List.length_append, List.length_cons, List.length_nil, List.append_nil, List.mem_singleton, List.mem_cons, List.not_mem_nil, and_true, true_and, and_self, imp_self, forall_const, false_implies, implies_true, true_implies, or_false, Bool.false_eq_true, Bool.true_eq_false, ImXs_nil, true_or, or_true, false_or, false_and, and_false, rmK, rm1]; rfl
  rintro ⟨f, out, at_⟩ ⟨h1, h2, hol, h3, h4⟩
  simp only at h1 h2 hol h3 h4
  simp only [tl, tl2, tl4, ↓un_u, isCallR, entX, argFr, ret, retI, retB, intT, unT, endR, ressR, resR, tupT, bslR, boxR, lenAll, ↓reduceIte, Nat.reduceEqDiff, Nat.reduceAdd, Nat.reduceMul, Nat.reduceLT, Nat.reduceLeDiff, reduceCtorEq, Int.reduceLE, Int.reduceLT, ne_eq, Int.reduceEq, not_false_eq_true, decide_true, decide_false, Int.reduceToNat, tl3, Int.reduceBNe, Int.reduceBEq, rmK, rm1, not_true_eq_false, decide_eq_true_eq, decide_eq_false_iff_not, cut_map, cut_from]
  obtain ⟨f, rfl⟩ : ∃ f', f = f' + 1 := ⟨f - 1, by omega⟩
  generalize hr : b.drop at_ = r at h3 h4 ⊢
  have hrl : r.length = b.length - at_ := by rw [← hr]; simp
  have fin : good r = false → EndOk [] (T.tup [T.asl 1 out.length, vI at_]) [(1, Ob.arr 1 (List.map vL out) false)] (T.tup [T.sl 1 (List.map vL (readB b).fst), vI (readB b).snd]) [] := by
    intro hg
    simp only [rdL, hg, Bool.false_eq_true, if_false, List.append_nil, Nat.add_zero] at h3 h4
    refine .of [] [1] rfl rfl trivial ?_
    simp only [ltSto, ltO2, ltO1, ltAs, ltA, ltC, ltC0, ltC0s, ltCs, ltT, ltFr, ltS, wrOk, wrO, TL.get, hasFr, ↓reduceIte, Nat.reduceEqDiff, reduceCtorEq, Option.getD_some, Option.isSome_some, List.length_map, List.length_append, List.length_cons, List.length_nil, List.append_nil, List.mem_singleton, List.mem_cons, List.not_mem_nil, and_true, true_and, and_self, imp_self, forall_const, false_implies, implies_true, true_implies, or_false, Bool.false_eq_true, Bool.true_eq_false, ImXs_nil, true_or, or_true, false_or, false_and, and_false, rmK, rm1, ← h3, ← h4]
    exact imXs_map (f := vL) (fun _ => ⟨rfl, rfl⟩) out
  refine ⟨by omega, fun h5 => fin ?_, fun h5 => ?_⟩
  · simp [good]; omega
  refine C1.im (c_journal_number r (by omega)) rfl rfl ?_
  obtain ⟨n, hn⟩ : ∃ n : Nat, num r = n := Int.eq_ofNat_of_zero_le (num_range r).1
  have hnr := (num_range r).2
  have hw1 : IntKind.i64.wrap ((n : Int) + 8) = ((n + 8 : Nat) : Int) := by rw [IntWalk.i64_in _ (by omega)]; omega
  have hw2 : IntKind.i64.wrap (4 + (n : Int)) = ((4 + n : Nat) : Int) := by rw [IntWalk.i64_in _ (by omega)]; omega
  have hgood : good r = (decide (8 ≤ r.length) && (decide ((n : Int) ≤ 4096) && (decide ((n : Int) + 8 ≤ r.length) && decide (num (r.drop (4 + n)) = val (r.take (4 + n)))))) := by simp [good, hn]
  simp only [tl, tl2, tl4, ↓un_u, isCallR, entX, argFr, ret, retI, retB, intT, unT, endR, ressR, resR, tupT, bslR, boxR, lenAll, ↓reduceIte, Nat.reduceEqDiff, Nat.reduceAdd, Nat.reduceMul, Nat.reduceLT, Nat.reduceLeDiff, reduceCtorEq, Int.reduceLE, Int.reduceLT, ne_eq, Int.reduceEq, not_false_eq_true, decide_true, decide_false, Int.reduceToNat, tl3, Int.reduceBNe, Int.reduceBEq, rmK, rm1, not_true_eq_false, cut_map, hn, hw1, hw2, cut_from, cut_to, Bool.or_eq_false_iff, decide_eq_false_iff_not]
  refine ⟨fun hc => by omega, ?_⟩
  refine C2.im (fun hc => c_journal_number (r.drop (4 + n)) (by simp; omega)) (fun _ => rfl) rfl ?_
  simp only [tl, tl2, tl4, ↓un_u, isCallR, entX, argFr, ret, retI, retB, intT, unT, endR, ressR, resR, tupT, bslR, boxR, lenAll, ↓reduceIte, Nat.reduceEqDiff, Nat.reduceAdd, Nat.reduceMul, Nat.reduceLT, Nat.reduceLeDiff, reduceCtorEq, Int.reduceLE, Int.reduceLT, ne_eq, Int.reduceEq, not_false_eq_true, decide_true, decide_false, Int.reduceToNat, tl3, Int.reduceBNe, Int.reduceBEq, rmK, rm1, not_true_eq_false, cut_map, hn, hw1, hw2, cut_from, cut_to, Bool.or_eq_false_iff, decide_eq_false_iff_not]
  refine ⟨fun hc => by omega, ?_⟩
  refine C2.im (fun hc => c_journal_check (r.take (4 + n)) (by simp; omega)) (fun _ => rfl) rfl ?_
  simp only [tl, tl2, tl4, ↓un_u, isCallR, entX, argFr, ret, retI, retB, intT, unT, endR, ressR, resR, tupT, bslR, boxR, lenAll, ↓reduceIte, Nat.reduceEqDiff, Nat.reduceAdd, Nat.reduceMul, Nat.reduceLT, Nat.reduceLeDiff, reduceCtorEq, Int.reduceLE, Int.reduceLT, ne_eq, Int.reduceEq, not_false_eq_true, decide_true, decide_false, Int.reduceToNat, tl3, Int.reduceBNe, Int.reduceBEq, rmK, rm1, not_true_eq_false, cut_map, hn, hw1, hw2, cut_from, cut_to]
  refine ⟨by kernel_rfl, fun h6 => fin ?_, fun h6 => ?_⟩
  · rw [hgood]
    by_cases g1 : (n : Int) ≤ 4096 <;> by_cases g2 : (n : Int) + 8 ≤ r.length
    · have e1 : decide ((n : Int) > 4096) = false := by simp; omega
      have e2 : decide ((r.length : Int) < ((n + 8 : Nat) : Int)) = false := by simp; omega
      rw [e1, e2] at h6
      simp only [Bool.false_or, bne_iff_ne, ne_eq] at h6
      simp [h6]
    all_goals simp [g1, g2]
  · have hg : good r = true ∧ (n : Int) ≤ 4096 ∧ (n : Int) + 8 ≤ r.length := by
      simp only [Bool.or_eq_false_iff, decide_eq_false_iff_not, bne_eq_false_iff_eq] at h6
      rw [hgood]
      simp only [Bool.and_eq_true, decide_eq_true_eq]
      exact ⟨⟨by omega, by omega, by omega, h6.2⟩, by omega, by omega⟩
    obtain ⟨hg, hg1, hg2⟩ := hg
    have hcut : cutT 4 ((4 + n : Nat) : Int) r = (r.take (4 + n)).drop 4 := cut_nat (a := 4)
    simp only [rdL, hg, if_true, hn, Int.toNat_natCast] at h3 h4
    rw [hcut]
    refine ⟨by omega, ?_⟩
    refine C1.im (c27p ((r.take (4 + n)).drop 4) (by simp; omega)) rfl rfl ?_
    simp only [tl, tl2, tl4, ↓un_u, isCallR, entX, argFr, ret, retI, retB, intT, unT, endR, ressR, resR, tupT, bslR, boxR, lenAll, ↓reduceIte, Nat.reduceEqDiff, Nat.reduceAdd, Nat.reduceMul, Nat.reduceLT, Nat.reduceLeDiff, reduceCtorEq, Int.reduceLE, Int.reduceLT, ne_eq, Int.reduceEq, not_false_eq_true, decide_true, decide_false, Int.reduceToNat, tl3, Int.reduceBNe, Int.reduceBEq, rmK, rm1, not_true_eq_false]
    refine ⟨by omega, (f, out ++ [(r.take (4 + n)).drop 4], at_ + (n + 8)), ⟨by simp only; omega, by simp only; omega, by simp; omega, ?_, ?_⟩, by simp only; omega, ?_⟩
    · rw [← h3, ← List.drop_drop, hr, List.append_assoc]; rfl
    · rw [← h4, ← List.drop_drop, hr, Nat.add_assoc]
    · refine .of [(1, some 1)] [] rfl (by rw [hst]; rfl) ?_ ?_
      · simp only [ltSto, ltO2, ltO1, ltAs, ltA, ltC, ltC0, ltC0s, ltCs, ltT, ltFr, ltS, wrOk, wrO, TL.get, hasFr, ↓reduceIte, Nat.reduceEqDiff, reduceCtorEq, Option.getD_some, Option.isSome_some, List.length_map, List.length_append, List.length_cons, List.length_nil, List.append_nil, List.mem_singleton, List.mem_cons, List.not_mem_nil, and_true, true_and, and_self, imp_self, forall_const, false_implies, implies_true, true_implies, or_false, Bool.false_eq_true, Bool.true_eq_false, ImXs_nil, true_or, or_true, false_or, false_and, and_false, rmK, rm1, List.map_append, List.map_cons, List.map_nil]
        exact ltXs_append (ltXs_refl (imXs_map (f := vL) (fun _ => ⟨rfl, rfl⟩) out)) (ltXs_refl (imXs_map (f := vL) (fun _ => ⟨rfl, rfl⟩) [(r.take (4 + n)).drop 4]))
      · simp only [ltSto, ltO2, ltO1, ltAs, ltA, ltC, ltC0, ltC0s, ltCs, ltT, ltFr, ltS, wrOk, wrO, TL.get, hasFr, ↓reduceIte, Nat.reduceEqDiff, reduceCtorEq, Option.getD_some, Option.isSome_some, List.length_map, List.length_append, List.length_cons, List.length_nil, List.append_nil, List.mem_singleton, List.mem_cons, List.not_mem_nil, and_true, true_and, and_self, imp_self, forall_const, false_implies, implies_true, true_implies, or_false, Bool.false_eq_true, Bool.true_eq_false, ImXs_nil, true_or, or_true, false_or, false_and, and_false, rmK, rm1, hw1]
        rw [IntWalk.i64_in _ (by omega), ← Int.natCast_add]
theorem c_ref23_Read (b : List UInt8) (hb : b.length ≤ 1048576) : Spc Try.prog F_ref23_Read [vL b] [] (.tup [.sl 1 ((readB b).1.map vL), vI (readB b).2]) [] := by
  refine spec_of_ir fn_ref23_Read mixm (by simp) fun e _ hst => W_start ?_
  unfold ir_ref23_Read
  simp only [tl, tl2, tl4, ↓un_u, isCallR, entX, argFr, ret, retI, retB, intT, unT, endR, ressR, resR, tupT, bslR, boxR, lenAll, ↓reduceIte, Nat.reduceEqDiff, Nat.reduceAdd, Nat.reduceMul, Nat.reduceLT, Nat.reduceLeDiff, reduceCtorEq, Int.reduceLE, Int.reduceLT, ne_eq, Int.reduceEq, not_false_eq_true, decide_true, decide_false, Int.reduceToNat, tl3, Int.reduceBNe, Int.reduceBEq, rmK, rm1, not_true_eq_false, decide_eq_true_eq, decide_eq_false_iff_not]
  refine W_loop mixm (α := Nat × List (List UInt8) × Nat) (fun x => x.2.2 ≤ b.length ∧ b.length - x.2.2 < x.1 ∧ x.2.1.length ≤ x.2.2 ∧ x.2.1 ++ (rdL x.1 (b.drop x.2.2)).1 = (readB b).1 ∧ x.2.2 + (rdL x.1 (b.drop x.2.2)).2 = (readB b).2)
    (fun x => [(0, vL b), (4, .asl 1 x.2.1.length), (5, vI x.2.2)]) (fun x => [(1, .arr 1 (x.2.1.map vL) false)]) (fun x => x.1) (b.length + 1, [], 0) ⟨by simp, by simp, by simp, by simp [readB], by simp [readB]⟩ ?_ ?_
  · refine .of [(1, none)] [] rfl (by rw [hst]; rfl) ?_ ?_
    · simp only [ltSto, ltO2, ltO1, ltAs, ltA, ltC, ltC0, ltC0s, ltCs, ltT, ltFr, ltS, wrOk, wrO, TL.get, hasFr, ↓reduceIte, Nat.reduceEqDiff, reduceCtorEq, Option.getD_some, Option.isSome_some, List.length_map, List.length_append, List.length_cons, List.length_nil, List.append_nil, List.mem_singleton, List.mem_cons, List.not_mem_nil, and_true, true_and, and_self, imp_self, forall_const, false_implies, implies_true, true_implies, or_false, Bool.false_eq_true, Bool.true_eq_false, ImXs_nil, true_or, or_true, false_or, false_and, and_false, rmK, rm1, List.map_nil]
    · simp only [ltSto, ltO2, ltO1, ltAs, ltA, ltC, ltC0, ltC0s, ltCs, ltT, ltFr, ltS, wrOk, wrO, TL.get, hasFr, ↓reduceIte, Nat.reduceEqDiff, reduceCtorEq, Option.getD_some, Option.isSome_some, List.length_map, List.length_append, List.length_cons, List.length_nil, List.append_nil, List.mem_singleton, List.mem_cons, List.not_mem_nil, and_true, true_and, and_self, imp_self, forall_const, false_implies, implies_true, true_implies, or_false, Bool.false_eq_true, Bool.true_eq_false, ImXs_nil, true_or, or_true, false_or, false_and, and_false, rmK, rm1]; rfl
  rintro ⟨f, out, at_⟩ ⟨h1, h2, hol, h3, h4⟩
  simp only at h1 h2 hol h3 h4
  obtain ⟨f, rfl⟩ : ∃ f', f = f' + 1 := ⟨f - 1, by omega⟩
  have hw0 : IntKind.i64.wrap ((b.length : Int) - at_) = ((b.length - at_ : Nat) : Int) := by rw [IntWalk.i64_in _ (by omega)]; omega
  simp only [tl, tl2, tl4, ↓un_u, isCallR, entX, argFr, ret, retI, retB, intT, unT, endR, ressR, resR, tupT, bslR, boxR, lenAll, ↓reduceIte, Nat.reduceEqDiff, Nat.reduceAdd, Nat.reduceMul, Nat.reduceLT, Nat.reduceLeDiff, reduceCtorEq, Int.reduceLE, Int.reduceLT, ne_eq, Int.reduceEq, not_false_eq_true, decide_true, decide_false, Int.reduceToNat, tl3, Int.reduceBNe, Int.reduceBEq, rmK, rm1, not_true_eq_false, decide_eq_true_eq, decide_eq_false_iff_not, cut_map, cut_from, hw0]
  generalize hr : b.drop at_ = r at h3 h4 ⊢
  have hrl : r.length = b.length - at_ := by rw [← hr]; simp
  have fin : good r = false → EndOk [] (T.tup [T.asl 1 out.length, vI at_]) [(1, Ob.arr 1 (List.map vL out) false)] (T.tup [T.sl 1 (List.map vL (readB b).fst), vI (readB b).snd]) [] := by
    intro hg
    simp only [rdL, hg, Bool.false_eq_true, if_false, List.append_nil, Nat.add_zero] at h3 h4
    refine .of [] [1] rfl rfl trivial ?_
    simp only [ltSto, ltO2, ltO1, ltAs, ltA, ltC, ltC0, ltC0s, ltCs, ltT, ltFr, ltS, wrOk, wrO, TL.get, hasFr, ↓reduceIte, Nat.reduceEqDiff, reduceCtorEq, Option.getD_some, Option.isSome_some, List.length_map, List.length_append, List.length_cons, List.length_nil, List.append_nil, List.mem_singleton, List.mem_cons, List.not_mem_nil, and_true, true_and, and_self, imp_self, forall_const, false_implies, implies_true, true_implies, or_false, Bool.false_eq_true, Bool.true_eq_false, ImXs_nil, true_or, or_true, false_or, false_and, and_false, rmK, rm1, ← h3, ← h4]
    exact imXs_map (f := vL) (fun _ => ⟨rfl, rfl⟩) out
  refine ⟨fun h5 => ⟨by omega, ?_⟩, fun h5 => fin ?_⟩
  rotate_left
  · simp [good]; omega
  refine C1.im (c_ref23_number r (by omega)) rfl rfl ?_
  obtain ⟨n, hn⟩ : ∃ n : Nat, num r = n := Int.eq_ofNat_of_zero_le (num_range r).1
  have hnr := (num_range r).2
  have hw1 : IntKind.i64.wrap ((n : Int) + 8) = ((n + 8 : Nat) : Int) := by rw [IntWalk.i64_in _ (by omega)]; omega
  have hw2 : IntKind.i64.wrap ((at_ : Int) + 4) = ((at_ + 4 : Nat) : Int) := by rw [IntWalk.i64_in _ (by omega)]; omega
  have hw3 : IntKind.i64.wrap (((at_ + 4 : Nat) : Int) + n) = ((at_ + 4 + n : Nat) : Int) := by rw [IntWalk.i64_in _ (by omega)]; omega
  have hgood : good r = (decide (8 ≤ r.length) && (decide ((n : Int) ≤ 4096) && (decide ((n : Int) + 8 ≤ r.length) && decide (num (r.drop (4 + n)) = val (r.take (4 + n)))))) := by simp [good, hn]
  have hd1 : b.drop (at_ + 4 + n) = r.drop (4 + n) := by rw [← hr, List.drop_drop, Nat.add_assoc]
  have hd2 : (b.take (at_ + 4 + n)).drop at_ = r.take (4 + n) := by rw [List.drop_take, hr]; congr 1; omega
  have hd3 : (b.take (at_ + 4 + n)).drop (at_ + 4) = (r.take (4 + n)).drop 4 := by rw [← List.drop_drop, hd2]
  simp only [tl, tl2, tl4, ↓un_u, isCallR, entX, argFr, ret, retI, retB, intT, unT, endR, ressR, resR, tupT, bslR, boxR, lenAll, ↓reduceIte, Nat.reduceEqDiff, Nat.reduceAdd, Nat.reduceMul, Nat.reduceLT, Nat.reduceLeDiff, reduceCtorEq, Int.reduceLE, Int.reduceLT, ne_eq, Int.reduceEq, not_false_eq_true, decide_true, decide_false, Int.reduceToNat, tl3, Int.reduceBNe, Int.reduceBEq, rmK, rm1, not_true_eq_false, cut_map, hn, hw0, hw1, hw2, hw3, cut_from, cut_nat, List.take_length, hd1, hd2, Bool.or_eq_false_iff, decide_eq_false_iff_not]
  refine ⟨fun hc => by omega, ?_⟩
  refine C2.im (fun hc => c_ref23_number (r.drop (4 + n)) (by simp; omega)) (fun _ => rfl) rfl ?_
  simp only [tl, tl2, tl4, ↓un_u, isCallR, entX, argFr, ret, retI, retB, intT, unT, endR, ressR, resR, tupT, bslR, boxR, lenAll, ↓reduceIte, Nat.reduceEqDiff, Nat.reduceAdd, Nat.reduceMul, Nat.reduceLT, Nat.reduceLeDiff, reduceCtorEq, Int.reduceLE, Int.reduceLT, ne_eq, Int.reduceEq, not_false_eq_true, decide_true, decide_false, Int.reduceToNat, tl3, Int.reduceBNe, Int.reduceBEq, rmK, rm1, not_true_eq_false, cut_map, hn, hw0, hw1, hw2, hw3, cut_from, cut_nat, List.take_length, hd1, hd2, Bool.or_eq_false_iff, decide_eq_false_iff_not]
  refine ⟨fun hc => by omega, ?_⟩
  refine C2.im (fun hc => c_ref23_Value (r.take (4 + n)) (by simp; omega)) (fun _ => rfl) rfl ?_
  simp only [tl, tl2, tl4, ↓un_u, isCallR, entX, argFr, ret, retI, retB, intT, unT, endR, ressR, resR, tupT, bslR, boxR, lenAll, ↓reduceIte, Nat.reduceEqDiff, Nat.reduceAdd, Nat.reduceMul, Nat.reduceLT, Nat.reduceLeDiff, reduceCtorEq, Int.reduceLE, Int.reduceLT, ne_eq, Int.reduceEq, not_false_eq_true, decide_true, decide_false, Int.reduceToNat, tl3, Int.reduceBNe, Int.reduceBEq, rmK, rm1, not_true_eq_false, cut_map, hn, hw0, hw1, hw2, hw3, cut_from, cut_nat, List.take_length, hd1, hd2, hd3]
  refine ⟨by kernel_rfl, fun h6 => fin ?_, fun h6 => ?_⟩
  · rw [hgood]
    by_cases g1 : (n : Int) ≤ 4096 <;> by_cases g2 : (n : Int) + 8 ≤ r.length
    · have e1 : decide ((n : Int) > 4096) = false := by simp; omega
      have e2 : decide (((n + 8 : Nat) : Int) > ((b.length - at_ : Nat) : Int)) = false := by simp; omega
      rw [e1, e2] at h6
      simp only [Bool.false_or, bne_iff_ne, ne_eq] at h6
      simp [h6]
    all_goals simp [g1, g2]
  · have hg : good r = true ∧ (n : Int) ≤ 4096 ∧ (n : Int) + 8 ≤ r.length := by
      simp only [Bool.or_eq_false_iff, decide_eq_false_iff_not, bne_eq_false_iff_eq] at h6
      rw [hgood]
      simp only [Bool.and_eq_true, decide_eq_true_eq]
      exact ⟨⟨by omega, by omega, by omega, h6.2⟩, by omega, by omega⟩
    obtain ⟨hg, hg1, hg2⟩ := hg
    simp only [rdL, hg, if_true, hn, Int.toNat_natCast] at h3 h4
    have hw4 : IntKind.i64.wrap ((at_ : Int) + ((n + 8 : Nat) : Int)) = ((at_ + (n + 8) : Nat) : Int) := by rw [IntWalk.i64_in _ (by omega)]; omega
    simp only [hw4]
    have hpl : ((r.take (4 + n)).drop 4).length ≤ 4096 := by simp; omega
    generalize (r.take (4 + n)).drop 4 = q at *
    refine ⟨by omega, by omega, by omega, (f, out ++ [q], at_ + (n + 8)), ⟨by simp only; omega, by simp only; omega, by simp; omega, ?_, ?_⟩, by simp only; omega, ?_⟩
    · rw [← h3, ← List.drop_drop, hr, List.append_assoc]; rfl
    · rw [← h4, ← List.drop_drop, hr, Nat.add_assoc]
    · refine .of [(1, some 1)] [28676] rfl (by rw [hst]; rfl) ?_ ?_
      · simp only [ltSto, ltO2, ltO1, ltAs, ltA, ltC, ltC0, ltC0s, ltCs, ltT, ltFr, ltS, wrOk, wrO, TL.get, hasFr, ↓reduceIte, Nat.reduceEqDiff, reduceCtorEq, Option.getD_some, Option.isSome_some, List.length_map, List.length_append, List.length_cons, List.length_nil, List.append_nil, List.mem_singleton, List.mem_cons, List.not_mem_nil, and_true, true_and, and_self, imp_self, forall_const, false_implies, implies_true, true_implies, or_false, Bool.false_eq_true, Bool.true_eq_false, ImXs_nil, true_or, or_true, false_or, false_and, and_false, rmK, rm1, List.map_append, List.map_cons, List.map_nil]
        refine ltXs_append (ltXs_refl (imXs_map (f := vL) (fun _ => ⟨rfl, rfl⟩) out)) (ltXs_cons ⟨rfl, rfl, ?_⟩ ltXs_nil)
        simp only [T.cells, ltSto, ltO2, ltO1, ltAs, ltA, ltC, ltC0, ltC0s, ltCs, ltT, ltFr, ltS, wrOk, wrO, TL.get, hasFr, ↓reduceIte, Nat.reduceEqDiff, reduceCtorEq, Option.getD_some, Option.isSome_some, List.length_map, List.length_append, List.length_cons, List.length_nil, List.append_nil, List.mem_singleton, List.mem_cons, List.not_mem_nil, and_true, true_and, and_self, imp_self, forall_const, false_implies, implies_true, true_implies, or_false, Bool.false_eq_true, Bool.true_eq_false, ImXs_nil, true_or, or_true, false_or, false_and, and_false, rmK, rm1]
        exact bytes_v q
      · simp only [ltSto, ltO2, ltO1, ltAs, ltA, ltC, ltC0, ltC0s, ltCs, ltT, ltFr, ltS, wrOk, wrO, TL.get, hasFr, ↓reduceIte, Nat.reduceEqDiff, reduceCtorEq, Option.getD_some, Option.isSome_some, List.length_map, List.length_append, List.length_cons, List.length_nil, List.append_nil, List.mem_singleton, List.mem_cons, List.not_mem_nil, and_true, true_and, and_self, imp_self, forall_const, false_implies, implies_true, true_implies, or_false, Bool.false_eq_true, Bool.true_eq_false, ImXs_nil, true_or, or_true, false_or, false_and, and_false, rmK, rm1]

end Go.Proofs

