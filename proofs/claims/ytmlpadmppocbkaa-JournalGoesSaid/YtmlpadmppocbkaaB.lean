import Derived.Test.YtmlpadmppocbkaaIr
import Derived.Test.YtmlpadmppocbkaaZzN
set_option linter.unusedSimpArgs false
namespace Go.Proofs
open Go Go.TL
theorem mixm : Try.prog.follows .mixedOrders = true := by kernel_rfl
/-! ltSto, ltO2, ltO1, ltAs, ltA, ltC, ltCs, ltT, ltFr, ltS, wrOk, wrO, TL.get, hasFr, ↓reduceIte, Nat.reduceEqDiff, reduceCtorEq, Option.getD_some, Option.isSome_some, List.length_map, List.length_append, List.length_cons, List.length_nil, List.append_nil, List.mem_singleton, List.mem_cons, List.not_mem_nil, and_true, true_and, and_self, imp_self, forall_const, false_implies, implies_true, true_implies, or_false, Bool.false_eq_true, Bool.true_eq_false, ImXs_nil, true_or, or_true, false_or, false_and, and_false# plain -/
def four (n : Int) : List UInt8 := [u8 (shrI .i64 n 24), u8 (shrI .i64 n 16), u8 (shrI .i64 n 8), u8 n]
def cs (bs : List UInt8) : Nat → Int
  | 0 => 0
  | i + 1 => cs bs i + ((i : Int) + 1) * (bs.getD i 0).toNat
def val (bs : List UInt8) : Int := cs bs bs.length % 65521
theorem cs_range (bs : List UInt8) : ∀ i : Nat, 0 ≤ cs bs i ∧ cs bs i ≤ 256 * ((i : Int) * i + i)
  | 0 => ⟨by simp [cs], by simp [cs]⟩
  | i + 1 => by
    obtain ⟨h1, h2⟩ := cs_range bs i
    have h3 := byte_lt (bs.getD i 0)
    simp only [cs]
    generalize ((bs.getD i 0).toNat) = b at h3
    have h4 : ((i : Int) + 1) * b ≤ ((i : Int) + 1) * 256 := Int.mul_le_mul_of_nonneg_left (by omega) (by omega)
    have h5 : 0 ≤ ((i : Int) + 1) * b := Int.mul_nonneg (by omega) (by omega)
    refine ⟨by omega, ?_⟩
    push_cast
    have h6 : ((i : Int) + 1) * ((i : Int) + 1) + ((i : Int) + 1) = (i : Int) * i + i + (2 * i + 2) := by
      rw [Int.add_mul, Int.mul_add]; omega
    rw [h6]
    omega
theorem cs_small {bs : List UInt8} {i : Nat} (h : i ≤ 1048576) : cs bs i < 1000000000000000 := by
  have h1 := (cs_range bs i).2
  have h2 : (i : Int) * i ≤ 1048576 * 1048576 := Int.mul_le_mul (by omega) (by omega) (by omega) (by omega)
  omega
theorem val_range (bs : List UInt8) : 0 ≤ val bs ∧ val bs < 65521 := by unfold val; omega
def num (bs : List UInt8) : Int := (bs.getD 0 0).toNat * 16777216 + (bs.getD 1 0).toNat * 65536 + (bs.getD 2 0).toNat * 256 + (bs.getD 3 0).toNat
theorem num_range (bs : List UInt8) : 0 ≤ num bs ∧ num bs < 4294967296 := by
  have h0 := byte_lt (bs.getD 0 0)
  have h1 := byte_lt (bs.getD 1 0)
  have h2 := byte_lt (bs.getD 2 0)
  have h3 := byte_lt (bs.getD 3 0)
  unfold num
  omega

/-! ltSto, ltO2, ltO1, ltAs, ltA, ltC, ltCs, ltT, ltFr, ltS, wrOk, wrO, TL.get, hasFr, ↓reduceIte, Nat.reduceEqDiff, reduceCtorEq, Option.getD_some, Option.isSome_some, List.length_map, List.length_append, List.length_cons, List.length_nil, List.append_nil, List.mem_singleton, List.mem_cons, List.not_mem_nil, and_true, true_and, and_self, imp_self, forall_const, false_implies, implies_true, true_implies, or_false, Bool.false_eq_true, Bool.true_eq_false, ImXs_nil, true_or, or_true, false_or, false_and, and_false# contracts -/
theorem c24 (bs : List UInt8) (n : Int) (hb : bs.length ≤ 1048576) : Spc Try.prog 24 [.asl 0 bs.length, vI n] [(0, .arr 1 (bs.map byteT) false)] (.asl 0 (bs.length + 4)) [(0, .arr 1 ((bs ++ four n).map byteT) false)] := by
  refine spec_of_ir fn24 mixm (by simp) fun e _ hst => W_start ?_
  unfold ir24
  simp only [tl, tl2, isCallR, entX, argFr, ret, retI, retB, intT, unT, endR, ressR, resR, tupT, bslR, boxR, lenAll, ↓reduceIte, Nat.reduceEqDiff, Nat.reduceAdd, Nat.reduceMul, Nat.reduceLT, Nat.reduceLeDiff, reduceCtorEq, Int.reduceLE, Int.reduceLT, ne_eq, Int.reduceEq, not_false_eq_true, decide_true, decide_false, Int.reduceToNat, tl3, Int.reduceBNe, Int.reduceBEq, byteT_u8]
  refine ⟨by omega, .of [(0, some 0)] [] rfl rfl ?_ ?_⟩
  · simp only [ltSto, ltO2, ltO1, ltAs, ltA, ltC, ltCs, ltT, ltFr, ltS, wrOk, wrO, TL.get, hasFr, ↓reduceIte, Nat.reduceEqDiff, reduceCtorEq, Option.getD_some, Option.isSome_some, List.length_map, List.length_append, List.length_cons, List.length_nil, List.append_nil, List.mem_singleton, List.mem_cons, List.not_mem_nil, and_true, true_and, and_self, imp_self, forall_const, false_implies, implies_true, true_implies, or_false, Bool.false_eq_true, Bool.true_eq_false, ImXs_nil, true_or, or_true, false_or, false_and, and_false, List.map_append]
    exact ltXs_append (ltXs_bytes bs) (ltXs_bytes (four n))
  · simp only [ltSto, ltO2, ltO1, ltAs, ltA, ltC, ltCs, ltT, ltFr, ltS, wrOk, wrO, TL.get, hasFr, ↓reduceIte, Nat.reduceEqDiff, reduceCtorEq, Option.getD_some, Option.isSome_some, List.length_map, List.length_append, List.length_cons, List.length_nil, List.append_nil, List.mem_singleton, List.mem_cons, List.not_mem_nil, and_true, true_and, and_self, imp_self, forall_const, false_implies, implies_true, true_implies, or_false, Bool.false_eq_true, Bool.true_eq_false, ImXs_nil, true_or, or_true, false_or, false_and, and_false]
theorem c25 (bs : List UInt8) (hb : bs.length ≤ 1048576) : Spc Try.prog 25 [vL bs] [] (vI (val bs)) [] := by
  refine spec_of_ir fn25 mixm (by simp) fun e _ hst => W_start ?_
  unfold ir25
  simp only [tl, tl2, isCallR, entX, argFr, ret, retI, retB, intT, unT, endR, ressR, resR, tupT, bslR, boxR, lenAll, ↓reduceIte, Nat.reduceEqDiff, Nat.reduceAdd, Nat.reduceMul, Nat.reduceLT, Nat.reduceLeDiff, reduceCtorEq, Int.reduceLE, Int.reduceLT, ne_eq, Int.reduceEq, not_false_eq_true, decide_true, decide_false, Int.reduceToNat, tl3, Int.reduceBNe, Int.reduceBEq]
  refine W_loop mixm (α := Nat) (fun i => i ≤ bs.length) (fun i => [(3, vI (cs bs i)), (6, vL bs), (7, vI bs.length), (8, vI i)]) (fun _ => []) (fun i => bs.length - i) 0 (by omega) (.ofFr (by simp [hasFr, TL.get, cs])) fun i hi => ?_
  simp only [tl, tl2, isCallR, entX, argFr, ret, retI, retB, intT, unT, endR, ressR, resR, tupT, bslR, boxR, lenAll, ↓reduceIte, Nat.reduceEqDiff, Nat.reduceAdd, Nat.reduceMul, Nat.reduceLT, Nat.reduceLeDiff, reduceCtorEq, Int.reduceLE, Int.reduceLT, ne_eq, Int.reduceEq, not_false_eq_true, decide_true, decide_false, Int.reduceToNat, tl3, Int.reduceBNe, Int.reduceBEq, decide_eq_true_eq, decide_eq_false_iff_not]
  refine ⟨fun h => ?_, fun h => ?_⟩
  · have h2 : i < bs.length := by omega
    simp only [tl, tl2, isCallR, entX, argFr, ret, retI, retB, intT, unT, endR, ressR, resR, tupT, bslR, boxR, lenAll, ↓reduceIte, Nat.reduceEqDiff, Nat.reduceAdd, Nat.reduceMul, Nat.reduceLT, Nat.reduceLeDiff, reduceCtorEq, Int.reduceLE, Int.reduceLT, ne_eq, Int.reduceEq, not_false_eq_true, decide_true, decide_false, Int.reduceToNat, tl3, Int.reduceBNe, Int.reduceBEq, Int.toNat_natCast, getD_bytes h2]
    have h3 := byte_lt (bs.getD i 0)
    have h4 : ((i : Int) + 1) * (bs.getD i 0).toNat ≤ ((i : Int) + 1) * 256 := Int.mul_le_mul_of_nonneg_left (by omega) (by omega)
    have h5 : 0 ≤ ((i : Int) + 1) * (bs.getD i 0).toNat := Int.mul_nonneg (by omega) (by omega)
    have h6 := cs_small (bs := bs) (i := i) (by omega)
    have h7 := (cs_range bs i).1
    refine ⟨by omega, i + 1, by omega, by omega, .ofFr ?_⟩
    rw [IntWalk.i64_in ((i : Int) + 1) (by omega), IntWalk.i64_in ((bs.getD i 0).toNat : Int) (by omega), IntWalk.i64_in (((i : Int) + 1) * _) (by omega), IntWalk.i64_in _ (by omega)]
    simp only [ltSto, ltO2, ltO1, ltAs, ltA, ltC, ltCs, ltT, ltFr, ltS, wrOk, wrO, TL.get, hasFr, ↓reduceIte, Nat.reduceEqDiff, reduceCtorEq, Option.getD_some, Option.isSome_some, List.length_map, List.length_append, List.length_cons, List.length_nil, List.append_nil, List.mem_singleton, List.mem_cons, List.not_mem_nil, and_true, true_and, and_self, imp_self, forall_const, false_implies, implies_true, true_implies, or_false, Bool.false_eq_true, Bool.true_eq_false, ImXs_nil, true_or, or_true, false_or, false_and, and_false, cs, Int.natCast_add, Int.natCast_one]
  · have : i = bs.length := by omega
    subst this
    refine .imR ?_ rfl
    rw [Int.tmod_eq_emod_of_nonneg (cs_range bs _).1]
    rfl
theorem c31 (bs : List UInt8) (hb : bs.length ≤ 1048576) : Spc Try.prog 31 [vL bs] [] (vI (val bs)) [] := by
  refine spec_of_ir fn31 mixm (by simp) fun e _ hst => W_start ?_
  unfold ir31
  simp only [tl, tl2, isCallR, entX, argFr, ret, retI, retB, intT, unT, endR, ressR, resR, tupT, bslR, boxR, lenAll, ↓reduceIte, Nat.reduceEqDiff, Nat.reduceAdd, Nat.reduceMul, Nat.reduceLT, Nat.reduceLeDiff, reduceCtorEq, Int.reduceLE, Int.reduceLT, ne_eq, Int.reduceEq, not_false_eq_true, decide_true, decide_false, Int.reduceToNat, tl3, Int.reduceBNe, Int.reduceBEq]
  refine W_loop mixm (α := Nat) (fun i => i ≤ bs.length) (fun i => [(0, vL bs), (3, vI (cs bs i % 65521)), (4, vI i)]) (fun _ => []) (fun i => bs.length - i) 0 (by omega) (.ofFr (by simp [hasFr, TL.get, cs])) fun i hi => ?_
  simp only [tl, tl2, isCallR, entX, argFr, ret, retI, retB, intT, unT, endR, ressR, resR, tupT, bslR, boxR, lenAll, ↓reduceIte, Nat.reduceEqDiff, Nat.reduceAdd, Nat.reduceMul, Nat.reduceLT, Nat.reduceLeDiff, reduceCtorEq, Int.reduceLE, Int.reduceLT, ne_eq, Int.reduceEq, not_false_eq_true, decide_true, decide_false, Int.reduceToNat, tl3, Int.reduceBNe, Int.reduceBEq, decide_eq_true_eq, decide_eq_false_iff_not]
  refine ⟨fun h => ?_, fun h => ?_⟩
  · have h2 : i < bs.length := by omega
    simp only [tl, tl2, isCallR, entX, argFr, ret, retI, retB, intT, unT, endR, ressR, resR, tupT, bslR, boxR, lenAll, ↓reduceIte, Nat.reduceEqDiff, Nat.reduceAdd, Nat.reduceMul, Nat.reduceLT, Nat.reduceLeDiff, reduceCtorEq, Int.reduceLE, Int.reduceLT, ne_eq, Int.reduceEq, not_false_eq_true, decide_true, decide_false, Int.reduceToNat, tl3, Int.reduceBNe, Int.reduceBEq, Int.toNat_natCast, getD_bytes h2]
    have h3 := byte_lt (bs.getD i 0)
    have h4 : ((i : Int) + 1) * (bs.getD i 0).toNat ≤ ((i : Int) + 1) * 256 := Int.mul_le_mul_of_nonneg_left (by omega) (by omega)
    have h5 : 0 ≤ ((i : Int) + 1) * (bs.getD i 0).toNat := Int.mul_nonneg (by omega) (by omega)
    have h6 := cs_small (bs := bs) (i := i) (by omega)
    have h7 := (cs_range bs i).1
    refine ⟨by omega, i + 1, by omega, by omega, .ofFr ?_⟩
    rw [IntWalk.i64_in ((i : Int) + 1) (by omega), IntWalk.i64_in ((bs.getD i 0).toNat : Int) (by omega), IntWalk.i64_in (((i : Int) + 1) * _) (by omega), IntWalk.i64_in _ (by omega),
      Int.tmod_eq_emod_of_nonneg (by omega)]
    simp only [ltSto, ltO2, ltO1, ltAs, ltA, ltC, ltCs, ltT, ltFr, ltS, wrOk, wrO, TL.get, hasFr, ↓reduceIte, Nat.reduceEqDiff, reduceCtorEq, Option.getD_some, Option.isSome_some, List.length_map, List.length_append, List.length_cons, List.length_nil, List.append_nil, List.mem_singleton, List.mem_cons, List.not_mem_nil, and_true, true_and, and_self, imp_self, forall_const, false_implies, implies_true, true_implies, or_false, Bool.false_eq_true, Bool.true_eq_false, ImXs_nil, true_or, or_true, false_or, false_and, and_false, cs, Int.natCast_add, Int.natCast_one]
    rw [Int.emod_add_emod]
  · have : i = bs.length := by omega
    subst this
    exact .imR rfl rfl
theorem c26 (bs : List UInt8) (hb : 4 ≤ bs.length) : Spc Try.prog 26 [vL bs] [] (vI (num bs)) [] := by
  refine spec_of_ir fn26 mixm (by simp) fun e _ hst => W_start ?_
  unfold ir26
  have g0 := getD_bytes (bs := bs) (i := 0) (by omega)
  have g1 := getD_bytes (bs := bs) (i := 1) (by omega)
  have g2 := getD_bytes (bs := bs) (i := 2) (by omega)
  have g3 := getD_bytes (bs := bs) (i := 3) (by omega)
  simp only [tl, tl2, isCallR, entX, argFr, ret, retI, retB, intT, unT, endR, ressR, resR, tupT, bslR, boxR, lenAll, ↓reduceIte, Nat.reduceEqDiff, Nat.reduceAdd, Nat.reduceMul, Nat.reduceLT, Nat.reduceLeDiff, reduceCtorEq, Int.reduceLE, Int.reduceLT, ne_eq, Int.reduceEq, not_false_eq_true, decide_true, decide_false, Int.reduceToNat, tl3, Int.reduceBNe, Int.reduceBEq, g0, g1, g2, g3]
  refine ⟨by omega, by omega, by omega, by omega, by kernel_rfl, .imR ?_ rfl⟩
  have h0 := byte_lt (bs.getD 0 0)
  have h1 := byte_lt (bs.getD 1 0)
  have h2 := byte_lt (bs.getD 2 0)
  have h3 := byte_lt (bs.getD 3 0)
  rw [IntWalk.i64_in _ (by omega), IntWalk.i64_in _ (by omega), IntWalk.i64_in _ (by omega), IntWalk.i64_in _ (by omega), or4 (by omega) (by omega) (by omega) (by omega)]
  rfl
theorem c33 (bs : List UInt8) (hb : 4 ≤ bs.length) : Spc Try.prog 33 [vL bs] [] (vI (num bs)) [] := by
  refine spec_of_ir fn33 mixm (by simp) fun e _ hst => W_start ?_
  unfold ir33
  have g0 := getD_bytes (bs := bs) (i := 0) (by omega)
  have g1 := getD_bytes (bs := bs) (i := 1) (by omega)
  have g2 := getD_bytes (bs := bs) (i := 2) (by omega)
  have g3 := getD_bytes (bs := bs) (i := 3) (by omega)
  simp only [tl, tl2, isCallR, entX, argFr, ret, retI, retB, intT, unT, endR, ressR, resR, tupT, bslR, boxR, lenAll, ↓reduceIte, Nat.reduceEqDiff, Nat.reduceAdd, Nat.reduceMul, Nat.reduceLT, Nat.reduceLeDiff, reduceCtorEq, Int.reduceLE, Int.reduceLT, ne_eq, Int.reduceEq, not_false_eq_true, decide_true, decide_false, Int.reduceToNat, tl3, Int.reduceBNe, Int.reduceBEq, g0, g1, g2, g3]
  refine ⟨by omega, by omega, by omega, by omega, by kernel_rfl, .imR ?_ rfl⟩
  have h0 := byte_lt (bs.getD 0 0)
  have h1 := byte_lt (bs.getD 1 0)
  have h2 := byte_lt (bs.getD 2 0)
  have h3 := byte_lt (bs.getD 3 0)
  rw [IntWalk.i64_in ((bs.getD 0 0).toNat : Int) (by omega), IntWalk.i64_in ((bs.getD 1 0).toNat : Int) (by omega), IntWalk.i64_in ((bs.getD 2 0).toNat : Int) (by omega), IntWalk.i64_in ((bs.getD 3 0).toNat : Int) (by omega),
    shl_small (m := 16777216) (by decide) (by decide) (by omega), shl_small (m := 65536) (by decide) (by decide) (by omega), shl_small (m := 256) (by decide) (by decide) (by omega),
    IntWalk.i64_in _ (by rw [IntWalk.i64_in _ (by rw [IntWalk.i64_in _ (by omega)]; omega), IntWalk.i64_in _ (by omega)]; omega), IntWalk.i64_in _ (by rw [IntWalk.i64_in _ (by omega)]; omega), IntWalk.i64_in _ (by omega)]
  rfl
/-- a copy that one owns -/
theorem c27 (bs : List UInt8) (hb : bs.length ≤ 1048576) : Spc Try.prog 27 [vL bs] [] (.asl 0 bs.length) [(0, .arr 1 (bs.map byteT) false)] := by
  refine spec_of_ir fn27 mixm (by simp) fun e _ hst => W_start ?_
  unfold ir27
  simp only [tl, tl2, isCallR, entX, argFr, ret, retI, retB, intT, unT, endR, ressR, resR, tupT, bslR, boxR, lenAll, ↓reduceIte, Nat.reduceEqDiff, Nat.reduceAdd, Nat.reduceMul, Nat.reduceLT, Nat.reduceLeDiff, reduceCtorEq, Int.reduceLE, Int.reduceLT, ne_eq, Int.reduceEq, not_false_eq_true, decide_true, decide_false, Int.reduceToNat, tl3, Int.reduceBNe, Int.reduceBEq]
  refine ⟨fun h => ?_, by omega, ?_⟩
  · have : bs = [] := by simpa using h
    subst this
    exact .of [(0, none)] [] rfl rfl (by simp only [ltSto, ltO2, ltO1, ltAs, ltA, ltC, ltCs, ltT, ltFr, ltS, wrOk, wrO, TL.get, hasFr, ↓reduceIte, Nat.reduceEqDiff, reduceCtorEq, Option.getD_some, Option.isSome_some, List.length_map, List.length_append, List.length_cons, List.length_nil, List.append_nil, List.mem_singleton, List.mem_cons, List.not_mem_nil, and_true, true_and, and_self, imp_self, forall_const, false_implies, implies_true, true_implies, or_false, Bool.false_eq_true, Bool.true_eq_false, ImXs_nil, true_or, or_true, false_or, false_and, and_false, List.map_nil]) (by simp only [ltSto, ltO2, ltO1, ltAs, ltA, ltC, ltCs, ltT, ltFr, ltS, wrOk, wrO, TL.get, hasFr, ↓reduceIte, Nat.reduceEqDiff, reduceCtorEq, Option.getD_some, Option.isSome_some, List.length_map, List.length_append, List.length_cons, List.length_nil, List.append_nil, List.mem_singleton, List.mem_cons, List.not_mem_nil, and_true, true_and, and_self, imp_self, forall_const, false_implies, implies_true, true_implies, or_false, Bool.false_eq_true, Bool.true_eq_false, ImXs_nil, true_or, or_true, false_or, false_and, and_false])
  · refine .of [(0, some 16384)] [] rfl rfl ?_ ?_
    · simp only [ltSto, ltO2, ltO1, ltAs, ltA, ltC, ltCs, ltT, ltFr, ltS, wrOk, wrO, TL.get, hasFr, ↓reduceIte, Nat.reduceEqDiff, reduceCtorEq, Option.getD_some, Option.isSome_some, List.length_map, List.length_append, List.length_cons, List.length_nil, List.append_nil, List.mem_singleton, List.mem_cons, List.not_mem_nil, and_true, true_and, and_self, imp_self, forall_const, false_implies, implies_true, true_implies, or_false, Bool.false_eq_true, Bool.true_eq_false, ImXs_nil, true_or, or_true, false_or, false_and, and_false, List.nil_append]
      exact ltXs_bytes bs
    · simp only [ltSto, ltO2, ltO1, ltAs, ltA, ltC, ltCs, ltT, ltFr, ltS, wrOk, wrO, TL.get, hasFr, ↓reduceIte, Nat.reduceEqDiff, reduceCtorEq, Option.getD_some, Option.isSome_some, List.length_map, List.length_append, List.length_cons, List.length_nil, List.append_nil, List.mem_singleton, List.mem_cons, List.not_mem_nil, and_true, true_and, and_self, imp_self, forall_const, false_implies, implies_true, true_implies, or_false, Bool.false_eq_true, Bool.true_eq_false, ImXs_nil, true_or, or_true, false_or, false_and, and_false, Nat.zero_add]
theorem shutB (i n : Nat) (bs : List UInt8) (fz : Bool) (h : bs.length = n) : EndOk [] (.asl i n) [(i, .arr 1 (bs.map byteT) fz)] (vL bs) [] := by
  refine .of [] [i] rfl rfl trivial ?_
  simp only [ltSto, ltO2, ltO1, ltAs, ltA, ltC, ltCs, ltT, ltFr, ltS, wrOk, wrO, TL.get, hasFr, ↓reduceIte, Nat.reduceEqDiff, reduceCtorEq, Option.getD_some, Option.isSome_some, List.length_map, List.length_append, List.length_cons, List.length_nil, List.append_nil, List.mem_singleton, List.mem_cons, List.not_mem_nil, and_true, true_and, and_self, imp_self, forall_const, false_implies, implies_true, true_implies, or_false, Bool.false_eq_true, Bool.true_eq_false, ImXs_nil, true_or, or_true, false_or, false_and, and_false]
  exact ⟨h, bytes_v bs⟩
theorem c27p (bs : List UInt8) (hb : bs.length ≤ 1048576) : Spc Try.prog 27 [vL bs] [] (vL bs) [] := (c27 bs hb).weaken (shutB 0 _ bs false rfl)
theorem c30 (n : Int) : Spc Try.prog 30 [vI n] [] (.asl 0 4) [(0, .arr 1 ((four n).map byteT) false)] := by
  refine spec_of_ir fn30 mixm (by simp) fun e _ hst => W_start ?_
  unfold ir30
  simp only [tl, tl2, isCallR, entX, argFr, ret, retI, retB, intT, unT, endR, ressR, resR, tupT, bslR, boxR, lenAll, ↓reduceIte, Nat.reduceEqDiff, Nat.reduceAdd, Nat.reduceMul, Nat.reduceLT, Nat.reduceLeDiff, reduceCtorEq, Int.reduceLE, Int.reduceLT, ne_eq, Int.reduceEq, not_false_eq_true, decide_true, decide_false, Int.reduceToNat, tl3, Int.reduceBNe, Int.reduceBEq, byteT_u8]
  refine .of [(0, some 8236)] [] rfl rfl ?_ ?_
  · simp only [ltSto, ltO2, ltO1, ltAs, ltA, ltC, ltCs, ltT, ltFr, ltS, wrOk, wrO, TL.get, hasFr, ↓reduceIte, Nat.reduceEqDiff, reduceCtorEq, Option.getD_some, Option.isSome_some, List.length_map, List.length_append, List.length_cons, List.length_nil, List.append_nil, List.mem_singleton, List.mem_cons, List.not_mem_nil, and_true, true_and, and_self, imp_self, forall_const, false_implies, implies_true, true_implies, or_false, Bool.false_eq_true, Bool.true_eq_false, ImXs_nil, true_or, or_true, false_or, false_and, and_false]
    exact ltXs_bytes (four n)
  · simp only [ltSto, ltO2, ltO1, ltAs, ltA, ltC, ltCs, ltT, ltFr, ltS, wrOk, wrO, TL.get, hasFr, ↓reduceIte, Nat.reduceEqDiff, reduceCtorEq, Option.getD_some, Option.isSome_some, List.length_map, List.length_append, List.length_cons, List.length_nil, List.append_nil, List.mem_singleton, List.mem_cons, List.not_mem_nil, and_true, true_and, and_self, imp_self, forall_const, false_implies, implies_true, true_implies, or_false, Bool.false_eq_true, Bool.true_eq_false, ImXs_nil, true_or, or_true, false_or, false_and, and_false]
abbrev vF (a p : List UInt8) : T := .agg [vL a, vL p]
theorem c28 (a p : List UInt8) (ha : a.length ≤ 1048576) (hp : p.length ≤ 1048576) : Spc Try.prog 28 [vF a p] [] (vF a p) [] := by
  refine spec_of_ir fn28 mixm (by simp) fun e _ hst => W_start ?_
  unfold ir28
  simp only [tl, tl2, isCallR, entX, argFr, ret, retI, retB, intT, unT, endR, ressR, resR, tupT, bslR, boxR, lenAll, ↓reduceIte, Nat.reduceEqDiff, Nat.reduceAdd, Nat.reduceMul, Nat.reduceLT, Nat.reduceLeDiff, reduceCtorEq, Int.reduceLE, Int.reduceLT, ne_eq, Int.reduceEq, not_false_eq_true, decide_true, decide_false, Int.reduceToNat, tl3, Int.reduceBNe, Int.reduceBEq]
  refine C1.im (c27p a ha) rfl rfl ?_
  simp only [tl, tl2, isCallR, entX, argFr, ret, retI, retB, intT, unT, endR, ressR, resR, tupT, bslR, boxR, lenAll, ↓reduceIte, Nat.reduceEqDiff, Nat.reduceAdd, Nat.reduceMul, Nat.reduceLT, Nat.reduceLeDiff, reduceCtorEq, Int.reduceLE, Int.reduceLT, ne_eq, Int.reduceEq, not_false_eq_true, decide_true, decide_false, Int.reduceToNat, tl3, Int.reduceBNe, Int.reduceBEq]
  refine C1.im (c27p p hp) rfl rfl ?_
  simp only [tl, tl2, isCallR, entX, argFr, ret, retI, retB, intT, unT, endR, ressR, resR, tupT, bslR, boxR, lenAll, ↓reduceIte, Nat.reduceEqDiff, Nat.reduceAdd, Nat.reduceMul, Nat.reduceLT, Nat.reduceLeDiff, reduceCtorEq, Int.reduceLE, Int.reduceLT, ne_eq, Int.reduceEq, not_false_eq_true, decide_true, decide_false, Int.reduceToNat, tl3, Int.reduceBNe, Int.reduceBEq]
  exact ⟨by kernel_rfl, .imR rfl rfl⟩
theorem c29o (a p : List UInt8) (ha : a.length ≤ 1048576) (hp : p.length ≤ 1048576) : Spc Try.prog 29 [vL a, vL p] [] (.asl 0 (a ++ p).length) [(0, .arr 1 ((a ++ p).map byteT) false)] := by
  refine spec_of_ir fn29 mixm (by simp) fun e _ hst => W_start ?_
  unfold ir29
  simp only [tl, tl2, isCallR, entX, argFr, ret, retI, retB, intT, unT, endR, ressR, resR, tupT, bslR, boxR, lenAll, ↓reduceIte, Nat.reduceEqDiff, Nat.reduceAdd, Nat.reduceMul, Nat.reduceLT, Nat.reduceLeDiff, reduceCtorEq, Int.reduceLE, Int.reduceLT, ne_eq, Int.reduceEq, not_false_eq_true, decide_true, decide_false, Int.reduceToNat, tl3, Int.reduceBNe, Int.reduceBEq]
  refine C1.of [] [(1, some 0)] [] [(1, .arr 1 (a.map byteT) false)] (val := .asl 1 a.length) (c27 a ha) ?_ rfl trivial rfl rfl ?_ rfl rfl ?_ (.inl rfl) ?_
  · simp only [ltSto, ltO2, ltO1, ltAs, ltA, ltC, ltCs, ltT, ltFr, ltS, wrOk, wrO, TL.get, hasFr, ↓reduceIte, Nat.reduceEqDiff, reduceCtorEq, Option.getD_some, Option.isSome_some, List.length_map, List.length_append, List.length_cons, List.length_nil, List.append_nil, List.mem_singleton, List.mem_cons, List.not_mem_nil, and_true, true_and, and_self, imp_self, forall_const, false_implies, implies_true, true_implies, or_false, Bool.false_eq_true, Bool.true_eq_false, ImXs_nil, true_or, or_true, false_or, false_and, and_false]
  · simp only [ltSto, ltO2, ltO1, ltAs, ltA, ltC, ltCs, ltT, ltFr, ltS, wrOk, wrO, TL.get, hasFr, ↓reduceIte, Nat.reduceEqDiff, reduceCtorEq, Option.getD_some, Option.isSome_some, List.length_map, List.length_append, List.length_cons, List.length_nil, List.append_nil, List.mem_singleton, List.mem_cons, List.not_mem_nil, and_true, true_and, and_self, imp_self, forall_const, false_implies, implies_true, true_implies, or_false, Bool.false_eq_true, Bool.true_eq_false, ImXs_nil, true_or, or_true, false_or, false_and, and_false]
    exact ltXs_bytes a
  · simp only [ltSto, ltO2, ltO1, ltAs, ltA, ltC, ltCs, ltT, ltFr, ltS, wrOk, wrO, TL.get, hasFr, ↓reduceIte, Nat.reduceEqDiff, reduceCtorEq, Option.getD_some, Option.isSome_some, List.length_map, List.length_append, List.length_cons, List.length_nil, List.append_nil, List.mem_singleton, List.mem_cons, List.not_mem_nil, and_true, true_and, and_self, imp_self, forall_const, false_implies, implies_true, true_implies, or_false, Bool.false_eq_true, Bool.true_eq_false, ImXs_nil, true_or, or_true, false_or, false_and, and_false]
  simp only [tl, tl2, isCallR, entX, argFr, ret, retI, retB, intT, unT, endR, ressR, resR, tupT, bslR, boxR, lenAll, ↓reduceIte, Nat.reduceEqDiff, Nat.reduceAdd, Nat.reduceMul, Nat.reduceLT, Nat.reduceLeDiff, reduceCtorEq, Int.reduceLE, Int.reduceLT, ne_eq, Int.reduceEq, not_false_eq_true, decide_true, decide_false, Int.reduceToNat, tl3, Int.reduceBNe, Int.reduceBEq]
  refine ⟨by omega, .of [(0, some 1)] [] rfl rfl ?_ ?_⟩
  · simp only [ltSto, ltO2, ltO1, ltAs, ltA, ltC, ltCs, ltT, ltFr, ltS, wrOk, wrO, TL.get, hasFr, ↓reduceIte, Nat.reduceEqDiff, reduceCtorEq, Option.getD_some, Option.isSome_some, List.length_map, List.length_append, List.length_cons, List.length_nil, List.append_nil, List.mem_singleton, List.mem_cons, List.not_mem_nil, and_true, true_and, and_self, imp_self, forall_const, false_implies, implies_true, true_implies, or_false, Bool.false_eq_true, Bool.true_eq_false, ImXs_nil, true_or, or_true, false_or, false_and, and_false, List.map_append]
    exact ltXs_append (ltXs_bytes a) (ltXs_bytes p)
  · simp only [ltSto, ltO2, ltO1, ltAs, ltA, ltC, ltCs, ltT, ltFr, ltS, wrOk, wrO, TL.get, hasFr, ↓reduceIte, Nat.reduceEqDiff, reduceCtorEq, Option.getD_some, Option.isSome_some, List.length_map, List.length_append, List.length_cons, List.length_nil, List.append_nil, List.mem_singleton, List.mem_cons, List.not_mem_nil, and_true, true_and, and_self, imp_self, forall_const, false_implies, implies_true, true_implies, or_false, Bool.false_eq_true, Bool.true_eq_false, ImXs_nil, true_or, or_true, false_or, false_and, and_false]
theorem c29 (a p : List UInt8) (ha : a.length ≤ 1048576) (hp : p.length ≤ 1048576) : Spc Try.prog 29 [vL a, vL p] [] (vL (a ++ p)) [] := (c29o a p ha hp).weaken (shutB 0 _ (a ++ p) false rfl)
theorem c32 (a p : List UInt8) (ha : a.length ≤ 1048576) (hp : p.length ≤ 1048576) : Spc Try.prog 32 [vF a p] [] (vF a p) [] := by
  refine spec_of_ir fn32 mixm (by simp) fun e _ hst => W_start ?_
  unfold ir32
  simp only [tl, tl2, isCallR, entX, argFr, ret, retI, retB, intT, unT, endR, ressR, resR, tupT, bslR, boxR, lenAll, ↓reduceIte, Nat.reduceEqDiff, Nat.reduceAdd, Nat.reduceMul, Nat.reduceLT, Nat.reduceLeDiff, reduceCtorEq, Int.reduceLE, Int.reduceLT, ne_eq, Int.reduceEq, not_false_eq_true, decide_true, decide_false, Int.reduceToNat, tl3, Int.reduceBNe, Int.reduceBEq]
  refine ⟨by omega, by omega, by kernel_rfl, .of [] [8192, 8208] rfl rfl trivial ?_⟩
  simp only [ltSto, ltO2, ltO1, ltAs, ltA, ltC, ltCs, ltT, ltFr, ltS, wrOk, wrO, TL.get, hasFr, ↓reduceIte, Nat.reduceEqDiff, reduceCtorEq, Option.getD_some, Option.isSome_some, List.length_map, List.length_append, List.length_cons, List.length_nil, List.append_nil, List.mem_singleton, List.mem_cons, List.not_mem_nil, and_true, true_and, and_self, imp_self, forall_const, false_implies, implies_true, true_implies, or_false, Bool.false_eq_true, Bool.true_eq_false, ImXs_nil, true_or, or_true, false_or, false_and, and_false]
  exact ⟨bytes_v a, bytes_v p⟩
end Go.Proofs

