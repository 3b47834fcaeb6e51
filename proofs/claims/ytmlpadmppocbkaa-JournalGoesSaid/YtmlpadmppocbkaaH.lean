import Derived.Test.YtmlpadmppocbkaaG
set_option linter.unusedSimpArgs false
set_option linter.unusedVariables false
namespace Go.Proofs
open Go Go.TL
/-! ltSto, ltO2, ltO1, ltAs, ltA, ltC, ltCs, ltT, ltFr, ltS, wrOk, wrO, TL.get, hasFr, ↓reduceIte, Nat.reduceEqDiff, reduceCtorEq, Option.getD_some, Option.isSome_some, List.length_map, List.length_append, List.length_cons, List.length_nil, List.append_nil, List.mem_singleton, List.mem_cons, List.not_mem_nil, and_true, true_and, and_self, imp_self, forall_const, false_implies, implies_true, true_implies, or_false, Bool.false_eq_true, Bool.true_eq_false, ImXs_nil, true_or, or_true, false_or, false_and, and_false# frames, read back -/
theorem num_four (x : Int) (h : 0 ≤ x ∧ x < 4294967296) (r : List UInt8) : num (four x ++ r) = x := by
  have e24 : shrI .i64 x 24 = x / 16777216 := by unfold shrI; rw [Int.fdiv_eq_ediv_of_nonneg _ (by decide)]; rfl
  have e16 : shrI .i64 x 16 = x / 65536 := by unfold shrI; rw [Int.fdiv_eq_ediv_of_nonneg _ (by decide)]; rfl
  have e8 : shrI .i64 x 8 = x / 256 := by unfold shrI; rw [Int.fdiv_eq_ediv_of_nonneg _ (by decide)]; rfl
  have h0 := u8_nat (shrI .i64 x 24)
  have h1 := u8_nat (shrI .i64 x 16)
  have h2 := u8_nat (shrI .i64 x 8)
  have h3 := u8_nat x
  have g0 : (four x ++ r).getD 0 0 = u8 (shrI .i64 x 24) := rfl
  have g1 : (four x ++ r).getD 1 0 = u8 (shrI .i64 x 16) := rfl
  have g2 : (four x ++ r).getD 2 0 = u8 (shrI .i64 x 8) := rfl
  have g3 : (four x ++ r).getD 3 0 = u8 x := rfl
  unfold num
  rw [g0, g1, g2, g3, h0, h1, h2, h3, e24, e16, e8]
  omega
theorem frame_num (a r : List UInt8) (h : a.length ≤ 4096) : num (frame a ++ r) = a.length := by
  unfold frame
  rw [List.append_assoc, List.append_assoc]
  exact num_four _ (by omega) _
theorem frame_drop (a r : List UInt8) : (frame a ++ r).drop (4 + a.length) = four (val (four a.length ++ a)) ++ r := by
  unfold frame
  rw [List.append_assoc, List.drop_append]
  simp [four_length]
theorem frame_take (a r : List UInt8) : (frame a ++ r).take (4 + a.length) = four a.length ++ a := by
  unfold frame
  have hl : (four a.length ++ a).length = 4 + a.length := by simp [four_length]
  rw [List.append_assoc, List.take_append, hl, List.take_of_length_le (by omega)]
  simp
theorem frame_drop8 (a r : List UInt8) : (frame a ++ r).drop (a.length + 8) = r := by
  have h := frame_length a
  rw [List.drop_append, show a.length + 8 - (frame a).length = 0 by omega, List.drop_of_length_le (by omega)]
  rfl
theorem frame_good (a r : List UInt8) (h : a.length ≤ 4096) : good (frame a ++ r) = true := by
  have hl : (frame a ++ r).length = a.length + 8 + r.length := by rw [List.length_append, frame_length]
  have hv := val_range (four a.length ++ a)
  simp only [good, Bool.and_eq_true, decide_eq_true_eq, frame_num a r h, Int.toNat_natCast, frame_drop, frame_take, num_four _ ⟨hv.1, by omega⟩]
  rw [hl]
  refine ⟨by omega, by omega, by omega, trivial⟩
theorem rdL_frame (f : Nat) (a r : List UInt8) (h : a.length ≤ 4096) : rdL (f + 1) (frame a ++ r) = (a :: (rdL f r).1, a.length + 8 + (rdL f r).2) := by
  simp only [rdL, frame_good a r h, if_true, frame_num a r h, Int.toNat_natCast, frame_take, frame_drop8]
  rw [List.drop_append, four_length]
  rfl
theorem rdL_fuel : ∀ (f g : Nat) (r : List UInt8), r.length < f → r.length < g → rdL f r = rdL g r
  | 0, _, _, h, _ => by omega
  | _, 0, _, _, h => by omega
  | f + 1, g + 1, r, h1, h2 => by
    simp only [rdL]
    split
    · rename_i hg
      simp only [good, Bool.and_eq_true, decide_eq_true_eq] at hg
      rw [rdL_fuel f g (r.drop ((num r).toNat + 8)) (by simp; omega) (by simp; omega)]
    · rfl
theorem readB_frame (a r : List UInt8) (h : a.length ≤ 4096) : readB (frame a ++ r) = (a :: (readB r).1, a.length + 8 + (readB r).2) := by
  unfold readB
  rw [rdL_frame _ a r h, rdL_fuel _ (r.length + 1) r (by rw [List.length_append, frame_length]; omega) (by omega)]
theorem readB_nil : readB [] = ([], 0) := by simp [readB, rdL, good]
theorem readB_short (a : List UInt8) (c : Nat) (h : a.length ≤ 4096) (hc : c < a.length + 8) : readB ((frame a).take c) = ([], 0) := by
  have hg : good ((frame a).take c) = false := by
    have hl : ((frame a).take c).length = c := by rw [List.length_take, frame_length]; omega
    by_cases h8 : 8 ≤ c
    · have hn : num ((frame a).take c) = a.length := by
        have : (frame a).take c = four a.length ++ (a ++ four (val (four a.length ++ a))).take (c - 4) := by
          unfold frame
          rw [List.append_assoc, List.take_append, four_length, List.take_of_length_le (by simp [four_length]; omega)]
        rw [this]
        exact num_four _ (by omega) _
      have : decide (((frame a).take c).length < num ((frame a).take c) + 8) = true := by rw [hn, hl]; simp; omega
      simp only [good, hn, hl]
      have h2 : decide ((a.length : Int) + 8 ≤ c) = false := by simp; omega
      rw [h2]
      simp
    · simp only [good, hl]
      have : decide (8 ≤ c) = false := by simp; omega
      rw [this]; rfl
  simp only [readB, rdL, hg]
  rfl
theorem frame5 : frame [5] = [0, 0, 0, 1, 5, 0, 0, 0, 29] := by decide +kernel
theorem c8 : Spc Try.prog 8 [] [] (vB true) [] := by
  refine spec_of_ir fn8 mixm (by simp) fun e _ hst => W_start ?_
  unfold ir8
  simp only [tl, tl2, isCallR, entX, argFr, ret, retI, retB, intT, unT, endR, ressR, resR, tupT, bslR, boxR, lenAll, ↓reduceIte, Nat.reduceEqDiff, Nat.reduceAdd, Nat.reduceMul, Nat.reduceLT, Nat.reduceLeDiff, reduceCtorEq, Int.reduceLE, Int.reduceLT, ne_eq, Int.reduceEq, not_false_eq_true, decide_true, decide_false, Int.reduceToNat, tl3, Int.reduceBNe, Int.reduceBEq]
  have h9 : Spc Try.prog 9 [vL [5]] [] (.tup [vL (frame [5]), vI 0]) [] := c9 [5] (by simp)
  have h15 := c15 (frame [5] ++ (frame [5]).take 8) [] (by rw [frame5]; simp) (by simp)
  have hr : readB (frame [5] ++ (frame [5]).take 8) = ([[5]], 9) := by
    rw [readB_frame [5] _ (by simp), readB_short [5] 8 (by simp) (by simp)]
    rfl
  simp only [recS, hr] at h15
  have hfr := frame5
  generalize frame [5] = fr at *
  have hl : fr.length = 9 := by rw [hfr]; rfl
  have hmn : minI ((9 : Nat) : Int) 8 = ((8 : Nat) : Int) := rfl
  refine C1.shut [8192] h9 ?_ (by rfl) (by rfl) ?_
  · simp only [ltSto, ltO2, ltO1, ltAs, ltA, ltC, ltCs, ltT, ltFr, ltS, wrOk, wrO, TL.get, hasFr, ↓reduceIte, Nat.reduceEqDiff, reduceCtorEq, Option.getD_some, Option.isSome_some, List.length_map, List.length_append, List.length_cons, List.length_nil, List.append_nil, List.mem_singleton, List.mem_cons, List.not_mem_nil, and_true, true_and, and_self, imp_self, forall_const, false_implies, implies_true, true_implies, or_false, Bool.false_eq_true, Bool.true_eq_false, ImXs_nil, true_or, or_true, false_or, false_and, and_false, List.map_nil, List.map_cons]
    exact ⟨rfl, bytes_v [5]⟩
  simp only [tl, tl2, isCallR, entX, argFr, ret, retI, retB, intT, unT, endR, ressR, resR, tupT, bslR, boxR, lenAll, ↓reduceIte, Nat.reduceEqDiff, Nat.reduceAdd, Nat.reduceMul, Nat.reduceLT, Nat.reduceLeDiff, reduceCtorEq, Int.reduceLE, Int.reduceLT, ne_eq, Int.reduceEq, not_false_eq_true, decide_true, decide_false, Int.reduceToNat, tl3, Int.reduceBNe, Int.reduceBEq, hl, hmn, cut_map, cut_to, ← List.map_append]
  refine ⟨by omega, by simp [hl], ?_⟩
  refine C1.shut [12288] h15 ?_ (by rfl) (by rfl) ?_
  · simp only [ltSto, ltO2, ltO1, ltAs, ltA, ltC, ltCs, ltT, ltFr, ltS, wrOk, wrO, TL.get, hasFr, ↓reduceIte, Nat.reduceEqDiff, reduceCtorEq, Option.getD_some, Option.isSome_some, List.length_map, List.length_append, List.length_cons, List.length_nil, List.append_nil, List.mem_singleton, List.mem_cons, List.not_mem_nil, and_true, true_and, and_self, imp_self, forall_const, false_implies, implies_true, true_implies, or_false, Bool.false_eq_true, Bool.true_eq_false, ImXs_nil, true_or, or_true, false_or, false_and, and_false, List.map_nil]
    exact ⟨by simp [hl], bytes_v _⟩
  simp only [tl, tl2, isCallR, entX, argFr, ret, retI, retB, intT, unT, endR, ressR, resR, tupT, bslR, boxR, lenAll, ↓reduceIte, Nat.reduceEqDiff, Nat.reduceAdd, Nat.reduceMul, Nat.reduceLT, Nat.reduceLeDiff, reduceCtorEq, Int.reduceLE, Int.reduceLT, ne_eq, Int.reduceEq, not_false_eq_true, decide_true, decide_false, Int.reduceToNat, tl3, Int.reduceBNe, Int.reduceBEq, hl, hmn]
  refine ⟨by kernel_rfl, fun _ => by decide, fun _ => isByte_bytes (bs := [5]), .imR ?_ rfl⟩
  subst hfr
  rfl
theorem c9' (a : List UInt8) (h : a.length ≤ 4096) : Spc Try.prog 9 [vL a] [] (.tup [vL (frame a), vI 0]) [] := by
  have := c9 a (by omega)
  rwa [frameR, if_pos h] at this
end Go.Proofs

