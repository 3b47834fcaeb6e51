import Derived.Test.YtnejebkdlofdoaaG35
set_option linter.unusedSimpArgs false
set_option linter.unusedVariables false
namespace Go.Proofs
open Go Go.TL
/-! ltSto, ltO2, ltO1, ltAs, ltA, ltC, ltC0, ltC0s, ltCs, ltT, ltFr, ltS, wrOk, wrO, TL.get, hasFr, ↓reduceIte, Nat.reduceEqDiff, reduceCtorEq, Option.getD_some, Option.isSome_some, List.length_map, List.length_append, List.length_cons, List.length_nil, List.append_nil, List.mem_singleton, List.mem_cons, List.not_mem_nil, and_true, true_and, and_self, imp_self, forall_const, false_implies, implies_true, true_implies, or_false, Bool.false_eq_true, Bool.true_eq_false, ImXs_nil, true_or, or_true, false_or, false_and, and_false, rmK, rm1# the reference's writer -/
theorem c_ref35_five (n : Int) : Spc Try.prog F_ref35_five [vI n] [] (.asl 0 5) [(0, .arr 1 ((five n).map byteT) false)] := by
  refine spec_of_ir fn_ref35_five mixm (by simp) fun e _ hst => W_start ?_
  unfold ir_ref35_five
  simp only [tl, tl2, tl4, ↓un_u, isCallR, entX, argFr, ret, retI, retB, intT, unT, endR, ressR, resR, tupT, bslR, boxR, lenAll, ↓reduceIte, Nat.reduceEqDiff, Nat.reduceAdd, Nat.reduceMul, Nat.reduceLT, Nat.reduceLeDiff, reduceCtorEq, Int.reduceLE, Int.reduceLT, ne_eq, Int.reduceEq, not_false_eq_true, decide_true, decide_false, Int.reduceToNat, tl3, Int.reduceBNe, Int.reduceBEq, rmK, rm1, not_true_eq_false, byteT_u8]
  simp only [five]
  refine .of [(0, some 8248)] [] rfl (by first | rfl | (rw [hst]; rfl)) ?_ ?_
  all_goals (try exact clA)
theorem c_ref35_text (t : ByteArray) (ht : t.size ≤ 50000) : Spc Try.prog F_ref35_text [vS t] [] (.asl 0 (txtB t).length) [(0, .arr 1 ((txtB t).map byteT) false)] := by
  have hsz : t.size = t.data.toList.length := by rw [Array.length_toList]; rfl
  refine spec_of_ir fn_ref35_text mixm (by simp) fun e _ hst => W_start ?_
  unfold ir_ref35_text
  simp only [tl, tl2, tl4, ↓un_u, isCallR, entX, argFr, ret, retI, retB, intT, unT, endR, ressR, resR, tupT, bslR, boxR, lenAll, ↓reduceIte, Nat.reduceEqDiff, Nat.reduceAdd, Nat.reduceMul, Nat.reduceLT, Nat.reduceLeDiff, reduceCtorEq, Int.reduceLE, Int.reduceLT, ne_eq, Int.reduceEq, not_false_eq_true, decide_true, decide_false, Int.reduceToNat, tl3, Int.reduceBNe, Int.reduceBEq, rmK, rm1, not_true_eq_false]
  refine C1.fresh 8200 (c_ref35_five t.size) rfl (by apply imXs_map; intro _; exact ⟨rfl, rfl⟩) (by rfl) ?_
  simp only [tl, tl2, tl4, ↓un_u, isCallR, entX, argFr, ret, retI, retB, intT, unT, endR, ressR, resR, tupT, bslR, boxR, lenAll, ↓reduceIte, Nat.reduceEqDiff, Nat.reduceAdd, Nat.reduceMul, Nat.reduceLT, Nat.reduceLeDiff, reduceCtorEq, Int.reduceLE, Int.reduceLT, ne_eq, Int.reduceEq, not_false_eq_true, decide_true, decide_false, Int.reduceToNat, tl3, Int.reduceBNe, Int.reduceBEq, rmK, rm1, not_true_eq_false, five_length]
  refine ⟨by omega, ?_⟩
  simp only [txtB, List.length_append, five_length]
  refine .of [(0, some 8200)] [] rfl (by first | rfl | (rw [hst]; rfl)) ?_ ?_
  all_goals (try exact clA)
def encI (x : Out) (i : Nat) : List UInt8 := five x.num ++ txtB x.proj ++ txtB x.res ++ five x.tm ++ txtB x.text ++ five x.state ++ (five x.sigs.length ++ (x.sigs.take i).flatMap sigB)
theorem sigs_length (L : List Sig) (hp : ∀ s ∈ L, s.pers.size ≤ 16) : ∀ i, i ≤ L.length → ((L.take i).flatMap sigB).length ≤ i * 26
  | 0, _ => by simp
  | i + 1, hi => by
    have hi2 : i < L.length := by omega
    rw [take_snoc hi2, List.flatMap_append, List.length_append]
    have := sigs_length L hp i (by omega)
    have hq := hp L[i] (List.getElem_mem hi2)
    simp only [List.flatMap_cons, List.flatMap_nil, List.append_nil, sigB, List.length_append, five_length, txt_length]
    omega
theorem encI_length {x : Out} (h : validO x = true) {i : Nat} (hi : i ≤ x.sigs.length) : (encI x i).length ≤ 3000 := by
  obtain ⟨_, v2, v3, _, v5, _, v7, v8⟩ := valid_parts h
  have n2 := name_size v2
  have n3 := name_size v3
  have := sigs_length x.sigs (fun s hs => (name_size (v8 s hs).1).2) i hi
  have h2 : i * 26 ≤ 2 * 26 := Nat.mul_le_mul_right _ (by omega)
  simp only [encI, List.length_append, five_length, txt_length]
  omega
theorem encI_succ {x : Out} {i : Nat} (hi : i < x.sigs.length) : encI x (i + 1) = encI x i ++ txtB x.sigs[i].pers ++ five x.sigs[i].tm := by
  simp only [encI]
  rw [take_snoc hi, List.flatMap_append]
  simp [sigB, List.append_assoc]
theorem c_ref35_Encode (x : Out) (hl : x.sigs.length < 4611686018427387904) : Spc Try.prog F_ref35_Encode [outT x] [] (encT x) [] := by
  have hv := c_ref35_Valid x hl
  refine spec_of_ir fn_ref35_Encode mixm (by simp) fun e _ hst => W_start ?_
  unfold ir_ref35_Encode
  simp only [tl, tl2, tl4, ↓un_u, isCallR, entX, argFr, ret, retI, retB, intT, unT, endR, ressR, resR, tupT, bslR, boxR, lenAll, ↓reduceIte, Nat.reduceEqDiff, Nat.reduceAdd, Nat.reduceMul, Nat.reduceLT, Nat.reduceLeDiff, reduceCtorEq, Int.reduceLE, Int.reduceLT, ne_eq, Int.reduceEq, not_false_eq_true, decide_true, decide_false, Int.reduceToNat, tl3, Int.reduceBNe, Int.reduceBEq, rmK, rm1, not_true_eq_false]
  refine C1.im hv rfl (by rfl) ?_
  simp only [tl, tl2, tl4, ↓un_u, isCallR, entX, argFr, ret, retI, retB, intT, unT, endR, ressR, resR, tupT, bslR, boxR, lenAll, ↓reduceIte, Nat.reduceEqDiff, Nat.reduceAdd, Nat.reduceMul, Nat.reduceLT, Nat.reduceLeDiff, reduceCtorEq, Int.reduceLE, Int.reduceLT, ne_eq, Int.reduceEq, not_false_eq_true, decide_true, decide_false, Int.reduceToNat, tl3, Int.reduceBNe, Int.reduceBEq, rmK, rm1, not_true_eq_false, Bool.not_eq_true', Bool.not_eq_false']
  refine ⟨fun h => ?_, fun h => ?_⟩
  · rw [encT, if_neg (by rw [h]; simp)]
    refine .of [] [] rfl (by first | rfl | (rw [hst]; rfl)) ?_ ?_
    all_goals (try exact clA)
  rw [encT, if_pos h]
  obtain ⟨_, v2, v3, _, v5, _, v7, v8⟩ := valid_parts h
  have n2 := name_size v2
  have n3 := name_size v3
  have t1 := c_ref35_text x.proj (by omega)
  have t2 := c_ref35_text x.res (by omega)
  have t3 := c_ref35_text x.text (by omega)
  refine C1.fresh 16392 (c_ref35_five x.num) rfl (by apply imXs_map; intro _; exact ⟨rfl, rfl⟩) (by rfl) ?_
  simp only [tl, tl2, tl4, ↓un_u, isCallR, entX, argFr, ret, retI, retB, intT, unT, endR, ressR, resR, tupT, bslR, boxR, lenAll, ↓reduceIte, Nat.reduceEqDiff, Nat.reduceAdd, Nat.reduceMul, Nat.reduceLT, Nat.reduceLeDiff, reduceCtorEq, Int.reduceLE, Int.reduceLT, ne_eq, Int.reduceEq, not_false_eq_true, decide_true, decide_false, Int.reduceToNat, tl3, Int.reduceBNe, Int.reduceBEq, rmK, rm1, not_true_eq_false]
  refine C1.fresh 16404 t1 rfl (by apply imXs_map; intro _; exact ⟨rfl, rfl⟩) (by rfl) ?_
  simp only [tl, tl2, tl4, ↓un_u, isCallR, entX, argFr, ret, retI, retB, intT, unT, endR, ressR, resR, tupT, bslR, boxR, lenAll, ↓reduceIte, Nat.reduceEqDiff, Nat.reduceAdd, Nat.reduceMul, Nat.reduceLT, Nat.reduceLeDiff, reduceCtorEq, Int.reduceLE, Int.reduceLT, ne_eq, Int.reduceEq, not_false_eq_true, decide_true, decide_false, Int.reduceToNat, tl3, Int.reduceBNe, Int.reduceBEq, rmK, rm1, not_true_eq_false, five_length]
  refine ⟨by rw [txt_length]; omega, by kernel_rfl, ?_⟩
  refine C1.fresh 20492 t2 rfl (by apply imXs_map; intro _; exact ⟨rfl, rfl⟩) (by rfl) ?_
  simp only [tl, tl2, tl4, ↓un_u, isCallR, entX, argFr, ret, retI, retB, intT, unT, endR, ressR, resR, tupT, bslR, boxR, lenAll, ↓reduceIte, Nat.reduceEqDiff, Nat.reduceAdd, Nat.reduceMul, Nat.reduceLT, Nat.reduceLeDiff, reduceCtorEq, Int.reduceLE, Int.reduceLT, ne_eq, Int.reduceEq, not_false_eq_true, decide_true, decide_false, Int.reduceToNat, tl3, Int.reduceBNe, Int.reduceBEq, rmK, rm1, not_true_eq_false, five_length]
  refine ⟨by rw [txt_length, txt_length]; omega, ?_⟩
  refine C1.fresh 24588 (c_ref35_five x.tm) rfl (by apply imXs_map; intro _; exact ⟨rfl, rfl⟩) (by rfl) ?_
  simp only [tl, tl2, tl4, ↓un_u, isCallR, entX, argFr, ret, retI, retB, intT, unT, endR, ressR, resR, tupT, bslR, boxR, lenAll, ↓reduceIte, Nat.reduceEqDiff, Nat.reduceAdd, Nat.reduceMul, Nat.reduceLT, Nat.reduceLeDiff, reduceCtorEq, Int.reduceLE, Int.reduceLT, ne_eq, Int.reduceEq, not_false_eq_true, decide_true, decide_false, Int.reduceToNat, tl3, Int.reduceBNe, Int.reduceBEq, rmK, rm1, not_true_eq_false, five_length]
  refine ⟨by rw [txt_length, txt_length]; omega, ?_⟩
  refine C1.fresh 28684 t3 rfl (by apply imXs_map; intro _; exact ⟨rfl, rfl⟩) (by rfl) ?_
  simp only [tl, tl2, tl4, ↓un_u, isCallR, entX, argFr, ret, retI, retB, intT, unT, endR, ressR, resR, tupT, bslR, boxR, lenAll, ↓reduceIte, Nat.reduceEqDiff, Nat.reduceAdd, Nat.reduceMul, Nat.reduceLT, Nat.reduceLeDiff, reduceCtorEq, Int.reduceLE, Int.reduceLT, ne_eq, Int.reduceEq, not_false_eq_true, decide_true, decide_false, Int.reduceToNat, tl3, Int.reduceBNe, Int.reduceBEq, rmK, rm1, not_true_eq_false, five_length]
  refine ⟨by rw [txt_length, txt_length, txt_length]; omega, ?_⟩
  refine C1.fresh 32780 (c_ref35_five x.state) rfl (by apply imXs_map; intro _; exact ⟨rfl, rfl⟩) (by rfl) ?_
  simp only [tl, tl2, tl4, ↓un_u, isCallR, entX, argFr, ret, retI, retB, intT, unT, endR, ressR, resR, tupT, bslR, boxR, lenAll, ↓reduceIte, Nat.reduceEqDiff, Nat.reduceAdd, Nat.reduceMul, Nat.reduceLT, Nat.reduceLeDiff, reduceCtorEq, Int.reduceLE, Int.reduceLT, ne_eq, Int.reduceEq, not_false_eq_true, decide_true, decide_false, Int.reduceToNat, tl3, Int.reduceBNe, Int.reduceBEq, rmK, rm1, not_true_eq_false, five_length]
  refine ⟨by rw [txt_length, txt_length, txt_length]; omega, ?_⟩
  refine C1.fresh 36880 (c_ref35_five x.sigs.length) rfl (by apply imXs_map; intro _; exact ⟨rfl, rfl⟩) (by rfl) ?_
  simp only [tl, tl2, tl4, ↓un_u, isCallR, entX, argFr, ret, retI, retB, intT, unT, endR, ressR, resR, tupT, bslR, boxR, lenAll, ↓reduceIte, Nat.reduceEqDiff, Nat.reduceAdd, Nat.reduceMul, Nat.reduceLT, Nat.reduceLeDiff, reduceCtorEq, Int.reduceLE, Int.reduceLT, ne_eq, Int.reduceEq, not_false_eq_true, decide_true, decide_false, Int.reduceToNat, tl3, Int.reduceBNe, Int.reduceBEq, rmK, rm1, not_true_eq_false, five_length]
  refine ⟨by rw [txt_length, txt_length, txt_length]; omega, ?_⟩
  refine W_loopF mixm (α := Nat) [4, 44, 45, 46] (fun i => i ≤ x.sigs.length) (fun i => [(4, .asl 16392 (encI x i).length), (46, vI i), (44, vSs x.sigs), (45, vI x.sigs.length)]) (fun i => [(16392, .arr 1 ((encI x i).map byteT) false)]) (fun i => x.sigs.length - i) 0 (by omega) ?_ fun i hi => ?_
  · simp only [encI, List.take_zero, List.flatMap_nil, List.append_nil, List.map_append, List.append_assoc, List.length_append, five_length]
    refine .of [(16392, some 16392)] [] rfl (by first | rfl | (rw [hst]; rfl)) ?_ ?_
    all_goals (try exact clA)
  have hel := encI_length h hi
  simp only [tl, tl2, tl4, ↓un_u, isCallR, entX, argFr, ret, retI, retB, intT, unT, endR, ressR, resR, tupT, bslR, boxR, lenAll, ↓reduceIte, Nat.reduceEqDiff, Nat.reduceAdd, Nat.reduceMul, Nat.reduceLT, Nat.reduceLeDiff, reduceCtorEq, Int.reduceLE, Int.reduceLT, ne_eq, Int.reduceEq, not_false_eq_true, decide_true, decide_false, Int.reduceToNat, tl3, Int.reduceBNe, Int.reduceBEq, rmK, rm1, not_true_eq_false, decide_eq_true_eq, decide_eq_false_iff_not]
  refine ⟨fun h3 => ?_, fun h3 => ?_⟩
  · have hi2 : i < x.sigs.length := by omega
    have hwi := i64_succ (i := i) (by omega)
    have hq := name_size (v8 _ (List.getElem_mem hi2)).1
    have w1 := c_ref35_text x.sigs[i].pers (by omega)
    have hfin := encI_succ hi2
    simp only [tl, tl2, tl4, ↓un_u, isCallR, entX, argFr, ret, retI, retB, intT, unT, endR, ressR, resR, tupT, bslR, boxR, lenAll, ↓reduceIte, Nat.reduceEqDiff, Nat.reduceAdd, Nat.reduceMul, Nat.reduceLT, Nat.reduceLeDiff, reduceCtorEq, Int.reduceLE, Int.reduceLT, ne_eq, Int.reduceEq, not_false_eq_true, decide_true, decide_false, Int.reduceToNat, tl3, Int.reduceBNe, Int.reduceBEq, rmK, rm1, not_true_eq_false, Int.toNat_natCast, getD_mapT hi2]
    refine ⟨by omega, ?_⟩
    refine C1.fresh 53260 w1 rfl (by apply imXs_map; intro _; exact ⟨rfl, rfl⟩) (by rfl) ?_
    simp only [tl, tl2, tl4, ↓un_u, isCallR, entX, argFr, ret, retI, retB, intT, unT, endR, ressR, resR, tupT, bslR, boxR, lenAll, ↓reduceIte, Nat.reduceEqDiff, Nat.reduceAdd, Nat.reduceMul, Nat.reduceLT, Nat.reduceLeDiff, reduceCtorEq, Int.reduceLE, Int.reduceLT, ne_eq, Int.reduceEq, not_false_eq_true, decide_true, decide_false, Int.reduceToNat, tl3, Int.reduceBNe, Int.reduceBEq, rmK, rm1, not_true_eq_false, five_length]
    refine ⟨by rw [txt_length]; omega, ?_⟩
    refine C1.fresh 53276 (c_ref35_five x.sigs[i].tm) rfl (by apply imXs_map; intro _; exact ⟨rfl, rfl⟩) (by rfl) ?_
    simp only [tl, tl2, tl4, ↓un_u, isCallR, entX, argFr, ret, retI, retB, intT, unT, endR, ressR, resR, tupT, bslR, boxR, lenAll, ↓reduceIte, Nat.reduceEqDiff, Nat.reduceAdd, Nat.reduceMul, Nat.reduceLT, Nat.reduceLeDiff, reduceCtorEq, Int.reduceLE, Int.reduceLT, ne_eq, Int.reduceEq, not_false_eq_true, decide_true, decide_false, Int.reduceToNat, tl3, Int.reduceBNe, Int.reduceBEq, rmK, rm1, not_true_eq_false, five_length]
    refine ⟨by rw [txt_length]; omega, by kernel_rfl, ?_⟩
    simp only [tl, tl2, tl4, ↓un_u, isCallR, entX, argFr, ret, retI, retB, intT, unT, endR, ressR, resR, tupT, bslR, boxR, lenAll, ↓reduceIte, Nat.reduceEqDiff, Nat.reduceAdd, Nat.reduceMul, Nat.reduceLT, Nat.reduceLeDiff, reduceCtorEq, Int.reduceLE, Int.reduceLT, ne_eq, Int.reduceEq, not_false_eq_true, decide_true, decide_false, Int.reduceToNat, tl3, Int.reduceBNe, Int.reduceBEq, rmK, rm1, not_true_eq_false, hwi]
    refine ⟨i + 1, by omega, by omega, ?_⟩
    simp only [hfin, List.map_append, List.append_assoc, List.length_append, five_length]
    refine .of [(16392, some 16392)] [] rfl (by first | rfl | (rw [hst]; rfl)) ?_ ?_
    all_goals (try exact clA)
  · have hie : i = x.sigs.length := by omega
    subst hie
    have he : encI x x.sigs.length = encB x := by simp [encI, encB]
    rw [he]
    refine .of [] [16392] rfl (by first | rfl | (rw [hst]; rfl)) ?_ ?_
    all_goals (try exact clA)

end Go.Proofs

