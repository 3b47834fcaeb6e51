import Derived.Test.YtnejebkdlofdoaaM35
import Derived.Test.YtnejebkdlofdoaaMade
set_option linter.unusedSimpArgs false
set_option linter.unusedVariables false
namespace Go.Proofs
open Go Go.TL
theorem c_ref35_Same (x : Out) (hl : x.sigs.length < 4611686018427387904) : Spc Try.prog F_ref35_Same [outT x, outT x] [] (vB true) [] := by
  refine spec_of_ir fn_ref35_Same mixm (by simp) fun e _ hst => W_start ?_
  unfold ir_ref35_Same
  simp only [tl, tl2, tl4, ↓un_u, isCallR, entX, argFr, ret, retI, retB, intT, unT, endR, ressR, resR, tupT, bslR, boxR, lenAll, ↓reduceIte, Nat.reduceEqDiff, Nat.reduceAdd, Nat.reduceMul, Nat.reduceLT, Nat.reduceLeDiff, reduceCtorEq, Int.reduceLE, Int.reduceLT, ne_eq, Int.reduceEq, not_false_eq_true, decide_true, decide_false, Int.reduceToNat, tl3, Int.reduceBNe, Int.reduceBEq, rmK, rm1, not_true_eq_false, bne_self_eq_false]
  refine W_loopF mixm (α := Nat) [58] (fun i => i ≤ x.sigs.length) (fun i => [(58, vI i)]) (fun i => [(4096, .arr 7 [outT x] false), (4100, .arr 7 [outT x] false)]) (fun i => x.sigs.length - i) 0 (by omega) ?_ fun i hi => ?_
  · refine .of [(4096, some 4096), (4100, some 4100)] [] rfl (by first | rfl | (rw [hst]; rfl)) ?_ ?_
    all_goals (try exact clA)
  simp only [tl, tl2, tl4, ↓un_u, isCallR, entX, argFr, ret, retI, retB, intT, unT, endR, ressR, resR, tupT, bslR, boxR, lenAll, ↓reduceIte, Nat.reduceEqDiff, Nat.reduceAdd, Nat.reduceMul, Nat.reduceLT, Nat.reduceLeDiff, reduceCtorEq, Int.reduceLE, Int.reduceLT, ne_eq, Int.reduceEq, not_false_eq_true, decide_true, decide_false, Int.reduceToNat, tl3, Int.reduceBNe, Int.reduceBEq, rmK, rm1, not_true_eq_false, decide_eq_true_eq, decide_eq_false_iff_not]
  refine ⟨fun h => ?_, fun h => ?_⟩
  · have hi2 : i < x.sigs.length := by omega
    have hwi := i64_succ (i := i) (by omega)
    simp only [tl, tl2, tl4, ↓un_u, isCallR, entX, argFr, ret, retI, retB, intT, unT, endR, ressR, resR, tupT, bslR, boxR, lenAll, ↓reduceIte, Nat.reduceEqDiff, Nat.reduceAdd, Nat.reduceMul, Nat.reduceLT, Nat.reduceLeDiff, reduceCtorEq, Int.reduceLE, Int.reduceLT, ne_eq, Int.reduceEq, not_false_eq_true, decide_true, decide_false, Int.reduceToNat, tl3, Int.reduceBNe, Int.reduceBEq, rmK, rm1, not_true_eq_false, Int.toNat_natCast, getD_mapT hi2, hwi, bne_self_eq_false]
    refine ⟨by omega, by omega, by kernel_rfl, i + 1, by omega, by omega, ?_⟩
    refine .of [(4096, some 4096), (4100, some 4100)] [] rfl (by first | rfl | (rw [hst]; rfl)) ?_ ?_
    all_goals (try exact clA)
  · refine .of [] [] rfl (by first | rfl | (rw [hst]; rfl)) ?_ ?_
    all_goals (try exact clA)
theorem c_ref35_Alike (l : List Out) (hl : ∀ x ∈ l, x.sigs.length < 4611686018427387904) (hl2 : l.length < 4611686018427387904) : Spc Try.prog F_ref35_Alike [vOs l, vOs l] [] (vB true) [] := by
  refine spec_of_ir fn_ref35_Alike mixm (by simp) fun e _ hst => W_start ?_
  unfold ir_ref35_Alike
  simp only [tl, tl2, tl4, ↓un_u, isCallR, entX, argFr, ret, retI, retB, intT, unT, endR, ressR, resR, tupT, bslR, boxR, lenAll, ↓reduceIte, Nat.reduceEqDiff, Nat.reduceAdd, Nat.reduceMul, Nat.reduceLT, Nat.reduceLeDiff, reduceCtorEq, Int.reduceLE, Int.reduceLT, ne_eq, Int.reduceEq, not_false_eq_true, decide_true, decide_false, Int.reduceToNat, tl3, Int.reduceBNe, Int.reduceBEq, rmK, rm1, not_true_eq_false, bne_self_eq_false]
  refine W_loopF mixm (α := Nat) [13] (fun i => i ≤ l.length) (fun i => [(13, vI i)]) (fun i => []) (fun i => l.length - i) 0 (by omega) ?_ fun i hi => ?_
  · refine .of [] [] rfl (by first | rfl | (rw [hst]; rfl)) ?_ ?_
    all_goals (try exact clA)
  simp only [tl, tl2, tl4, ↓un_u, isCallR, entX, argFr, ret, retI, retB, intT, unT, endR, ressR, resR, tupT, bslR, boxR, lenAll, ↓reduceIte, Nat.reduceEqDiff, Nat.reduceAdd, Nat.reduceMul, Nat.reduceLT, Nat.reduceLeDiff, reduceCtorEq, Int.reduceLE, Int.reduceLT, ne_eq, Int.reduceEq, not_false_eq_true, decide_true, decide_false, Int.reduceToNat, tl3, Int.reduceBNe, Int.reduceBEq, rmK, rm1, not_true_eq_false, decide_eq_true_eq, decide_eq_false_iff_not]
  refine ⟨fun h => ?_, fun h => ?_⟩
  · have hs := fun h => c_ref35_Same l[i] (hl _ (List.getElem_mem (h : i < l.length)))
    have hi2 : i < l.length := by omega
    have hwi := i64_succ (i := i) (by omega)
    simp only [tl, tl2, tl4, ↓un_u, isCallR, entX, argFr, ret, retI, retB, intT, unT, endR, ressR, resR, tupT, bslR, boxR, lenAll, ↓reduceIte, Nat.reduceEqDiff, Nat.reduceAdd, Nat.reduceMul, Nat.reduceLT, Nat.reduceLeDiff, reduceCtorEq, Int.reduceLE, Int.reduceLT, ne_eq, Int.reduceEq, not_false_eq_true, decide_true, decide_false, Int.reduceToNat, tl3, Int.reduceBNe, Int.reduceBEq, rmK, rm1, not_true_eq_false, Int.toNat_natCast, getD_mapT hi2, hwi]
    refine ⟨by omega, by omega, ?_⟩
    refine C1.im (hs (by omega)) (by rfl) (by rfl) ?_
    simp only [tl, tl2, tl4, ↓un_u, isCallR, entX, argFr, ret, retI, retB, intT, unT, endR, ressR, resR, tupT, bslR, boxR, lenAll, ↓reduceIte, Nat.reduceEqDiff, Nat.reduceAdd, Nat.reduceMul, Nat.reduceLT, Nat.reduceLeDiff, reduceCtorEq, Int.reduceLE, Int.reduceLT, ne_eq, Int.reduceEq, not_false_eq_true, decide_true, decide_false, Int.reduceToNat, tl3, Int.reduceBNe, Int.reduceBEq, rmK, rm1, not_true_eq_false]
    refine ⟨by kernel_rfl, i + 1, by omega, by omega, ?_⟩
    refine .of [] [] rfl (by first | rfl | (rw [hst]; rfl)) ?_ ?_
    all_goals (try exact clA)
  · refine .of [] [] rfl (by first | rfl | (rw [hst]; rfl)) ?_ ?_
    all_goals (try exact clA)
def txts : List ByteArray := [⟨#[]⟩, ⟨#[97, 10]⟩, ⟨#[111, 117, 116, 112, 117, 116, 32, 110, 32, 110, 117, 109, 98, 101, 114, 10, 118, 97, 108, 117, 101, 32, 49, 47, 50, 10]⟩, ⟨#[0, 255]⟩]
def outA (cs : List UInt8) (a : Nat) (n : Int) : Out × Nat :=
  let d1 := nx cs a 3
  let d2 := nx cs d1.2 5
  let d3 := nx cs d2.2 20
  let d4 := nx cs d3.2 4
  let d5 := nx cs d4.2 6
  (⟨n, ⟨#[112]⟩ ++ dig d1.1, nmL.getD d2.1.toNat ⟨#[]⟩, d3.1, txts.getD d4.1.toNat ⟨#[]⟩, 1 + d5.1, []⟩, d5.2)
theorem outA_le (cs : List UInt8) (a : Nat) (n : Int) (h : a ≤ cs.length) : (outA cs a n).2 ≤ cs.length :=
  nx_le cs _ 6 (nx_le cs _ 4 (nx_le cs _ 20 (nx_le cs _ 5 (nx_le cs a 3 h))))
theorem c_made_Output (cs : List UInt8) (a : Nat) (n : Int) (hl : cs.length ≤ 400) (ha : a ≤ cs.length) : Spc Try.prog F_made_Output [.ptr 0 1 0 0, vI n] [(0, oC cs a)] (outT (outA cs a n).1) [(0, oC cs (outA cs a n).2)] := by
  have g1 := nx_le cs a 3 ha
  have r1 := nx_range cs a 3 (by omega)
  have c1 := c_draw_Codes_Next cs a 3 hl ha (by omega)
  unfold outA
  dsimp only
  generalize nx cs a 3 = d1 at *
  have g2 := nx_le cs d1.2 5 g1
  have c2 := c_made_Name cs d1.2 hl g1
  generalize nx cs d1.2 5 = d2 at *
  have g3 := nx_le cs d2.2 20 g2
  have c3 := c_draw_Codes_Next cs d2.2 20 hl g2 (by omega)
  generalize nx cs d2.2 20 = d3 at *
  have g4 := nx_le cs d3.2 4 g3
  have r4 := nx_range cs d3.2 4 (by omega)
  have c4 := c_draw_Codes_Next cs d3.2 4 hl g3 (by omega)
  generalize nx cs d3.2 4 = d4 at *
  have c5 := c_draw_Codes_Range cs d4.2 1 6 hl g4 (by omega) (by omega)
  rw [show (6 : Int) - 1 + 1 = 6 by decide] at c5
  generalize nx cs d4.2 6 = d5 at *
  obtain ⟨m, hm⟩ := Int.eq_ofNat_of_zero_le r4.1
  refine spec_of_ir fn_made_Output mixm (by simp) fun e _ hst => W_start ?_
  unfold ir_made_Output
  simp only [tl, tl2, tl4, ↓un_u, isCallR, entX, argFr, ret, retI, retB, intT, unT, endR, ressR, resR, tupT, bslR, boxR, lenAll, ↓reduceIte, Nat.reduceEqDiff, Nat.reduceAdd, Nat.reduceMul, Nat.reduceLT, Nat.reduceLeDiff, reduceCtorEq, Int.reduceLE, Int.reduceLT, ne_eq, Int.reduceEq, not_false_eq_true, decide_true, decide_false, Int.reduceToNat, tl3, Int.reduceBNe, Int.reduceBEq, rmK, rm1, not_true_eq_false]
  refine C1.draw 0 cs _ _ c1 rfl rfl rfl ?_
  simp only [tl, tl2, tl4, ↓un_u, isCallR, entX, argFr, ret, retI, retB, intT, unT, endR, ressR, resR, tupT, bslR, boxR, lenAll, ↓reduceIte, Nat.reduceEqDiff, Nat.reduceAdd, Nat.reduceMul, Nat.reduceLT, Nat.reduceLeDiff, reduceCtorEq, Int.reduceLE, Int.reduceLT, ne_eq, Int.reduceEq, not_false_eq_true, decide_true, decide_false, Int.reduceToNat, tl3, Int.reduceBNe, Int.reduceBEq, rmK, rm1, not_true_eq_false]
  refine C1.im (c_ref24_Decimal1 _ ⟨r1.1, by omega⟩) rfl (by rfl) ?_
  simp only [tl, tl2, tl4, ↓un_u, isCallR, entX, argFr, ret, retI, retB, intT, unT, endR, ressR, resR, tupT, bslR, boxR, lenAll, ↓reduceIte, Nat.reduceEqDiff, Nat.reduceAdd, Nat.reduceMul, Nat.reduceLT, Nat.reduceLeDiff, reduceCtorEq, Int.reduceLE, Int.reduceLT, ne_eq, Int.reduceEq, not_false_eq_true, decide_true, decide_false, Int.reduceToNat, tl3, Int.reduceBNe, Int.reduceBEq, rmK, rm1, not_true_eq_false]
  refine ⟨by rw [show (dig d1.1).size = 1 from rfl]; decide, ?_⟩
  refine C1.draw 0 cs _ _ c2 rfl rfl rfl ?_
  simp only [tl, tl2, tl4, ↓un_u, isCallR, entX, argFr, ret, retI, retB, intT, unT, endR, ressR, resR, tupT, bslR, boxR, lenAll, ↓reduceIte, Nat.reduceEqDiff, Nat.reduceAdd, Nat.reduceMul, Nat.reduceLT, Nat.reduceLeDiff, reduceCtorEq, Int.reduceLE, Int.reduceLT, ne_eq, Int.reduceEq, not_false_eq_true, decide_true, decide_false, Int.reduceToNat, tl3, Int.reduceBNe, Int.reduceBEq, rmK, rm1, not_true_eq_false]
  refine C1.draw 0 cs _ _ c3 rfl rfl rfl ?_
  simp only [tl, tl2, tl4, ↓un_u, isCallR, entX, argFr, ret, retI, retB, intT, unT, endR, ressR, resR, tupT, bslR, boxR, lenAll, ↓reduceIte, Nat.reduceEqDiff, Nat.reduceAdd, Nat.reduceMul, Nat.reduceLT, Nat.reduceLeDiff, reduceCtorEq, Int.reduceLE, Int.reduceLT, ne_eq, Int.reduceEq, not_false_eq_true, decide_true, decide_false, Int.reduceToNat, tl3, Int.reduceBNe, Int.reduceBEq, rmK, rm1, not_true_eq_false]
  refine C1.draw 0 cs _ _ c4 rfl rfl rfl ?_
  rw [hm] at r4 ⊢
  simp only [tl, tl2, tl4, ↓un_u, isCallR, entX, argFr, ret, retI, retB, intT, unT, endR, ressR, resR, tupT, bslR, boxR, lenAll, ↓reduceIte, Nat.reduceEqDiff, Nat.reduceAdd, Nat.reduceMul, Nat.reduceLT, Nat.reduceLeDiff, reduceCtorEq, Int.reduceLE, Int.reduceLT, ne_eq, Int.reduceEq, not_false_eq_true, decide_true, decide_false, Int.reduceToNat, tl3, Int.reduceBNe, Int.reduceBEq, rmK, rm1, not_true_eq_false]
  have h5 : m < 4 := by omega
  refine ⟨by omega, by omega, ?_⟩
  have hm4 : m = 0 ∨ m = 1 ∨ m = 2 ∨ m = 3 := by omega
  have hend : ([vS ⟨#[]⟩, vS ⟨#[97, 10]⟩, vS ⟨#[111, 117, 116, 112, 117, 116, 32, 110, 32, 110, 117, 109, 98, 101, 114, 10, 118, 97, 108, 117, 101, 32, 49, 47, 50, 10]⟩, vS ⟨#[0, 255]⟩].getD ((m : Nat) : Int).toNat T.junk).cells.getD 0 T.junk = vS (txts.getD ((m : Nat) : Int).toNat ⟨#[]⟩) := by
    rcases hm4 with h | h | h | h <;> subst h <;> rfl
  rw [hend]
  refine C1.draw 0 cs _ _ c5 rfl rfl rfl ?_
  simp only [tl, tl2, tl4, ↓un_u, isCallR, entX, argFr, ret, retI, retB, intT, unT, endR, ressR, resR, tupT, bslR, boxR, lenAll, ↓reduceIte, Nat.reduceEqDiff, Nat.reduceAdd, Nat.reduceMul, Nat.reduceLT, Nat.reduceLeDiff, reduceCtorEq, Int.reduceLE, Int.reduceLT, ne_eq, Int.reduceEq, not_false_eq_true, decide_true, decide_false, Int.reduceToNat, tl3, Int.reduceBNe, Int.reduceBEq, rmK, rm1, not_true_eq_false]
  refine ⟨by kernel_rfl, ?_⟩
  refine .of [(0, some 0)] [] rfl (by first | rfl | (rw [hst]; rfl)) ?_ ?_
  all_goals (try exact clA)
/-- what is drawn is an output -/
theorem outA_valid (cs : List UInt8) (a : Nat) (n : Int) (hn : 1 ≤ n ∧ n ≤ 40) : validO (outA cs a n).1 = true := by
  have r1 := nx_range cs a 3 (by omega)
  unfold outA
  dsimp only
  generalize nx cs a 3 = d1 at *
  have r2 := nx_range cs d1.2 5 (by omega)
  generalize nx cs d1.2 5 = d2 at *
  have r3 := nx_range cs d2.2 20 (by omega)
  generalize nx cs d2.2 20 = d3 at *
  have r4 := nx_range cs d3.2 4 (by omega)
  generalize nx cs d3.2 4 = d4 at *
  have r5 := nx_range cs d4.2 6 (by omega)
  generalize nx cs d4.2 6 = d5 at *
  obtain ⟨a1, h1⟩ := Int.eq_ofNat_of_zero_le r1.1
  obtain ⟨a2, h2⟩ := Int.eq_ofNat_of_zero_le r2.1
  obtain ⟨a4, h4⟩ := Int.eq_ofNat_of_zero_le r4.1
  rw [h1] at r1 ⊢
  rw [h2] at r2 ⊢
  rw [h4] at r4 ⊢
  have p1 : ∀ k : Nat, k < 3 → nameB (⟨#[112]⟩ ++ dig (k : Int)) = true := by
    have q0 : nameB (⟨#[112]⟩ ++ dig 0) = true := by kernel_rfl
    have q1 : nameB (⟨#[112]⟩ ++ dig 1) = true := by kernel_rfl
    have q2 : nameB (⟨#[112]⟩ ++ dig 2) = true := by kernel_rfl
    intro k hk
    have : k = 0 ∨ k = 1 ∨ k = 2 := by omega
    rcases this with h | h | h <;> subst h <;> assumption
  have p2 : ∀ k : Nat, k < 5 → nameB (nmL.getD (k : Int).toNat ⟨#[]⟩) = true := by
    have q0 : nameB ⟨#[97, 110, 110]⟩ = true := by kernel_rfl
    have q1 : nameB ⟨#[98, 111, 98]⟩ = true := by kernel_rfl
    have q2 : nameB ⟨#[99, 121, 100]⟩ = true := by kernel_rfl
    have q3 : nameB ⟨#[100, 97, 110]⟩ = true := by kernel_rfl
    have q4 : nameB ⟨#[101, 118, 101]⟩ = true := by kernel_rfl
    intro k hk
    have : k = 0 ∨ k = 1 ∨ k = 2 ∨ k = 3 ∨ k = 4 := by omega
    rcases this with h | h | h | h | h <;> subst h <;> assumption
  have p3 : ∀ k : Nat, k < 4 → (txts.getD (k : Int).toNat ⟨#[]⟩).size ≤ 1024 := by
    intro k hk
    have : k = 0 ∨ k = 1 ∨ k = 2 ∨ k = 3 := by omega
    rcases this with h | h | h | h <;> subst h <;> decide
  exact valid_of hn (p1 a1 (by omega)) (p2 a2 (by omega)) ⟨r3.1, by show d3.1 ≤ _; omega⟩ (p3 a4 (by omega)) ⟨by show 1 ≤ 1 + d5.1; omega, by show 1 + d5.1 ≤ 6; omega⟩ (Nat.zero_le _) (fun s hs => absurd hs (List.not_mem_nil))
theorem outA_num (cs : List UInt8) (a : Nat) (n : Int) : (outA cs a n).1.num = n := rfl
/-! ltSto, ltO2, ltO1, ltAs, ltA, ltC, ltC0, ltC0s, ltCs, ltT, ltFr, ltS, wrOk, wrO, TL.get, hasFr, ↓reduceIte, Nat.reduceEqDiff, reduceCtorEq, Option.getD_some, Option.isSome_some, List.length_map, List.length_append, List.length_cons, List.length_nil, List.append_nil, List.mem_singleton, List.mem_cons, List.not_mem_nil, and_true, true_and, and_self, imp_self, forall_const, false_implies, implies_true, true_implies, or_false, Bool.false_eq_true, Bool.true_eq_false, ImXs_nil, true_or, or_true, false_or, false_and, and_false, rmK, rm1# reading what was written -/
theorem stN_five {n : Int} (h : 0 ≤ n ∧ n < 1099511627776) (r : List UInt8) : stN (five n ++ r) = some (n, r) := by
  unfold stN
  rw [if_neg (by rw [List.length_append, five_length]; omega)]
  have h1 : (five n ++ r).take 5 = five n := List.take_left' (five_length n)
  have h2 : (five n ++ r).drop 5 = r := List.drop_left' (five_length n)
  rw [h1, h2, numF_five h]
theorem stT_txt (t : ByteArray) (ht : t.size < 1000000) (r : List UInt8) : stT (txtB t ++ r) = some (t, r) := by
  have hsz : t.size = t.data.toList.length := by rw [Array.length_toList]; rfl
  unfold stT txtB
  rw [List.append_assoc, stN_five ⟨by omega, by omega⟩]
  dsimp only
  rw [if_neg (by rw [List.length_append, ← hsz]; omega)]
  have h1 : (t.data.toList ++ r).take ((t.size : Int)).toNat = t.data.toList := List.take_left' (by omega)
  have h2 : (t.data.toList ++ r).drop ((t.size : Int)).toNat = r := List.drop_left' (by omega)
  rw [h1, h2]
theorem sgP_flat (L : List Sig) (hp : ∀ s ∈ L, s.pers.size < 1000000 ∧ 0 ≤ s.tm ∧ s.tm < 1099511627776) (r : List UInt8) : ∀ k, k ≤ L.length → sgP k (L.flatMap sigB ++ r) = some (L.take k, (L.drop k).flatMap sigB ++ r)
  | 0, _ => by simp [sgP, eP]
  | k + 1, hk => by
    have hk2 : k < L.length := by omega
    have hq := hp L[k] (List.getElem_mem hk2)
    rw [sgP, bP, sgP_flat L hp r k (by omega)]
    dsimp only
    rw [List.drop_eq_getElem_cons hk2, List.flatMap_cons, sigB]
    simp only [List.append_assoc]
    rw [bP, stT_txt _ hq.1]
    dsimp only
    rw [bP, stN_five hq.2]
    simp only [eP]
    rw [take_snoc hk2]
theorem allP_enc {x : Out} (h : validO x = true) (r : List UInt8) : allP (encB x ++ r) = some (x, r) := by
  obtain ⟨⟨n1, n2⟩, h2, h3, ⟨t1, t2⟩, h5, ⟨s1, s2⟩, h7, h8⟩ := valid_parts h
  have m2 := name_size h2
  have m3 := name_size h3
  have hsg := sgP_flat x.sigs (fun s hs => ⟨by have := name_size (h8 s hs).1; omega, (h8 s hs).2.1, by have := (h8 s hs).2.2; omega⟩) r x.sigs.length (Nat.le_refl _)
  unfold encB allP hdP
  simp only [List.append_assoc, bP]
  rw [stN_five ⟨by omega, by omega⟩]
  simp only
  rw [stT_txt _ (by omega)]
  simp only
  rw [stT_txt _ (by omega)]
  simp only
  rw [stN_five ⟨by omega, by omega⟩]
  simp only
  rw [stT_txt _ (by omega)]
  simp only
  rw [stN_five ⟨by omega, by omega⟩]
  simp only [eP]
  rw [stN_five ⟨by omega, by omega⟩]
  simp only
  rw [if_neg (by omega)]
  rw [Int.toNat_natCast, bP, hsg]
  simp only [eP, List.take_length, List.drop_length, List.flatMap_nil, List.nil_append]
/-! a reader that reads more: what it leaves -/
def Ext {α : Type} (p : Pr α) : Prop := ∀ b a r z, p b = some (a, r) → p (b ++ z) = some (a, r ++ z)
theorem ext_e {α : Type} (a : α) : Ext (eP a) := fun b a' r z h => by unfold eP at *; cases h; rfl
theorem ext_b {α β : Type} {p : Pr α} {k : α → Pr β} (h : Ext p) (hk : ∀ a, Ext (k a)) : Ext (bP p k) := by
  intro b a r z he
  unfold bP at *
  cases hp : p b with
  | none => rw [hp] at he; cases he
  | some q =>
    obtain ⟨a1, r1⟩ := q
    rw [hp] at he
    rw [h b a1 r1 z hp]
    exact hk a1 r1 a r z he
theorem ext_N : Ext stN := by
  intro b a r z h
  unfold stN at *
  split at h
  · cases h
  · rename_i h1
    cases h
    rw [if_neg (by rw [List.length_append]; omega), List.take_append_of_le_length (by omega), List.drop_append_of_le_length (by omega)]
theorem ext_T : Ext stT := by
  intro b a r z h
  unfold stT at *
  cases hp : stN b with
  | none => rw [hp] at h; cases h
  | some q =>
    obtain ⟨n, r1⟩ := q
    rw [hp] at h
    rw [ext_N b n r1 z hp]
    dsimp only at h ⊢
    split at h
    · cases h
    · rename_i h1
      cases h
      rw [if_neg (by rw [List.length_append]; omega), List.take_append_of_le_length (by omega), List.drop_append_of_le_length (by omega)]
theorem ext_none {α : Type} : Ext (fun _ => none : Pr α) := fun b a r z h => by cases h
theorem ext_sg : ∀ k, Ext (sgP k)
  | 0 => ext_e _
  | k + 1 => ext_b (ext_sg k) fun _ => ext_b ext_T fun _ => ext_b ext_N fun _ => ext_e _
theorem ext_all : Ext allP := by
  refine ext_b (ext_b ext_N fun _ => ext_b ext_T fun _ => ext_b ext_T fun _ => ext_b ext_N fun _ => ext_b ext_T fun _ => ext_b ext_N fun _ => ext_e _) fun x => ext_b ext_N fun n => ?_
  split
  · exact ext_none
  · exact ext_b (ext_sg _) fun _ => ext_e _
theorem decP_enc {x : Out} (h : validO x = true) : decP (encB x) = some x := by
  have := allP_enc h []
  rw [List.append_nil] at this
  unfold decP
  rw [this]
  simp [h]
theorem decP_more {x : Out} (h : validO x = true) (z : List UInt8) (hz : 0 < z.length) : decP (encB x ++ z) = none := by
  unfold decP
  rw [allP_enc h z]
  simp only
  rw [if_pos (.inl hz)]
theorem decP_less {x : Out} (h : validO x = true) (k : Nat) (hk : k < (encB x).length) : decP ((encB x).take k) = none := by
  unfold decP
  cases hp : allP ((encB x).take k) with
  | none => rfl
  | some q =>
    obtain ⟨y, r⟩ := q
    have h1 := ext_all _ _ _ ((encB x).drop k) hp
    rw [List.take_append_drop] at h1
    have h2 := allP_enc h []
    rw [List.append_nil, h1] at h2
    injection h2 with h2
    injection h2 with h2 h3
    have := congrArg List.length h3
    simp at this
    omega

end Go.Proofs

