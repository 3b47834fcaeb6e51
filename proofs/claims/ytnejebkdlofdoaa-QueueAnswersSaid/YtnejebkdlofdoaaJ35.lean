import Derived.Test.YtnejebkdlofdoaaI35
set_option linter.unusedSimpArgs false
set_option linter.unusedVariables false
namespace Go.Proofs
open Go Go.TL
/-! ltSto, ltO2, ltO1, ltAs, ltA, ltC, ltC0, ltC0s, ltCs, ltT, ltFr, ltS, wrOk, wrO, TL.get, hasFr, ↓reduceIte, Nat.reduceEqDiff, reduceCtorEq, Option.getD_some, Option.isSome_some, List.length_map, List.length_append, List.length_cons, List.length_nil, List.append_nil, List.mem_singleton, List.mem_cons, List.not_mem_nil, and_true, true_and, and_self, imp_self, forall_const, false_implies, implies_true, true_implies, or_false, Bool.false_eq_true, Bool.true_eq_false, ImXs_nil, true_or, or_true, false_or, false_and, and_false, rmK, rm1# the reference's reader -/
theorem rT_le (s : RS) : (rT s).2.1.length ≤ s.1.length := by
  have h := rN_le s
  unfold rT
  generalize rN s = q at *
  obtain ⟨n, r⟩ := q
  dsimp only at *
  split
  · exact h
  · simp only [List.length_drop]; omega
def rD (b : List UInt8) : Out × RS := let a := rN (dO rN rT b 6).2; let g := sgR rN rT a.1.toNat a.2; ({ (dO rN rT b 6).1 with sigs := g.1 }, g.2)
def rOK (b : List UInt8) : Bool := let a := rN (dO rN rT b 6).2; if (a.2.2 || decide (a.1 > 2)) = true then false else !((rD b).2.2 || decide (((rD b).2.1.length : Int) > 0) || !validO (rD b).1)
abbrev decR (b : List UInt8) : T := if rOK b = true then .tup [outT (rD b).1, vI 0] else .tup [outT zOut, vI 11]
theorem c_ref35_Decode (b : List UInt8) (hb : b.length < 1000000000) : Spc Try.prog F_ref35_Decode [vL b] [] (decR b) [] := by
  have g0 : ((b, false) : RS).1.length ≤ b.length := Nat.le_refl _
  have c0 := c_ref35_reader_number (b, false) (by omega)
  have g1 := rN_le (b, false)
  rcases h0 : rN (b, false) with ⟨v0, s1⟩
  rw [h0] at c0 g1
  dsimp only at c0 g1
  have c1 := c_ref35_reader_text s1 (by omega)
  have g2 := rT_le s1
  rcases h1 : rT s1 with ⟨v1, s2⟩
  rw [h1] at c1 g2
  dsimp only at c1 g2
  have c2 := c_ref35_reader_text s2 (by omega)
  have g3 := rT_le s2
  rcases h2 : rT s2 with ⟨v2, s3⟩
  rw [h2] at c2 g3
  dsimp only at c2 g3
  have c3 := c_ref35_reader_number s3 (by omega)
  have g4 := rN_le s3
  rcases h3 : rN s3 with ⟨v3, s4⟩
  rw [h3] at c3 g4
  dsimp only at c3 g4
  have c4 := c_ref35_reader_text s4 (by omega)
  have g5 := rT_le s4
  rcases h4 : rT s4 with ⟨v4, s5⟩
  rw [h4] at c4 g5
  dsimp only at c4 g5
  have c5 := c_ref35_reader_number s5 (by omega)
  have g6 := rN_le s5
  rcases h5 : rN s5 with ⟨v5, s6⟩
  rw [h5] at c5 g6
  dsimp only at c5 g6
  have c6 := c_ref35_reader_number s6 (by omega)
  have qn := rN_nn s6
  have ql := rN_le s6
  have e6 : dO rN rT b 6 = (⟨v0, v1, v2, v3, v4, v5, []⟩, s6) := by
    show dO6 rN rT b = _
    simp only [dO6, dO5, dO4, dO3, dO2, dO1, dO0, h0, h1, h2, h3, h4, h5]
  unfold decR rOK rD
  rw [e6]
  dsimp only
  rcases h6 : rN s6 with ⟨n, r⟩
  rw [h6] at c6 qn ql
  dsimp only at c6 qn ql
  dsimp only
  refine spec_of_ir fn_ref35_Decode mixm (by simp) fun e _ hst => W_start ?_
  unfold ir_ref35_Decode
  simp only [tl, tl2, tl4, ↓un_u, isCallR, entX, argFr, ret, retI, retB, intT, unT, endR, ressR, resR, tupT, bslR, boxR, lenAll, ↓reduceIte, Nat.reduceEqDiff, Nat.reduceAdd, Nat.reduceMul, Nat.reduceLT, Nat.reduceLeDiff, reduceCtorEq, Int.reduceLE, Int.reduceLT, ne_eq, Int.reduceEq, not_false_eq_true, decide_true, decide_false, Int.reduceToNat, tl3, Int.reduceBNe, Int.reduceBEq, rmK, rm1, not_true_eq_false]
  refine C1.upd 8200 2 _ _ c0 rfl (imXs_cons ⟨rfl, rfl⟩ imXs_nil) (imXs_cons ⟨rfl, rfl⟩ imXs_nil) ?_ (by rfl) ?_
  · all_goals (try exact clA)
  simp only [tl, tl2, tl4, ↓un_u, isCallR, entX, argFr, ret, retI, retB, intT, unT, endR, ressR, resR, tupT, bslR, boxR, lenAll, ↓reduceIte, Nat.reduceEqDiff, Nat.reduceAdd, Nat.reduceMul, Nat.reduceLT, Nat.reduceLeDiff, reduceCtorEq, Int.reduceLE, Int.reduceLT, ne_eq, Int.reduceEq, not_false_eq_true, decide_true, decide_false, Int.reduceToNat, tl3, Int.reduceBNe, Int.reduceBEq, rmK, rm1, not_true_eq_false]
  refine C1.upd 8200 2 _ _ c1 rfl (imXs_cons ⟨rfl, rfl⟩ imXs_nil) (imXs_cons ⟨rfl, rfl⟩ imXs_nil) ?_ (by rfl) ?_
  · all_goals (try exact clA)
  simp only [tl, tl2, tl4, ↓un_u, isCallR, entX, argFr, ret, retI, retB, intT, unT, endR, ressR, resR, tupT, bslR, boxR, lenAll, ↓reduceIte, Nat.reduceEqDiff, Nat.reduceAdd, Nat.reduceMul, Nat.reduceLT, Nat.reduceLeDiff, reduceCtorEq, Int.reduceLE, Int.reduceLT, ne_eq, Int.reduceEq, not_false_eq_true, decide_true, decide_false, Int.reduceToNat, tl3, Int.reduceBNe, Int.reduceBEq, rmK, rm1, not_true_eq_false]
  refine C1.upd 8200 2 _ _ c2 rfl (imXs_cons ⟨rfl, rfl⟩ imXs_nil) (imXs_cons ⟨rfl, rfl⟩ imXs_nil) ?_ (by rfl) ?_
  · all_goals (try exact clA)
  simp only [tl, tl2, tl4, ↓un_u, isCallR, entX, argFr, ret, retI, retB, intT, unT, endR, ressR, resR, tupT, bslR, boxR, lenAll, ↓reduceIte, Nat.reduceEqDiff, Nat.reduceAdd, Nat.reduceMul, Nat.reduceLT, Nat.reduceLeDiff, reduceCtorEq, Int.reduceLE, Int.reduceLT, ne_eq, Int.reduceEq, not_false_eq_true, decide_true, decide_false, Int.reduceToNat, tl3, Int.reduceBNe, Int.reduceBEq, rmK, rm1, not_true_eq_false]
  refine C1.upd 8200 2 _ _ c3 rfl (imXs_cons ⟨rfl, rfl⟩ imXs_nil) (imXs_cons ⟨rfl, rfl⟩ imXs_nil) ?_ (by rfl) ?_
  · all_goals (try exact clA)
  simp only [tl, tl2, tl4, ↓un_u, isCallR, entX, argFr, ret, retI, retB, intT, unT, endR, ressR, resR, tupT, bslR, boxR, lenAll, ↓reduceIte, Nat.reduceEqDiff, Nat.reduceAdd, Nat.reduceMul, Nat.reduceLT, Nat.reduceLeDiff, reduceCtorEq, Int.reduceLE, Int.reduceLT, ne_eq, Int.reduceEq, not_false_eq_true, decide_true, decide_false, Int.reduceToNat, tl3, Int.reduceBNe, Int.reduceBEq, rmK, rm1, not_true_eq_false]
  refine C1.upd 8200 2 _ _ c4 rfl (imXs_cons ⟨rfl, rfl⟩ imXs_nil) (imXs_cons ⟨rfl, rfl⟩ imXs_nil) ?_ (by rfl) ?_
  · all_goals (try exact clA)
  simp only [tl, tl2, tl4, ↓un_u, isCallR, entX, argFr, ret, retI, retB, intT, unT, endR, ressR, resR, tupT, bslR, boxR, lenAll, ↓reduceIte, Nat.reduceEqDiff, Nat.reduceAdd, Nat.reduceMul, Nat.reduceLT, Nat.reduceLeDiff, reduceCtorEq, Int.reduceLE, Int.reduceLT, ne_eq, Int.reduceEq, not_false_eq_true, decide_true, decide_false, Int.reduceToNat, tl3, Int.reduceBNe, Int.reduceBEq, rmK, rm1, not_true_eq_false]
  refine C1.upd 8200 2 _ _ c5 rfl (imXs_cons ⟨rfl, rfl⟩ imXs_nil) (imXs_cons ⟨rfl, rfl⟩ imXs_nil) ?_ (by rfl) ?_
  · all_goals (try exact clA)
  simp only [tl, tl2, tl4, ↓un_u, isCallR, entX, argFr, ret, retI, retB, intT, unT, endR, ressR, resR, tupT, bslR, boxR, lenAll, ↓reduceIte, Nat.reduceEqDiff, Nat.reduceAdd, Nat.reduceMul, Nat.reduceLT, Nat.reduceLeDiff, reduceCtorEq, Int.reduceLE, Int.reduceLT, ne_eq, Int.reduceEq, not_false_eq_true, decide_true, decide_false, Int.reduceToNat, tl3, Int.reduceBNe, Int.reduceBEq, rmK, rm1, not_true_eq_false]
  refine C1.upd 8200 2 _ _ c6 rfl (imXs_cons ⟨rfl, rfl⟩ imXs_nil) (imXs_cons ⟨rfl, rfl⟩ imXs_nil) ?_ (by rfl) ?_
  · all_goals (try exact clA)
  simp only [tl, tl2, tl4, ↓un_u, isCallR, entX, argFr, ret, retI, retB, intT, unT, endR, ressR, resR, tupT, bslR, boxR, lenAll, ↓reduceIte, Nat.reduceEqDiff, Nat.reduceAdd, Nat.reduceMul, Nat.reduceLT, Nat.reduceLeDiff, reduceCtorEq, Int.reduceLE, Int.reduceLT, ne_eq, Int.reduceEq, not_false_eq_true, decide_true, decide_false, Int.reduceToNat, tl3, Int.reduceBNe, Int.reduceBEq, rmK, rm1, not_true_eq_false]
  refine ⟨fun h => ?_, fun h => ?_⟩
  · simp only [h, reduceIte, Bool.false_eq_true]
    refine .of [] [] rfl (by first | rfl | (rw [hst]; rfl)) ?_ ?_
    all_goals (try simp only [ltSto, ltO2, ltO1, ltAs, ltA, ltC, ltC0, ltC0s, ltCs, ltT, ltFr, ltS, wrOk, wrO, TL.get, hasFr, ↓reduceIte, Nat.reduceEqDiff, reduceCtorEq, Option.getD_some, Option.isSome_some, List.length_map, List.length_append, List.length_cons, List.length_nil, List.append_nil, List.mem_singleton, List.mem_cons, List.not_mem_nil, and_true, true_and, and_self, imp_self, forall_const, false_implies, implies_true, true_implies, or_false, Bool.false_eq_true, Bool.true_eq_false, ImXs_nil, true_or, or_true, false_or, false_and, and_false, rmK, rm1, List.map_append, List.map_cons, List.map_nil, List.cons_append, List.nil_append, outT, List.map_nil])
    all_goals (try (repeat' (first | exact ltXs_nil | (apply ltXs_map; intro _; exact ⟨rfl, rfl⟩) | (apply imXs_map; intro _; exact ⟨rfl, rfl⟩) | with_reducible apply imXs_append | with_reducible refine imXs_cons ⟨rfl, rfl⟩ ?_ | exact imXs_nil | with_reducible apply ltXs_append | with_reducible refine ltXs_cons ⟨rfl, rfl, ?_⟩ ?_ | with_reducible apply And.intro | exact ltCs_im rfl | exact ltCs_im (by assumption) | (refine ⟨⟨?_, rfl, ?_, rfl, ?_⟩, trivial⟩ <;> first | (simp; done) | (apply imXs_map; intro _; exact ⟨rfl, rfl⟩)) | trivial | rfl | (rw [i64_succ (by omega)]) | omega)))
  simp only [h, reduceIte, Bool.false_eq_true]
  simp only [Bool.or_eq_false_iff, decide_eq_false_iff_not] at h
  obtain ⟨hr2, hn2⟩ := h
  obtain ⟨N, rfl⟩ := Int.eq_ofNat_of_zero_le qn.1
  simp only [Int.toNat_natCast]
  have key : ∀ k, (sgR rN rT k r).2.1.length < 1000000000 := fun k => by have := sgR_le rN_le rT_le k r; omega
  refine W_loopF mixm (α := Nat) [2, 4, 5, 6, 7] (fun k => k ≤ N) (fun k => [(2, .ptr 4096 1 0 0), (4, .ptr 8200 1 0 0), (5, .ptr 12288 1 0 0), (6, vI N), (7, vI k)]) (fun k => [(4096, .arr 7 [outZ zOut] false), (8200, rdO (sgR rN rT k r).2), (12288, .arr 7 [.agg [vI v0, vS v1, vS v2, vI v3, vS v4, vI v5, .asl 69656 k]] false), (69656, .arr 2 ((sgR rN rT k r).1.map sigT) false)]) (fun k => N - k) 0 (by omega) ?_ fun k hk => ?_
  · simp only [sgR, List.map_nil]
    refine .of [(4096, some 4096), (8200, some 8200), (12288, some 12288), (69656, none)] [] rfl (by first | rfl | (rw [hst]; rfl)) ?_ ?_
    all_goals (try simp only [ltSto, ltO2, ltO1, ltAs, ltA, ltC, ltC0, ltC0s, ltCs, ltT, ltFr, ltS, wrOk, wrO, TL.get, hasFr, ↓reduceIte, Nat.reduceEqDiff, reduceCtorEq, Option.getD_some, Option.isSome_some, List.length_map, List.length_append, List.length_cons, List.length_nil, List.append_nil, List.mem_singleton, List.mem_cons, List.not_mem_nil, and_true, true_and, and_self, imp_self, forall_const, false_implies, implies_true, true_implies, or_false, Bool.false_eq_true, Bool.true_eq_false, ImXs_nil, true_or, or_true, false_or, false_and, and_false, rmK, rm1, List.map_append, List.map_cons, List.map_nil, List.cons_append, List.nil_append, outZ, List.map_nil])
    all_goals (try (repeat' (first | exact ltXs_nil | (apply ltXs_map; intro _; exact ⟨rfl, rfl⟩) | (apply imXs_map; intro _; exact ⟨rfl, rfl⟩) | with_reducible apply imXs_append | with_reducible refine imXs_cons ⟨rfl, rfl⟩ ?_ | exact imXs_nil | with_reducible apply ltXs_append | with_reducible refine ltXs_cons ⟨rfl, rfl, ?_⟩ ?_ | with_reducible apply And.intro | exact ltCs_im rfl | exact ltCs_im (by assumption) | (refine ⟨⟨?_, rfl, ?_, rfl, ?_⟩, trivial⟩ <;> first | (simp; done) | (apply imXs_map; intro _; exact ⟨rfl, rfl⟩)) | trivial | rfl | (rw [i64_succ (by omega)]) | omega)))
    all_goals simp only [T.cells, vSs, ltSto, ltO2, ltO1, ltAs, ltA, ltC, ltC0, ltC0s, ltCs, ltT, ltFr, ltS, wrOk, wrO, TL.get, hasFr, ↓reduceIte, Nat.reduceEqDiff, reduceCtorEq, Option.getD_some, Option.isSome_some, List.length_map, List.length_append, List.length_cons, List.length_nil, List.append_nil, List.mem_singleton, List.mem_cons, List.not_mem_nil, and_true, true_and, and_self, imp_self, forall_const, false_implies, implies_true, true_implies, or_false, Bool.false_eq_true, Bool.true_eq_false, ImXs_nil, true_or, or_true, false_or, false_and, and_false, rmK, rm1, List.map_nil]
  have hkl := sgR_len rN rT k r
  have hky := key k
  have hsr : sgR rN rT (k + 1) r = ((sgR rN rT k r).1 ++ [⟨(rT (sgR rN rT k r).2).1, (rN (rT (sgR rN rT k r).2).2).1⟩], (rN (rT (sgR rN rT k r).2).2).2) := rfl
  generalize heq : sgR rN rT k r = g at *
  obtain ⟨l, z⟩ := g
  dsimp only at hkl hky hsr
  subst hkl
  simp only [tl, tl2, tl4, ↓un_u, isCallR, entX, argFr, ret, retI, retB, intT, unT, endR, ressR, resR, tupT, bslR, boxR, lenAll, ↓reduceIte, Nat.reduceEqDiff, Nat.reduceAdd, Nat.reduceMul, Nat.reduceLT, Nat.reduceLeDiff, reduceCtorEq, Int.reduceLE, Int.reduceLT, ne_eq, Int.reduceEq, not_false_eq_true, decide_true, decide_false, Int.reduceToNat, tl3, Int.reduceBNe, Int.reduceBEq, rmK, rm1, not_true_eq_false, decide_eq_true_eq, decide_eq_false_iff_not]
  refine ⟨fun h3 => ?_, fun h3 => ?_⟩
  · have hwi := i64_succ (i := l.length) (by omega)
    have w1 := c_ref35_reader_text z hky
    have w2 := c_ref35_reader_number (rT z).2 (by have := rT_le z; omega)
    refine C1.upd 8200 2 _ _ w1 rfl (imXs_cons ⟨rfl, rfl⟩ imXs_nil) (imXs_cons ⟨rfl, rfl⟩ imXs_nil) ?_ (by rfl) ?_
    · all_goals (try exact clA)
    simp only [tl, tl2, tl4, ↓un_u, isCallR, entX, argFr, ret, retI, retB, intT, unT, endR, ressR, resR, tupT, bslR, boxR, lenAll, ↓reduceIte, Nat.reduceEqDiff, Nat.reduceAdd, Nat.reduceMul, Nat.reduceLT, Nat.reduceLeDiff, reduceCtorEq, Int.reduceLE, Int.reduceLT, ne_eq, Int.reduceEq, not_false_eq_true, decide_true, decide_false, Int.reduceToNat, tl3, Int.reduceBNe, Int.reduceBEq, rmK, rm1, not_true_eq_false]
    refine C1.upd 8200 2 _ _ w2 rfl (imXs_cons ⟨rfl, rfl⟩ imXs_nil) (imXs_cons ⟨rfl, rfl⟩ imXs_nil) ?_ (by rfl) ?_
    · all_goals (try exact clA)
    simp only [tl, tl2, tl4, ↓un_u, isCallR, entX, argFr, ret, retI, retB, intT, unT, endR, ressR, resR, tupT, bslR, boxR, lenAll, ↓reduceIte, Nat.reduceEqDiff, Nat.reduceAdd, Nat.reduceMul, Nat.reduceLT, Nat.reduceLeDiff, reduceCtorEq, Int.reduceLE, Int.reduceLT, ne_eq, Int.reduceEq, not_false_eq_true, decide_true, decide_false, Int.reduceToNat, tl3, Int.reduceBNe, Int.reduceBEq, rmK, rm1, not_true_eq_false, hwi]
    refine ⟨by omega, by kernel_rfl, l.length + 1, by omega, by omega, ?_⟩
    rw [hsr]
    refine .of [(4096, some 4096), (8200, some 8200), (12288, some 12288), (69656, some 69656)] [] rfl (by first | rfl | (rw [hst]; rfl)) ?_ ?_
    all_goals (try simp only [ltSto, ltO2, ltO1, ltAs, ltA, ltC, ltC0, ltC0s, ltCs, ltT, ltFr, ltS, wrOk, wrO, TL.get, hasFr, ↓reduceIte, Nat.reduceEqDiff, reduceCtorEq, Option.getD_some, Option.isSome_some, List.length_map, List.length_append, List.length_cons, List.length_nil, List.append_nil, List.mem_singleton, List.mem_cons, List.not_mem_nil, and_true, true_and, and_self, imp_self, forall_const, false_implies, implies_true, true_implies, or_false, Bool.false_eq_true, Bool.true_eq_false, ImXs_nil, true_or, or_true, false_or, false_and, and_false, rmK, rm1, List.map_append, List.map_cons, List.map_nil, List.cons_append, List.nil_append, List.map_append, List.map_cons, List.map_nil])
    all_goals (try (repeat' (first | exact ltXs_nil | (apply ltXs_map; intro _; exact ⟨rfl, rfl⟩) | (apply imXs_map; intro _; exact ⟨rfl, rfl⟩) | with_reducible apply imXs_append | with_reducible refine imXs_cons ⟨rfl, rfl⟩ ?_ | exact imXs_nil | with_reducible apply ltXs_append | with_reducible refine ltXs_cons ⟨rfl, rfl, ?_⟩ ?_ | with_reducible apply And.intro | exact ltCs_im rfl | exact ltCs_im (by assumption) | (refine ⟨⟨?_, rfl, ?_, rfl, ?_⟩, trivial⟩ <;> first | (simp; done) | (apply imXs_map; intro _; exact ⟨rfl, rfl⟩)) | trivial | rfl | (rw [i64_succ (by omega)]) | omega)))
  · have hlN : l.length = N := by omega
    subst hlN
    have hv := c_ref35_Valid ⟨v0, v1, v2, v3, v4, v5, l⟩ (by show l.length < _; omega)
    simp only [heq, Bool.not_eq_true']
    refine C2.lend [69656] (fun _ => hv) (fun _ => ?_) (by rfl) (by rfl) ?_
    · simp only [List.append_nil, ltSto, ltO2, ltO1, ltAs, ltA, ltC, ltC0, ltC0s, ltCs, ltT, ltFr, ltS, wrOk, wrO, TL.get, hasFr, ↓reduceIte, Nat.reduceEqDiff, reduceCtorEq, Option.getD_some, Option.isSome_some, List.length_map, List.length_append, List.length_cons, List.length_nil, List.append_nil, List.mem_singleton, List.mem_cons, List.not_mem_nil, and_true, true_and, and_self, imp_self, forall_const, false_implies, implies_true, true_implies, or_false, Bool.false_eq_true, Bool.true_eq_false, ImXs_nil, true_or, or_true, false_or, false_and, and_false, rmK, rm1, outT]
      all_goals (try exact clA)
    simp only [tl, tl2, tl4, ↓un_u, isCallR, entX, argFr, ret, retI, retB, intT, unT, endR, ressR, resR, tupT, bslR, boxR, lenAll, ↓reduceIte, Nat.reduceEqDiff, Nat.reduceAdd, Nat.reduceMul, Nat.reduceLT, Nat.reduceLeDiff, reduceCtorEq, Int.reduceLE, Int.reduceLT, ne_eq, Int.reduceEq, not_false_eq_true, decide_true, decide_false, Int.reduceToNat, tl3, Int.reduceBNe, Int.reduceBEq, rmK, rm1, not_true_eq_false]
    refine ⟨fun h => ?_, fun h => ?_⟩
    · rw [if_neg (by rw [h]; simp)]
      refine .of [] [] rfl (by first | rfl | (rw [hst]; rfl)) ?_ ?_
      all_goals (try simp only [ltSto, ltO2, ltO1, ltAs, ltA, ltC, ltC0, ltC0s, ltCs, ltT, ltFr, ltS, wrOk, wrO, TL.get, hasFr, ↓reduceIte, Nat.reduceEqDiff, reduceCtorEq, Option.getD_some, Option.isSome_some, List.length_map, List.length_append, List.length_cons, List.length_nil, List.append_nil, List.mem_singleton, List.mem_cons, List.not_mem_nil, and_true, true_and, and_self, imp_self, forall_const, false_implies, implies_true, true_implies, or_false, Bool.false_eq_true, Bool.true_eq_false, ImXs_nil, true_or, or_true, false_or, false_and, and_false, rmK, rm1, List.map_append, List.map_cons, List.map_nil, List.cons_append, List.nil_append, outT, List.map_nil])
      all_goals (try (repeat' (first | exact ltXs_nil | (apply ltXs_map; intro _; exact ⟨rfl, rfl⟩) | (apply imXs_map; intro _; exact ⟨rfl, rfl⟩) | with_reducible apply imXs_append | with_reducible refine imXs_cons ⟨rfl, rfl⟩ ?_ | exact imXs_nil | with_reducible apply ltXs_append | with_reducible refine ltXs_cons ⟨rfl, rfl, ?_⟩ ?_ | with_reducible apply And.intro | exact ltCs_im rfl | exact ltCs_im (by assumption) | (refine ⟨⟨?_, rfl, ?_, rfl, ?_⟩, trivial⟩ <;> first | (simp; done) | (apply imXs_map; intro _; exact ⟨rfl, rfl⟩)) | trivial | rfl | (rw [i64_succ (by omega)]) | omega)))
    · rw [if_pos h]
      refine .of [] [69656] rfl (by first | rfl | (rw [hst]; rfl)) ?_ ?_
      all_goals (try simp only [ltSto, ltO2, ltO1, ltAs, ltA, ltC, ltC0, ltC0s, ltCs, ltT, ltFr, ltS, wrOk, wrO, TL.get, hasFr, ↓reduceIte, Nat.reduceEqDiff, reduceCtorEq, Option.getD_some, Option.isSome_some, List.length_map, List.length_append, List.length_cons, List.length_nil, List.append_nil, List.mem_singleton, List.mem_cons, List.not_mem_nil, and_true, true_and, and_self, imp_self, forall_const, false_implies, implies_true, true_implies, or_false, Bool.false_eq_true, Bool.true_eq_false, ImXs_nil, true_or, or_true, false_or, false_and, and_false, rmK, rm1, List.map_append, List.map_cons, List.map_nil, List.cons_append, List.nil_append])
      all_goals (try (repeat' (first | exact ltXs_nil | (apply ltXs_map; intro _; exact ⟨rfl, rfl⟩) | (apply imXs_map; intro _; exact ⟨rfl, rfl⟩) | with_reducible apply imXs_append | with_reducible refine imXs_cons ⟨rfl, rfl⟩ ?_ | exact imXs_nil | with_reducible apply ltXs_append | with_reducible refine ltXs_cons ⟨rfl, rfl, ?_⟩ ?_ | with_reducible apply And.intro | exact ltCs_im rfl | exact ltCs_im (by assumption) | (refine ⟨⟨?_, rfl, ?_, rfl, ?_⟩, trivial⟩ <;> first | (simp; done) | (apply imXs_map; intro _; exact ⟨rfl, rfl⟩)) | trivial | rfl | (rw [i64_succ (by omega)]) | omega)))
      done

end Go.Proofs

