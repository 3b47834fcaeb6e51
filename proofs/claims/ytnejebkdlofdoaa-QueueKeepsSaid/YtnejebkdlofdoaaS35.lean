import Derived.Test.YtnejebkdlofdoaaR35
set_option linter.unusedSimpArgs false
set_option linter.unusedVariables false
namespace Go.Proofs
open Go Go.TL
theorem sameO_refl (x : Out) : sameO x x = true := by
  have h1 : hdN x x = false := by simp [hdN]
  rw [sameO, h1, sameL_refl fun s => by simp [eqG]]
  rfl
theorem upd_len {l : List Out} {x : Out} (hx : 1 ≤ x.num) : (upd l x).length ≤ l.length + 1 ∧ l.length ≤ (upd l x).length := by
  unfold upd
  split <;> simp
theorem fold_len : ∀ (xs l : List Out), (xs.foldl upd l).length ≤ xs.length + l.length
  | [], l => by simp
  | x :: xs, l => by
    have h1 := fold_len xs (upd l x)
    have h2 : (upd l x).length ≤ l.length + 1 := by unfold upd; split <;> simp
    rw [List.foldl_cons, List.length_cons]
    omega
theorem fold_valid : ∀ (xs l : List Out), okN xs l → (∀ y ∈ l, validO y = true) → ∀ y ∈ xs.foldl upd l, validO y = true
  | [], l, _, h => h
  | x :: xs, l, hx, h => by
    rw [List.foldl_cons]
    refine fold_valid xs (upd l x) hx.2.2 fun y hy => ?_
    unfold upd at hy
    split at hy
    · rcases List.mem_append.1 hy with hy | hy
      · exact h y hy
      · rw [List.mem_singleton.1 hy]; exact hx.1
    · rcases List.mem_or_eq_of_mem_set hy with hy | hy
      · exact h y hy
      · rw [hy]; exact hx.1
theorem keeps_law (l : List UInt8) (keep : Int) : Spc Try.prog F_law35_QueueKeeps [vL l, vI keep] [] (vB true) [] := by
  have hl : (l.take 400).length ≤ 400 := by rw [List.length_take]; omega
  generalize hcs : l.take 400 = cs at *
  have r1 := nx_range cs 0 8 (by omega)
  have g1 := nx_le cs 0 8 (Nat.zero_le _)
  have c1 := c_draw_Codes_Next cs 0 8 hl (Nat.zero_le _) (by omega)
  generalize nx cs 0 8 = d1 at *
  obtain ⟨n, a1⟩ := d1
  dsimp only at r1 g1 c1
  obtain ⟨n, rfl⟩ := Int.eq_ofNat_of_zero_le r1.1
  refine spec_of_ir fn_law35_QueueKeeps mixm (by simp) fun e _ hst => W_start ?_
  unfold ir_law35_QueueKeeps
  simp only [tl, tl2, tl4, ↓un_u, isCallR, entX, argFr, ret, retI, retB, intT, unT, endR, ressR, resR, tupT, bslR, boxR, lenAll, ↓reduceIte, Nat.reduceEqDiff, Nat.reduceAdd, Nat.reduceMul, Nat.reduceLT, Nat.reduceLeDiff, reduceCtorEq, Int.reduceLE, Int.reduceLT, ne_eq, Int.reduceEq, not_false_eq_true, decide_true, decide_false, Int.reduceToNat, tl3, Int.reduceBNe, Int.reduceBEq, rmK, rm1, not_true_eq_false]
  refine C1.newdraw 8196 (c_draw_New l) rfl (by rfl) ?_
  simp only [tl, tl2, tl4, ↓un_u, isCallR, entX, argFr, ret, retI, retB, intT, unT, endR, ressR, resR, tupT, bslR, boxR, lenAll, ↓reduceIte, Nat.reduceEqDiff, Nat.reduceAdd, Nat.reduceMul, Nat.reduceLT, Nat.reduceLeDiff, reduceCtorEq, Int.reduceLE, Int.reduceLT, ne_eq, Int.reduceEq, not_false_eq_true, decide_true, decide_false, Int.reduceToNat, tl3, Int.reduceBNe, Int.reduceBEq, rmK, rm1, not_true_eq_false, hcs]
  refine C1.draw 8196 cs _ _ c1 rfl rfl rfl ?_
  simp only [tl, tl2, tl4, ↓un_u, isCallR, entX, argFr, ret, retI, retB, intT, unT, endR, ressR, resR, tupT, bslR, boxR, lenAll, ↓reduceIte, Nat.reduceEqDiff, Nat.reduceAdd, Nat.reduceMul, Nat.reduceLT, Nat.reduceLeDiff, reduceCtorEq, Int.reduceLE, Int.reduceLT, ne_eq, Int.reduceEq, not_false_eq_true, decide_true, decide_false, Int.reduceToNat, tl3, Int.reduceBNe, Int.reduceBEq, rmK, rm1, not_true_eq_false]
  refine W_loopF mixm (α := List Out × Nat × Nat) [7, 8] (fun p => okN p.1 [] ∧ p.1.length + p.2.2 ≤ 7 ∧ p.2.1 ≤ cs.length) (fun p => [(7, .asl 57356 (p.1.foldl upd []).length), (8, vI p.2.2)]) (fun p => [(8196, oC cs p.2.1), (12288, .arr 2 [vF (whole (recs p.1)) []] false), (57356, .arr 7 ((p.1.foldl upd []).map outT) false)]) (fun p => p.2.2) ([], a1, n) ⟨trivial, by simp; omega, g1⟩ ?_ fun p hp => ?_
  · rw [show whole (recs ([] : List Out)) = [] from rfl, show ([] : List Out).foldl upd [] = [] from rfl]
    refine .of [(8196, some 8196), (12288, some 12288), (57356, none)] [] rfl (by first | rfl | (rw [hst]; rfl)) ?_ ?_
    all_goals (try simp only [ltSto, ltO2, ltO1, ltAs, ltA, ltC, ltC0, ltC0s, ltCs, ltT, ltFr, ltS, wrOk, wrO, TL.get, hasFr, ↓reduceIte, Nat.reduceEqDiff, reduceCtorEq, Option.getD_some, Option.isSome_some, List.length_map, List.length_append, List.length_cons, List.length_nil, List.append_nil, List.mem_singleton, List.mem_cons, List.not_mem_nil, and_true, true_and, and_self, imp_self, forall_const, false_implies, implies_true, true_implies, or_false, Bool.false_eq_true, Bool.true_eq_false, ImXs_nil, true_or, or_true, false_or, false_and, and_false, rmK, rm1, List.map_append, List.map_cons, List.map_nil, List.cons_append, List.nil_append, List.map_nil])
    all_goals (try (repeat' (first | exact ltXs_nil | (apply ltXs_map; intro _; exact ⟨rfl, rfl⟩) | (apply imXs_map; intro _; exact ⟨rfl, rfl⟩) | with_reducible apply imXs_append | with_reducible refine imXs_cons ⟨rfl, rfl⟩ ?_ | exact imXs_nil | with_reducible apply ltXs_append | with_reducible refine ltXs_cons ⟨rfl, rfl, ?_⟩ ?_ | with_reducible apply And.intro | exact ltCs_im rfl | exact ltCs_im (by assumption) | (refine ⟨⟨?_, rfl, ?_, rfl, ?_⟩, trivial⟩ <;> first | (simp; done) | (apply imXs_map; intro _; exact ⟨rfl, rfl⟩)) | trivial | rfl | (rw [i64_succ (by omega)]) | omega)))
    done
  obtain ⟨xs, a, k⟩ := p
  obtain ⟨p1, p3, p4⟩ := hp
  dsimp only at p1 p3 p4
  have hfl := fold_len xs []
  generalize hO : xs.foldl upd [] = O at *
  simp only [tl, tl2, tl4, ↓un_u, isCallR, entX, argFr, ret, retI, retB, intT, unT, endR, ressR, resR, tupT, bslR, boxR, lenAll, ↓reduceIte, Nat.reduceEqDiff, Nat.reduceAdd, Nat.reduceMul, Nat.reduceLT, Nat.reduceLeDiff, reduceCtorEq, Int.reduceLE, Int.reduceLT, ne_eq, Int.reduceEq, not_false_eq_true, decide_true, decide_false, Int.reduceToNat, tl3, Int.reduceBNe, Int.reduceBEq, rmK, rm1, not_true_eq_false, decide_eq_true_eq, decide_eq_false_iff_not]
  refine ⟨fun h => ?_, fun h => ?_⟩
  · obtain ⟨k, rfl⟩ : ∃ j, k = j + 1 := ⟨k - 1, by omega⟩
    have hwO := i64_succ (i := O.length) (by simp at hfl; omega)
    have hwk : IntKind.i64.wrap (((k + 1 : Nat) : Int) - 1) = (k : Int) := by rw [IntWalk.i64_in _ (by omega)]; omega
    have hOl : O.length ≤ 7 := by simp at hfl; omega
    have r2 := nx_range cs a ((O.length : Int) + 1) (by omega)
    have g2 := nx_le cs a ((O.length : Int) + 1) p4
    have c2 := c_draw_Codes_Range cs a 1 ((O.length + 1 : Nat) : Int) hl p4 (by omega) (by omega)
    rw [show ((O.length + 1 : Nat) : Int) - 1 + 1 = (O.length : Int) + 1 by omega] at c2
    generalize nx cs a ((O.length : Int) + 1) = d2 at *
    have hv := outA_valid cs d2.2 (1 + d2.1) (by omega)
    have hnum := outA_num cs d2.2 (1 + d2.1)
    have hle := outA_le cs d2.2 (1 + d2.1) g2
    have c3 := c_made_Output cs d2.2 (1 + d2.1) hl g2
    generalize outA cs d2.2 (1 + d2.1) = d3 at *
    obtain ⟨x, a3⟩ := d3
    dsimp only at hv hnum hle c3
    obtain ⟨_, _, _, _, _, _, v7, _⟩ := valid_parts hv
    have cp := c_queue_Put (whole (recs xs)) [] x (by omega) (by have := recs_small p1 (by omega); omega) (by simp)
    rw [put_any p1 (by omega) hv, hO, if_neg (by omega)] at cp
    have q1 : okN (xs ++ [x]) [] := (okN_snoc xs [] x).2 ⟨p1, hv, by rw [hO]; omega⟩
    have qO : (xs ++ [x]).foldl upd [] = upd O x := by rw [List.foldl_append, hO, List.foldl_cons, List.foldl_nil]
    have hll : (xs ++ [x]).length = xs.length + 1 := by simp
    simp only [tl, tl2, tl4, ↓un_u, isCallR, entX, argFr, ret, retI, retB, intT, unT, endR, ressR, resR, tupT, bslR, boxR, lenAll, ↓reduceIte, Nat.reduceEqDiff, Nat.reduceAdd, Nat.reduceMul, Nat.reduceLT, Nat.reduceLeDiff, reduceCtorEq, Int.reduceLE, Int.reduceLT, ne_eq, Int.reduceEq, not_false_eq_true, decide_true, decide_false, Int.reduceToNat, tl3, Int.reduceBNe, Int.reduceBEq, rmK, rm1, not_true_eq_false, hwO]
    refine C1.draw 8196 cs _ _ c2 rfl rfl rfl ?_
    simp only [tl, tl2, tl4, ↓un_u, isCallR, entX, argFr, ret, retI, retB, intT, unT, endR, ressR, resR, tupT, bslR, boxR, lenAll, ↓reduceIte, Nat.reduceEqDiff, Nat.reduceAdd, Nat.reduceMul, Nat.reduceLT, Nat.reduceLeDiff, reduceCtorEq, Int.reduceLE, Int.reduceLT, ne_eq, Int.reduceEq, not_false_eq_true, decide_true, decide_false, Int.reduceToNat, tl3, Int.reduceBNe, Int.reduceBEq, rmK, rm1, not_true_eq_false]
    refine C1.draw 8196 cs _ _ c3 rfl rfl rfl ?_
    simp only [tl, tl2, tl4, ↓un_u, isCallR, entX, argFr, ret, retI, retB, intT, unT, endR, ressR, resR, tupT, bslR, boxR, lenAll, ↓reduceIte, Nat.reduceEqDiff, Nat.reduceAdd, Nat.reduceMul, Nat.reduceLT, Nat.reduceLeDiff, reduceCtorEq, Int.reduceLE, Int.reduceLT, ne_eq, Int.reduceEq, not_false_eq_true, decide_true, decide_false, Int.reduceToNat, tl3, Int.reduceBNe, Int.reduceBEq, rmK, rm1, not_true_eq_false]
    refine C1.im cp (by rfl) (by rfl) ?_
    obtain ⟨m, hm⟩ : ∃ m : Nat, x.num = (m : Int) + 1 := ⟨(x.num - 1).toNat, by omega⟩
    have hwm : IntKind.i64.wrap (x.num - 1) = (m : Int) := by rw [IntWalk.i64_in _ (by omega)]; omega
    have hmn : (x.num - 1).toNat = m := by omega
    simp only [tl, tl2, tl4, ↓un_u, isCallR, entX, argFr, ret, retI, retB, intT, unT, endR, ressR, resR, tupT, bslR, boxR, lenAll, ↓reduceIte, Nat.reduceEqDiff, Nat.reduceAdd, Nat.reduceMul, Nat.reduceLT, Nat.reduceLeDiff, reduceCtorEq, Int.reduceLE, Int.reduceLT, ne_eq, Int.reduceEq, not_false_eq_true, decide_true, decide_false, Int.reduceToNat, tl3, Int.reduceBNe, Int.reduceBEq, rmK, rm1, not_true_eq_false, decide_eq_true_eq, decide_eq_false_iff_not, Bool.or_eq_true, Bool.or_eq_false_iff, Bool.and_eq_true, Bool.and_eq_false_iff, hwk, hwm, Int.toNat_natCast]
    refine ⟨fun h2 => ?_, fun h2 => ?_⟩
    · have hu : upd O x = O ++ [x] := by rw [upd, if_pos (by omega)]
      refine ⟨by omega, (xs ++ [x], a3, k), ⟨q1, by dsimp only; omega, hle⟩, by dsimp only; omega, ?_⟩
      simp only [qO, hu]
      refine .of [(8196, some 8196), (12288, some 12288), (57356, some 57356)] [] rfl (by first | rfl | (rw [hst]; rfl)) ?_ ?_
      all_goals (try exact clA)
    · have hu : upd O x = O.set m x := by rw [upd, if_neg (by omega), hmn]
      have hm2 : m < O.length := by omega
      have hgm : (O.map outT).getD m .junk = outT O[m] := getD_mapT hm2
      refine ⟨by omega, ⟨hm2, by rw [hgm]; trivial⟩, (xs ++ [x], a3, k), ⟨q1, by dsimp only; omega, hle⟩, by dsimp only; omega, ?_⟩
      rw [hgm]
      have hrp : repl (outT O[m]) 0 (.agg [vI x.num, vS x.proj, vS x.res, vI x.tm, vS x.text, vI x.state, vSs x.sigs]) = outT x := rfl
      rw [hrp, ← List.map_set]
      simp only [qO, hu, List.length_set]
      refine .of [(8196, some 8196), (12288, some 12288), (57356, some 57356)] [] rfl (by first | rfl | (rw [hst]; rfl)) ?_ ?_
      all_goals (try exact clA)
  · have hk0 : k = 0 := by omega
    subst hk0
    have hOl : O.length ≤ 7 := by simp at hfl; omega
    have hwO := i64_succ (i := O.length) (by omega)
    have hval := okN_valid xs [] p1
    have hsm := recs_small p1 (by omega)
    have r2 := nx_range cs a ((O.length : Int) + 1) (by omega)
    have g2 := nx_le cs a ((O.length : Int) + 1) p4
    have c2 := c_draw_Codes_Range cs a 1 ((O.length + 1 : Nat) : Int) hl p4 (by omega) (by omega)
    rw [show ((O.length + 1 : Nat) : Int) - 1 + 1 = (O.length : Int) + 1 by omega] at c2
    generalize nx cs a ((O.length : Int) + 1) = d2 at *
    have hv := outA_valid cs d2.2 (1 + d2.1) (by omega)
    have hnum := outA_num cs d2.2 (1 + d2.1)
    have c3 := c_made_Output cs d2.2 (1 + d2.1) hl g2
    generalize outA cs d2.2 (1 + d2.1) = d3 at *
    obtain ⟨x, a3⟩ := d3
    dsimp only at hv hnum c3
    obtain ⟨_, _, _, _, _, _, v7, _⟩ := valid_parts hv
    have hel := encB_length hv
    have q1 : okN (xs ++ [x]) [] := (okN_snoc xs [] x).2 ⟨p1, hv, by rw [hO]; omega⟩
    have qO : (xs ++ [x]).foldl upd [] = upd O x := by rw [List.foldl_append, hO, List.foldl_cons, List.foldl_nil]
    have cl := c_queue_Load (whole (recs xs)) [] (by omega) (by simp)
    rw [load_any p1, hO] at cl
    have ce := c_queue_Encode x (by omega)
    rw [encT, if_pos hv] at ce
    have ca := c_ref23_Append (whole (recs xs)) [] (encB x) (by omega) (by simp) (by omega)
    rw [appS_eq, List.length_nil, errOf_whole (recs xs) (small_recs p1) (encB x) 0 (by omega) (by omega), if_pos rfl, List.nil_append] at ca
    have hfe := frame_length (encB x)
    have cc := c_ref23_Crash (whole (recs xs)) (frame (encB x)) keep (by omega) (by omega)
    unfold crashS at cc
    have hkp := (kp_eq (frame (encB x)) keep).2
    generalize kp (frame (encB x)) keep = kk at *
    obtain ⟨ms, hms, _, htk, hrd⟩ := crash_one (recs xs) (small_recs p1) (encB x) (by omega) kk hkp
    have hkl : (whole (recs xs) ++ (frame (encB x)).take kk).length ≤ 1000000 := by rw [List.length_append, List.length_take]; omega
    have cl2 := c_queue_Load (whole (recs xs) ++ (frame (encB x)).take kk) [] hkl (by simp)
    generalize hF : whole (recs xs) ++ (frame (encB x)).take kk = F at *
    obtain ⟨ys, hys, hms2, hyO⟩ : ∃ ys, okN ys [] ∧ ms = recs ys ∧ (ys.foldl upd [] = O ∨ ys.foldl upd [] = upd O x) := by
      rcases hms with h | h
      · exact ⟨xs, p1, h, .inl hO⟩
      · exact ⟨xs ++ [x], q1, by rw [h]; simp, .inr qO⟩
    have hld : loadT F = .tup [vF (whole ms) [], vOs (ys.foldl upd []), vI 0] := by
      unfold loadT
      rw [hrd, htk, hms2, outsL_enc ys [] hys, if_pos rfl]
    rw [hld] at cl2
    generalize hZ : ys.foldl upd [] = Z at *
    have vO : ∀ y ∈ O, y.sigs.length < 4611686018427387904 := fun y hy => by
      have := fold_valid xs [] p1 (fun _ h => absurd h (List.not_mem_nil)) y (by rw [hO]; exact hy)
      obtain ⟨_, _, _, _, _, _, v7, _⟩ := valid_parts this
      omega
    have vU : ∀ y ∈ upd O x, y.sigs.length < 4611686018427387904 := fun y hy => by
      have := fold_valid (xs ++ [x]) [] q1 (fun _ h => absurd h (List.not_mem_nil)) y (by rw [qO]; exact hy)
      obtain ⟨_, _, _, _, _, _, v7, _⟩ := valid_parts this
      omega
    have vZ : ∀ y ∈ Z, y.sigs.length < 4611686018427387904 := by rcases hyO with h | h <;> rw [h] <;> assumption
    have hUl : (upd O x).length ≤ 8 := by have := (upd_len (l := O) (x := x) (by omega)).1; omega
    have hZl : Z.length ≤ 8 := by rcases hyO with h | h <;> rw [h] <;> omega
    have k1 := c_ref35_Alike_any O O vO vO (by omega) (by omega)
    rw [sameL_refl sameO_refl] at k1
    have k2 := c_ref35_Alike_any Z O vZ vO (by omega) (by omega)
    have k3 := c_ref35_Alike_any Z (upd O x) vZ vU (by omega) (by omega)
    have kZ : (sameL sameO Z O || sameL sameO Z (upd O x)) = true := by
      rcases hyO with h | h <;> rw [h, sameL_refl sameO_refl] <;> simp
    generalize encB x = eb at *
    generalize whole (recs xs) = wb at *
    refine C1.im cl (by rfl) (by rfl) ?_
    simp only [tl, tl2, tl4, ↓un_u, isCallR, entX, argFr, ret, retI, retB, intT, unT, endR, ressR, resR, tupT, bslR, boxR, lenAll, ↓reduceIte, Nat.reduceEqDiff, Nat.reduceAdd, Nat.reduceMul, Nat.reduceLT, Nat.reduceLeDiff, reduceCtorEq, Int.reduceLE, Int.reduceLT, ne_eq, Int.reduceEq, not_false_eq_true, decide_true, decide_false, Int.reduceToNat, tl3, Int.reduceBNe, Int.reduceBEq, rmK, rm1, not_true_eq_false]
    refine C2.one (by trivial) (C1.lend [57356] k1 ?_ (by rfl) (by rfl) ?_)
    · all_goals (try exact clA)
    simp only [tl, tl2, tl4, ↓un_u, isCallR, entX, argFr, ret, retI, retB, intT, unT, endR, ressR, resR, tupT, bslR, boxR, lenAll, ↓reduceIte, Nat.reduceEqDiff, Nat.reduceAdd, Nat.reduceMul, Nat.reduceLT, Nat.reduceLeDiff, reduceCtorEq, Int.reduceLE, Int.reduceLT, ne_eq, Int.reduceEq, not_false_eq_true, decide_true, decide_false, Int.reduceToNat, tl3, Int.reduceBNe, Int.reduceBEq, rmK, rm1, not_true_eq_false, hwO]
    refine C1.draw 8196 cs _ _ c2 rfl rfl rfl ?_
    simp only [tl, tl2, tl4, ↓un_u, isCallR, entX, argFr, ret, retI, retB, intT, unT, endR, ressR, resR, tupT, bslR, boxR, lenAll, ↓reduceIte, Nat.reduceEqDiff, Nat.reduceAdd, Nat.reduceMul, Nat.reduceLT, Nat.reduceLeDiff, reduceCtorEq, Int.reduceLE, Int.reduceLT, ne_eq, Int.reduceEq, not_false_eq_true, decide_true, decide_false, Int.reduceToNat, tl3, Int.reduceBNe, Int.reduceBEq, rmK, rm1, not_true_eq_false]
    refine C1.draw 8196 cs _ _ c3 rfl rfl rfl ?_
    simp only [tl, tl2, tl4, ↓un_u, isCallR, entX, argFr, ret, retI, retB, intT, unT, endR, ressR, resR, tupT, bslR, boxR, lenAll, ↓reduceIte, Nat.reduceEqDiff, Nat.reduceAdd, Nat.reduceMul, Nat.reduceLT, Nat.reduceLeDiff, reduceCtorEq, Int.reduceLE, Int.reduceLT, ne_eq, Int.reduceEq, not_false_eq_true, decide_true, decide_false, Int.reduceToNat, tl3, Int.reduceBNe, Int.reduceBEq, rmK, rm1, not_true_eq_false]
    refine C1.im ce (by rfl) (by rfl) ?_
    simp only [tl, tl2, tl4, ↓un_u, isCallR, entX, argFr, ret, retI, retB, intT, unT, endR, ressR, resR, tupT, bslR, boxR, lenAll, ↓reduceIte, Nat.reduceEqDiff, Nat.reduceAdd, Nat.reduceMul, Nat.reduceLT, Nat.reduceLeDiff, reduceCtorEq, Int.reduceLE, Int.reduceLT, ne_eq, Int.reduceEq, not_false_eq_true, decide_true, decide_false, Int.reduceToNat, tl3, Int.reduceBNe, Int.reduceBEq, rmK, rm1, not_true_eq_false]
    refine C1.im ca (by rfl) (by rfl) ?_
    simp only [tl, tl2, tl4, ↓un_u, isCallR, entX, argFr, ret, retI, retB, intT, unT, endR, ressR, resR, tupT, bslR, boxR, lenAll, ↓reduceIte, Nat.reduceEqDiff, Nat.reduceAdd, Nat.reduceMul, Nat.reduceLT, Nat.reduceLeDiff, reduceCtorEq, Int.reduceLE, Int.reduceLT, ne_eq, Int.reduceEq, not_false_eq_true, decide_true, decide_false, Int.reduceToNat, tl3, Int.reduceBNe, Int.reduceBEq, rmK, rm1, not_true_eq_false]
    refine C1.im cc (by rfl) (by rfl) ?_
    simp only [tl, tl2, tl4, ↓un_u, isCallR, entX, argFr, ret, retI, retB, intT, unT, endR, ressR, resR, tupT, bslR, boxR, lenAll, ↓reduceIte, Nat.reduceEqDiff, Nat.reduceAdd, Nat.reduceMul, Nat.reduceLT, Nat.reduceLeDiff, reduceCtorEq, Int.reduceLE, Int.reduceLT, ne_eq, Int.reduceEq, not_false_eq_true, decide_true, decide_false, Int.reduceToNat, tl3, Int.reduceBNe, Int.reduceBEq, rmK, rm1, not_true_eq_false]
    refine C1.im cl2 (by rfl) (by rfl) ?_
    obtain ⟨m, hm⟩ : ∃ m : Nat, x.num = (m : Int) + 1 := ⟨(x.num - 1).toNat, by omega⟩
    have hwm : IntKind.i64.wrap (x.num - 1) = (m : Int) := by rw [IntWalk.i64_in _ (by omega)]; omega
    have hmn : (x.num - 1).toNat = m := by omega
    simp only [tl, tl2, tl4, ↓un_u, isCallR, entX, argFr, ret, retI, retB, intT, unT, endR, ressR, resR, tupT, bslR, boxR, lenAll, ↓reduceIte, Nat.reduceEqDiff, Nat.reduceAdd, Nat.reduceMul, Nat.reduceLT, Nat.reduceLeDiff, reduceCtorEq, Int.reduceLE, Int.reduceLT, ne_eq, Int.reduceEq, not_false_eq_true, decide_true, decide_false, Int.reduceToNat, tl3, Int.reduceBNe, Int.reduceBEq, rmK, rm1, not_true_eq_false, decide_eq_true_eq, decide_eq_false_iff_not, Bool.or_eq_true, Bool.or_eq_false_iff, Bool.and_eq_true, Bool.and_eq_false_iff, hwm, Int.toNat_natCast]
    refine ⟨by omega, fun h2 => ?_, fun h2 => ?_⟩
    · have hu : upd O x = O ++ [x] := by rw [upd, if_pos (by omega)]
      rw [hu] at k3 kZ
      refine ⟨by omega, ?_⟩
      refine C2.one (by trivial) (C1.lend [57356] k2 ?_ (by rfl) (by rfl) ?_)
      · all_goals (try exact clA)
      simp only [tl, tl2, tl4, ↓un_u, isCallR, entX, argFr, ret, retI, retB, intT, unT, endR, ressR, resR, tupT, bslR, boxR, lenAll, ↓reduceIte, Nat.reduceEqDiff, Nat.reduceAdd, Nat.reduceMul, Nat.reduceLT, Nat.reduceLeDiff, reduceCtorEq, Int.reduceLE, Int.reduceLT, ne_eq, Int.reduceEq, not_false_eq_true, decide_true, decide_false, Int.reduceToNat, tl3, Int.reduceBNe, Int.reduceBEq, rmK, rm1, not_true_eq_false]
      refine C2.lend [94208] (fun _ => k3) (fun _ => ?_) (by rfl) (by rfl) ?_
      · all_goals (try exact clA)
      simp only [tl, tl2, tl4, ↓un_u, isCallR, entX, argFr, ret, retI, retB, intT, unT, endR, ressR, resR, tupT, bslR, boxR, lenAll, ↓reduceIte, Nat.reduceEqDiff, Nat.reduceAdd, Nat.reduceMul, Nat.reduceLT, Nat.reduceLeDiff, reduceCtorEq, Int.reduceLE, Int.reduceLT, ne_eq, Int.reduceEq, not_false_eq_true, decide_true, decide_false, Int.reduceToNat, tl3, Int.reduceBNe, Int.reduceBEq, rmK, rm1, not_true_eq_false]
      refine C2.one kZ (C1.im c_law35_awake (by rfl) (by rfl) ?_)
      simp only [tl, tl2, tl4, ↓un_u, isCallR, entX, argFr, ret, retI, retB, intT, unT, endR, ressR, resR, tupT, bslR, boxR, lenAll, ↓reduceIte, Nat.reduceEqDiff, Nat.reduceAdd, Nat.reduceMul, Nat.reduceLT, Nat.reduceLeDiff, reduceCtorEq, Int.reduceLE, Int.reduceLT, ne_eq, Int.reduceEq, not_false_eq_true, decide_true, decide_false, Int.reduceToNat, tl3, Int.reduceBNe, Int.reduceBEq, rmK, rm1, not_true_eq_false, kZ]
      refine .of [] [] rfl (by first | rfl | (rw [hst]; rfl)) ?_ ?_
      all_goals (try exact clA)
    · have hu : upd O x = O.set m x := by rw [upd, if_neg (by omega), hmn]
      have hm2 : m < O.length := by omega
      have hgm : (O.map outT).getD m .junk = outT O[m] := getD_mapT hm2
      have hrp : repl (outT O[m]) 0 (.agg [vI x.num, vS x.proj, vS x.res, vI x.tm, vS x.text, vI x.state, vSs x.sigs]) = outT x := rfl
      rw [hu] at k3 kZ
      refine ⟨by omega, ⟨hm2, by rw [hgm]; trivial⟩, ?_⟩
      rw [hgm, hrp, ← List.map_set]
      refine C2.one (by trivial) (C1.lend [57356] k2 ?_ (by rfl) (by rfl) ?_)
      · all_goals (try exact clA)
      simp only [tl, tl2, tl4, ↓un_u, isCallR, entX, argFr, ret, retI, retB, intT, unT, endR, ressR, resR, tupT, bslR, boxR, lenAll, ↓reduceIte, Nat.reduceEqDiff, Nat.reduceAdd, Nat.reduceMul, Nat.reduceLT, Nat.reduceLeDiff, reduceCtorEq, Int.reduceLE, Int.reduceLT, ne_eq, Int.reduceEq, not_false_eq_true, decide_true, decide_false, Int.reduceToNat, tl3, Int.reduceBNe, Int.reduceBEq, rmK, rm1, not_true_eq_false]
      refine C2.lend [94208] (fun _ => k3) (fun _ => ?_) (by rfl) (by rfl) ?_
      · simp only [ltSto, ltO2, ltO1, ltAs, ltA, ltC, ltC0, ltC0s, ltCs, ltT, ltFr, ltS, wrOk, wrO, TL.get, hasFr, ↓reduceIte, Nat.reduceEqDiff, reduceCtorEq, Option.getD_some, Option.isSome_some, List.length_map, List.length_append, List.length_cons, List.length_nil, List.append_nil, List.mem_singleton, List.mem_cons, List.not_mem_nil, and_true, true_and, and_self, imp_self, forall_const, false_implies, implies_true, true_implies, or_false, Bool.false_eq_true, Bool.true_eq_false, ImXs_nil, true_or, or_true, false_or, false_and, and_false, rmK, rm1, List.length_set]
        all_goals (try exact clA)
      simp only [tl, tl2, tl4, ↓un_u, isCallR, entX, argFr, ret, retI, retB, intT, unT, endR, ressR, resR, tupT, bslR, boxR, lenAll, ↓reduceIte, Nat.reduceEqDiff, Nat.reduceAdd, Nat.reduceMul, Nat.reduceLT, Nat.reduceLeDiff, reduceCtorEq, Int.reduceLE, Int.reduceLT, ne_eq, Int.reduceEq, not_false_eq_true, decide_true, decide_false, Int.reduceToNat, tl3, Int.reduceBNe, Int.reduceBEq, rmK, rm1, not_true_eq_false]
      refine C2.one kZ (C1.im c_law35_awake (by rfl) (by rfl) ?_)
      simp only [tl, tl2, tl4, ↓un_u, isCallR, entX, argFr, ret, retI, retB, intT, unT, endR, ressR, resR, tupT, bslR, boxR, lenAll, ↓reduceIte, Nat.reduceEqDiff, Nat.reduceAdd, Nat.reduceMul, Nat.reduceLT, Nat.reduceLeDiff, reduceCtorEq, Int.reduceLE, Int.reduceLT, ne_eq, Int.reduceEq, not_false_eq_true, decide_true, decide_false, Int.reduceToNat, tl3, Int.reduceBNe, Int.reduceBEq, rmK, rm1, not_true_eq_false, kZ]
      refine .of [] [] rfl (by first | rfl | (rw [hst]; rfl)) ?_ ?_
      all_goals (try exact clA)

end Go.Proofs

