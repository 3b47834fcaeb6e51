import Derived.Test.YtnejebkdlofdoaaC35
set_option linter.unusedSimpArgs false
set_option linter.unusedVariables false
namespace Go.Proofs
open Go Go.TL
/-! ltSto, ltO2, ltO1, ltAs, ltA, ltC, ltC0, ltC0s, ltCs, ltT, ltFr, ltS, wrOk, wrO, TL.get, hasFr, ↓reduceIte, Nat.reduceEqDiff, reduceCtorEq, Option.getD_some, Option.isSome_some, List.length_map, List.length_append, List.length_cons, List.length_nil, List.append_nil, List.mem_singleton, List.mem_cons, List.not_mem_nil, and_true, true_and, and_self, imp_self, forall_const, false_implies, implies_true, true_implies, or_false, Bool.false_eq_true, Bool.true_eq_false, ImXs_nil, true_or, or_true, false_or, false_and, and_false, rmK, rm1# readers -/
abbrev rdO (s : RS) : Ob := .arr 2 [.agg [vL s.1, vB s.2]] false
def takeR (s : RS) (n : Int) : List UInt8 × RS := if s.2 = true ∨ n > s.1.length then ([], (s.1, true)) else (s.1.take n.toNat, (s.1.drop n.toNat, false))
theorem c_queue_reader_take (s : RS) (n : Int) (hn : 0 ≤ n) (hl : s.1.length < 1000000000) : Spc Try.prog F_queue_reader_take [.ptr 0 1 0 0, vI n] [(0, rdO s)] (vL (takeR s n).1) [(0, rdO (takeR s n).2)] := by
  refine spec_of_ir fn_queue_reader_take mixm (by simp) fun e _ hst => W_start ?_
  unfold ir_queue_reader_take
  simp only [tl, tl2, tl4, ↓un_u, isCallR, entX, argFr, ret, retI, retB, intT, unT, endR, ressR, resR, tupT, bslR, boxR, lenAll, ↓reduceIte, Nat.reduceEqDiff, Nat.reduceAdd, Nat.reduceMul, Nat.reduceLT, Nat.reduceLeDiff, reduceCtorEq, Int.reduceLE, Int.reduceLT, ne_eq, Int.reduceEq, not_false_eq_true, decide_true, decide_false, Int.reduceToNat, tl3, Int.reduceBNe, Int.reduceBEq, rmK, rm1, not_true_eq_false]
  refine ⟨fun h => ?_, fun h => ?_⟩
  · rw [takeR, if_pos (by simpa using h)]
    refine .of [(0, some 0)] [] rfl (by first | rfl | (rw [hst]; rfl)) ?_ ?_
    all_goals (try exact clA)
  · simp only [Bool.or_eq_false_iff, decide_eq_false_iff_not] at h
    have e : takeR s n = (s.1.take n.toNat, (s.1.drop n.toNat, false)) := by rw [takeR, if_neg (by rw [h.1]; simp; omega)]
    obtain ⟨m, rfl⟩ := Int.eq_ofNat_of_zero_le hn
    rw [e, h.1]
    simp only [cut_map, cut_to, cut_from, Int.toNat_natCast]
    refine ⟨by omega, by omega, ?_⟩
    refine .of [(0, some 0)] [] rfl (by first | rfl | (rw [hst]; rfl)) ?_ ?_
    all_goals (try exact clA)
theorem qN_take (s : RS) : takeR s 5 = if s.2 = true ∨ s.1.length < 5 then ([], (s.1, true)) else (s.1.take 5, (s.1.drop 5, false)) := by
  unfold takeR
  by_cases h : s.2 = true ∨ s.1.length < 5
  · rw [if_pos h, if_pos (by rcases h with h | h; exact .inl h; exact .inr (by omega))]
  · rw [if_neg h, if_neg (fun h2 => h (by rcases h2 with h2 | h2; exact .inl h2; exact .inr (by omega)))]
    rfl
theorem qN_eq (s : RS) : qN s = (numF (takeR s 5).1, (takeR s 5).2) := by
  rw [qN_take]
  unfold qN stN
  cases h2 : s.2 with
  | true =>
    rw [if_pos rfl, if_pos (.inl rfl)]
    obtain ⟨a, b⟩ := s
    simp at h2
    subst h2
    rfl
  | false =>
    by_cases h : s.1.length < 5
    · rw [if_neg (by simp), if_pos h, if_pos (.inr h)]; rfl
    · rw [if_neg (by simp), if_neg h, if_neg (by simp [h])]
theorem take_len5 (s : RS) : (takeR s 5).1.length ≤ 5 := by
  rw [qN_take]
  split
  · simp
  · simp only [List.length_take]; omega
theorem step_num (b : List UInt8) (i : Nat) (hi : i < b.length) (hb : b.length ≤ 5) : 0 ≤ numF (b.take i) ∧ numF (b.take i) < 4294967296 := by
  obtain ⟨h1, h2⟩ := numF_range i (b.take i) (by rw [List.length_take]; omega)
  refine ⟨h1, Int.lt_of_lt_of_le h2 ?_⟩
  have : i = 0 ∨ i = 1 ∨ i = 2 ∨ i = 3 ∨ i = 4 := by omega
  rcases this with h | h | h | h | h <;> subst h <;> decide
theorem c_queue_reader_number (s : RS) (hl : s.1.length < 1000000000) : Spc Try.prog F_queue_reader_number [.ptr 0 1 0 0] [(0, rdO s)] (vI (qN s).1) [(0, rdO (qN s).2)] := by
  have ht := c_queue_reader_take s 5 (by omega) hl
  have h5 := take_len5 s
  rw [qN_eq]
  generalize (takeR s 5).1 = b at *
  generalize (takeR s 5).2 = s' at *
  refine spec_of_ir fn_queue_reader_number mixm (by simp) fun e _ hst => W_start ?_
  unfold ir_queue_reader_number
  simp only [tl, tl2, tl4, ↓un_u, isCallR, entX, argFr, ret, retI, retB, intT, unT, endR, ressR, resR, tupT, bslR, boxR, lenAll, ↓reduceIte, Nat.reduceEqDiff, Nat.reduceAdd, Nat.reduceMul, Nat.reduceLT, Nat.reduceLeDiff, reduceCtorEq, Int.reduceLE, Int.reduceLT, ne_eq, Int.reduceEq, not_false_eq_true, decide_true, decide_false, Int.reduceToNat, tl3, Int.reduceBNe, Int.reduceBEq, rmK, rm1, not_true_eq_false]
  refine C1.upd 0 2 _ _ ht rfl (imXs_cons ⟨rfl, rfl⟩ imXs_nil) (imXs_cons ⟨rfl, rfl⟩ imXs_nil) ?_ (by rfl) ?_
  · all_goals (try exact clA)
  simp only [tl, tl2, tl4, ↓un_u, isCallR, entX, argFr, ret, retI, retB, intT, unT, endR, ressR, resR, tupT, bslR, boxR, lenAll, ↓reduceIte, Nat.reduceEqDiff, Nat.reduceAdd, Nat.reduceMul, Nat.reduceLT, Nat.reduceLeDiff, reduceCtorEq, Int.reduceLE, Int.reduceLT, ne_eq, Int.reduceEq, not_false_eq_true, decide_true, decide_false, Int.reduceToNat, tl3, Int.reduceBNe, Int.reduceBEq, rmK, rm1, not_true_eq_false]
  refine W_loopF mixm (α := Nat) [3, 9] (fun i => i ≤ b.length) (fun i => [(3, vI (numF (b.take i))), (9, vI i)]) (fun i => [(0, rdO s')]) (fun i => b.length - i) 0 (by omega) ?_ fun i hi => ?_
  · refine .of [(0, some 0)] [] rfl (by first | rfl | (rw [hst]; rfl)) ?_ ?_
    all_goals (try exact clA)
  simp only [tl, tl2, tl4, ↓un_u, isCallR, entX, argFr, ret, retI, retB, intT, unT, endR, ressR, resR, tupT, bslR, boxR, lenAll, ↓reduceIte, Nat.reduceEqDiff, Nat.reduceAdd, Nat.reduceMul, Nat.reduceLT, Nat.reduceLeDiff, reduceCtorEq, Int.reduceLE, Int.reduceLT, ne_eq, Int.reduceEq, not_false_eq_true, decide_true, decide_false, Int.reduceToNat, tl3, Int.reduceBNe, Int.reduceBEq, rmK, rm1, not_true_eq_false, decide_eq_true_eq, decide_eq_false_iff_not]
  refine ⟨fun h => ?_, fun h => ?_⟩
  · have hi2 : i < b.length := by omega
    have hwi := i64_succ (i := i) (by omega)
    obtain ⟨g1, g2⟩ := step_num b i hi2 h5
    have hb := byte_lt b[i]
    have hg : b.getD i 0 = b[i] := getD_get hi2
    have hs := numF_snoc (b.take i) b[i]
    rw [← take_snoc hi2] at hs
    generalize numF (b.take i) = n at *
    generalize hn2 : numF (b.take (i + 1)) = n2 at *
    have hsh : shlI .i64 n 8 = n * 256 := shl_small (by decide) (by decide) (by omega)
    have hwb : IntKind.i64.wrap (b[i].toNat : Int) = b[i].toNat := IntWalk.i64_in _ (by omega)
    have hor : orI .i64 (n * 256) b[i].toNat = n2 := by
      have := orI_add 8 (by decide) (a := n) (b := (b[i].toNat : Int)) g1 (by omega) (by omega)
      rw [show (2 : Int) ^ 8 = 256 by decide] at this
      rw [this, hs]
    simp only [tl, tl2, tl4, ↓un_u, isCallR, entX, argFr, ret, retI, retB, intT, unT, endR, ressR, resR, tupT, bslR, boxR, lenAll, ↓reduceIte, Nat.reduceEqDiff, Nat.reduceAdd, Nat.reduceMul, Nat.reduceLT, Nat.reduceLeDiff, reduceCtorEq, Int.reduceLE, Int.reduceLT, ne_eq, Int.reduceEq, not_false_eq_true, decide_true, decide_false, Int.reduceToNat, tl3, Int.reduceBNe, Int.reduceBEq, rmK, rm1, not_true_eq_false, Int.toNat_natCast, getD_bytes hi2, hg, hwi, hsh, hwb, hor]
    refine ⟨by omega, i + 1, by omega, by omega, ?_⟩
    rw [hn2]
    refine .of [(0, some 0)] [] rfl (by first | rfl | (rw [hst]; rfl)) ?_ ?_
    all_goals (try exact clA)
  · have hi2 : i = b.length := by omega
    subst hi2
    rw [List.take_length]
    refine .of [(0, some 0)] [] rfl (by first | rfl | (rw [hst]; rfl)) ?_ ?_
    all_goals (try exact clA)
theorem qN_le (s : RS) : (qN s).2.1.length ≤ s.1.length := by
  rw [qN_eq]
  simp only [takeR]
  split
  · simp
  · simp only [List.length_drop]; omega
theorem qN_nn (s : RS) : 0 ≤ (qN s).1 ∧ (qN s).1 < 1099511627776 := by
  rw [qN_eq]
  have := numF_take (takeR s 5).1 (takeR s 5).1.length (take_len5 s) (Nat.le_refl _)
  rw [List.take_length] at this
  exact this
theorem qT_eq (s : RS) : qT s = (⟨(takeR (qN s).2 (qN s).1).1.toArray⟩, (takeR (qN s).2 (qN s).1).2) := by
  unfold qT takeR
  generalize qN s = q
  obtain ⟨n, r, f⟩ := q
  dsimp only
  cases f with
  | true => rw [if_pos rfl, if_pos (.inl rfl)]
  | false =>
    by_cases h : n > r.length
    · rw [if_neg (by simp), if_pos h, if_pos (.inr h)]
    · rw [if_neg (by simp), if_neg h, if_neg (by simp [h])]
theorem c_queue_reader_text (s : RS) (hl : s.1.length < 1000000000) : Spc Try.prog F_queue_reader_text [.ptr 0 1 0 0] [(0, rdO s)] (vS (qT s).1) [(0, rdO (qT s).2)] := by
  have hn := qN_nn s
  have h1 := c_queue_reader_number s hl
  have h2 := c_queue_reader_take (qN s).2 (qN s).1 hn.1 (by have := qN_le s; omega)
  rw [qT_eq]
  refine spec_of_ir fn_queue_reader_text mixm (by simp) fun e _ hst => W_start ?_
  unfold ir_queue_reader_text
  simp only [tl, tl2, tl4, ↓un_u, isCallR, entX, argFr, ret, retI, retB, intT, unT, endR, ressR, resR, tupT, bslR, boxR, lenAll, ↓reduceIte, Nat.reduceEqDiff, Nat.reduceAdd, Nat.reduceMul, Nat.reduceLT, Nat.reduceLeDiff, reduceCtorEq, Int.reduceLE, Int.reduceLT, ne_eq, Int.reduceEq, not_false_eq_true, decide_true, decide_false, Int.reduceToNat, tl3, Int.reduceBNe, Int.reduceBEq, rmK, rm1, not_true_eq_false]
  refine C1.upd 0 2 _ _ h1 rfl (imXs_cons ⟨rfl, rfl⟩ imXs_nil) (imXs_cons ⟨rfl, rfl⟩ imXs_nil) ?_ (by rfl) ?_
  · all_goals (try exact clA)
  simp only [tl, tl2, tl4, ↓un_u, isCallR, entX, argFr, ret, retI, retB, intT, unT, endR, ressR, resR, tupT, bslR, boxR, lenAll, ↓reduceIte, Nat.reduceEqDiff, Nat.reduceAdd, Nat.reduceMul, Nat.reduceLT, Nat.reduceLeDiff, reduceCtorEq, Int.reduceLE, Int.reduceLT, ne_eq, Int.reduceEq, not_false_eq_true, decide_true, decide_false, Int.reduceToNat, tl3, Int.reduceBNe, Int.reduceBEq, rmK, rm1, not_true_eq_false]
  refine C1.upd 0 2 _ _ h2 rfl (imXs_cons ⟨rfl, rfl⟩ imXs_nil) (imXs_cons ⟨rfl, rfl⟩ imXs_nil) ?_ (by rfl) ?_
  · all_goals (try exact clA)
  simp only [tl, tl2, tl4, ↓un_u, isCallR, entX, argFr, ret, retI, retB, intT, unT, endR, ressR, resR, tupT, bslR, boxR, lenAll, ↓reduceIte, Nat.reduceEqDiff, Nat.reduceAdd, Nat.reduceMul, Nat.reduceLT, Nat.reduceLeDiff, reduceCtorEq, Int.reduceLE, Int.reduceLT, ne_eq, Int.reduceEq, not_false_eq_true, decide_true, decide_false, Int.reduceToNat, tl3, Int.reduceBNe, Int.reduceBEq, rmK, rm1, not_true_eq_false]
  refine .of [(0, some 0)] [] rfl (by first | rfl | (rw [hst]; rfl)) ?_ ?_
  all_goals (try exact clA)
/-! the reference's -/
def rN (s : RS) : Int × RS := match stN s.1 with | some (n, r) => (n, (r, s.2)) | none => (0, (s.1, true))
def rT (s : RS) : ByteArray × RS := match rN s with
  | (n, s1) => if s1.2 = true ∨ n > s1.1.length then (⟨#[]⟩, (s1.1, true)) else (⟨(s1.1.take n.toNat).toArray⟩, (s1.1.drop n.toNat, false))
theorem c_ref35_reader_number (s : RS) (hl : s.1.length < 1000000000) : Spc Try.prog F_ref35_reader_number [.ptr 0 1 0 0] [(0, rdO s)] (vI (rN s).1) [(0, rdO (rN s).2)] := by
  refine spec_of_ir fn_ref35_reader_number mixm (by simp) fun e _ hst => W_start ?_
  unfold ir_ref35_reader_number
  simp only [tl, tl2, tl4, ↓un_u, isCallR, entX, argFr, ret, retI, retB, intT, unT, endR, ressR, resR, tupT, bslR, boxR, lenAll, ↓reduceIte, Nat.reduceEqDiff, Nat.reduceAdd, Nat.reduceMul, Nat.reduceLT, Nat.reduceLeDiff, reduceCtorEq, Int.reduceLE, Int.reduceLT, ne_eq, Int.reduceEq, not_false_eq_true, decide_true, decide_false, Int.reduceToNat, tl3, Int.reduceBNe, Int.reduceBEq, rmK, rm1, not_true_eq_false, decide_eq_true_eq, decide_eq_false_iff_not, Bool.or_eq_true, Bool.or_eq_false_iff, Bool.and_eq_true, Bool.and_eq_false_iff]
  refine ⟨fun h => ?_, fun h => ?_⟩
  · have e : rN s = (0, (s.1, true)) := by rw [rN, stN, if_pos (by omega)]
    rw [e]
    refine .of [(0, some 0)] [] rfl (by first | rfl | (rw [hst]; rfl)) ?_ ?_
    all_goals (try exact clA)
  have e : rN s = (numF (s.1.take 5), (s.1.drop 5, s.2)) := by rw [rN, stN, if_neg (by omega)]
  rw [e]
  have h5 : 5 ≤ s.1.length := by omega
  generalize hb : s.1 = b at *
  refine W_loopF mixm (α := Nat) [3, 4] (fun i => i ≤ 5) (fun i => [(3, vI (numF (b.take i))), (4, vI i)]) (fun i => [(0, rdO s)]) (fun i => 5 - i) 0 (by omega) ?_ fun i hi => ?_
  · refine .of [(0, some 0)] [] rfl (by first | rfl | (rw [hst]; rfl)) ?_ ?_
    all_goals (try simp only [ltSto, ltO2, ltO1, ltAs, ltA, ltC, ltC0, ltC0s, ltCs, ltT, ltFr, ltS, wrOk, wrO, TL.get, hasFr, ↓reduceIte, Nat.reduceEqDiff, reduceCtorEq, Option.getD_some, Option.isSome_some, List.length_map, List.length_append, List.length_cons, List.length_nil, List.append_nil, List.mem_singleton, List.mem_cons, List.not_mem_nil, and_true, true_and, and_self, imp_self, forall_const, false_implies, implies_true, true_implies, or_false, Bool.false_eq_true, Bool.true_eq_false, ImXs_nil, true_or, or_true, false_or, false_and, and_false, rmK, rm1, List.map_append, List.map_cons, List.map_nil, List.cons_append, List.nil_append, hb])
    all_goals (try (repeat' (first | exact ltXs_nil | (apply ltXs_map; intro _; exact ⟨rfl, rfl⟩) | (apply imXs_map; intro _; exact ⟨rfl, rfl⟩) | with_reducible apply imXs_append | with_reducible refine imXs_cons ⟨rfl, rfl⟩ ?_ | exact imXs_nil | with_reducible apply ltXs_append | with_reducible refine ltXs_cons ⟨rfl, rfl, ?_⟩ ?_ | with_reducible apply And.intro | exact ltCs_im rfl | exact ltCs_im (by assumption) | (refine ⟨⟨?_, rfl, ?_, rfl, ?_⟩, trivial⟩ <;> first | (simp; done) | (apply imXs_map; intro _; exact ⟨rfl, rfl⟩)) | trivial | rfl | (rw [i64_succ (by omega)]) | omega)))
  simp only [tl, tl2, tl4, ↓un_u, isCallR, entX, argFr, ret, retI, retB, intT, unT, endR, ressR, resR, tupT, bslR, boxR, lenAll, ↓reduceIte, Nat.reduceEqDiff, Nat.reduceAdd, Nat.reduceMul, Nat.reduceLT, Nat.reduceLeDiff, reduceCtorEq, Int.reduceLE, Int.reduceLT, ne_eq, Int.reduceEq, not_false_eq_true, decide_true, decide_false, Int.reduceToNat, tl3, Int.reduceBNe, Int.reduceBEq, rmK, rm1, not_true_eq_false, decide_eq_true_eq, decide_eq_false_iff_not, hb]
  refine ⟨fun h => ?_, fun h => ?_⟩
  · have hi2 : i < b.length := by omega
    have hwi := i64_succ (i := i) (by omega)
    obtain ⟨g1, g2⟩ := step_num (b.take 5) i (by rw [List.length_take]; omega) (by rw [List.length_take]; omega)
    rw [List.take_take, Nat.min_eq_left (by omega)] at g1 g2
    have hbt := byte_lt b[i]
    have hg : b.getD i 0 = b[i] := getD_get hi2
    have hs := numF_snoc (b.take i) b[i]
    rw [← take_snoc hi2] at hs
    generalize numF (b.take i) = n at *
    generalize hn2 : numF (b.take (i + 1)) = n2 at *
    have hsh : shlI .i64 n 8 = n * 256 := shl_small (by decide) (by decide) (by omega)
    have hwb : IntKind.i64.wrap (b[i].toNat : Int) = b[i].toNat := IntWalk.i64_in _ (by omega)
    have hwa : IntKind.i64.wrap (n * 256 + b[i].toNat) = n2 := by rw [hs]; exact IntWalk.i64_in _ (by omega)
    simp only [tl, tl2, tl4, ↓un_u, isCallR, entX, argFr, ret, retI, retB, intT, unT, endR, ressR, resR, tupT, bslR, boxR, lenAll, ↓reduceIte, Nat.reduceEqDiff, Nat.reduceAdd, Nat.reduceMul, Nat.reduceLT, Nat.reduceLeDiff, reduceCtorEq, Int.reduceLE, Int.reduceLT, ne_eq, Int.reduceEq, not_false_eq_true, decide_true, decide_false, Int.reduceToNat, tl3, Int.reduceBNe, Int.reduceBEq, rmK, rm1, not_true_eq_false, Int.toNat_natCast, getD_bytes hi2, hg, hwi, hsh, hwb, hwa]
    refine ⟨by omega, i + 1, by omega, by omega, ?_⟩
    rw [hn2]
    refine .of [(0, some 0)] [] rfl (by first | rfl | (rw [hst]; rfl)) ?_ ?_
    all_goals (try exact clA)
  · have hi2 : i = 5 := by omega
    subst hi2
    simp only [tl, tl2, tl4, ↓un_u, isCallR, entX, argFr, ret, retI, retB, intT, unT, endR, ressR, resR, tupT, bslR, boxR, lenAll, ↓reduceIte, Nat.reduceEqDiff, Nat.reduceAdd, Nat.reduceMul, Nat.reduceLT, Nat.reduceLeDiff, reduceCtorEq, Int.reduceLE, Int.reduceLT, ne_eq, Int.reduceEq, not_false_eq_true, decide_true, decide_false, Int.reduceToNat, tl3, Int.reduceBNe, Int.reduceBEq, rmK, rm1, not_true_eq_false, cut_map, show ∀ l : List UInt8, cutT 5 (l.length : Int) l = l.drop 5 from fun l => cut_from (a := 5)]
    refine ⟨by omega, ?_⟩
    refine .of [(0, some 0)] [] rfl (by first | rfl | (rw [hst]; rfl)) ?_ ?_
    all_goals (try exact clA)
theorem rN_le (s : RS) : (rN s).2.1.length ≤ s.1.length := by
  unfold rN stN
  split
  · rename_i h
    split at h
    · cases h
    · injection h with h; injection h with h1 h2
      simp only [← h2, List.length_drop]; omega
  · simp
theorem rN_nn (s : RS) : 0 ≤ (rN s).1 ∧ (rN s).1 < 1099511627776 := by
  unfold rN stN
  by_cases h : s.1.length < 5
  · rw [if_pos h]; simp
  · rw [if_neg h]
    have := numF_take s.1 5 (by omega) (by omega)
    exact this
theorem c_ref35_reader_text (s : RS) (hl : s.1.length < 1000000000) : Spc Try.prog F_ref35_reader_text [.ptr 0 1 0 0] [(0, rdO s)] (vS (rT s).1) [(0, rdO (rT s).2)] := by
  have hn := rN_nn s
  have h1 := c_ref35_reader_number s hl
  unfold rT
  generalize rN s = q at *
  obtain ⟨n, r, f⟩ := q
  refine spec_of_ir fn_ref35_reader_text mixm (by simp) fun e _ hst => W_start ?_
  unfold ir_ref35_reader_text
  simp only [tl, tl2, tl4, ↓un_u, isCallR, entX, argFr, ret, retI, retB, intT, unT, endR, ressR, resR, tupT, bslR, boxR, lenAll, ↓reduceIte, Nat.reduceEqDiff, Nat.reduceAdd, Nat.reduceMul, Nat.reduceLT, Nat.reduceLeDiff, reduceCtorEq, Int.reduceLE, Int.reduceLT, ne_eq, Int.reduceEq, not_false_eq_true, decide_true, decide_false, Int.reduceToNat, tl3, Int.reduceBNe, Int.reduceBEq, rmK, rm1, not_true_eq_false]
  refine C1.upd 0 2 _ _ h1 rfl (imXs_cons ⟨rfl, rfl⟩ imXs_nil) (imXs_cons ⟨rfl, rfl⟩ imXs_nil) ?_ (by rfl) ?_
  · all_goals (try exact clA)
  simp only [tl, tl2, tl4, ↓un_u, isCallR, entX, argFr, ret, retI, retB, intT, unT, endR, ressR, resR, tupT, bslR, boxR, lenAll, ↓reduceIte, Nat.reduceEqDiff, Nat.reduceAdd, Nat.reduceMul, Nat.reduceLT, Nat.reduceLeDiff, reduceCtorEq, Int.reduceLE, Int.reduceLT, ne_eq, Int.reduceEq, not_false_eq_true, decide_true, decide_false, Int.reduceToNat, tl3, Int.reduceBNe, Int.reduceBEq, rmK, rm1, not_true_eq_false]
  refine ⟨fun h => ?_, fun h => ?_⟩
  · rw [if_pos (by simpa using h)]
    refine .of [(0, some 0)] [] rfl (by first | rfl | (rw [hst]; rfl)) ?_ ?_
    all_goals (try exact clA)
  · simp only [Bool.or_eq_false_iff, decide_eq_false_iff_not] at h
    obtain ⟨m, rfl⟩ := Int.eq_ofNat_of_zero_le hn.1
    obtain ⟨hf, h⟩ := h
    subst hf
    rw [if_neg (by simp; omega)]
    simp only [cut_map, cut_to, cut_from, Int.toNat_natCast]
    refine ⟨by omega, isByte_bytes, by omega, ?_⟩
    rw [unbyte_bytes]
    refine .of [(0, some 0)] [] rfl (by first | rfl | (rw [hst]; rfl)) ?_ ?_
    all_goals (try exact clA)

end Go.Proofs

