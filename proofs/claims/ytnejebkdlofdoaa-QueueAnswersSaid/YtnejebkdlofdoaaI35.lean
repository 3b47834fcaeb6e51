import Derived.Test.YtnejebkdlofdoaaH35
set_option linter.unusedSimpArgs false
set_option linter.unusedVariables false
namespace Go.Proofs
open Go Go.TL
/-! ltSto, ltO2, ltO1, ltAs, ltA, ltC, ltC0, ltC0s, ltCs, ltT, ltFr, ltS, wrOk, wrO, TL.get, hasFr, ↓reduceIte, Nat.reduceEqDiff, reduceCtorEq, Option.getD_some, Option.isSome_some, List.length_map, List.length_append, List.length_cons, List.length_nil, List.append_nil, List.mem_singleton, List.mem_cons, List.not_mem_nil, and_true, true_and, and_self, imp_self, forall_const, false_implies, implies_true, true_implies, or_false, Bool.false_eq_true, Bool.true_eq_false, ImXs_nil, true_or, or_true, false_or, false_and, and_false, rmK, rm1# an output is read -/
/-- k signatures, one after another -/
def sgR (fN : RS → Int × RS) (fT : RS → ByteArray × RS) : Nat → RS → List Sig × RS
  | 0, s => ([], s)
  | k + 1, s => let a := sgR fN fT k s; let b := fT a.2; let c := fN b.2; (a.1 ++ [⟨b.1, c.1⟩], c.2)
theorem sgR_len (fN : RS → Int × RS) (fT : RS → ByteArray × RS) : ∀ k s, (sgR fN fT k s).1.length = k
  | 0, s => rfl
  | k + 1, s => by simp [sgR, sgR_len fN fT k s]
theorem sgR_le {fN : RS → Int × RS} {fT : RS → ByteArray × RS} (hN : ∀ s, (fN s).2.1.length ≤ s.1.length) (hT : ∀ s, (fT s).2.1.length ≤ s.1.length) : ∀ k s, (sgR fN fT k s).2.1.length ≤ s.1.length
  | 0, s => Nat.le_refl _
  | k + 1, s => Nat.le_trans (hN _) (Nat.le_trans (hT _) (sgR_le hN hT k s))
theorem qT_le (s : RS) : (qT s).2.1.length ≤ s.1.length := by
  rw [qT_eq]
  have := qN_le s
  simp only [takeR]
  split
  · exact this
  · simp only [List.length_drop]; omega
def qG (s : RS) : List Sig × RS := let a := qN s; sgR qN qT (min a.1 2).toNat (if a.1 > 2 then (a.2.1, true) else a.2)
/-- an output that has no signatures yet: the slice is nil -/
abbrev outZ (x : Out) : T := .agg [vI x.num, vS x.proj, vS x.res, vI x.tm, vS x.text, vI x.state, .v (.slice none 0 0)]
abbrev sgO (x : Out) (s : RS) (k : Nat) (l : List Sig) : List (Nat × Ob) := [(0, rdO s), (1, .arr 7 [.agg [vI x.num, vS x.proj, vS x.res, vI x.tm, vS x.text, vI x.state, .asl 28712 k]] false), (28712, .arr 2 (l.map sigT) false)]
theorem c_queue_signed (s : RS) (x : Out) (hl : s.1.length < 1000000000) :
    Spc Try.prog F_queue_signed [.ptr 0 1 0 0, .ptr 1 1 0 0] [(0, rdO s), (1, .arr 7 [outZ x] false)] (.tup []) [(0, rdO (qG s).2), (1, .arr 7 [outT { x with sigs := (qG s).1 }] false)] := by
  have hn := c_queue_reader_number s hl
  have hnn := qN_nn s
  have hle := qN_le s
  unfold qG
  generalize qN s = q at *
  obtain ⟨n, r⟩ := q
  dsimp only at *
  generalize hr0 : (if n > 2 then (r.1, true) else r) = r0
  have hr0l : r0.1.length ≤ r.1.length := by rw [← hr0]; split <;> simp
  have key : ∀ k, (sgR qN qT k r0).2.1.length < 1000000000 := fun k => by have := sgR_le qN_le qT_le k r0; omega
  obtain ⟨N, hN⟩ : ∃ N : Nat, (min n 2) = N := ⟨(min n 2).toNat, by omega⟩
  have hN2 : N ≤ 2 := by omega
  rw [hN]
  refine spec_of_ir fn_queue_signed mixm (by simp) fun e _ hst => W_start ?_
  unfold ir_queue_signed
  simp only [tl, tl2, tl4, ↓un_u, isCallR, entX, argFr, ret, retI, retB, intT, unT, endR, ressR, resR, tupT, bslR, boxR, lenAll, ↓reduceIte, Nat.reduceEqDiff, Nat.reduceAdd, Nat.reduceMul, Nat.reduceLT, Nat.reduceLeDiff, reduceCtorEq, Int.reduceLE, Int.reduceLT, ne_eq, Int.reduceEq, not_false_eq_true, decide_true, decide_false, Int.reduceToNat, tl3, Int.reduceBNe, Int.reduceBEq, rmK, rm1, not_true_eq_false]
  refine C1.upd 0 2 _ _ hn rfl (imXs_cons ⟨rfl, rfl⟩ imXs_nil) (imXs_cons ⟨rfl, rfl⟩ imXs_nil) ?_ (by rfl) ?_
  · all_goals (try exact clA)
  have hmin : minI n 2 = N := by unfold minI; omega
  simp only [tl, tl2, tl4, ↓un_u, isCallR, entX, argFr, ret, retI, retB, intT, unT, endR, ressR, resR, tupT, bslR, boxR, lenAll, ↓reduceIte, Nat.reduceEqDiff, Nat.reduceAdd, Nat.reduceMul, Nat.reduceLT, Nat.reduceLeDiff, reduceCtorEq, Int.reduceLE, Int.reduceLT, ne_eq, Int.reduceEq, not_false_eq_true, decide_true, decide_false, Int.reduceToNat, tl3, Int.reduceBNe, Int.reduceBEq, rmK, rm1, not_true_eq_false, List.map_nil, hmin]
  refine ⟨fun h => ?_, fun h => ?_⟩
  · have h : n > 2 := by simpa using h
    rw [if_pos h] at hr0
    refine W_loopF mixm (α := Nat) [0, 1, 14, 15] (fun k => k ≤ N) (fun k => [(0, .ptr 0 1 0 0), (1, .ptr 1 1 0 0), (14, vI N), (15, vI k)]) (fun k => sgO x (sgR qN qT k r0).2 k (sgR qN qT k r0).1) (fun k => N - k) 0 (by omega) ?_ fun k hk => ?_
    · subst hr0
      simp only [sgR, List.map_nil]
      refine .of [(0, some 0), (1, some 1), (28712, none)] [] rfl (by first | rfl | (rw [hst]; rfl)) ?_ ?_
      all_goals (try simp only [ltSto, ltO2, ltO1, ltAs, ltA, ltC, ltC0, ltC0s, ltCs, ltT, ltFr, ltS, wrOk, wrO, TL.get, hasFr, ↓reduceIte, Nat.reduceEqDiff, reduceCtorEq, Option.getD_some, Option.isSome_some, List.length_map, List.length_append, List.length_cons, List.length_nil, List.append_nil, List.mem_singleton, List.mem_cons, List.not_mem_nil, and_true, true_and, and_self, imp_self, forall_const, false_implies, implies_true, true_implies, or_false, Bool.false_eq_true, Bool.true_eq_false, ImXs_nil, true_or, or_true, false_or, false_and, and_false, rmK, rm1, List.map_append, List.map_cons, List.map_nil, List.cons_append, List.nil_append, outZ, List.map_nil])
      all_goals (try (repeat' (first | exact ltXs_nil | (apply ltXs_map; intro _; exact ⟨rfl, rfl⟩) | (apply imXs_map; intro _; exact ⟨rfl, rfl⟩) | with_reducible apply imXs_append | with_reducible refine imXs_cons ⟨rfl, rfl⟩ ?_ | exact imXs_nil | with_reducible apply ltXs_append | with_reducible refine ltXs_cons ⟨rfl, rfl, ?_⟩ ?_ | with_reducible apply And.intro | exact ltCs_im rfl | exact ltCs_im (by assumption) | (refine ⟨⟨?_, rfl, ?_, rfl, ?_⟩, trivial⟩ <;> first | (simp; done) | (apply imXs_map; intro _; exact ⟨rfl, rfl⟩)) | trivial | rfl | (rw [i64_succ (by omega)]) | omega)))
      all_goals simp only [T.cells, vSs, ltSto, ltO2, ltO1, ltAs, ltA, ltC, ltC0, ltC0s, ltCs, ltT, ltFr, ltS, wrOk, wrO, TL.get, hasFr, ↓reduceIte, Nat.reduceEqDiff, reduceCtorEq, Option.getD_some, Option.isSome_some, List.length_map, List.length_append, List.length_cons, List.length_nil, List.append_nil, List.mem_singleton, List.mem_cons, List.not_mem_nil, and_true, true_and, and_self, imp_self, forall_const, false_implies, implies_true, true_implies, or_false, Bool.false_eq_true, Bool.true_eq_false, ImXs_nil, true_or, or_true, false_or, false_and, and_false, rmK, rm1, List.map_nil]
    have hkl := sgR_len qN qT k r0
    have hky := key k
    have hsr : sgR qN qT (k + 1) r0 = ((sgR qN qT k r0).1 ++ [⟨(qT (sgR qN qT k r0).2).1, (qN (qT (sgR qN qT k r0).2).2).1⟩], (qN (qT (sgR qN qT k r0).2).2).2) := rfl
    generalize heq : sgR qN qT k r0 = g at *
    obtain ⟨l, z⟩ := g
    dsimp only at hkl hky hsr
    subst hkl
    simp only [tl, tl2, tl4, ↓un_u, isCallR, entX, argFr, ret, retI, retB, intT, unT, endR, ressR, resR, tupT, bslR, boxR, lenAll, ↓reduceIte, Nat.reduceEqDiff, Nat.reduceAdd, Nat.reduceMul, Nat.reduceLT, Nat.reduceLeDiff, reduceCtorEq, Int.reduceLE, Int.reduceLT, ne_eq, Int.reduceEq, not_false_eq_true, decide_true, decide_false, Int.reduceToNat, tl3, Int.reduceBNe, Int.reduceBEq, rmK, rm1, not_true_eq_false, decide_eq_true_eq, decide_eq_false_iff_not]
    refine ⟨fun h3 => ?_, fun h3 => ?_⟩
    · have hwi := i64_succ (i := l.length) (by omega)
      have w1 := c_queue_reader_text z hky
      have w2 := c_queue_reader_number (qT z).2 (by have := qT_le z; omega)
      refine C1.upd 0 2 _ _ w1 rfl (imXs_cons ⟨rfl, rfl⟩ imXs_nil) (imXs_cons ⟨rfl, rfl⟩ imXs_nil) ?_ (by rfl) ?_
      · all_goals (try exact clA)
      simp only [tl, tl2, tl4, ↓un_u, isCallR, entX, argFr, ret, retI, retB, intT, unT, endR, ressR, resR, tupT, bslR, boxR, lenAll, ↓reduceIte, Nat.reduceEqDiff, Nat.reduceAdd, Nat.reduceMul, Nat.reduceLT, Nat.reduceLeDiff, reduceCtorEq, Int.reduceLE, Int.reduceLT, ne_eq, Int.reduceEq, not_false_eq_true, decide_true, decide_false, Int.reduceToNat, tl3, Int.reduceBNe, Int.reduceBEq, rmK, rm1, not_true_eq_false]
      refine C1.upd 0 2 _ _ w2 rfl (imXs_cons ⟨rfl, rfl⟩ imXs_nil) (imXs_cons ⟨rfl, rfl⟩ imXs_nil) ?_ (by rfl) ?_
      · all_goals (try exact clA)
      simp only [tl, tl2, tl4, ↓un_u, isCallR, entX, argFr, ret, retI, retB, intT, unT, endR, ressR, resR, tupT, bslR, boxR, lenAll, ↓reduceIte, Nat.reduceEqDiff, Nat.reduceAdd, Nat.reduceMul, Nat.reduceLT, Nat.reduceLeDiff, reduceCtorEq, Int.reduceLE, Int.reduceLT, ne_eq, Int.reduceEq, not_false_eq_true, decide_true, decide_false, Int.reduceToNat, tl3, Int.reduceBNe, Int.reduceBEq, rmK, rm1, not_true_eq_false, hwi]
      refine ⟨by omega, by kernel_rfl, l.length + 1, by omega, by omega, ?_⟩
      rw [hsr]
      refine .of [(0, some 0), (1, some 1), (28712, some 28712)] [] rfl (by first | rfl | (rw [hst]; rfl)) ?_ ?_
      all_goals (try simp only [ltSto, ltO2, ltO1, ltAs, ltA, ltC, ltC0, ltC0s, ltCs, ltT, ltFr, ltS, wrOk, wrO, TL.get, hasFr, ↓reduceIte, Nat.reduceEqDiff, reduceCtorEq, Option.getD_some, Option.isSome_some, List.length_map, List.length_append, List.length_cons, List.length_nil, List.append_nil, List.mem_singleton, List.mem_cons, List.not_mem_nil, and_true, true_and, and_self, imp_self, forall_const, false_implies, implies_true, true_implies, or_false, Bool.false_eq_true, Bool.true_eq_false, ImXs_nil, true_or, or_true, false_or, false_and, and_false, rmK, rm1, List.map_append, List.map_cons, List.map_nil, List.cons_append, List.nil_append, List.map_append, List.map_cons, List.map_nil])
      all_goals (try (repeat' (first | exact ltXs_nil | (apply ltXs_map; intro _; exact ⟨rfl, rfl⟩) | (apply imXs_map; intro _; exact ⟨rfl, rfl⟩) | with_reducible apply imXs_append | with_reducible refine imXs_cons ⟨rfl, rfl⟩ ?_ | exact imXs_nil | with_reducible apply ltXs_append | with_reducible refine ltXs_cons ⟨rfl, rfl, ?_⟩ ?_ | with_reducible apply And.intro | exact ltCs_im rfl | exact ltCs_im (by assumption) | (refine ⟨⟨?_, rfl, ?_, rfl, ?_⟩, trivial⟩ <;> first | (simp; done) | (apply imXs_map; intro _; exact ⟨rfl, rfl⟩)) | trivial | rfl | (rw [i64_succ (by omega)]) | omega)))
    · have : l.length = N := by omega
      subst this
      rw [Int.toNat_natCast, heq]
      refine .of [(0, some 0), (1, some 1)] [28712] rfl (by first | rfl | (rw [hst]; rfl)) ?_ ?_
      all_goals simp only [ltSto, ltO2, ltO1, ltAs, ltA, ltC, ltC0, ltC0s, ltCs, ltT, ltFr, ltS, wrOk, wrO, TL.get, hasFr, ↓reduceIte, Nat.reduceEqDiff, reduceCtorEq, Option.getD_some, Option.isSome_some, List.length_map, List.length_append, List.length_cons, List.length_nil, List.append_nil, List.mem_singleton, List.mem_cons, List.not_mem_nil, and_true, true_and, and_self, imp_self, forall_const, false_implies, implies_true, true_implies, or_false, Bool.false_eq_true, Bool.true_eq_false, ImXs_nil, true_or, or_true, false_or, false_and, and_false, rmK, rm1]
      refine ⟨ltXs_cons ⟨rfl, rfl, ?_⟩ ltXs_nil, ltXs_cons ⟨rfl, rfl, ?_⟩ ltXs_nil⟩
      all_goals simp only [T.cells, ltSto, ltO2, ltO1, ltAs, ltA, ltC, ltC0, ltC0s, ltCs, ltT, ltFr, ltS, wrOk, wrO, TL.get, hasFr, ↓reduceIte, Nat.reduceEqDiff, reduceCtorEq, Option.getD_some, Option.isSome_some, List.length_map, List.length_append, List.length_cons, List.length_nil, List.append_nil, List.mem_singleton, List.mem_cons, List.not_mem_nil, and_true, true_and, and_self, imp_self, forall_const, false_implies, implies_true, true_implies, or_false, Bool.false_eq_true, Bool.true_eq_false, ImXs_nil, true_or, or_true, false_or, false_and, and_false, rmK, rm1]
      all_goals exact (by apply imXs_map; intro _; exact ⟨rfl, rfl⟩)
  · have h : ¬ n > 2 := by simpa using h
    rw [if_neg h] at hr0
    refine W_loopF mixm (α := Nat) [0, 1, 14, 15] (fun k => k ≤ N) (fun k => [(0, .ptr 0 1 0 0), (1, .ptr 1 1 0 0), (14, vI N), (15, vI k)]) (fun k => sgO x (sgR qN qT k r0).2 k (sgR qN qT k r0).1) (fun k => N - k) 0 (by omega) ?_ fun k hk => ?_
    · subst hr0
      simp only [sgR, List.map_nil]
      refine .of [(0, some 0), (1, some 1), (28712, none)] [] rfl (by first | rfl | (rw [hst]; rfl)) ?_ ?_
      all_goals (try simp only [ltSto, ltO2, ltO1, ltAs, ltA, ltC, ltC0, ltC0s, ltCs, ltT, ltFr, ltS, wrOk, wrO, TL.get, hasFr, ↓reduceIte, Nat.reduceEqDiff, reduceCtorEq, Option.getD_some, Option.isSome_some, List.length_map, List.length_append, List.length_cons, List.length_nil, List.append_nil, List.mem_singleton, List.mem_cons, List.not_mem_nil, and_true, true_and, and_self, imp_self, forall_const, false_implies, implies_true, true_implies, or_false, Bool.false_eq_true, Bool.true_eq_false, ImXs_nil, true_or, or_true, false_or, false_and, and_false, rmK, rm1, List.map_append, List.map_cons, List.map_nil, List.cons_append, List.nil_append, outZ, List.map_nil])
      all_goals (try (repeat' (first | exact ltXs_nil | (apply ltXs_map; intro _; exact ⟨rfl, rfl⟩) | (apply imXs_map; intro _; exact ⟨rfl, rfl⟩) | with_reducible apply imXs_append | with_reducible refine imXs_cons ⟨rfl, rfl⟩ ?_ | exact imXs_nil | with_reducible apply ltXs_append | with_reducible refine ltXs_cons ⟨rfl, rfl, ?_⟩ ?_ | with_reducible apply And.intro | exact ltCs_im rfl | exact ltCs_im (by assumption) | (refine ⟨⟨?_, rfl, ?_, rfl, ?_⟩, trivial⟩ <;> first | (simp; done) | (apply imXs_map; intro _; exact ⟨rfl, rfl⟩)) | trivial | rfl | (rw [i64_succ (by omega)]) | omega)))
      all_goals simp only [T.cells, vSs, ltSto, ltO2, ltO1, ltAs, ltA, ltC, ltC0, ltC0s, ltCs, ltT, ltFr, ltS, wrOk, wrO, TL.get, hasFr, ↓reduceIte, Nat.reduceEqDiff, reduceCtorEq, Option.getD_some, Option.isSome_some, List.length_map, List.length_append, List.length_cons, List.length_nil, List.append_nil, List.mem_singleton, List.mem_cons, List.not_mem_nil, and_true, true_and, and_self, imp_self, forall_const, false_implies, implies_true, true_implies, or_false, Bool.false_eq_true, Bool.true_eq_false, ImXs_nil, true_or, or_true, false_or, false_and, and_false, rmK, rm1, List.map_nil]
    have hkl := sgR_len qN qT k r0
    have hky := key k
    have hsr : sgR qN qT (k + 1) r0 = ((sgR qN qT k r0).1 ++ [⟨(qT (sgR qN qT k r0).2).1, (qN (qT (sgR qN qT k r0).2).2).1⟩], (qN (qT (sgR qN qT k r0).2).2).2) := rfl
    generalize heq : sgR qN qT k r0 = g at *
    obtain ⟨l, z⟩ := g
    dsimp only at hkl hky hsr
    subst hkl
    simp only [tl, tl2, tl4, ↓un_u, isCallR, entX, argFr, ret, retI, retB, intT, unT, endR, ressR, resR, tupT, bslR, boxR, lenAll, ↓reduceIte, Nat.reduceEqDiff, Nat.reduceAdd, Nat.reduceMul, Nat.reduceLT, Nat.reduceLeDiff, reduceCtorEq, Int.reduceLE, Int.reduceLT, ne_eq, Int.reduceEq, not_false_eq_true, decide_true, decide_false, Int.reduceToNat, tl3, Int.reduceBNe, Int.reduceBEq, rmK, rm1, not_true_eq_false, decide_eq_true_eq, decide_eq_false_iff_not]
    refine ⟨fun h3 => ?_, fun h3 => ?_⟩
    · have hwi := i64_succ (i := l.length) (by omega)
      have w1 := c_queue_reader_text z hky
      have w2 := c_queue_reader_number (qT z).2 (by have := qT_le z; omega)
      refine C1.upd 0 2 _ _ w1 rfl (imXs_cons ⟨rfl, rfl⟩ imXs_nil) (imXs_cons ⟨rfl, rfl⟩ imXs_nil) ?_ (by rfl) ?_
      · all_goals (try exact clA)
      simp only [tl, tl2, tl4, ↓un_u, isCallR, entX, argFr, ret, retI, retB, intT, unT, endR, ressR, resR, tupT, bslR, boxR, lenAll, ↓reduceIte, Nat.reduceEqDiff, Nat.reduceAdd, Nat.reduceMul, Nat.reduceLT, Nat.reduceLeDiff, reduceCtorEq, Int.reduceLE, Int.reduceLT, ne_eq, Int.reduceEq, not_false_eq_true, decide_true, decide_false, Int.reduceToNat, tl3, Int.reduceBNe, Int.reduceBEq, rmK, rm1, not_true_eq_false]
      refine C1.upd 0 2 _ _ w2 rfl (imXs_cons ⟨rfl, rfl⟩ imXs_nil) (imXs_cons ⟨rfl, rfl⟩ imXs_nil) ?_ (by rfl) ?_
      · all_goals (try exact clA)
      simp only [tl, tl2, tl4, ↓un_u, isCallR, entX, argFr, ret, retI, retB, intT, unT, endR, ressR, resR, tupT, bslR, boxR, lenAll, ↓reduceIte, Nat.reduceEqDiff, Nat.reduceAdd, Nat.reduceMul, Nat.reduceLT, Nat.reduceLeDiff, reduceCtorEq, Int.reduceLE, Int.reduceLT, ne_eq, Int.reduceEq, not_false_eq_true, decide_true, decide_false, Int.reduceToNat, tl3, Int.reduceBNe, Int.reduceBEq, rmK, rm1, not_true_eq_false, hwi]
      refine ⟨by omega, by kernel_rfl, l.length + 1, by omega, by omega, ?_⟩
      rw [hsr]
      refine .of [(0, some 0), (1, some 1), (28712, some 28712)] [] rfl (by first | rfl | (rw [hst]; rfl)) ?_ ?_
      all_goals (try simp only [ltSto, ltO2, ltO1, ltAs, ltA, ltC, ltC0, ltC0s, ltCs, ltT, ltFr, ltS, wrOk, wrO, TL.get, hasFr, ↓reduceIte, Nat.reduceEqDiff, reduceCtorEq, Option.getD_some, Option.isSome_some, List.length_map, List.length_append, List.length_cons, List.length_nil, List.append_nil, List.mem_singleton, List.mem_cons, List.not_mem_nil, and_true, true_and, and_self, imp_self, forall_const, false_implies, implies_true, true_implies, or_false, Bool.false_eq_true, Bool.true_eq_false, ImXs_nil, true_or, or_true, false_or, false_and, and_false, rmK, rm1, List.map_append, List.map_cons, List.map_nil, List.cons_append, List.nil_append, List.map_append, List.map_cons, List.map_nil])
      all_goals (try (repeat' (first | exact ltXs_nil | (apply ltXs_map; intro _; exact ⟨rfl, rfl⟩) | (apply imXs_map; intro _; exact ⟨rfl, rfl⟩) | with_reducible apply imXs_append | with_reducible refine imXs_cons ⟨rfl, rfl⟩ ?_ | exact imXs_nil | with_reducible apply ltXs_append | with_reducible refine ltXs_cons ⟨rfl, rfl, ?_⟩ ?_ | with_reducible apply And.intro | exact ltCs_im rfl | exact ltCs_im (by assumption) | (refine ⟨⟨?_, rfl, ?_, rfl, ?_⟩, trivial⟩ <;> first | (simp; done) | (apply imXs_map; intro _; exact ⟨rfl, rfl⟩)) | trivial | rfl | (rw [i64_succ (by omega)]) | omega)))
    · have : l.length = N := by omega
      subst this
      rw [Int.toNat_natCast, heq]
      refine .of [(0, some 0), (1, some 1)] [28712] rfl (by first | rfl | (rw [hst]; rfl)) ?_ ?_
      all_goals simp only [ltSto, ltO2, ltO1, ltAs, ltA, ltC, ltC0, ltC0s, ltCs, ltT, ltFr, ltS, wrOk, wrO, TL.get, hasFr, ↓reduceIte, Nat.reduceEqDiff, reduceCtorEq, Option.getD_some, Option.isSome_some, List.length_map, List.length_append, List.length_cons, List.length_nil, List.append_nil, List.mem_singleton, List.mem_cons, List.not_mem_nil, and_true, true_and, and_self, imp_self, forall_const, false_implies, implies_true, true_implies, or_false, Bool.false_eq_true, Bool.true_eq_false, ImXs_nil, true_or, or_true, false_or, false_and, and_false, rmK, rm1]
      refine ⟨ltXs_cons ⟨rfl, rfl, ?_⟩ ltXs_nil, ltXs_cons ⟨rfl, rfl, ?_⟩ ltXs_nil⟩
      all_goals simp only [T.cells, ltSto, ltO2, ltO1, ltAs, ltA, ltC, ltC0, ltC0s, ltCs, ltT, ltFr, ltS, wrOk, wrO, TL.get, hasFr, ↓reduceIte, Nat.reduceEqDiff, reduceCtorEq, Option.getD_some, Option.isSome_some, List.length_map, List.length_append, List.length_cons, List.length_nil, List.append_nil, List.mem_singleton, List.mem_cons, List.not_mem_nil, and_true, true_and, and_self, imp_self, forall_const, false_implies, implies_true, true_implies, or_false, Bool.false_eq_true, Bool.true_eq_false, ImXs_nil, true_or, or_true, false_or, false_and, and_false, rmK, rm1]
      all_goals exact (by apply imXs_map; intro _; exact ⟨rfl, rfl⟩)
/-! what has been read after i fields: the reader and the output -/
def dO0 (b : List UInt8) : Out × RS := (zOut, (b, false))
def dO1 (fN : RS → Int × RS) (fT : RS → ByteArray × RS) (b : List UInt8) : Out × RS := let a := fN (dO0 b).2; ({ (dO0 b).1 with num := a.1 }, a.2)
def dO2 (fN : RS → Int × RS) (fT : RS → ByteArray × RS) (b : List UInt8) : Out × RS := let a := fT (dO1 fN fT b).2; ({ (dO1 fN fT b).1 with proj := a.1 }, a.2)
def dO3 (fN : RS → Int × RS) (fT : RS → ByteArray × RS) (b : List UInt8) : Out × RS := let a := fT (dO2 fN fT b).2; ({ (dO2 fN fT b).1 with res := a.1 }, a.2)
def dO4 (fN : RS → Int × RS) (fT : RS → ByteArray × RS) (b : List UInt8) : Out × RS := let a := fN (dO3 fN fT b).2; ({ (dO3 fN fT b).1 with tm := a.1 }, a.2)
def dO5 (fN : RS → Int × RS) (fT : RS → ByteArray × RS) (b : List UInt8) : Out × RS := let a := fT (dO4 fN fT b).2; ({ (dO4 fN fT b).1 with text := a.1 }, a.2)
def dO6 (fN : RS → Int × RS) (fT : RS → ByteArray × RS) (b : List UInt8) : Out × RS := let a := fN (dO5 fN fT b).2; ({ (dO5 fN fT b).1 with state := a.1 }, a.2)
def dO (fN : RS → Int × RS) (fT : RS → ByteArray × RS) (b : List UInt8) (i : Nat) : Out × RS := match i with
  | 0 => dO0 b
  | 1 => dO1 fN fT b
  | 2 => dO2 fN fT b
  | 3 => dO3 fN fT b
  | 4 => dO4 fN fT b
  | 5 => dO5 fN fT b
  | _ => dO6 fN fT b
theorem dO_le {fN : RS → Int × RS} {fT : RS → ByteArray × RS} (hN : ∀ s, (fN s).2.1.length ≤ s.1.length) (hT : ∀ s, (fT s).2.1.length ≤ s.1.length) (b : List UInt8) :
    (dO fN fT b 0).2.1.length ≤ b.length ∧ (dO fN fT b 1).2.1.length ≤ b.length ∧ (dO fN fT b 2).2.1.length ≤ b.length ∧ (dO fN fT b 3).2.1.length ≤ b.length ∧ (dO fN fT b 4).2.1.length ≤ b.length ∧ (dO fN fT b 5).2.1.length ≤ b.length ∧ (dO fN fT b 6).2.1.length ≤ b.length := by
  have h0 : (dO fN fT b 0).2.1.length ≤ b.length := Nat.le_refl b.length
  have h1 : (dO fN fT b 1).2.1.length ≤ b.length := Nat.le_trans (hN _) h0
  have h2 : (dO fN fT b 2).2.1.length ≤ b.length := Nat.le_trans (hT _) h1
  have h3 : (dO fN fT b 3).2.1.length ≤ b.length := Nat.le_trans (hT _) h2
  have h4 : (dO fN fT b 4).2.1.length ≤ b.length := Nat.le_trans (hN _) h3
  have h5 : (dO fN fT b 5).2.1.length ≤ b.length := Nat.le_trans (hT _) h4
  have h6 : (dO fN fT b 6).2.1.length ≤ b.length := Nat.le_trans (hN _) h5
  exact ⟨h0, h1, h2, h3, h4, h5, h6⟩
def qD (b : List UInt8) : Out × RS := let a := qG (dO qN qT b 6).2; ({ (dO qN qT b 6).1 with sigs := a.1 }, a.2)
theorem qG_len (s : RS) : (qG s).1.length ≤ 2 := by unfold qG; dsimp only; rw [sgR_len]; omega
def dX (b : List UInt8) (i : Nat) : T := if i < 7 then outZ (dO qN qT b i).1 else outT (qD b).1
def dR (b : List UInt8) (i : Nat) : RS := if i < 7 then (dO qN qT b i).2 else (qD b).2
def qOK (b : List UInt8) : Bool := !((qD b).2.2 || decide (((qD b).2.1.length : Int) > 0) || !validO (qD b).1)
abbrev decT (b : List UInt8) : T := if qOK b = true then .tup [outT (qD b).1, vI 0] else .tup [outT zOut, vI 11]
theorem outZ_im (x : Out) : ImXs 7 [outZ x] := imXs_cons ⟨rfl, rfl⟩ imXs_nil
theorem dX_im (b : List UInt8) (i : Nat) : ImXs 7 [dX b i] := by
  unfold dX
  split
  · exact outZ_im _
  · exact outT_im _
theorem c_queue_Decode (b : List UInt8) (hb : b.length < 1000000000) : Spc Try.prog F_queue_Decode [vL b] [] (decT b) [] := by
  obtain ⟨g0, g1, g2, g3, g4, g5, g6⟩ := dO_le qN_le qT_le b
  refine spec_of_ir fn_queue_Decode mixm (by simp) fun e _ hst => W_start ?_
  unfold ir_queue_Decode
  simp only [tl, tl2, tl4, ↓un_u, isCallR, entX, argFr, ret, retI, retB, intT, unT, endR, ressR, resR, tupT, bslR, boxR, lenAll, ↓reduceIte, Nat.reduceEqDiff, Nat.reduceAdd, Nat.reduceMul, Nat.reduceLT, Nat.reduceLeDiff, reduceCtorEq, Int.reduceLE, Int.reduceLT, ne_eq, Int.reduceEq, not_false_eq_true, decide_true, decide_false, Int.reduceToNat, tl3, Int.reduceBNe, Int.reduceBEq, rmK, rm1, not_true_eq_false]
  refine C1.im c_queue_fields (by rfl) (by rfl) ?_
  simp only [tl, tl2, tl4, ↓un_u, isCallR, entX, argFr, ret, retI, retB, intT, unT, endR, ressR, resR, tupT, bslR, boxR, lenAll, ↓reduceIte, Nat.reduceEqDiff, Nat.reduceAdd, Nat.reduceMul, Nat.reduceLT, Nat.reduceLeDiff, reduceCtorEq, Int.reduceLE, Int.reduceLT, ne_eq, Int.reduceEq, not_false_eq_true, decide_true, decide_false, Int.reduceToNat, tl3, Int.reduceBNe, Int.reduceBEq, rmK, rm1, not_true_eq_false]
  refine W_loopF mixm (α := Nat) [13] (fun i => i ≤ 7) (fun i => [(13, vI i)]) (fun i => [(4096, .arr 7 [outZ zOut] false), (8200, rdO (dR b i)), (12288, .arr 7 [dX b i] false)]) (fun i => 7 - i) 0 (by omega) ?_ fun i hi => ?_
  · have e1 : dR b 0 = (b, false) := rfl
    have e2 : dX b 0 = outZ zOut := rfl
    simp only [e1, e2]
    refine .of [(4096, some 4096), (8200, some 8200), (12288, some 12288)] [] rfl (by first | rfl | (rw [hst]; rfl)) ?_ ?_
    all_goals (try exact clA)
  have hfl : flds.length = 7 := rfl
  simp only [tl, tl2, tl4, ↓un_u, isCallR, entX, argFr, ret, retI, retB, intT, unT, endR, ressR, resR, tupT, bslR, boxR, lenAll, ↓reduceIte, Nat.reduceEqDiff, Nat.reduceAdd, Nat.reduceMul, Nat.reduceLT, Nat.reduceLeDiff, reduceCtorEq, Int.reduceLE, Int.reduceLT, ne_eq, Int.reduceEq, not_false_eq_true, decide_true, decide_false, Int.reduceToNat, tl3, Int.reduceBNe, Int.reduceBEq, rmK, rm1, not_true_eq_false, decide_eq_true_eq, decide_eq_false_iff_not, hfl]
  refine ⟨fun h3 => ?_, fun h3 => ?_⟩
  · have hi7 : i = 0 ∨ i = 1 ∨ i = 2 ∨ i = 3 ∨ i = 4 ∨ i = 5 ∨ i = 6 := by omega
    have hws := i64_succ (i := i) (by omega)
    simp only [tl, tl2, tl4, ↓un_u, isCallR, entX, argFr, ret, retI, retB, intT, unT, endR, ressR, resR, tupT, bslR, boxR, lenAll, ↓reduceIte, Nat.reduceEqDiff, Nat.reduceAdd, Nat.reduceMul, Nat.reduceLT, Nat.reduceLeDiff, reduceCtorEq, Int.reduceLE, Int.reduceLT, ne_eq, Int.reduceEq, not_false_eq_true, decide_true, decide_false, Int.reduceToNat, tl3, Int.reduceBNe, Int.reduceBEq, rmK, rm1, not_true_eq_false, Int.toNat_natCast]
    refine ⟨by omega, ?_⟩
    rcases hi7 with e7 | e7 | e7 | e7 | e7 | e7 | e7 <;> subst e7
    · have hc : Spc Try.prog F_queue_number_2 [.ptr 0 1 0 0, .ptr 1 1 0 0, .ip [.clo F_queue_fields_1 []]] [(0, rdO (dR b 0)), (1, .arr 7 [dX b 0] false)] (.tup []) [(0, rdO (dR b 1)), (1, .arr 7 [dX b 1] false)] := c_queue_number_2 (dR b 0) _ _ (outZ_im (dO qN qT b 0).1) (outZ_im (dO qN qT b 1).1) F_queue_fields_1 0 (by omega) rfl (by show (dO qN qT b 0).2.1.length < _; omega) (c_queue_fields_1 _ (outZ_im (dO qN qT b 0).1))
      have hx0 := dX_im b 0
      have hx1 := dX_im b 1
      have hg : flds.getD 0 .junk = fldN F_queue_fields_1 := rfl
      simp only [tl, tl2, tl4, ↓un_u, isCallR, entX, argFr, ret, retI, retB, intT, unT, endR, ressR, resR, tupT, bslR, boxR, lenAll, ↓reduceIte, Nat.reduceEqDiff, Nat.reduceAdd, Nat.reduceMul, Nat.reduceLT, Nat.reduceLeDiff, reduceCtorEq, Int.reduceLE, Int.reduceLT, ne_eq, Int.reduceEq, not_false_eq_true, decide_true, decide_false, Int.reduceToNat, tl3, Int.reduceBNe, Int.reduceBEq, rmK, rm1, not_true_eq_false, hg]
      refine ⟨by kernel_rfl, ?_⟩
      refine C1.of [(0, some 8200), (1, some 12288)] [(8200, some 0), (12288, some 1)] [] [(8200, rdO (dR b 1)), (12288, .arr 7 [dX b 1] false)] (val := .tup []) hc ?_ (by rfl) ?_ (by rfl) (by rfl) ?_ (by rfl) (by rfl) ?_ (.inl (by rfl)) ?_
      · all_goals (try exact clA)
      · all_goals (try exact clA)
      · all_goals (try exact clA)
      · all_goals (try exact clA)
      simp only [tl, tl2, tl4, ↓un_u, isCallR, entX, argFr, ret, retI, retB, intT, unT, endR, ressR, resR, tupT, bslR, boxR, lenAll, ↓reduceIte, Nat.reduceEqDiff, Nat.reduceAdd, Nat.reduceMul, Nat.reduceLT, Nat.reduceLeDiff, reduceCtorEq, Int.reduceLE, Int.reduceLT, ne_eq, Int.reduceEq, not_false_eq_true, decide_true, decide_false, Int.reduceToNat, tl3, Int.reduceBNe, Int.reduceBEq, rmK, rm1, not_true_eq_false, hws]
      refine ⟨1, by omega, by omega, ?_⟩
      refine .of [(4096, some 4096), (8200, some 8200), (12288, some 12288)] [] rfl (by first | rfl | (rw [hst]; rfl)) ?_ ?_
      all_goals (try exact clA)
    · have hc : Spc Try.prog F_queue_text_2 [.ptr 0 1 0 0, .ptr 1 1 0 0, .ip [.clo F_queue_fields_2 []]] [(0, rdO (dR b 1)), (1, .arr 7 [dX b 1] false)] (.tup []) [(0, rdO (dR b 2)), (1, .arr 7 [dX b 2] false)] := c_queue_text_2 (dR b 1) _ _ (outZ_im (dO qN qT b 1).1) (outZ_im (dO qN qT b 2).1) F_queue_fields_2 1 (by omega) rfl (by show (dO qN qT b 1).2.1.length < _; omega) (c_queue_fields_2 _ (outZ_im (dO qN qT b 1).1))
      have hx0 := dX_im b 1
      have hx1 := dX_im b 2
      have hg : flds.getD 1 .junk = fldT F_queue_fields_2 := rfl
      simp only [tl, tl2, tl4, ↓un_u, isCallR, entX, argFr, ret, retI, retB, intT, unT, endR, ressR, resR, tupT, bslR, boxR, lenAll, ↓reduceIte, Nat.reduceEqDiff, Nat.reduceAdd, Nat.reduceMul, Nat.reduceLT, Nat.reduceLeDiff, reduceCtorEq, Int.reduceLE, Int.reduceLT, ne_eq, Int.reduceEq, not_false_eq_true, decide_true, decide_false, Int.reduceToNat, tl3, Int.reduceBNe, Int.reduceBEq, rmK, rm1, not_true_eq_false, hg]
      refine ⟨by kernel_rfl, ?_⟩
      refine C1.of [(0, some 8200), (1, some 12288)] [(8200, some 0), (12288, some 1)] [] [(8200, rdO (dR b 2)), (12288, .arr 7 [dX b 2] false)] (val := .tup []) hc ?_ (by rfl) ?_ (by rfl) (by rfl) ?_ (by rfl) (by rfl) ?_ (.inl (by rfl)) ?_
      · all_goals (try exact clA)
      · all_goals (try exact clA)
      · all_goals (try exact clA)
      · all_goals (try exact clA)
      simp only [tl, tl2, tl4, ↓un_u, isCallR, entX, argFr, ret, retI, retB, intT, unT, endR, ressR, resR, tupT, bslR, boxR, lenAll, ↓reduceIte, Nat.reduceEqDiff, Nat.reduceAdd, Nat.reduceMul, Nat.reduceLT, Nat.reduceLeDiff, reduceCtorEq, Int.reduceLE, Int.reduceLT, ne_eq, Int.reduceEq, not_false_eq_true, decide_true, decide_false, Int.reduceToNat, tl3, Int.reduceBNe, Int.reduceBEq, rmK, rm1, not_true_eq_false, hws]
      refine ⟨2, by omega, by omega, ?_⟩
      refine .of [(4096, some 4096), (8200, some 8200), (12288, some 12288)] [] rfl (by first | rfl | (rw [hst]; rfl)) ?_ ?_
      all_goals (try exact clA)
    · have hc : Spc Try.prog F_queue_text_2 [.ptr 0 1 0 0, .ptr 1 1 0 0, .ip [.clo F_queue_fields_3 []]] [(0, rdO (dR b 2)), (1, .arr 7 [dX b 2] false)] (.tup []) [(0, rdO (dR b 3)), (1, .arr 7 [dX b 3] false)] := c_queue_text_2 (dR b 2) _ _ (outZ_im (dO qN qT b 2).1) (outZ_im (dO qN qT b 3).1) F_queue_fields_3 2 (by omega) rfl (by show (dO qN qT b 2).2.1.length < _; omega) (c_queue_fields_3 _ (outZ_im (dO qN qT b 2).1))
      have hx0 := dX_im b 2
      have hx1 := dX_im b 3
      have hg : flds.getD 2 .junk = fldT F_queue_fields_3 := rfl
      simp only [tl, tl2, tl4, ↓un_u, isCallR, entX, argFr, ret, retI, retB, intT, unT, endR, ressR, resR, tupT, bslR, boxR, lenAll, ↓reduceIte, Nat.reduceEqDiff, Nat.reduceAdd, Nat.reduceMul, Nat.reduceLT, Nat.reduceLeDiff, reduceCtorEq, Int.reduceLE, Int.reduceLT, ne_eq, Int.reduceEq, not_false_eq_true, decide_true, decide_false, Int.reduceToNat, tl3, Int.reduceBNe, Int.reduceBEq, rmK, rm1, not_true_eq_false, hg]
      refine ⟨by kernel_rfl, ?_⟩
      refine C1.of [(0, some 8200), (1, some 12288)] [(8200, some 0), (12288, some 1)] [] [(8200, rdO (dR b 3)), (12288, .arr 7 [dX b 3] false)] (val := .tup []) hc ?_ (by rfl) ?_ (by rfl) (by rfl) ?_ (by rfl) (by rfl) ?_ (.inl (by rfl)) ?_
      · all_goals (try exact clA)
      · all_goals (try exact clA)
      · all_goals (try exact clA)
      · all_goals (try exact clA)
      simp only [tl, tl2, tl4, ↓un_u, isCallR, entX, argFr, ret, retI, retB, intT, unT, endR, ressR, resR, tupT, bslR, boxR, lenAll, ↓reduceIte, Nat.reduceEqDiff, Nat.reduceAdd, Nat.reduceMul, Nat.reduceLT, Nat.reduceLeDiff, reduceCtorEq, Int.reduceLE, Int.reduceLT, ne_eq, Int.reduceEq, not_false_eq_true, decide_true, decide_false, Int.reduceToNat, tl3, Int.reduceBNe, Int.reduceBEq, rmK, rm1, not_true_eq_false, hws]
      refine ⟨3, by omega, by omega, ?_⟩
      refine .of [(4096, some 4096), (8200, some 8200), (12288, some 12288)] [] rfl (by first | rfl | (rw [hst]; rfl)) ?_ ?_
      all_goals (try exact clA)
    · have hc : Spc Try.prog F_queue_number_2 [.ptr 0 1 0 0, .ptr 1 1 0 0, .ip [.clo F_queue_fields_4 []]] [(0, rdO (dR b 3)), (1, .arr 7 [dX b 3] false)] (.tup []) [(0, rdO (dR b 4)), (1, .arr 7 [dX b 4] false)] := c_queue_number_2 (dR b 3) _ _ (outZ_im (dO qN qT b 3).1) (outZ_im (dO qN qT b 4).1) F_queue_fields_4 3 (by omega) rfl (by show (dO qN qT b 3).2.1.length < _; omega) (c_queue_fields_4 _ (outZ_im (dO qN qT b 3).1))
      have hx0 := dX_im b 3
      have hx1 := dX_im b 4
      have hg : flds.getD 3 .junk = fldN F_queue_fields_4 := rfl
      simp only [tl, tl2, tl4, ↓un_u, isCallR, entX, argFr, ret, retI, retB, intT, unT, endR, ressR, resR, tupT, bslR, boxR, lenAll, ↓reduceIte, Nat.reduceEqDiff, Nat.reduceAdd, Nat.reduceMul, Nat.reduceLT, Nat.reduceLeDiff, reduceCtorEq, Int.reduceLE, Int.reduceLT, ne_eq, Int.reduceEq, not_false_eq_true, decide_true, decide_false, Int.reduceToNat, tl3, Int.reduceBNe, Int.reduceBEq, rmK, rm1, not_true_eq_false, hg]
      refine ⟨by kernel_rfl, ?_⟩
      refine C1.of [(0, some 8200), (1, some 12288)] [(8200, some 0), (12288, some 1)] [] [(8200, rdO (dR b 4)), (12288, .arr 7 [dX b 4] false)] (val := .tup []) hc ?_ (by rfl) ?_ (by rfl) (by rfl) ?_ (by rfl) (by rfl) ?_ (.inl (by rfl)) ?_
      · all_goals (try exact clA)
      · all_goals (try exact clA)
      · all_goals (try exact clA)
      · all_goals (try exact clA)
      simp only [tl, tl2, tl4, ↓un_u, isCallR, entX, argFr, ret, retI, retB, intT, unT, endR, ressR, resR, tupT, bslR, boxR, lenAll, ↓reduceIte, Nat.reduceEqDiff, Nat.reduceAdd, Nat.reduceMul, Nat.reduceLT, Nat.reduceLeDiff, reduceCtorEq, Int.reduceLE, Int.reduceLT, ne_eq, Int.reduceEq, not_false_eq_true, decide_true, decide_false, Int.reduceToNat, tl3, Int.reduceBNe, Int.reduceBEq, rmK, rm1, not_true_eq_false, hws]
      refine ⟨4, by omega, by omega, ?_⟩
      refine .of [(4096, some 4096), (8200, some 8200), (12288, some 12288)] [] rfl (by first | rfl | (rw [hst]; rfl)) ?_ ?_
      all_goals (try exact clA)
    · have hc : Spc Try.prog F_queue_text_2 [.ptr 0 1 0 0, .ptr 1 1 0 0, .ip [.clo F_queue_fields_5 []]] [(0, rdO (dR b 4)), (1, .arr 7 [dX b 4] false)] (.tup []) [(0, rdO (dR b 5)), (1, .arr 7 [dX b 5] false)] := c_queue_text_2 (dR b 4) _ _ (outZ_im (dO qN qT b 4).1) (outZ_im (dO qN qT b 5).1) F_queue_fields_5 4 (by omega) rfl (by show (dO qN qT b 4).2.1.length < _; omega) (c_queue_fields_5 _ (outZ_im (dO qN qT b 4).1))
      have hx0 := dX_im b 4
      have hx1 := dX_im b 5
      have hg : flds.getD 4 .junk = fldT F_queue_fields_5 := rfl
      simp only [tl, tl2, tl4, ↓un_u, isCallR, entX, argFr, ret, retI, retB, intT, unT, endR, ressR, resR, tupT, bslR, boxR, lenAll, ↓reduceIte, Nat.reduceEqDiff, Nat.reduceAdd, Nat.reduceMul, Nat.reduceLT, Nat.reduceLeDiff, reduceCtorEq, Int.reduceLE, Int.reduceLT, ne_eq, Int.reduceEq, not_false_eq_true, decide_true, decide_false, Int.reduceToNat, tl3, Int.reduceBNe, Int.reduceBEq, rmK, rm1, not_true_eq_false, hg]
      refine ⟨by kernel_rfl, ?_⟩
      refine C1.of [(0, some 8200), (1, some 12288)] [(8200, some 0), (12288, some 1)] [] [(8200, rdO (dR b 5)), (12288, .arr 7 [dX b 5] false)] (val := .tup []) hc ?_ (by rfl) ?_ (by rfl) (by rfl) ?_ (by rfl) (by rfl) ?_ (.inl (by rfl)) ?_
      · all_goals (try exact clA)
      · all_goals (try exact clA)
      · all_goals (try exact clA)
      · all_goals (try exact clA)
      simp only [tl, tl2, tl4, ↓un_u, isCallR, entX, argFr, ret, retI, retB, intT, unT, endR, ressR, resR, tupT, bslR, boxR, lenAll, ↓reduceIte, Nat.reduceEqDiff, Nat.reduceAdd, Nat.reduceMul, Nat.reduceLT, Nat.reduceLeDiff, reduceCtorEq, Int.reduceLE, Int.reduceLT, ne_eq, Int.reduceEq, not_false_eq_true, decide_true, decide_false, Int.reduceToNat, tl3, Int.reduceBNe, Int.reduceBEq, rmK, rm1, not_true_eq_false, hws]
      refine ⟨5, by omega, by omega, ?_⟩
      refine .of [(4096, some 4096), (8200, some 8200), (12288, some 12288)] [] rfl (by first | rfl | (rw [hst]; rfl)) ?_ ?_
      all_goals (try exact clA)
    · have hc : Spc Try.prog F_queue_number_2 [.ptr 0 1 0 0, .ptr 1 1 0 0, .ip [.clo F_queue_fields_6 []]] [(0, rdO (dR b 5)), (1, .arr 7 [dX b 5] false)] (.tup []) [(0, rdO (dR b 6)), (1, .arr 7 [dX b 6] false)] := c_queue_number_2 (dR b 5) _ _ (outZ_im (dO qN qT b 5).1) (outZ_im (dO qN qT b 6).1) F_queue_fields_6 5 (by omega) rfl (by show (dO qN qT b 5).2.1.length < _; omega) (c_queue_fields_6 _ (outZ_im (dO qN qT b 5).1))
      have hx0 := dX_im b 5
      have hx1 := dX_im b 6
      have hg : flds.getD 5 .junk = fldN F_queue_fields_6 := rfl
      simp only [tl, tl2, tl4, ↓un_u, isCallR, entX, argFr, ret, retI, retB, intT, unT, endR, ressR, resR, tupT, bslR, boxR, lenAll, ↓reduceIte, Nat.reduceEqDiff, Nat.reduceAdd, Nat.reduceMul, Nat.reduceLT, Nat.reduceLeDiff, reduceCtorEq, Int.reduceLE, Int.reduceLT, ne_eq, Int.reduceEq, not_false_eq_true, decide_true, decide_false, Int.reduceToNat, tl3, Int.reduceBNe, Int.reduceBEq, rmK, rm1, not_true_eq_false, hg]
      refine ⟨by kernel_rfl, ?_⟩
      refine C1.of [(0, some 8200), (1, some 12288)] [(8200, some 0), (12288, some 1)] [] [(8200, rdO (dR b 6)), (12288, .arr 7 [dX b 6] false)] (val := .tup []) hc ?_ (by rfl) ?_ (by rfl) (by rfl) ?_ (by rfl) (by rfl) ?_ (.inl (by rfl)) ?_
      · all_goals (try exact clA)
      · all_goals (try exact clA)
      · all_goals (try exact clA)
      · all_goals (try exact clA)
      simp only [tl, tl2, tl4, ↓un_u, isCallR, entX, argFr, ret, retI, retB, intT, unT, endR, ressR, resR, tupT, bslR, boxR, lenAll, ↓reduceIte, Nat.reduceEqDiff, Nat.reduceAdd, Nat.reduceMul, Nat.reduceLT, Nat.reduceLeDiff, reduceCtorEq, Int.reduceLE, Int.reduceLT, ne_eq, Int.reduceEq, not_false_eq_true, decide_true, decide_false, Int.reduceToNat, tl3, Int.reduceBNe, Int.reduceBEq, rmK, rm1, not_true_eq_false, hws]
      refine ⟨6, by omega, by omega, ?_⟩
      refine .of [(4096, some 4096), (8200, some 8200), (12288, some 12288)] [] rfl (by first | rfl | (rw [hst]; rfl)) ?_ ?_
      all_goals (try exact clA)
    · have hc : Spc Try.prog F_queue_signed [.ptr 0 1 0 0, .ptr 1 1 0 0] [(0, rdO (dR b 6)), (1, .arr 7 [dX b 6] false)] (.tup []) [(0, rdO (dR b 7)), (1, .arr 7 [dX b 7] false)] := c_queue_signed (dR b 6) (dO qN qT b 6).1 (by show (dO qN qT b 6).2.1.length < _; omega)
      have hx0 := dX_im b 6
      have hx1 := dX_im b 7
      have hg : flds.getD 6 .junk = .agg [.clo F_queue_signatures [], .clo F_queue_signed []] := rfl
      simp only [tl, tl2, tl4, ↓un_u, isCallR, entX, argFr, ret, retI, retB, intT, unT, endR, ressR, resR, tupT, bslR, boxR, lenAll, ↓reduceIte, Nat.reduceEqDiff, Nat.reduceAdd, Nat.reduceMul, Nat.reduceLT, Nat.reduceLeDiff, reduceCtorEq, Int.reduceLE, Int.reduceLT, ne_eq, Int.reduceEq, not_false_eq_true, decide_true, decide_false, Int.reduceToNat, tl3, Int.reduceBNe, Int.reduceBEq, rmK, rm1, not_true_eq_false, hg]
      refine ⟨by kernel_rfl, ?_⟩
      refine C1.of [(0, some 8200), (1, some 12288)] [(8200, some 0), (12288, some 1)] [] [(8200, rdO (dR b 7)), (12288, .arr 7 [dX b 7] false)] (val := .tup []) hc ?_ (by rfl) ?_ (by rfl) (by rfl) ?_ (by rfl) (by rfl) ?_ (.inl (by rfl)) ?_
      · all_goals (try exact clA)
      · all_goals (try exact clA)
      · all_goals (try exact clA)
      · all_goals (try exact clA)
      simp only [tl, tl2, tl4, ↓un_u, isCallR, entX, argFr, ret, retI, retB, intT, unT, endR, ressR, resR, tupT, bslR, boxR, lenAll, ↓reduceIte, Nat.reduceEqDiff, Nat.reduceAdd, Nat.reduceMul, Nat.reduceLT, Nat.reduceLeDiff, reduceCtorEq, Int.reduceLE, Int.reduceLT, ne_eq, Int.reduceEq, not_false_eq_true, decide_true, decide_false, Int.reduceToNat, tl3, Int.reduceBNe, Int.reduceBEq, rmK, rm1, not_true_eq_false, hws]
      refine ⟨7, by omega, by omega, ?_⟩
      refine .of [(4096, some 4096), (8200, some 8200), (12288, some 12288)] [] rfl (by first | rfl | (rw [hst]; rfl)) ?_ ?_
      all_goals (try exact clA)
  · have hi7 : i = 7 := by omega
    subst hi7
    have hv := c_queue_Valid (qD b).1 (by have := qG_len (dO qN qT b 6).2; show (qG (dO qN qT b 6).2).1.length < _; omega)
    have e1 : dR b 7 = (qD b).2 := rfl
    have e2 : dX b 7 = outT (qD b).1 := rfl
    unfold decT qOK
    rw [e1, e2]
    generalize qD b = q at *
    obtain ⟨x, s⟩ := q
    simp only [Bool.not_eq_true']
    simp only [tl, tl2, tl4, ↓un_u, isCallR, entX, argFr, ret, retI, retB, intT, unT, endR, ressR, resR, tupT, bslR, boxR, lenAll, ↓reduceIte, Nat.reduceEqDiff, Nat.reduceAdd, Nat.reduceMul, Nat.reduceLT, Nat.reduceLeDiff, reduceCtorEq, Int.reduceLE, Int.reduceLT, ne_eq, Int.reduceEq, not_false_eq_true, decide_true, decide_false, Int.reduceToNat, tl3, Int.reduceBNe, Int.reduceBEq, rmK, rm1, not_true_eq_false]
    refine C2.im (fun _ => hv) (fun _ => rfl) (by rfl) ?_
    simp only [tl, tl2, tl4, ↓un_u, isCallR, entX, argFr, ret, retI, retB, intT, unT, endR, ressR, resR, tupT, bslR, boxR, lenAll, ↓reduceIte, Nat.reduceEqDiff, Nat.reduceAdd, Nat.reduceMul, Nat.reduceLT, Nat.reduceLeDiff, reduceCtorEq, Int.reduceLE, Int.reduceLT, ne_eq, Int.reduceEq, not_false_eq_true, decide_true, decide_false, Int.reduceToNat, tl3, Int.reduceBNe, Int.reduceBEq, rmK, rm1, not_true_eq_false]
    refine ⟨fun h => ?_, fun h => ?_⟩
    · rw [if_neg (by rw [h]; simp)]
      refine .of [] [] rfl (by first | rfl | (rw [hst]; rfl)) ?_ ?_
      all_goals (try simp only [ltSto, ltO2, ltO1, ltAs, ltA, ltC, ltC0, ltC0s, ltCs, ltT, ltFr, ltS, wrOk, wrO, TL.get, hasFr, ↓reduceIte, Nat.reduceEqDiff, reduceCtorEq, Option.getD_some, Option.isSome_some, List.length_map, List.length_append, List.length_cons, List.length_nil, List.append_nil, List.mem_singleton, List.mem_cons, List.not_mem_nil, and_true, true_and, and_self, imp_self, forall_const, false_implies, implies_true, true_implies, or_false, Bool.false_eq_true, Bool.true_eq_false, ImXs_nil, true_or, or_true, false_or, false_and, and_false, rmK, rm1, List.map_append, List.map_cons, List.map_nil, List.cons_append, List.nil_append, outT, List.map_nil])
      all_goals (try (repeat' (first | exact ltXs_nil | (apply ltXs_map; intro _; exact ⟨rfl, rfl⟩) | (apply imXs_map; intro _; exact ⟨rfl, rfl⟩) | with_reducible apply imXs_append | with_reducible refine imXs_cons ⟨rfl, rfl⟩ ?_ | exact imXs_nil | with_reducible apply ltXs_append | with_reducible refine ltXs_cons ⟨rfl, rfl, ?_⟩ ?_ | with_reducible apply And.intro | exact ltCs_im rfl | exact ltCs_im (by assumption) | (refine ⟨⟨?_, rfl, ?_, rfl, ?_⟩, trivial⟩ <;> first | (simp; done) | (apply imXs_map; intro _; exact ⟨rfl, rfl⟩)) | trivial | rfl | (rw [i64_succ (by omega)]) | omega)))
    · rw [if_pos h]
      refine .of [] [] rfl (by first | rfl | (rw [hst]; rfl)) ?_ ?_
      all_goals (try exact clA)

end Go.Proofs

