import Derived.Test.YtnhhmfplebpipaaI
set_option linter.unusedSimpArgs false
set_option linter.unusedVariables false
namespace Go.Proofs
open Go Go.TL
/-! ltSto, ltO2, ltO1, ltAs, ltA, ltC, ltCs, ltT, ltFr, ltS, wrOk, wrO, TL.get, hasFr, ↓reduceIte, Nat.reduceEqDiff, reduceCtorEq, Option.getD_some, Option.isSome_some, List.length_map, List.length_append, List.length_cons, List.length_nil, List.append_nil, List.mem_singleton, List.mem_cons, List.not_mem_nil, and_true, true_and, and_self, imp_self, forall_const, false_implies, implies_true, true_implies, or_false, Bool.false_eq_true, Bool.true_eq_false, ImXs_nil, true_or, or_true, false_or, false_and, and_false# Round -/
def s00 (n : Nat) : S34 := ⟨List.replicate n 0, List.replicate 12 0, 0, 0⟩
def rnd (r c : Nat) (t : List Int) (b : Int) : List Int := (nxt c r b t (sumsL t c r) (r * c) 0 (s00 (r * c))).2.o
def rndT (r c : Int) (t : List Int) (b : Int) : T := if checkE r c t b = 0 then .tup [vIs (rnd r.toNat c.toNat t b), vI 0] else .tup [.sl 1 [], vI (checkE r c t b)]
theorem c10 (r c : Int) (t : List Int) (b : Int) (hl : t.length < 4611686018427387904) : Spc Try.prog 10 [vI r, vI c, vIs t, vI b] [] (rndT r c t b) [] := by
  refine spec_of_ir fn10 mixm (by simp) fun e _ hst => W_start ?_
  unfold ir10
  simp only [tl, tl2, isCallR, entX, argFr, ret, retI, retB, intT, unT, endR, ressR, resR, tupT, bslR, boxR, lenAll, ↓reduceIte, Nat.reduceEqDiff, Nat.reduceAdd, Nat.reduceMul, Nat.reduceLT, Nat.reduceLeDiff, reduceCtorEq, Int.reduceLE, Int.reduceLT, ne_eq, Int.reduceEq, not_false_eq_true, decide_true, decide_false, Int.reduceToNat, tl3, Int.reduceBNe, Int.reduceBEq]
  refine C1.im (c20 r c t b hl) rfl (by rfl) ?_
  simp only [tl, tl2, isCallR, entX, argFr, ret, retI, retB, intT, unT, endR, ressR, resR, tupT, bslR, boxR, lenAll, ↓reduceIte, Nat.reduceEqDiff, Nat.reduceAdd, Nat.reduceMul, Nat.reduceLT, Nat.reduceLeDiff, reduceCtorEq, Int.reduceLE, Int.reduceLT, ne_eq, Int.reduceEq, not_false_eq_true, decide_true, decide_false, Int.reduceToNat, tl3, Int.reduceBNe, Int.reduceBEq, bne_iff_ne, bne_eq_false_iff_eq]
  refine ⟨fun h1 => ?_, fun h1 => ?_⟩
  · rw [rndT, if_neg h1]
    refine .of [] [] rfl rfl trivial ?_
    simp only [ltSto, ltO2, ltO1, ltAs, ltA, ltC, ltCs, ltT, ltFr, ltS, wrOk, wrO, TL.get, hasFr, ↓reduceIte, Nat.reduceEqDiff, reduceCtorEq, Option.getD_some, Option.isSome_some, List.length_map, List.length_append, List.length_cons, List.length_nil, List.append_nil, List.mem_singleton, List.mem_cons, List.not_mem_nil, and_true, true_and, and_self, imp_self, forall_const, false_implies, implies_true, true_implies, or_false, Bool.false_eq_true, Bool.true_eq_false, ImXs_nil, true_or, or_true, false_or, false_and, and_false]
  rw [rndT, if_pos h1]
  obtain ⟨t0, t1, t2⟩ := check_0 h1
  obtain ⟨s1, s2, s3⟩ := sp_ok t0
  obtain ⟨hb, hn⟩ := right_all t2
  obtain ⟨r, rfl, r1, r2⟩ := nat_of s1
  obtain ⟨c, rfl, c1, c2⟩ := nat_of s2
  have hrc : r * c ≤ 12 := by exact_mod_cast s3
  have htl : t.length = r * c := by exact_mod_cast t1
  simp only [Int.toNat_natCast]
  refine ⟨by omega, ?_⟩
  refine C1.im (c21 t c r (by omega) (by omega) htl (okT_of hn)) rfl (by rfl) ?_
  simp only [tl, tl2, isCallR, entX, argFr, ret, retI, retB, intT, unT, endR, ressR, resR, tupT, bslR, boxR, lenAll, ↓reduceIte, Nat.reduceEqDiff, Nat.reduceAdd, Nat.reduceMul, Nat.reduceLT, Nat.reduceLeDiff, reduceCtorEq, Int.reduceLE, Int.reduceLT, ne_eq, Int.reduceEq, not_false_eq_true, decide_true, decide_false, Int.reduceToNat, tl3, Int.reduceBNe, Int.reduceBEq]
  refine ⟨by simp, by simp, by kernel_rfl, ?_⟩
  have hws : ∀ n ∈ sumsL t c r, sm n := by
    intro n hn2
    unfold sumsL pS at hn2
    obtain ⟨j, _, rfl⟩ := List.mem_map.1 hn2
    exact gS_sm (okT_of hn) _ _ _ _ (by omega)
  have hcall := c22 c r b t (sumsL t c r) (by omega) hrc htl hn hb (by simp [sumsL, pS_len]) hws (r * c) 0 (s00 (r * c)) (by omega) ⟨by simp [s00], by simp [s00], by simp [s00], by simp [s00], by simp [s00]⟩
  have hnok := nxt_ok (c := c) (r := r) (b := b) (t := t) (w := sumsL t c r) (r * c) 0 (s00 (r * c)) (by simp [s00])
  have hol : (rnd r c t b).length = r * c := by unfold rnd; rw [hnok.2]; simp [s00]
  have e0 : rnd r c t b = (nxt c r b t (sumsL t c r) (r * c) 0 (s00 (r * c))).2.o := rfl
  rw [e0] at hol
  rw [e0]
  generalize (nxt c r b t (sumsL t c r) (r * c) 0 (s00 (r * c))).2 = s' at *
  generalize (nxt c r b t (sumsL t c r) (r * c) 0 (s00 (r * c))).1 = q at *
  have hz : List.replicate t.length (T.v (.int .i64 0)) = (s00 (r * c)).o.map vI := by simp [s00, htl, vI]
  have hlen : (s00 (r * c)).o.length = t.length := by simp [s00, htl]
  refine C1.of [(0, some 20520), (1, some 20500)] [(20520, some 0), (20500, some 1)] [] [(20520, .arr 19 [.agg (vI c :: vI b :: vIs t :: .asl 20500 s'.o.length :: vIs (sumsL t c r) :: (s'.col ++ [s'.row, s'.all]).map vI)] false), (20500, .arr 1 (s'.o.map vI) false)] hcall ?_ (by simp [renOk, TL.get]) ?_ (by rfl) (by simp [TL.get]) ?_ (by simp [renOk, TL.get]) (by rfl) (ltT_im (by rfl)) (.inl (by rfl)) ?_
  · exact ⟨⟨rfl, rfl, rfl, rfl⟩, rfl, trivial⟩
  · refine ⟨?_, ?_, trivial⟩
    · refine ⟨rfl, by simp, ltXs_cons ⟨by simp [T.cells], by simp [T.cells, cellsS, s00], ⟨rfl, rfl, rfl, ⟨rfl, hlen.symm⟩, rfl, ?_⟩⟩ ltXs_nil, by simp⟩
      exact ltCs_ints (List.replicate 14 0)
    · refine ⟨rfl, by simp, ?_, by simp⟩
      rw [hz]
      exact ltXs_ints _
  · refine ⟨?_, ?_, trivial⟩
    · refine ⟨⟨rfl, by simp, ltXs_cons ⟨by simp [T.cells, cellsS, hnok.1], by simp [T.cells, cellsS, hnok.1], ⟨rfl, rfl, rfl, ⟨rfl, rfl⟩, rfl, ltCs_ints _⟩⟩ ltXs_nil, by simp⟩, .inr ⟨rfl, rfl⟩⟩
    · exact ⟨⟨rfl, by simp, ltXs_ints _, by simp⟩, .inr ⟨rfl, rfl⟩⟩
  simp only [tl, tl2, isCallR, entX, argFr, ret, retI, retB, intT, unT, endR, ressR, resR, tupT, bslR, boxR, lenAll, ↓reduceIte, Nat.reduceEqDiff, Nat.reduceAdd, Nat.reduceMul, Nat.reduceLT, Nat.reduceLeDiff, reduceCtorEq, Int.reduceLE, Int.reduceLT, ne_eq, Int.reduceEq, not_false_eq_true, decide_true, decide_false, Int.reduceToNat, tl3, Int.reduceBNe, Int.reduceBEq]
  refine .of [] [20500] rfl rfl trivial ?_
  simp only [ltSto, ltO2, ltO1, ltAs, ltA, ltC, ltCs, ltT, ltFr, ltS, wrOk, wrO, TL.get, hasFr, ↓reduceIte, Nat.reduceEqDiff, reduceCtorEq, Option.getD_some, Option.isSome_some, List.length_map, List.length_append, List.length_cons, List.length_nil, List.append_nil, List.mem_singleton, List.mem_cons, List.not_mem_nil, and_true, true_and, and_self, imp_self, forall_const, false_implies, implies_true, true_implies, or_false, Bool.false_eq_true, Bool.true_eq_false, ImXs_nil, true_or, or_true, false_or, false_and, and_false]
  exact ints_v _
end Go.Proofs

