import Derived.Test.YtnhhmfplebpipaaK
set_option linter.unusedSimpArgs false
set_option linter.unusedVariables false
namespace Go.Proofs
open Go Go.TL
/-! ltSto, ltO2, ltO1, ltAs, ltA, ltC, ltCs, ltT, ltFr, ltS, wrOk, wrO, TL.get, hasFr, ↓reduceIte, Nat.reduceEqDiff, reduceCtorEq, Option.getD_some, Option.isSome_some, List.length_map, List.length_append, List.length_cons, List.length_nil, List.append_nil, List.mem_singleton, List.mem_cons, List.not_mem_nil, and_true, true_and, and_self, imp_self, forall_const, false_implies, implies_true, true_implies, or_false, Bool.false_eq_true, Bool.true_eq_false, ImXs_nil, true_or, or_true, false_or, false_and, and_false# the drawn table -/
def nxs (l : List UInt8) (a : Nat) (n : Int) : Nat → List Int × Nat
  | 0 => ([], a)
  | k + 1 => ((nxs l a n k).1 ++ [(nx l (nxs l a n k).2 n).1], (nx l (nxs l a n k).2 n).2)
theorem nxs_ok (l : List UInt8) (a : Nat) (n : Int) (hn : 1 ≤ n) (ha : a ≤ l.length) : ∀ k, (nxs l a n k).1.length = k ∧ (nxs l a n k).2 ≤ l.length ∧ ∀ x ∈ (nxs l a n k).1, 0 ≤ x ∧ x < n
  | 0 => ⟨rfl, ha, by simp [nxs]⟩
  | k + 1 => by
    obtain ⟨h1, h2, h3⟩ := nxs_ok l a n hn ha k
    refine ⟨by simp [nxs, h1], nx_le _ _ _ h2, fun x hx => ?_⟩
    simp only [nxs] at hx
    rcases List.mem_append.1 hx with hx | hx
    · exact h3 x hx
    · simp at hx
      subst hx
      exact nx_range _ _ _ hn
theorem c8 (l : List UInt8) (hl : l.length ≤ 400) : ∃ (r c : Nat) (t : List Int) (b : Int) (p : Nat), (1 ≤ r ∧ r ≤ 3) ∧ (1 ≤ c ∧ c ≤ 3) ∧ t.length = r * c ∧ (∀ n ∈ t, 0 ≤ n ∧ n < 30) ∧ (1 ≤ b ∧ b ≤ 10) ∧
    Spc Try.prog 8 [.ptr 0 1 0 0] [(0, oC l 0)] (.tup [vI r, vI c, vIs t, vI b]) [(0, oC l p)] := by
  have hr0 := nx_range l 0 3 (by omega)
  have hp0 := nx_le l 0 3 (by omega)
  obtain ⟨r0, e0⟩ : ∃ q, nx l 0 3 = q := ⟨_, rfl⟩
  rw [e0] at hr0 hp0
  have hr1 := nx_range l r0.2 3 (by omega)
  have hp1 := nx_le l r0.2 3 hp0
  obtain ⟨c0, e1⟩ : ∃ q, nx l r0.2 3 = q := ⟨_, rfl⟩
  rw [e1] at hr1 hp1
  obtain ⟨r, hr⟩ : ∃ r : Nat, 1 + r0.1 = r := ⟨(1 + r0.1).toNat, by omega⟩
  obtain ⟨c, hc⟩ : ∃ c : Nat, 1 + c0.1 = c := ⟨(1 + c0.1).toNat, by omega⟩
  have hts := nxs_ok l c0.2 30 (by omega) hp1
  have hrb := nx_range l (nxs l c0.2 30 (r * c)).2 10 (by omega)
  have hpb := nx_le l (nxs l c0.2 30 (r * c)).2 10 (hts _).2.1
  obtain ⟨b0, e2⟩ : ∃ q, nx l (nxs l c0.2 30 (r * c)).2 10 = q := ⟨_, rfl⟩
  rw [e2] at hrb hpb
  refine ⟨r, c, (nxs l c0.2 30 (r * c)).1, 1 + b0.1, b0.2, by omega, by omega, (hts _).1, (hts _).2.2, by omega, ?_⟩
  refine spec_of_ir fn8 mixm (by simp) fun e _ hst => W_start ?_
  unfold ir8
  simp only [tl, tl2, isCallR, entX, argFr, ret, retI, retB, intT, unT, endR, ressR, resR, tupT, bslR, boxR, lenAll, ↓reduceIte, Nat.reduceEqDiff, Nat.reduceAdd, Nat.reduceMul, Nat.reduceLT, Nat.reduceLeDiff, reduceCtorEq, Int.reduceLE, Int.reduceLT, ne_eq, Int.reduceEq, not_false_eq_true, decide_true, decide_false, Int.reduceToNat, tl3, Int.reduceBNe, Int.reduceBEq]
  have h18a := c18 l 0 1 3 hl (by omega) (by omega) (by omega)
  have h18b := c18 l r0.2 1 3 hl hp0 (by omega) (by omega)
  have h18c := c18 l (nxs l c0.2 30 (r * c)).2 1 10 hl (hts _).2.1 (by omega) (by omega)
  rw [show (3 : Int) - 1 + 1 = 3 by omega] at h18a h18b
  rw [show (10 : Int) - 1 + 1 = 10 by omega] at h18c
  rw [e0, hr] at h18a
  rw [e1, hc] at h18b
  rw [e2] at h18c
  refine C1.draw 0 l 0 _ h18a rfl rfl rfl ?_
  simp only [tl, tl2, isCallR, entX, argFr, ret, retI, retB, intT, unT, endR, ressR, resR, tupT, bslR, boxR, lenAll, ↓reduceIte, Nat.reduceEqDiff, Nat.reduceAdd, Nat.reduceMul, Nat.reduceLT, Nat.reduceLeDiff, reduceCtorEq, Int.reduceLE, Int.reduceLT, ne_eq, Int.reduceEq, not_false_eq_true, decide_true, decide_false, Int.reduceToNat, tl3, Int.reduceBNe, Int.reduceBEq]
  refine C1.draw 0 l r0.2 _ h18b rfl rfl rfl ?_
  simp only [tl, tl2, isCallR, entX, argFr, ret, retI, retB, intT, unT, endR, ressR, resR, tupT, bslR, boxR, lenAll, ↓reduceIte, Nat.reduceEqDiff, Nat.reduceAdd, Nat.reduceMul, Nat.reduceLT, Nat.reduceLeDiff, reduceCtorEq, Int.reduceLE, Int.reduceLT, ne_eq, Int.reduceEq, not_false_eq_true, decide_true, decide_false, Int.reduceToNat, tl3, Int.reduceBNe, Int.reduceBEq]
  have hrc : r * c ≤ 3 * 3 := Nat.mul_le_mul (by omega) (by omega)
  have hm : IntKind.i64.wrap ((r : Int) * c) = ((r * c : Nat) : Int) := by
    rw [← Int.natCast_mul]; exact IntWalk.i64_in _ (by omega)
  refine W_loop mixm (α := Nat) (fun k => k ≤ r * c) (fun k => [(0, .ptr 0 1 0 0), (6, vI r), (7, vI c), (8, .asl 1 k), (9, vI k)]) (fun k => [(0, oC l (nxs l c0.2 30 k).2), (1, .arr 1 ((nxs l c0.2 30 k).1.map vI) false)]) (fun k => r * c - k) 0 (by omega) ?_ fun k hk => ?_
  · refine .of [(0, some 0), (1, none)] [] rfl (by rw [hst]; rfl) ?_ ?_
    · simp only [ltSto, ltO2, ltO1, ltAs, ltA, ltC, ltCs, ltT, ltFr, ltS, wrOk, wrO, TL.get, hasFr, ↓reduceIte, Nat.reduceEqDiff, reduceCtorEq, Option.getD_some, Option.isSome_some, List.length_map, List.length_append, List.length_cons, List.length_nil, List.append_nil, List.mem_singleton, List.mem_cons, List.not_mem_nil, and_true, true_and, and_self, imp_self, forall_const, false_implies, implies_true, true_implies, or_false, Bool.false_eq_true, Bool.true_eq_false, ImXs_nil, true_or, or_true, false_or, false_and, and_false]
      exact ⟨ltXs_cons ⟨rfl, rfl, rfl, rfl, trivial⟩ ltXs_nil, rfl⟩
    · simp only [ltSto, ltO2, ltO1, ltAs, ltA, ltC, ltCs, ltT, ltFr, ltS, wrOk, wrO, TL.get, hasFr, ↓reduceIte, Nat.reduceEqDiff, reduceCtorEq, Option.getD_some, Option.isSome_some, List.length_map, List.length_append, List.length_cons, List.length_nil, List.append_nil, List.mem_singleton, List.mem_cons, List.not_mem_nil, and_true, true_and, and_self, imp_self, forall_const, false_implies, implies_true, true_implies, or_false, Bool.false_eq_true, Bool.true_eq_false, ImXs_nil, true_or, or_true, false_or, false_and, and_false]
      rfl
  have hk1 := (hts k).1
  simp only [tl, tl2, isCallR, entX, argFr, ret, retI, retB, intT, unT, endR, ressR, resR, tupT, bslR, boxR, lenAll, ↓reduceIte, Nat.reduceEqDiff, Nat.reduceAdd, Nat.reduceMul, Nat.reduceLT, Nat.reduceLeDiff, reduceCtorEq, Int.reduceLE, Int.reduceLT, ne_eq, Int.reduceEq, not_false_eq_true, decide_true, decide_false, Int.reduceToNat, tl3, Int.reduceBNe, Int.reduceBEq, hm, decide_eq_true_eq, decide_eq_false_iff_not]
  refine ⟨fun h => ?_, fun h => ?_⟩
  · have h19 := c19 l (nxs l c0.2 30 k).2 30 hl (hts k).2.1 (by omega)
    refine C1.draw 0 l _ _ h19 rfl rfl rfl ?_
    simp only [tl, tl2, isCallR, entX, argFr, ret, retI, retB, intT, unT, endR, ressR, resR, tupT, bslR, boxR, lenAll, ↓reduceIte, Nat.reduceEqDiff, Nat.reduceAdd, Nat.reduceMul, Nat.reduceLT, Nat.reduceLeDiff, reduceCtorEq, Int.reduceLE, Int.reduceLT, ne_eq, Int.reduceEq, not_false_eq_true, decide_true, decide_false, Int.reduceToNat, tl3, Int.reduceBNe, Int.reduceBEq, List.length_map, hk1]
    refine ⟨by omega, k + 1, by omega, by omega, .of [(0, some 0), (1, some 1)] [] rfl (by rw [hst]; rfl) ?_ ?_⟩
    · simp only [ltSto, ltO2, ltO1, ltAs, ltA, ltC, ltCs, ltT, ltFr, ltS, wrOk, wrO, TL.get, hasFr, ↓reduceIte, Nat.reduceEqDiff, reduceCtorEq, Option.getD_some, Option.isSome_some, List.length_map, List.length_append, List.length_cons, List.length_nil, List.append_nil, List.mem_singleton, List.mem_cons, List.not_mem_nil, and_true, true_and, and_self, imp_self, forall_const, false_implies, implies_true, true_implies, or_false, Bool.false_eq_true, Bool.true_eq_false, ImXs_nil, true_or, or_true, false_or, false_and, and_false, nxs, List.map_append, List.map_cons, List.map_nil]
      refine ⟨ltXs_cons ⟨rfl, rfl, rfl, rfl, trivial⟩ ltXs_nil, ?_⟩
      exact ltXs_append (ltXs_ints _) (ltXs_ints [_])
    · simp only [ltSto, ltO2, ltO1, ltAs, ltA, ltC, ltCs, ltT, ltFr, ltS, wrOk, wrO, TL.get, hasFr, ↓reduceIte, Nat.reduceEqDiff, reduceCtorEq, Option.getD_some, Option.isSome_some, List.length_map, List.length_append, List.length_cons, List.length_nil, List.append_nil, List.mem_singleton, List.mem_cons, List.not_mem_nil, and_true, true_and, and_self, imp_self, forall_const, false_implies, implies_true, true_implies, or_false, Bool.false_eq_true, Bool.true_eq_false, ImXs_nil, true_or, or_true, false_or, false_and, and_false]
      rw [IntWalk.i64_in _ (by omega)]
      rfl
  · have h2 : k = r * c := by omega
    subst h2
    refine C1.draw 0 l _ _ h18c rfl rfl rfl ?_
    simp only [tl, tl2, isCallR, entX, argFr, ret, retI, retB, intT, unT, endR, ressR, resR, tupT, bslR, boxR, lenAll, ↓reduceIte, Nat.reduceEqDiff, Nat.reduceAdd, Nat.reduceMul, Nat.reduceLT, Nat.reduceLeDiff, reduceCtorEq, Int.reduceLE, Int.reduceLT, ne_eq, Int.reduceEq, not_false_eq_true, decide_true, decide_false, Int.reduceToNat, tl3, Int.reduceBNe, Int.reduceBEq]
    refine .of [(0, some 0)] [1] rfl rfl ?_ ?_
    · simp only [ltSto, ltO2, ltO1, ltAs, ltA, ltC, ltCs, ltT, ltFr, ltS, wrOk, wrO, TL.get, hasFr, ↓reduceIte, Nat.reduceEqDiff, reduceCtorEq, Option.getD_some, Option.isSome_some, List.length_map, List.length_append, List.length_cons, List.length_nil, List.append_nil, List.mem_singleton, List.mem_cons, List.not_mem_nil, and_true, true_and, and_self, imp_self, forall_const, false_implies, implies_true, true_implies, or_false, Bool.false_eq_true, Bool.true_eq_false, ImXs_nil, true_or, or_true, false_or, false_and, and_false]
      exact ltXs_cons ⟨rfl, rfl, rfl, rfl, trivial⟩ ltXs_nil
    · simp only [ltSto, ltO2, ltO1, ltAs, ltA, ltC, ltCs, ltT, ltFr, ltS, wrOk, wrO, TL.get, hasFr, ↓reduceIte, Nat.reduceEqDiff, reduceCtorEq, Option.getD_some, Option.isSome_some, List.length_map, List.length_append, List.length_cons, List.length_nil, List.append_nil, List.mem_singleton, List.mem_cons, List.not_mem_nil, and_true, true_and, and_self, imp_self, forall_const, false_implies, implies_true, true_implies, or_false, Bool.false_eq_true, Bool.true_eq_false, ImXs_nil, true_or, or_true, false_or, false_and, and_false, hk1]
      exact ints_v _
/-- a list's table -/
def tblOk (r c : Nat) (t : List Int) (b : Int) : Prop := (1 ≤ r ∧ r ≤ 3) ∧ (1 ≤ c ∧ c ≤ 3) ∧ t.length = r * c ∧ (∀ n ∈ t, 0 ≤ n ∧ n < 30) ∧ (1 ≤ b ∧ b ≤ 10)
end Go.Proofs

