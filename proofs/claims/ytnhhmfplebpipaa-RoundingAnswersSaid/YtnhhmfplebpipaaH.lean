import Derived.Test.YtnhhmfplebpipaaG
set_option linter.unusedSimpArgs false
set_option linter.unusedVariables false
namespace Go.Proofs
open Go Go.TL
/-! ltSto, ltO2, ltO1, ltAs, ltA, ltC, ltCs, ltT, ltFr, ltS, wrOk, wrO, TL.get, hasFr, ↓reduceIte, Nat.reduceEqDiff, reduceCtorEq, Option.getD_some, Option.isSome_some, List.length_map, List.length_append, List.length_cons, List.length_nil, List.append_nil, List.mem_singleton, List.mem_cons, List.not_mem_nil, and_true, true_and, and_self, imp_self, forall_const, false_implies, implies_true, true_implies, or_false, Bool.false_eq_true, Bool.true_eq_false, ImXs_nil, true_or, or_true, false_or, false_and, and_false# draws -/
def nx (l : List UInt8) (at_ : Nat) (n : Int) : Int × Nat :=
  if n < 1 ∨ l.length ≤ at_ then (0, at_)
  else if 256 < n ∧ at_ + 1 < l.length then (((l.getD at_ 0).toNat * 256 + (l.getD (at_ + 1) 0).toNat) % n, at_ + 2)
  else ((l.getD at_ 0).toNat % n, at_ + 1)
abbrev oC (l : List UInt8) (at_ : Nat) : Ob := .arr 2 [.agg [vL l, vI at_]] false
theorem c9 (l : List UInt8) : Spc Try.prog 9 [vL l] [] (.ptr 0 1 0 0) [(0, oC (l.take 400) 0)] := by
  refine spec_of_ir fn9 mixm (by simp) fun e _ hst => W_start ?_
  unfold ir9
  obtain ⟨m, hm, hm2⟩ : ∃ m : Nat, minI (l.length : Int) 400 = m ∧ m ≤ l.length ∧ l.take m = l.take 400 := by
    unfold minI
    split
    · exact ⟨400, rfl, by omega, rfl⟩
    · exact ⟨l.length, rfl, by omega, by rw [List.take_length, List.take_of_length_le (by omega)]⟩
  simp only [tl, tl2, isCallR, entX, argFr, ret, retI, retB, intT, unT, endR, ressR, resR, tupT, bslR, boxR, lenAll, ↓reduceIte, Nat.reduceEqDiff, Nat.reduceAdd, Nat.reduceMul, Nat.reduceLT, Nat.reduceLeDiff, reduceCtorEq, Int.reduceLE, Int.reduceLT, ne_eq, Int.reduceEq, not_false_eq_true, decide_true, decide_false, Int.reduceToNat, tl3, Int.reduceBNe, Int.reduceBEq, hm, cut_map, cut_to, hm2]
  refine ⟨by omega, .of [(0, some 8216)] [] rfl rfl ?_ ?_⟩
  · simp only [ltSto, ltO2, ltO1, ltAs, ltA, ltC, ltCs, ltT, ltFr, ltS, wrOk, wrO, TL.get, hasFr, ↓reduceIte, Nat.reduceEqDiff, reduceCtorEq, Option.getD_some, Option.isSome_some, List.length_map, List.length_append, List.length_cons, List.length_nil, List.append_nil, List.mem_singleton, List.mem_cons, List.not_mem_nil, and_true, true_and, and_self, imp_self, forall_const, false_implies, implies_true, true_implies, or_false, Bool.false_eq_true, Bool.true_eq_false, ImXs_nil, true_or, or_true, false_or, false_and, and_false]
    exact ltXs_cons ⟨rfl, rfl, rfl, rfl, trivial⟩ ltXs_nil
  · simp only [ltSto, ltO2, ltO1, ltAs, ltA, ltC, ltCs, ltT, ltFr, ltS, wrOk, wrO, TL.get, hasFr, ↓reduceIte, Nat.reduceEqDiff, reduceCtorEq, Option.getD_some, Option.isSome_some, List.length_map, List.length_append, List.length_cons, List.length_nil, List.append_nil, List.mem_singleton, List.mem_cons, List.not_mem_nil, and_true, true_and, and_self, imp_self, forall_const, false_implies, implies_true, true_implies, or_false, Bool.false_eq_true, Bool.true_eq_false, ImXs_nil, true_or, or_true, false_or, false_and, and_false]
theorem c19 (l : List UInt8) (at_ : Nat) (n : Int) (hl : l.length ≤ 400) (ha : at_ ≤ l.length) (hn : n ≤ 1000000) : Spc Try.prog 19 [.ptr 0 1 0 0, vI n] [(0, oC l at_)] (vI (nx l at_ n).1) [(0, oC l (nx l at_ n).2)] := by
  refine spec_of_ir fn19 mixm (by simp) fun e _ hst => W_start ?_
  unfold ir19
  simp only [tl, tl2, isCallR, entX, argFr, ret, retI, retB, intT, unT, endR, ressR, resR, tupT, bslR, boxR, lenAll, ↓reduceIte, Nat.reduceEqDiff, Nat.reduceAdd, Nat.reduceMul, Nat.reduceLT, Nat.reduceLeDiff, reduceCtorEq, Int.reduceLE, Int.reduceLT, ne_eq, Int.reduceEq, not_false_eq_true, decide_true, decide_false, Int.reduceToNat, tl3, Int.reduceBNe, Int.reduceBEq, Bool.or_eq_true, Bool.or_eq_false_iff, decide_eq_true_eq, decide_eq_false_iff_not]
  refine ⟨by kernel_rfl, fun h1 => ?_, fun h1 => ?_⟩
  · have e : nx l at_ n = (0, at_) := by unfold nx; rw [if_pos (by omega)]
    rw [e]
    refine .of [(0, some 0)] [] rfl rfl ?_ ?_
    · simp only [ltSto, ltO2, ltO1, ltAs, ltA, ltC, ltCs, ltT, ltFr, ltS, wrOk, wrO, TL.get, hasFr, ↓reduceIte, Nat.reduceEqDiff, reduceCtorEq, Option.getD_some, Option.isSome_some, List.length_map, List.length_append, List.length_cons, List.length_nil, List.append_nil, List.mem_singleton, List.mem_cons, List.not_mem_nil, and_true, true_and, and_self, imp_self, forall_const, false_implies, implies_true, true_implies, or_false, Bool.false_eq_true, Bool.true_eq_false, ImXs_nil, true_or, or_true, false_or, false_and, and_false]
      exact ltXs_cons ⟨rfl, rfl, rfl, rfl, trivial⟩ ltXs_nil
    · simp only [ltSto, ltO2, ltO1, ltAs, ltA, ltC, ltCs, ltT, ltFr, ltS, wrOk, wrO, TL.get, hasFr, ↓reduceIte, Nat.reduceEqDiff, reduceCtorEq, Option.getD_some, Option.isSome_some, List.length_map, List.length_append, List.length_cons, List.length_nil, List.append_nil, List.mem_singleton, List.mem_cons, List.not_mem_nil, and_true, true_and, and_self, imp_self, forall_const, false_implies, implies_true, true_implies, or_false, Bool.false_eq_true, Bool.true_eq_false, ImXs_nil, true_or, or_true, false_or, false_and, and_false]
  · have h2 : at_ < l.length := by omega
    have hw1 : IntKind.i64.wrap ((at_ : Int) + 1) = ((at_ + 1 : Nat) : Int) := by rw [IntWalk.i64_in _ (by omega)]; omega
    have hw2 : IntKind.i64.wrap (((at_ + 1 : Nat) : Int) - 1) = (at_ : Int) := by rw [IntWalk.i64_in _ (by omega)]; omega
    simp only [tl, tl2, isCallR, entX, argFr, ret, retI, retB, intT, unT, endR, ressR, resR, tupT, bslR, boxR, lenAll, ↓reduceIte, Nat.reduceEqDiff, Nat.reduceAdd, Nat.reduceMul, Nat.reduceLT, Nat.reduceLeDiff, reduceCtorEq, Int.reduceLE, Int.reduceLT, ne_eq, Int.reduceEq, not_false_eq_true, decide_true, decide_false, Int.reduceToNat, tl3, Int.reduceBNe, Int.reduceBEq, hw1, hw2, Int.toNat_natCast, getD_bytes h2]
    refine ⟨by omega, by kernel_rfl, by kernel_rfl, fun h3 => ?_, fun h3 => ?_⟩
    · simp only [Bool.and_eq_true, decide_eq_true_eq] at h3
      have h4 : at_ + 1 < l.length := by omega
      have hb := byte_lt (l.getD at_ 0)
      have hb2 := byte_lt (l.getD (at_ + 1) 0)
      have e : nx l at_ n = (((l.getD at_ 0).toNat * 256 + (l.getD (at_ + 1) 0).toNat) % n, at_ + 2) := by
        unfold nx
        rw [if_neg (by omega), if_pos (by omega)]
      have hw3 : IntKind.i64.wrap (((at_ + 1 : Nat) : Int) + 1) = ((at_ + 2 : Nat) : Int) := by rw [IntWalk.i64_in _ (by omega)]; omega
      have hv1 : IntKind.i64.wrap ((l.getD at_ 0).toNat : Int) = (l.getD at_ 0).toNat := IntWalk.i64_in _ (by omega)
      have hv2 : IntKind.i64.wrap ((l.getD (at_ + 1) 0).toNat : Int) = (l.getD (at_ + 1) 0).toNat := IntWalk.i64_in _ (by omega)
      have hv3 : IntKind.i64.wrap (((l.getD at_ 0).toNat : Int) * 256) = (l.getD at_ 0).toNat * 256 := IntWalk.i64_in _ (by omega)
      have hv4 : IntKind.i64.wrap (((l.getD at_ 0).toNat : Int) * 256 + (l.getD (at_ + 1) 0).toNat) = (l.getD at_ 0).toNat * 256 + (l.getD (at_ + 1) 0).toNat := IntWalk.i64_in _ (by omega)
      simp only [tl, tl2, isCallR, entX, argFr, ret, retI, retB, intT, unT, endR, ressR, resR, tupT, bslR, boxR, lenAll, ↓reduceIte, Nat.reduceEqDiff, Nat.reduceAdd, Nat.reduceMul, Nat.reduceLT, Nat.reduceLeDiff, reduceCtorEq, Int.reduceLE, Int.reduceLT, ne_eq, Int.reduceEq, not_false_eq_true, decide_true, decide_false, Int.reduceToNat, tl3, Int.reduceBNe, Int.reduceBEq, hw3, Int.toNat_natCast, getD_bytes h4, hv1, hv2, hv3, hv4]
      rw [e, Int.tmod_eq_emod_of_nonneg (by omega)]
      refine ⟨by omega, by kernel_rfl, by omega, .of [(0, some 0)] [] rfl rfl ?_ ?_⟩
      · simp only [ltSto, ltO2, ltO1, ltAs, ltA, ltC, ltCs, ltT, ltFr, ltS, wrOk, wrO, TL.get, hasFr, ↓reduceIte, Nat.reduceEqDiff, reduceCtorEq, Option.getD_some, Option.isSome_some, List.length_map, List.length_append, List.length_cons, List.length_nil, List.append_nil, List.mem_singleton, List.mem_cons, List.not_mem_nil, and_true, true_and, and_self, imp_self, forall_const, false_implies, implies_true, true_implies, or_false, Bool.false_eq_true, Bool.true_eq_false, ImXs_nil, true_or, or_true, false_or, false_and, and_false]
        exact ltXs_cons ⟨rfl, rfl, rfl, rfl, trivial⟩ ltXs_nil
      · simp only [ltSto, ltO2, ltO1, ltAs, ltA, ltC, ltCs, ltT, ltFr, ltS, wrOk, wrO, TL.get, hasFr, ↓reduceIte, Nat.reduceEqDiff, reduceCtorEq, Option.getD_some, Option.isSome_some, List.length_map, List.length_append, List.length_cons, List.length_nil, List.append_nil, List.mem_singleton, List.mem_cons, List.not_mem_nil, and_true, true_and, and_self, imp_self, forall_const, false_implies, implies_true, true_implies, or_false, Bool.false_eq_true, Bool.true_eq_false, ImXs_nil, true_or, or_true, false_or, false_and, and_false]
    · have e : nx l at_ n = ((l.getD at_ 0).toNat % n, at_ + 1) := by
        unfold nx
        rw [if_neg (by omega), if_neg]
        simp only [Bool.and_eq_false_iff, decide_eq_false_iff_not] at h3
        omega
      have hb := byte_lt (l.getD at_ 0)
      rw [e, IntWalk.i64_in _ (by omega), Int.tmod_eq_emod_of_nonneg (by omega)]
      refine ⟨by omega, .of [(0, some 0)] [] rfl rfl ?_ ?_⟩
      · simp only [ltSto, ltO2, ltO1, ltAs, ltA, ltC, ltCs, ltT, ltFr, ltS, wrOk, wrO, TL.get, hasFr, ↓reduceIte, Nat.reduceEqDiff, reduceCtorEq, Option.getD_some, Option.isSome_some, List.length_map, List.length_append, List.length_cons, List.length_nil, List.append_nil, List.mem_singleton, List.mem_cons, List.not_mem_nil, and_true, true_and, and_self, imp_self, forall_const, false_implies, implies_true, true_implies, or_false, Bool.false_eq_true, Bool.true_eq_false, ImXs_nil, true_or, or_true, false_or, false_and, and_false]
        exact ltXs_cons ⟨rfl, rfl, rfl, rfl, trivial⟩ ltXs_nil
      · simp only [ltSto, ltO2, ltO1, ltAs, ltA, ltC, ltCs, ltT, ltFr, ltS, wrOk, wrO, TL.get, hasFr, ↓reduceIte, Nat.reduceEqDiff, reduceCtorEq, Option.getD_some, Option.isSome_some, List.length_map, List.length_append, List.length_cons, List.length_nil, List.append_nil, List.mem_singleton, List.mem_cons, List.not_mem_nil, and_true, true_and, and_self, imp_self, forall_const, false_implies, implies_true, true_implies, or_false, Bool.false_eq_true, Bool.true_eq_false, ImXs_nil, true_or, or_true, false_or, false_and, and_false]
theorem nx_le (l : List UInt8) (at_ : Nat) (n : Int) (h : at_ ≤ l.length) : (nx l at_ n).2 ≤ l.length := by
  unfold nx
  split
  · exact h
  · split
    · simp only; omega
    · simp only; omega
theorem nx_range (l : List UInt8) (at_ : Nat) (n : Int) (h : 1 ≤ n) : 0 ≤ (nx l at_ n).1 ∧ (nx l at_ n).1 < n := by
  unfold nx
  split
  · simp only; omega
  · split
    · exact ⟨Int.emod_nonneg _ (by omega), Int.emod_lt_of_pos _ (by omega)⟩
    · exact ⟨Int.emod_nonneg _ (by omega), Int.emod_lt_of_pos _ (by omega)⟩
/-- the object of draws, lent and given back -/
theorem _root_.Go.TL.C1.draw {P : Program} {e : Env} {kss : List (Nat × List Nat)} {Q : Ex → St → Prop} {K : List KF} {rows : Option (List Nat)} {ks : List Nat} {nid : Nat} {ops : List ROp} {F : XF} {acc : Acc} {st : Sto} {fid : FuncId} {xs : List T} {r : T} {d : Option Nat} (id : Nat) (l : List UInt8) (a a' : Nat)
    (hs : Spc P fid (.ptr 0 1 0 0 :: xs) [(0, oC l a)] r [(0, oC l a')]) (hg : TL.get st id = some (oC l a)) (hx : imAL xs = true) (h2 : imTup r = true)
    (h : R P e kss Q rows ks K nid ops (putX F d (.p r)) (stUp st [(id, oC l a')]) (acc ++ [([] ++ [(id, oC l a')].map (·.1), [(id, oC l a')].map (·.1))])) : C1 P e kss Q rows ks K (.clo fid []) (.ptr id 1 0 0 :: xs) d nid ops F st acc := by
  refine C1.of [(0, some id)] [(id, some 0)] [] [(id, oC l a')] hs ?_ (by simp [renOk, TL.get]) ?_ (by rfl) (by simp [TL.get]) ?_ (by simp [renOk, TL.get]) (by rfl) (ltT_im h2) (.inl (by rfl)) h
  · rw [List.append_nil]
    exact ⟨by simp [ltA, ltC, TL.get], ltAs_im hx⟩
  · refine ⟨?_, trivial⟩
    simp only [TL.get, if_true, ltO2, hg, ltO1]
    exact ⟨trivial, by simp, ltXs_cons ⟨rfl, rfl, rfl, rfl, trivial⟩ ltXs_nil, by simp⟩
  · refine ⟨?_, trivial⟩
    simp only [TL.get, if_true, wrO, ltO1]
    exact ⟨⟨trivial, by simp, ltXs_cons ⟨rfl, rfl, rfl, rfl, trivial⟩ ltXs_nil, by simp⟩, .inr ⟨trivial, rfl⟩⟩
theorem c18 (l : List UInt8) (at_ : Nat) (lo hi : Int) (hl : l.length ≤ 400) (ha : at_ ≤ l.length) (hlo : -1000000 ≤ lo ∧ lo ≤ 1000000) (hhi : lo ≤ hi ∧ hi ≤ lo + 100000) :
    Spc Try.prog 18 [.ptr 0 1 0 0, vI lo, vI hi] [(0, oC l at_)] (vI (lo + (nx l at_ (hi - lo + 1)).1)) [(0, oC l (nx l at_ (hi - lo + 1)).2)] := by
  refine spec_of_ir fn18 mixm (by simp) fun e _ hst => W_start ?_
  unfold ir18
  have hw1 : IntKind.i64.wrap (hi - lo) = hi - lo := IntWalk.i64_in _ (by omega)
  have hw2 : IntKind.i64.wrap (hi - lo + 1) = hi - lo + 1 := IntWalk.i64_in _ (by omega)
  simp only [tl, tl2, isCallR, entX, argFr, ret, retI, retB, intT, unT, endR, ressR, resR, tupT, bslR, boxR, lenAll, ↓reduceIte, Nat.reduceEqDiff, Nat.reduceAdd, Nat.reduceMul, Nat.reduceLT, Nat.reduceLeDiff, reduceCtorEq, Int.reduceLE, Int.reduceLT, ne_eq, Int.reduceEq, not_false_eq_true, decide_true, decide_false, Int.reduceToNat, tl3, Int.reduceBNe, Int.reduceBEq, hw1, hw2]
  refine C1.draw 0 l at_ _ (c19 l at_ (hi - lo + 1) hl ha (by omega)) rfl rfl rfl ?_
  have hr := nx_range l at_ (hi - lo + 1) (by omega)
  have hw3 : IntKind.i64.wrap (lo + (nx l at_ (hi - lo + 1)).1) = lo + (nx l at_ (hi - lo + 1)).1 := IntWalk.i64_in _ (by omega)
  simp only [tl, tl2, isCallR, entX, argFr, ret, retI, retB, intT, unT, endR, ressR, resR, tupT, bslR, boxR, lenAll, ↓reduceIte, Nat.reduceEqDiff, Nat.reduceAdd, Nat.reduceMul, Nat.reduceLT, Nat.reduceLeDiff, reduceCtorEq, Int.reduceLE, Int.reduceLT, ne_eq, Int.reduceEq, not_false_eq_true, decide_true, decide_false, Int.reduceToNat, tl3, Int.reduceBNe, Int.reduceBEq, hw3]
  refine .of [(0, some 0)] [] rfl rfl ?_ ?_
  · simp only [ltSto, ltO2, ltO1, ltAs, ltA, ltC, ltCs, ltT, ltFr, ltS, wrOk, wrO, TL.get, hasFr, ↓reduceIte, Nat.reduceEqDiff, reduceCtorEq, Option.getD_some, Option.isSome_some, List.length_map, List.length_append, List.length_cons, List.length_nil, List.append_nil, List.mem_singleton, List.mem_cons, List.not_mem_nil, and_true, true_and, and_self, imp_self, forall_const, false_implies, implies_true, true_implies, or_false, Bool.false_eq_true, Bool.true_eq_false, ImXs_nil, true_or, or_true, false_or, false_and, and_false]
    exact ltXs_cons ⟨rfl, rfl, rfl, rfl, trivial⟩ ltXs_nil
  · simp only [ltSto, ltO2, ltO1, ltAs, ltA, ltC, ltCs, ltT, ltFr, ltS, wrOk, wrO, TL.get, hasFr, ↓reduceIte, Nat.reduceEqDiff, reduceCtorEq, Option.getD_some, Option.isSome_some, List.length_map, List.length_append, List.length_cons, List.length_nil, List.append_nil, List.mem_singleton, List.mem_cons, List.not_mem_nil, and_true, true_and, and_self, imp_self, forall_const, false_implies, implies_true, true_implies, or_false, Bool.false_eq_true, Bool.true_eq_false, ImXs_nil, true_or, or_true, false_or, false_and, and_false]
end Go.Proofs

