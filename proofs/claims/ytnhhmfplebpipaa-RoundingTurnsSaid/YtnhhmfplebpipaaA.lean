import Derived.Test.YtnhhmfplebpipaaIr
import Derived.Test.YtnhhmfplebpipaaZzN
set_option linter.unusedSimpArgs false
set_option linter.unusedVariables false
namespace Go.Proofs
open Go Go.TL
theorem mixm : Try.prog.follows .mixedOrders = true := by kernel_rfl
/-! ltSto, ltO2, ltO1, ltAs, ltA, ltC, ltCs, ltT, ltFr, ltS, wrOk, wrO, TL.get, hasFr, ↓reduceIte, Nat.reduceEqDiff, reduceCtorEq, Option.getD_some, Option.isSome_some, List.length_map, List.length_append, List.length_cons, List.length_nil, List.append_nil, List.mem_singleton, List.mem_cons, List.not_mem_nil, and_true, true_and, and_self, imp_self, forall_const, false_implies, implies_true, true_implies, or_false, Bool.false_eq_true, Bool.true_eq_false, ImXs_nil, true_or, or_true, false_or, false_and, and_false# plain -/
def nearB (n r b : Int) : Bool := decide (r > n - b) && decide (r < n + b) && (r.tmod b == 0)
/-- small numbers -/
def sm (n : Int) : Prop := -1000000000000 ≤ n ∧ n ≤ 1000000000000
def outB (n : Int) : Bool := decide (n < 0) || decide (n > 1000000)
def rightB (t : List Int) (b : Int) : Bool := decide (b ≥ 1) && decide (b ≤ 20) && !(t.any outB)
def choi (n b : Int) : List Int := if n % b = 0 then [n] else [n - n % b, n - n % b + b]
theorem tmod_bound {r b : Int} (hb : 1 ≤ b) : r.tmod b < b ∧ -b < r.tmod b := by
  have h1 := Int.tmod_lt_of_pos r (show 0 < b by omega)
  have h2 := Int.lt_tmod_of_pos r (show 0 < b by omega)
  exact ⟨h1, h2⟩
theorem c30 (n r b : Int) (hn : sm n) (hb : 1 ≤ b ∧ b ≤ 1000000) : Spc Try.prog 30 [vI n, vI r, vI b] [] (vB (nearB n r b)) [] := by
  refine spec_of_ir fn30 mixm (by simp) fun e _ hst => W_start ?_
  unfold ir30
  unfold sm at hn
  have hw1 : IntKind.i64.wrap (n - b) = n - b := IntWalk.i64_in _ (by omega)
  have hw2 : IntKind.i64.wrap (n + b) = n + b := IntWalk.i64_in _ (by omega)
  simp only [tl, tl2, isCallR, entX, argFr, ret, retI, retB, intT, unT, endR, ressR, resR, tupT, bslR, boxR, lenAll, ↓reduceIte, Nat.reduceEqDiff, Nat.reduceAdd, Nat.reduceMul, Nat.reduceLT, Nat.reduceLeDiff, reduceCtorEq, Int.reduceLE, Int.reduceLT, ne_eq, Int.reduceEq, not_false_eq_true, decide_true, decide_false, Int.reduceToNat, tl3, Int.reduceBNe, Int.reduceBEq, hw1, hw2]
  exact ⟨fun _ => by omega, .imR rfl rfl⟩
theorem c27 (n r b : Int) (hn : sm n) (hb : 1 ≤ b ∧ b ≤ 1000000) : Spc Try.prog 27 [vI n, vI r, vI b] [] (vB (nearB n r b)) [] := by
  refine spec_of_ir fn27 mixm (by simp) fun e _ hst => W_start ?_
  unfold ir27
  unfold sm at hn
  have hw1 : IntKind.i64.wrap (n - b) = n - b := IntWalk.i64_in _ (by omega)
  have hw2 : IntKind.i64.wrap (n + b) = n + b := IntWalk.i64_in _ (by omega)
  simp only [tl, tl2, isCallR, entX, argFr, ret, retI, retB, intT, unT, endR, ressR, resR, tupT, bslR, boxR, lenAll, ↓reduceIte, Nat.reduceEqDiff, Nat.reduceAdd, Nat.reduceMul, Nat.reduceLT, Nat.reduceLeDiff, reduceCtorEq, Int.reduceLE, Int.reduceLT, ne_eq, Int.reduceEq, not_false_eq_true, decide_true, decide_false, Int.reduceToNat, tl3, Int.reduceBNe, Int.reduceBEq, hw1, hw2]
  refine ⟨by omega, .imR ?_ rfl⟩
  congr 2
  unfold nearB
  cases decide (r > n - b) <;> cases decide (r < n + b) <;> cases (r.tmod b == 0) <;> rfl
theorem c32 (n : Int) : Spc Try.prog 32 [vI n] [] (vB (outB n)) [] := by
  refine spec_of_ir fn32 mixm (by simp) fun e _ hst => W_start ?_
  unfold ir32
  simp only [tl, tl2, isCallR, entX, argFr, ret, retI, retB, intT, unT, endR, ressR, resR, tupT, bslR, boxR, lenAll, ↓reduceIte, Nat.reduceEqDiff, Nat.reduceAdd, Nat.reduceMul, Nat.reduceLT, Nat.reduceLeDiff, reduceCtorEq, Int.reduceLE, Int.reduceLT, ne_eq, Int.reduceEq, not_false_eq_true, decide_true, decide_false, Int.reduceToNat, tl3, Int.reduceBNe, Int.reduceBEq]
  exact .imR rfl rfl
theorem any_of {p : Int → Bool} {l : List Int} {i : Nat} (h : i < l.length) (hp : p l[i] = true) : l.any p = true := List.any_eq_true.2 ⟨l[i], List.getElem_mem h, hp⟩
theorem any_snoc {p : Int → Bool} {l : List Int} {i : Nat} (h : i < l.length) (h1 : (l.take i).any p = false) (hp : p l[i] = false) : (l.take (i + 1)).any p = false := by
  rw [List.take_succ_eq_append_getElem h, List.any_append, h1]
  simp [hp]
/-- where a list holds first -/
def idxOf (p : Int → Bool) : List Int → Nat
  | [] => 0
  | x :: r => if p x = true then 0 else idxOf p r + 1
theorem idx_at {p : Int → Bool} : ∀ {l : List Int} {i : Nat} (h : i < l.length), (l.take i).any p = false → p l[i] = true → idxOf p l = i
  | [], i, h, _, _ => by simp at h
  | x :: r, 0, h, _, hp => by simp at hp; simp [idxOf, hp]
  | x :: r, i + 1, h, h1, hp => by
    simp only [List.take_succ_cons, List.any_cons, Bool.or_eq_false_iff] at h1
    simp only [idxOf, h1.1, Bool.false_eq_true, if_false]
    rw [idx_at (l := r) (i := i) (by simpa using h) h1.2 (by simpa using hp)]
def idxI (p : Int → Bool) (l : List Int) : Int := if l.any p = true then idxOf p l else -1
theorem c33 (p : Int → Bool) (f : FuncId) (hf : ∀ n, Spc Try.prog f [vI n] [] (vB (p n)) []) (l : List Int) (hl : l.length < 4611686018427387904) : Spc Try.prog 33 [vIs l, .clo f []] [] (vI (idxI p l)) [] := by
  refine spec_of_ir fn33 mixm (by simp) fun e _ hst => W_start ?_
  unfold ir33
  simp only [tl, tl2, isCallR, entX, argFr, ret, retI, retB, intT, unT, endR, ressR, resR, tupT, bslR, boxR, lenAll, ↓reduceIte, Nat.reduceEqDiff, Nat.reduceAdd, Nat.reduceMul, Nat.reduceLT, Nat.reduceLeDiff, reduceCtorEq, Int.reduceLE, Int.reduceLT, ne_eq, Int.reduceEq, not_false_eq_true, decide_true, decide_false, Int.reduceToNat, tl3, Int.reduceBNe, Int.reduceBEq]
  refine W_loop mixm (α := Nat) (fun i => i ≤ l.length ∧ (l.take i).any p = false) (fun i => [(0, vIs l), (1, .clo f []), (7, vI l.length), (8, vI i)]) (fun _ => []) (fun i => l.length - i) 0 ⟨by omega, by simp⟩ (.ofFr (by simp [hasFr, TL.get])) fun i hi => ?_
  simp only [tl, tl2, isCallR, entX, argFr, ret, retI, retB, intT, unT, endR, ressR, resR, tupT, bslR, boxR, lenAll, ↓reduceIte, Nat.reduceEqDiff, Nat.reduceAdd, Nat.reduceMul, Nat.reduceLT, Nat.reduceLeDiff, reduceCtorEq, Int.reduceLE, Int.reduceLT, ne_eq, Int.reduceEq, not_false_eq_true, decide_true, decide_false, Int.reduceToNat, tl3, Int.reduceBNe, Int.reduceBEq, decide_eq_true_eq, decide_eq_false_iff_not]
  refine ⟨fun h => ?_, fun h => ?_⟩
  · have h2 : i < l.length := by omega
    simp only [tl, tl2, isCallR, entX, argFr, ret, retI, retB, intT, unT, endR, ressR, resR, tupT, bslR, boxR, lenAll, ↓reduceIte, Nat.reduceEqDiff, Nat.reduceAdd, Nat.reduceMul, Nat.reduceLT, Nat.reduceLeDiff, reduceCtorEq, Int.reduceLE, Int.reduceLT, ne_eq, Int.reduceEq, not_false_eq_true, decide_true, decide_false, Int.reduceToNat, tl3, Int.reduceBNe, Int.reduceBEq, Int.toNat_natCast, getD_ints h2]
    refine ⟨by omega, ?_⟩
    refine C1.im (hf l[i]) rfl rfl ?_
    simp only [tl, tl2, isCallR, entX, argFr, ret, retI, retB, intT, unT, endR, ressR, resR, tupT, bslR, boxR, lenAll, ↓reduceIte, Nat.reduceEqDiff, Nat.reduceAdd, Nat.reduceMul, Nat.reduceLT, Nat.reduceLeDiff, reduceCtorEq, Int.reduceLE, Int.reduceLT, ne_eq, Int.reduceEq, not_false_eq_true, decide_true, decide_false, Int.reduceToNat, tl3, Int.reduceBNe, Int.reduceBEq]
    refine ⟨fun h3 => .imR ?_ rfl, fun h3 => ?_⟩
    · rw [idxI, idx_at h2 hi.2 h3, if_pos (any_of h2 h3)]
    · refine ⟨i + 1, ⟨by omega, any_snoc h2 hi.2 h3⟩, by omega, .ofFr ?_⟩
      simp only [ltSto, ltO2, ltO1, ltAs, ltA, ltC, ltCs, ltT, ltFr, ltS, wrOk, wrO, TL.get, hasFr, ↓reduceIte, Nat.reduceEqDiff, reduceCtorEq, Option.getD_some, Option.isSome_some, List.length_map, List.length_append, List.length_cons, List.length_nil, List.append_nil, List.mem_singleton, List.mem_cons, List.not_mem_nil, and_true, true_and, and_self, imp_self, forall_const, false_implies, implies_true, true_implies, or_false, Bool.false_eq_true, Bool.true_eq_false, ImXs_nil, true_or, or_true, false_or, false_and, and_false]
      rw [IntWalk.i64_in _ (by omega)]
      rfl
  · have h2 : i = l.length := by omega
    have h3 := hi.2
    rw [h2, List.take_length] at h3
    rw [idxI, if_neg (by rw [h3]; simp)]
    exact .imR rfl rfl
theorem c29 (n b : Int) (hn : 0 ≤ n ∧ n ≤ 1000000000) (hb : 1 ≤ b ∧ b ≤ 1000000) : Spc Try.prog 29 [vI n, vI b] [] (vIs (choi n b)) [] := by
  refine spec_of_ir fn29 mixm (by simp) fun e _ hst => W_start ?_
  unfold ir29
  simp only [tl, tl2, isCallR, entX, argFr, ret, retI, retB, intT, unT, endR, ressR, resR, tupT, bslR, boxR, lenAll, ↓reduceIte, Nat.reduceEqDiff, Nat.reduceAdd, Nat.reduceMul, Nat.reduceLT, Nat.reduceLeDiff, reduceCtorEq, Int.reduceLE, Int.reduceLT, ne_eq, Int.reduceEq, not_false_eq_true, decide_true, decide_false, Int.reduceToNat, tl3, Int.reduceBNe, Int.reduceBEq]
  have hm : n.tmod b = n % b := Int.tmod_eq_emod_of_nonneg hn.1
  have hm0 := Int.emod_nonneg n (b := b) (by omega)
  have hm1 := Int.emod_lt_of_pos n (b := b) (by omega)
  have hw : IntKind.i64.wrap (n - n % b) = n - n % b := IntWalk.i64_in _ (by omega)
  have hw2 : IntKind.i64.wrap (n - n % b + b) = n - n % b + b := IntWalk.i64_in _ (by omega)
  rw [hm, hw, hw2]
  refine ⟨by omega, fun h => ?_, fun h => ?_⟩
  · rw [choi, if_pos (by simp at h; omega)]
    refine .of [] [16388] rfl rfl trivial ?_
    simp only [ltSto, ltO2, ltO1, ltAs, ltA, ltC, ltCs, ltT, ltFr, ltS, wrOk, wrO, TL.get, hasFr, ↓reduceIte, Nat.reduceEqDiff, reduceCtorEq, Option.getD_some, Option.isSome_some, List.length_map, List.length_append, List.length_cons, List.length_nil, List.append_nil, List.mem_singleton, List.mem_cons, List.not_mem_nil, and_true, true_and, and_self, imp_self, forall_const, false_implies, implies_true, true_implies, or_false, Bool.false_eq_true, Bool.true_eq_false, ImXs_nil, true_or, or_true, false_or, false_and, and_false, List.map_cons, List.map_nil]
    exact ints_v [n]
  · rw [choi, if_neg (by simp at h; omega)]
    refine .of [] [20496] rfl rfl trivial ?_
    simp only [ltSto, ltO2, ltO1, ltAs, ltA, ltC, ltCs, ltT, ltFr, ltS, wrOk, wrO, TL.get, hasFr, ↓reduceIte, Nat.reduceEqDiff, reduceCtorEq, Option.getD_some, Option.isSome_some, List.length_map, List.length_append, List.length_cons, List.length_nil, List.append_nil, List.mem_singleton, List.mem_cons, List.not_mem_nil, and_true, true_and, and_self, imp_self, forall_const, false_implies, implies_true, true_implies, or_false, Bool.false_eq_true, Bool.true_eq_false, ImXs_nil, true_or, or_true, false_or, false_and, and_false, List.map_cons, List.map_nil]
    exact ints_v [n - n % b, n - n % b + b]
theorem c26 (l : List Int) (b : Int) (hl : l.length < 4611686018427387904) : Spc Try.prog 26 [vIs l, vI b] [] (vI (if rightB l b = true then 0 else 2)) [] := by
  refine spec_of_ir fn26 mixm (by simp) fun e _ hst => W_start ?_
  unfold ir26
  simp only [tl, tl2, isCallR, entX, argFr, ret, retI, retB, intT, unT, endR, ressR, resR, tupT, bslR, boxR, lenAll, ↓reduceIte, Nat.reduceEqDiff, Nat.reduceAdd, Nat.reduceMul, Nat.reduceLT, Nat.reduceLeDiff, reduceCtorEq, Int.reduceLE, Int.reduceLT, ne_eq, Int.reduceEq, not_false_eq_true, decide_true, decide_false, Int.reduceToNat, tl3, Int.reduceBNe, Int.reduceBEq]
  refine W_loop mixm (α := Nat) (fun i => i ≤ l.length ∧ (l.take i).any outB = false) (fun i => [(1, vI b), (7, vIs l), (8, vI l.length), (9, vI i)]) (fun _ => []) (fun i => l.length - i) 0 ⟨by omega, by simp⟩ (.ofFr (by simp [hasFr, TL.get])) fun i hi => ?_
  simp only [tl, tl2, isCallR, entX, argFr, ret, retI, retB, intT, unT, endR, ressR, resR, tupT, bslR, boxR, lenAll, ↓reduceIte, Nat.reduceEqDiff, Nat.reduceAdd, Nat.reduceMul, Nat.reduceLT, Nat.reduceLeDiff, reduceCtorEq, Int.reduceLE, Int.reduceLT, ne_eq, Int.reduceEq, not_false_eq_true, decide_true, decide_false, Int.reduceToNat, tl3, Int.reduceBNe, Int.reduceBEq, decide_eq_true_eq, decide_eq_false_iff_not]
  refine ⟨fun h => ?_, fun h => ?_⟩
  · have h2 : i < l.length := by omega
    simp only [tl, tl2, isCallR, entX, argFr, ret, retI, retB, intT, unT, endR, ressR, resR, tupT, bslR, boxR, lenAll, ↓reduceIte, Nat.reduceEqDiff, Nat.reduceAdd, Nat.reduceMul, Nat.reduceLT, Nat.reduceLeDiff, reduceCtorEq, Int.reduceLE, Int.reduceLT, ne_eq, Int.reduceEq, not_false_eq_true, decide_true, decide_false, Int.reduceToNat, tl3, Int.reduceBNe, Int.reduceBEq, Int.toNat_natCast, getD_ints h2]
    have hout : (decide (l[i] < 0) || decide (l[i] > 1000000)) = outB l[i] := rfl
    rw [hout]
    refine ⟨by omega, fun h3 => .imR ?_ rfl, fun h3 => ?_⟩
    · rw [if_neg (by simp only [rightB, any_of h2 h3]; simp)]
    · refine ⟨i + 1, ⟨by omega, any_snoc h2 hi.2 h3⟩, by omega, .ofFr ?_⟩
      simp only [ltSto, ltO2, ltO1, ltAs, ltA, ltC, ltCs, ltT, ltFr, ltS, wrOk, wrO, TL.get, hasFr, ↓reduceIte, Nat.reduceEqDiff, reduceCtorEq, Option.getD_some, Option.isSome_some, List.length_map, List.length_append, List.length_cons, List.length_nil, List.append_nil, List.mem_singleton, List.mem_cons, List.not_mem_nil, and_true, true_and, and_self, imp_self, forall_const, false_implies, implies_true, true_implies, or_false, Bool.false_eq_true, Bool.true_eq_false, ImXs_nil, true_or, or_true, false_or, false_and, and_false]
      rw [IntWalk.i64_in _ (by omega)]
      rfl
  · have h2 : i = l.length := by omega
    have h3 := hi.2
    rw [h2, List.take_length] at h3
    refine ⟨fun h4 => .imR ?_ rfl, fun h4 => .imR ?_ rfl⟩
    · rw [if_neg]
      simp only [rightB, h3]
      simp at h4 ⊢
      omega
    · rw [if_pos]
      simp only [rightB, h3]
      simp at h4 ⊢
      omega
/-! ltSto, ltO2, ltO1, ltAs, ltA, ltC, ltCs, ltT, ltFr, ltS, wrOk, wrO, TL.get, hasFr, ↓reduceIte, Nat.reduceEqDiff, reduceCtorEq, Option.getD_some, Option.isSome_some, List.length_map, List.length_append, List.length_cons, List.length_nil, List.append_nil, List.mem_singleton, List.mem_cons, List.not_mem_nil, and_true, true_and, and_self, imp_self, forall_const, false_implies, implies_true, true_implies, or_false, Bool.false_eq_true, Bool.true_eq_false, ImXs_nil, true_or, or_true, false_or, false_and, and_false# right, values -/
theorem c31 (p : Int → Bool) (f : FuncId) (hf : ∀ n, Spc Try.prog f [vI n] [] (vB (p n)) []) (l : List Int) (hl : l.length < 4611686018427387904) : Spc Try.prog 31 [vIs l, .clo f []] [] (vB (l.any p)) [] := by
  refine spec_of_ir fn31 mixm (by simp) fun e _ hst => W_start ?_
  unfold ir31
  simp only [tl, tl2, isCallR, entX, argFr, ret, retI, retB, intT, unT, endR, ressR, resR, tupT, bslR, boxR, lenAll, ↓reduceIte, Nat.reduceEqDiff, Nat.reduceAdd, Nat.reduceMul, Nat.reduceLT, Nat.reduceLeDiff, reduceCtorEq, Int.reduceLE, Int.reduceLT, ne_eq, Int.reduceEq, not_false_eq_true, decide_true, decide_false, Int.reduceToNat, tl3, Int.reduceBNe, Int.reduceBEq]
  refine C1.im (c33 p f hf l hl) rfl (by rfl) ?_
  simp only [tl, tl2, isCallR, entX, argFr, ret, retI, retB, intT, unT, endR, ressR, resR, tupT, bslR, boxR, lenAll, ↓reduceIte, Nat.reduceEqDiff, Nat.reduceAdd, Nat.reduceMul, Nat.reduceLT, Nat.reduceLeDiff, reduceCtorEq, Int.reduceLE, Int.reduceLT, ne_eq, Int.reduceEq, not_false_eq_true, decide_true, decide_false, Int.reduceToNat, tl3, Int.reduceBNe, Int.reduceBEq]
  refine .imR ?_ rfl
  unfold idxI
  cases h : l.any p
  · simp
  · simp
theorem c28 (l : List Int) (b : Int) (hl : l.length < 4611686018427387904) : Spc Try.prog 28 [vIs l, vI b] [] (vB (rightB l b)) [] := by
  refine spec_of_ir fn28 mixm (by simp) fun e _ hst => W_start ?_
  unfold ir28
  simp only [tl, tl2, isCallR, entX, argFr, ret, retI, retB, intT, unT, endR, ressR, resR, tupT, bslR, boxR, lenAll, ↓reduceIte, Nat.reduceEqDiff, Nat.reduceAdd, Nat.reduceMul, Nat.reduceLT, Nat.reduceLeDiff, reduceCtorEq, Int.reduceLE, Int.reduceLT, ne_eq, Int.reduceEq, not_false_eq_true, decide_true, decide_false, Int.reduceToNat, tl3, Int.reduceBNe, Int.reduceBEq]
  refine C2.im (fun _ => c31 outB 32 c32 l hl) (fun _ => rfl) (by rfl) ?_
  simp only [tl, tl2, isCallR, entX, argFr, ret, retI, retB, intT, unT, endR, ressR, resR, tupT, bslR, boxR, lenAll, ↓reduceIte, Nat.reduceEqDiff, Nat.reduceAdd, Nat.reduceMul, Nat.reduceLT, Nat.reduceLeDiff, reduceCtorEq, Int.reduceLE, Int.reduceLT, ne_eq, Int.reduceEq, not_false_eq_true, decide_true, decide_false, Int.reduceToNat, tl3, Int.reduceBNe, Int.reduceBEq]
  exact .imR rfl rfl
end Go.Proofs

