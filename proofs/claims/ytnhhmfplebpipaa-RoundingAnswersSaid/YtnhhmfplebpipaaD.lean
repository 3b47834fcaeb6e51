import Derived.Test.YtnhhmfplebpipaaC
set_option linter.unusedSimpArgs false
set_option linter.unusedVariables false
namespace Go.Proofs
open Go Go.TL
/-! ltSto, ltO2, ltO1, ltAs, ltA, ltC, ltCs, ltT, ltFr, ltS, wrOk, wrO, TL.get, hasFr, ↓reduceIte, Nat.reduceEqDiff, reduceCtorEq, Option.getD_some, Option.isSome_some, List.length_map, List.length_append, List.length_cons, List.length_nil, List.append_nil, List.mem_singleton, List.mem_cons, List.not_mem_nil, and_true, true_and, and_self, imp_self, forall_const, false_implies, implies_true, true_implies, or_false, Bool.false_eq_true, Bool.true_eq_false, ImXs_nil, true_or, or_true, false_or, false_and, and_false# sums -/
def sumN (f : Nat → Int) : Nat → Int
  | 0 => 0
  | n + 1 => sumN f n + f n
def at0 (t : List Int) (i : Nat) : Int := t.getD i 0
/-- what the j-th sum is after i numbers -/
def gS (t : List Int) (c r i j : Nat) : Int :=
  if j < r then sumN (fun x => if x / c = j then at0 t x else 0) i
  else if j < r + c then sumN (fun x => if x % c = j - r then at0 t x else 0) i
  else sumN (at0 t) i
def pS (t : List Int) (c r i : Nat) : List Int := (List.range (r + c + 1)).map (gS t c r i)
def sumsL (t : List Int) (c r : Nat) : List Int := pS t c r t.length
theorem pS_len (t : List Int) (c r i : Nat) : (pS t c r i).length = r + c + 1 := by simp [pS]
theorem sumN_bound {f : Nat → Int} {b : Int} (hb : 0 ≤ b) (h : ∀ i, -b ≤ f i ∧ f i ≤ b) : ∀ n : Nat, -(n * b) ≤ sumN f n ∧ sumN f n ≤ n * b
  | 0 => by simp [sumN]
  | n + 1 => by
    obtain ⟨h1, h2⟩ := sumN_bound hb h n
    have h3 := h n
    simp only [sumN]
    have e : ((n + 1 : Nat) : Int) * b = n * b + b := by push_cast; rw [Int.add_mul]; omega
    rw [e]
    omega
def okT (t : List Int) : Prop := ∀ n ∈ t, -1000000000 ≤ n ∧ n ≤ 1000000000
theorem at0_bound {t : List Int} (h : okT t) (i : Nat) : -1000000000 ≤ at0 t i ∧ at0 t i ≤ 1000000000 := by
  unfold at0
  by_cases hi : i < t.length
  · rw [getD_get hi]; exact h _ (List.getElem_mem hi)
  · simp [List.getD, List.getElem?_eq_none (by omega : t.length ≤ i)]
theorem gS_bound {t : List Int} (h : okT t) (c r i j : Nat) (hi : i ≤ 144) : -144000000000 ≤ gS t c r i j ∧ gS t c r i j ≤ 144000000000 := by
  have hb := at0_bound h
  have key : ∀ f : Nat → Int, (∀ x, f x = at0 t x ∨ f x = 0) → -144000000000 ≤ sumN f i ∧ sumN f i ≤ 144000000000 := by
    intro f hf
    have h1 := sumN_bound (f := f) (b := 1000000000) (by omega) (fun x => by
      have := hb x
      rcases hf x with h2 | h2 <;> omega) i
    omega
  unfold gS
  split
  · exact key _ fun x => by split <;> simp
  · split
    · exact key _ fun x => by split <;> simp
    · exact key _ fun x => .inl rfl
theorem set_range {g : Nat → Int} {n k : Nat} {v : Int} : ((List.range n).map g).set k v = (List.range n).map fun j => if j = k then v else g j := by
  apply List.ext_getElem
  · simp
  · intro i h1 h2
    simp only [List.getElem_set, List.getElem_map, List.getElem_range]
    by_cases h : k = i
    · subst h; simp
    · rw [if_neg h, if_neg (fun e => h e.symm)]
theorem map_set {l : List Int} {k : Nat} {v : Int} : (l.map vI).set k (vI v) = (l.set k v).map vI := (List.map_set).symm
/-- one number more -/
theorem pS_step {t : List Int} {c r i : Nat} (hc : 0 < c) (hi : i < r * c) (x : Int) (hx : at0 t i = x) :
    (((pS t c r i).set (i / c) (gS t c r i (i / c) + x)).set (r + i % c) (gS t c r i (r + i % c) + x)).set (r + c) (gS t c r i (r + c) + x) = pS t c r (i + 1) := by
  have h1 : i / c < r := by rw [Nat.div_lt_iff_lt_mul hc]; exact hi
  have h2 : i % c < c := Nat.mod_lt _ hc
  unfold pS
  rw [set_range, set_range, set_range]
  apply List.map_congr_left
  intro j hj
  have hj : j < r + c + 1 := by simpa using hj
  by_cases e3 : j = r + c
  · subst e3
    rw [if_pos rfl]
    unfold gS
    rw [if_neg (by omega), if_neg (by omega), if_neg (by omega), if_neg (by omega)]
    simp only [sumN, hx]
  rw [if_neg e3]
  by_cases e2 : j = r + i % c
  · subst e2
    rw [if_pos rfl]
    unfold gS
    rw [if_neg (by omega), if_pos (by omega), if_neg (by omega), if_pos (by omega)]
    simp only [sumN, show r + i % c - r = i % c by omega, if_true, hx]
  rw [if_neg e2]
  by_cases e1 : j = i / c
  · subst e1
    rw [if_pos rfl]
    unfold gS
    rw [if_pos h1, if_pos h1]
    simp only [sumN, if_true, hx]
  rw [if_neg e1]
  unfold gS
  by_cases hjr : j < r
  · rw [if_pos hjr, if_pos hjr]
    simp only [sumN]
    rw [if_neg (fun e => e1 e.symm)]; omega
  · rw [if_neg hjr, if_neg hjr, if_pos (by omega), if_pos (by omega)]
    simp only [sumN]
    rw [if_neg (by omega)]; omega
theorem pS_get {t : List Int} {c r i j : Nat} (h : j < (pS t c r i).length) : (pS t c r i)[j] = gS t c r i j := by simp [pS]
theorem c21 (t : List Int) (c r : Nat) (hc : 1 ≤ c ∧ c ≤ 12) (hr : r ≤ 12) (hl : t.length = r * c) (ht : okT t) : Spc Try.prog 21 [vI c, vIs t] [] (vIs (sumsL t c r)) [] := by
  have hrc : r * c ≤ 144 := Nat.le_trans (Nat.mul_le_mul hr hc.2) (by decide)
  refine spec_of_ir fn21 mixm (by simp) fun e _ hst => W_start ?_
  unfold ir21
  have hq : IntKind.i64.wrap (((r * c : Nat) : Int).tdiv c) = r := by
    rw [Int.tdiv_eq_ediv_of_nonneg (by omega), ← Int.natCast_ediv, Nat.mul_div_cancel _ (by omega)]
    exact IntWalk.i64_in _ (by omega)
  have hw1 : IntKind.i64.wrap ((r : Int) + c) = ((r + c : Nat) : Int) := by rw [IntWalk.i64_in _ (by omega)]; omega
  have hw2 : IntKind.i64.wrap (((r + c : Nat) : Int) + 1) = ((r + c + 1 : Nat) : Int) := by rw [IntWalk.i64_in _ (by omega)]; omega
  simp only [tl, tl2, isCallR, entX, argFr, ret, retI, retB, intT, unT, endR, ressR, resR, tupT, bslR, boxR, lenAll, ↓reduceIte, Nat.reduceEqDiff, Nat.reduceAdd, Nat.reduceMul, Nat.reduceLT, Nat.reduceLeDiff, reduceCtorEq, Int.reduceLE, Int.reduceLT, ne_eq, Int.reduceEq, not_false_eq_true, decide_true, decide_false, Int.reduceToNat, tl3, Int.reduceBNe, Int.reduceBEq, hl, hq, hw1, hw2, Int.toNat_natCast]
  refine ⟨by omega, by omega, ?_⟩
  refine W_loop mixm (α := Nat) (fun i => i ≤ r * c) (fun i => [(0, vI c), (5, vI r), (6, .asl 1 (r + c + 1)), (18, vIs t), (19, vI ((r * c : Nat) : Int)), (20, vI i)]) (fun i => [(1, .arr 1 ((pS t c r i).map vI) false)]) (fun i => r * c - i) 0 (by omega) ?_ fun i hi => ?_
  · refine .of [(1, some 12304)] [] rfl (by rw [hst]; rfl) ?_ ?_
    · simp only [ltSto, ltO2, ltO1, ltAs, ltA, ltC, ltCs, ltT, ltFr, ltS, wrOk, wrO, TL.get, hasFr, ↓reduceIte, Nat.reduceEqDiff, reduceCtorEq, Option.getD_some, Option.isSome_some, List.length_map, List.length_append, List.length_cons, List.length_nil, List.append_nil, List.mem_singleton, List.mem_cons, List.not_mem_nil, and_true, true_and, and_self, imp_self, forall_const, false_implies, implies_true, true_implies, or_false, Bool.false_eq_true, Bool.true_eq_false, ImXs_nil, true_or, or_true, false_or, false_and, and_false]
      have : List.replicate (r + c + 1) (T.v (.int .i64 0)) = (pS t c r 0).map vI := by
        apply List.ext_getElem
        · simp [pS]
        · intro i h1 h2
          simp [pS, gS, sumN]
      rw [this]
      exact ltXs_ints _
    · simp only [ltSto, ltO2, ltO1, ltAs, ltA, ltC, ltCs, ltT, ltFr, ltS, wrOk, wrO, TL.get, hasFr, ↓reduceIte, Nat.reduceEqDiff, reduceCtorEq, Option.getD_some, Option.isSome_some, List.length_map, List.length_append, List.length_cons, List.length_nil, List.append_nil, List.mem_singleton, List.mem_cons, List.not_mem_nil, and_true, true_and, and_self, imp_self, forall_const, false_implies, implies_true, true_implies, or_false, Bool.false_eq_true, Bool.true_eq_false, ImXs_nil, true_or, or_true, false_or, false_and, and_false]; rfl
  simp only [tl, tl2, isCallR, entX, argFr, ret, retI, retB, intT, unT, endR, ressR, resR, tupT, bslR, boxR, lenAll, ↓reduceIte, Nat.reduceEqDiff, Nat.reduceAdd, Nat.reduceMul, Nat.reduceLT, Nat.reduceLeDiff, reduceCtorEq, Int.reduceLE, Int.reduceLT, ne_eq, Int.reduceEq, not_false_eq_true, decide_true, decide_false, Int.reduceToNat, tl3, Int.reduceBNe, Int.reduceBEq, decide_eq_true_eq, decide_eq_false_iff_not]
  refine ⟨fun h3 => ?_, fun h3 => ?_⟩
  · have h2 : i < t.length := by omega
    have hx := ht _ (List.getElem_mem h2)
    have hat : at0 t i = t[i] := getD_get h2
    have h1 : i / c < r := by rw [Nat.div_lt_iff_lt_mul (by omega)]; omega
    have h4 : i % c < c := Nat.mod_lt _ (by omega)
    have hd1 : IntKind.i64.wrap ((i : Int).tdiv c) = ((i / c : Nat) : Int) := by
      rw [Int.tdiv_eq_ediv_of_nonneg (by omega), ← Int.natCast_ediv]
      generalize i / c = q at h1
      exact IntWalk.i64_in _ (by omega)
    have hd2 : IntKind.i64.wrap ((r : Int) + (i : Int).tmod c) = ((r + i % c : Nat) : Int) := by
      rw [Int.tmod_eq_emod_of_nonneg (by omega), ← Int.natCast_emod, IntWalk.i64_in _ (by omega)]
      omega
    have hb := fun j => gS_bound ht c r i j (by omega)
    have hv : ∀ j, IntKind.i64.wrap (gS t c r i j + t[i]) = gS t c r i j + t[i] := fun j => IntWalk.i64_in _ (by have := hb j; omega)
    have e1 : ((pS t c r i).map vI).getD (i / c) .junk = vI (gS t c r i (i / c)) := by rw [getD_ints (by rw [pS_len]; omega), pS_get]
    have e2 : (((pS t c r i).set (i / c) (gS t c r i (i / c) + t[i])).map vI).getD (r + i % c) .junk = vI (gS t c r i (r + i % c)) := by
      rw [getD_ints (by rw [List.length_set, pS_len]; omega), List.getElem_set_ne (by omega), pS_get]
    have e3 : ((((pS t c r i).set (i / c) (gS t c r i (i / c) + t[i])).set (r + i % c) (gS t c r i (r + i % c) + t[i])).map vI).getD (r + c) .junk = vI (gS t c r i (r + c)) := by
      rw [getD_ints (by rw [List.length_set, List.length_set, pS_len]; omega), List.getElem_set_ne (by omega), List.getElem_set_ne (by omega), pS_get]
    simp only [tl, tl2, isCallR, entX, argFr, ret, retI, retB, intT, unT, endR, ressR, resR, tupT, bslR, boxR, lenAll, ↓reduceIte, Nat.reduceEqDiff, Nat.reduceAdd, Nat.reduceMul, Nat.reduceLT, Nat.reduceLeDiff, reduceCtorEq, Int.reduceLE, Int.reduceLT, ne_eq, Int.reduceEq, not_false_eq_true, decide_true, decide_false, Int.reduceToNat, tl3, Int.reduceBNe, Int.reduceBEq, Int.toNat_natCast, getD_ints h2, hw1, hd1, hd2, e1, e2, e3, hv, map_set, List.length_set, pS_len]
    rw [pS_step (by omega) (by omega) _ hat]
    have h5 : (0 : Int) ≤ ((i / c : Nat) : Int) := Int.natCast_nonneg _
    have h6 : ((i / c : Nat) : Int) < r := by exact_mod_cast h1
    refine ⟨by omega, by omega, by omega, by omega, by omega, by omega, by omega, by omega, by omega, by omega, by omega, by omega, by omega, by omega, by omega, i + 1, by omega, by omega, .of [(1, some 1)] [] rfl (by rw [hst]; rfl) ?_ ?_⟩
    · simp only [ltSto, ltO2, ltO1, ltAs, ltA, ltC, ltCs, ltT, ltFr, ltS, wrOk, wrO, TL.get, hasFr, ↓reduceIte, Nat.reduceEqDiff, reduceCtorEq, Option.getD_some, Option.isSome_some, List.length_map, List.length_append, List.length_cons, List.length_nil, List.append_nil, List.mem_singleton, List.mem_cons, List.not_mem_nil, and_true, true_and, and_self, imp_self, forall_const, false_implies, implies_true, true_implies, or_false, Bool.false_eq_true, Bool.true_eq_false, ImXs_nil, true_or, or_true, false_or, false_and, and_false]
      exact ltXs_ints _
    · simp only [ltSto, ltO2, ltO1, ltAs, ltA, ltC, ltCs, ltT, ltFr, ltS, wrOk, wrO, TL.get, hasFr, ↓reduceIte, Nat.reduceEqDiff, reduceCtorEq, Option.getD_some, Option.isSome_some, List.length_map, List.length_append, List.length_cons, List.length_nil, List.append_nil, List.mem_singleton, List.mem_cons, List.not_mem_nil, and_true, true_and, and_self, imp_self, forall_const, false_implies, implies_true, true_implies, or_false, Bool.false_eq_true, Bool.true_eq_false, ImXs_nil, true_or, or_true, false_or, false_and, and_false]
      rw [IntWalk.i64_in _ (by omega)]
      rfl
  · have h2 : i = r * c := by omega
    subst h2
    refine .of [] [1] rfl rfl trivial ?_
    simp only [ltSto, ltO2, ltO1, ltAs, ltA, ltC, ltCs, ltT, ltFr, ltS, wrOk, wrO, TL.get, hasFr, ↓reduceIte, Nat.reduceEqDiff, reduceCtorEq, Option.getD_some, Option.isSome_some, List.length_map, List.length_append, List.length_cons, List.length_nil, List.append_nil, List.mem_singleton, List.mem_cons, List.not_mem_nil, and_true, true_and, and_self, imp_self, forall_const, false_implies, implies_true, true_implies, or_false, Bool.false_eq_true, Bool.true_eq_false, ImXs_nil, true_or, or_true, false_or, false_and, and_false, sumsL, hl, pS_len]
    exact ints_v _
end Go.Proofs

