import Derived.Test.YtoamapbbjffldaaE
set_option linter.unusedSimpArgs false
set_option linter.unusedVariables false
namespace Go.Proofs
open Go Go.TL
/-! ltSto, ltO2, ltO1, ltAs, ltA, ltC, ltCs, ltT, ltFr, ltS, wrOk, wrO, TL.get, hasFr, ↓reduceIte, Nat.reduceEqDiff, reduceCtorEq, Option.getD_some, Option.isSome_some, List.length_map, List.length_append, List.length_cons, List.length_nil, List.append_nil, List.mem_singleton, List.mem_cons, List.not_mem_nil, and_true, true_and, and_self, imp_self, forall_const, false_implies, implies_true, true_implies, or_false, Bool.false_eq_true, Bool.true_eq_false, ImXs_nil, true_or, or_true, false_or, false_and, and_false, rmK, rm1# Check of the reference -/
def errE (l : List Ent) (i : Nat) (x : Ent) : Int :=
  if (x.num != (i : Int) + 1) = true then 48
  else if ((x.before != lastI (l.take i)) || (x.link != linkI x)) = true then 47
  else aboutI (l.take i) x
def feI (l : List Ent) : Nat → Int
  | 0 => 0
  | n + 1 => if feI l n = 0 then (match l[n]? with | some x => errE l n x | none => 0) else feI l n
def chkI (l : List Ent) : Int := if l.length > 60 then 1 else feI l l.length
theorem fe_stays {l : List Ent} {i : Nat} (h : feI l i ≠ 0) : ∀ n, i ≤ n → feI l n = feI l i
  | n, hn => by
    induction n with
    | zero =>
      obtain rfl : i = 0 := by omega
      rfl
    | succ n ih =>
      by_cases e : i = n + 1
      · rw [e]
      · have h1 := ih (by omega)
        simp only [feI]
        rw [if_neg (by rw [h1]; exact h), h1]
theorem fe_next {l : List Ent} {i : Nat} (h : i < l.length) (h0 : feI l i = 0) : feI l (i + 1) = errE l i l[i] := by
  simp only [feI]
  rw [if_pos h0, List.getElem?_eq_getElem h]
def small (l : List Ent) : Prop := ∀ x ∈ l, x.text.size ≤ 1000000000
theorem last_take {l : List Ent} {i : Nat} (h : i < l.length) : lastI (l.take (i + 1)) = l[i].link := by
  unfold lastI
  rw [List.take_succ_eq_append_getElem h, List.getLast?_concat]
theorem c_ref38_Check (l : List Ent) (hl : l.length < 4611686018427387904) (hs : small l) : Spc Try.prog F_ref38_Check [vEs l] [] (vI (chkI l)) [] := by
  refine spec_of_ir fn_ref38_Check mixm (by simp) fun e _ hst => W_start ?_
  unfold ir_ref38_Check
  simp only [tl, tl2, isCallR, entX, argFr, ret, retI, retB, intT, unT, endR, ressR, resR, tupT, bslR, boxR, lenAll, ↓reduceIte, Nat.reduceEqDiff, Nat.reduceAdd, Nat.reduceMul, Nat.reduceLT, Nat.reduceLeDiff, reduceCtorEq, Int.reduceLE, Int.reduceLT, ne_eq, Int.reduceEq, not_false_eq_true, decide_true, decide_false, Int.reduceToNat, tl3, Int.reduceBNe, Int.reduceBEq, rmK, rm1, not_true_eq_false, decide_eq_true_eq, decide_eq_false_iff_not]
  refine ⟨fun h1 => ?_, fun h1 => ?_⟩
  · rw [chkI, if_pos (by omega)]
    exact .imR rfl rfl
  rw [chkI, if_neg (by omega)]
  refine W_loop mixm (α := Nat) (fun i => i ≤ l.length ∧ feI l i = 0) (fun i => [(0, vEs l), (3, vU (lastI (l.take i))), (10, vEs l), (11, vI l.length), (12, vI i)]) (fun _ => []) (fun i => l.length - i) 0 ⟨by omega, rfl⟩ ?_ fun i hi => ?_
  · refine .of [] [] rfl (by rw [hst]; rfl) trivial ?_
    simp only [ltSto, ltO2, ltO1, ltAs, ltA, ltC, ltCs, ltT, ltFr, ltS, wrOk, wrO, TL.get, hasFr, ↓reduceIte, Nat.reduceEqDiff, reduceCtorEq, Option.getD_some, Option.isSome_some, List.length_map, List.length_append, List.length_cons, List.length_nil, List.append_nil, List.mem_singleton, List.mem_cons, List.not_mem_nil, and_true, true_and, and_self, imp_self, forall_const, false_implies, implies_true, true_implies, or_false, Bool.false_eq_true, Bool.true_eq_false, ImXs_nil, true_or, or_true, false_or, false_and, and_false, rmK, rm1]
    exact ⟨rfl, rfl⟩
  simp only [tl, tl2, isCallR, entX, argFr, ret, retI, retB, intT, unT, endR, ressR, resR, tupT, bslR, boxR, lenAll, ↓reduceIte, Nat.reduceEqDiff, Nat.reduceAdd, Nat.reduceMul, Nat.reduceLT, Nat.reduceLeDiff, reduceCtorEq, Int.reduceLE, Int.reduceLT, ne_eq, Int.reduceEq, not_false_eq_true, decide_true, decide_false, Int.reduceToNat, tl3, Int.reduceBNe, Int.reduceBEq, rmK, rm1, not_true_eq_false, decide_eq_true_eq, decide_eq_false_iff_not]
  refine ⟨fun h => ?_, fun h => ?_⟩
  · have h2 : i < l.length := by omega
    have hfn := fe_next h2 hi.2
    have hxs := hs _ (List.getElem_mem h2)
    have hlt := last_take h2
    simp only [tl, tl2, isCallR, entX, argFr, ret, retI, retB, intT, unT, endR, ressR, resR, tupT, bslR, boxR, lenAll, ↓reduceIte, Nat.reduceEqDiff, Nat.reduceAdd, Nat.reduceMul, Nat.reduceLT, Nat.reduceLeDiff, reduceCtorEq, Int.reduceLE, Int.reduceLT, ne_eq, Int.reduceEq, not_false_eq_true, decide_true, decide_false, Int.reduceToNat, tl3, Int.reduceBNe, Int.reduceBEq, rmK, rm1, not_true_eq_false, Int.toNat_natCast, getD_es h2, entT]
    have hstay := fe_stays (l := l) (i := i + 1)
    generalize l[i] = x at *
    have hw : IntKind.i64.wrap ((i : Int) + 1) = (i : Int) + 1 := IntWalk.i64_in _ (by omega)
    simp only [hw]
    have hend : ∀ v : Int, v ≠ 0 → errE l i x = v → feI l l.length = v := fun v hv he => by
      rw [he] at hfn
      rw [hstay (by rw [hfn]; exact hv) l.length (by omega), hfn]
    refine ⟨by omega, fun h3 => ?_, fun h3 => ?_⟩
    · rw [hend 48 (by decide) (by rw [errE, if_pos h3])]
      exact .imR rfl rfl
    refine C2.im (fun _ => c_ref38_Link x hxs) (fun _ => rfl) (by rfl) ?_
    simp only [tl, tl2, isCallR, entX, argFr, ret, retI, retB, intT, unT, endR, ressR, resR, tupT, bslR, boxR, lenAll, ↓reduceIte, Nat.reduceEqDiff, Nat.reduceAdd, Nat.reduceMul, Nat.reduceLT, Nat.reduceLeDiff, reduceCtorEq, Int.reduceLE, Int.reduceLT, ne_eq, Int.reduceEq, not_false_eq_true, decide_true, decide_false, Int.reduceToNat, tl3, Int.reduceBNe, Int.reduceBEq, rmK, rm1, not_true_eq_false]
    refine ⟨by kernel_rfl, fun h4 => ?_, fun h4 => ?_⟩
    · rw [hend 47 (by decide) (by rw [errE, if_neg (by rw [h3]; simp), if_pos h4])]
      exact .imR rfl rfl
    simp only [cut_map, cut_to]
    refine ⟨by omega, ?_⟩
    refine C1.im (c_ref38_about (l.take i) x (by rw [List.length_take]; omega)) rfl (by rfl) ?_
    have hab : errE l i x = aboutI (l.take i) x := by rw [errE, if_neg (by rw [h3]; simp), if_neg (by rw [h4]; simp)]
    simp only [tl, tl2, isCallR, entX, argFr, ret, retI, retB, intT, unT, endR, ressR, resR, tupT, bslR, boxR, lenAll, ↓reduceIte, Nat.reduceEqDiff, Nat.reduceAdd, Nat.reduceMul, Nat.reduceLT, Nat.reduceLeDiff, reduceCtorEq, Int.reduceLE, Int.reduceLT, ne_eq, Int.reduceEq, not_false_eq_true, decide_true, decide_false, Int.reduceToNat, tl3, Int.reduceBNe, Int.reduceBEq, rmK, rm1, not_true_eq_false, bne_iff_ne, bne_eq_false_iff_eq]
    refine ⟨by kernel_rfl, fun h5 => ?_, fun h5 => ?_⟩
    · rw [hend _ h5 hab]
      exact .imR rfl rfl
    · refine ⟨i + 1, ⟨by omega, by rw [hfn, hab, h5]⟩, by omega, .of [] [] rfl (by rw [hst]; rfl) trivial ?_⟩
      simp only [ltSto, ltO2, ltO1, ltAs, ltA, ltC, ltCs, ltT, ltFr, ltS, wrOk, wrO, TL.get, hasFr, ↓reduceIte, Nat.reduceEqDiff, reduceCtorEq, Option.getD_some, Option.isSome_some, List.length_map, List.length_append, List.length_cons, List.length_nil, List.append_nil, List.mem_singleton, List.mem_cons, List.not_mem_nil, and_true, true_and, and_self, imp_self, forall_const, false_implies, implies_true, true_implies, or_false, Bool.false_eq_true, Bool.true_eq_false, ImXs_nil, true_or, or_true, false_or, false_and, and_false, rmK, rm1, hlt]
      rw [IntWalk.i64_in _ (by omega)]
      rfl
  · have h2 : i = l.length := by omega
    rw [← h2, hi.2]
    exact .imR rfl rfl
end Go.Proofs

