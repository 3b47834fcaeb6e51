import Derived.Test.YtnejebkdlofdoaaBase
set_option linter.unusedSimpArgs false
set_option linter.unusedVariables false
namespace Go.Proofs
open Go Go.TL
/-- a number below ten -/
def dig (n : Int) : ByteArray := ⟨#[u8 (48 + n)]⟩
theorem c_ref24_Decimal1 (n : Int) (h : 0 ≤ n ∧ n < 10) : Spc Try.prog F_ref24_Decimal [vI n] [] (vS (dig n)) [] := by
  have h1 : decide (n < 0) = false := by simp; omega
  have h2 : decide (n < 10) = true := by simp; omega
  have hw : IntKind.i64.wrap (48 + n) = 48 + n := IntWalk.i64_in _ (by omega)
  refine spec_of_ir fn_ref24_Decimal mixm (by simp) fun e _ hst => W_start ?_
  unfold ir_ref24_Decimal
  simp only [tl, tl2, tl4, ↓un_u, isCallR, entX, argFr, ret, retI, retB, intT, unT, endR, ressR, resR, tupT, bslR, boxR, lenAll, ↓reduceIte, Nat.reduceEqDiff, Nat.reduceAdd, Nat.reduceMul, Nat.reduceLT, Nat.reduceLeDiff, reduceCtorEq, Int.reduceLE, Int.reduceLT, ne_eq, Int.reduceEq, not_false_eq_true, decide_true, decide_false, Int.reduceToNat, tl3, Int.reduceBNe, Int.reduceBEq, rmK, rm1, not_true_eq_false, h1, h2, hw]
  simp only [byteT_u8]
  refine ⟨fun y hy => by rw [List.mem_singleton.1 hy]; rfl, ?_⟩
  rw [unbyte_byteT]
  refine .of [] [] rfl (by first | rfl | (rw [hst]; rfl)) ?_ ?_
  all_goals (try exact clA)
def nmL : List ByteArray := [⟨#[97, 110, 110]⟩, ⟨#[98, 111, 98]⟩, ⟨#[99, 121, 100]⟩, ⟨#[100, 97, 110]⟩, ⟨#[101, 118, 101]⟩]
theorem c_made_Name (l : List UInt8) (a : Nat) (hl : l.length ≤ 400) (ha : a ≤ l.length) : Spc Try.prog F_made_Name [.ptr 0 1 0 0] [(0, oC l a)] (vS (nmL.getD (nx l a 5).1.toNat ⟨#[]⟩)) [(0, oC l (nx l a 5).2)] := by
  have hr := nx_range l a 5 (by omega)
  obtain ⟨m, hm⟩ := Int.eq_ofNat_of_zero_le hr.1
  refine spec_of_ir fn_made_Name mixm (by simp) fun e _ hst => W_start ?_
  unfold ir_made_Name
  simp only [tl, tl2, tl4, ↓un_u, isCallR, entX, argFr, ret, retI, retB, intT, unT, endR, ressR, resR, tupT, bslR, boxR, lenAll, ↓reduceIte, Nat.reduceEqDiff, Nat.reduceAdd, Nat.reduceMul, Nat.reduceLT, Nat.reduceLeDiff, reduceCtorEq, Int.reduceLE, Int.reduceLT, ne_eq, Int.reduceEq, not_false_eq_true, decide_true, decide_false, Int.reduceToNat, tl3, Int.reduceBNe, Int.reduceBEq, rmK, rm1, not_true_eq_false]
  refine C1.draw 0 l a _ (c_draw_Codes_Next l a 5 hl ha (by omega)) rfl rfl rfl ?_
  rw [hm] at hr ⊢
  simp only [tl, tl2, tl4, ↓un_u, isCallR, entX, argFr, ret, retI, retB, intT, unT, endR, ressR, resR, tupT, bslR, boxR, lenAll, ↓reduceIte, Nat.reduceEqDiff, Nat.reduceAdd, Nat.reduceMul, Nat.reduceLT, Nat.reduceLeDiff, reduceCtorEq, Int.reduceLE, Int.reduceLT, ne_eq, Int.reduceEq, not_false_eq_true, decide_true, decide_false, Int.reduceToNat, tl3, Int.reduceBNe, Int.reduceBEq, rmK, rm1, not_true_eq_false]
  have h5 : m < 5 := by omega
  refine ⟨by omega, by omega, ?_⟩
  have hm5 : m = 0 ∨ m = 1 ∨ m = 2 ∨ m = 3 ∨ m = 4 := by omega
  have hend : vS (nmL.getD ((m : Nat) : Int).toNat ⟨#[]⟩) = ([vS ⟨#[97, 110, 110]⟩, vS ⟨#[98, 111, 98]⟩, vS ⟨#[99, 121, 100]⟩, vS ⟨#[100, 97, 110]⟩, vS ⟨#[101, 118, 101]⟩].getD ((m : Nat) : Int).toNat T.junk).cells.getD 0 T.junk := by
    rcases hm5 with h | h | h | h | h <;> subst h <;> rfl
  rw [← hend]
  refine .of [(0, some 0)] [] rfl (by first | rfl | (rw [hst]; rfl)) ?_ ?_
  all_goals (try exact clA)
theorem nm_name (k : Nat) (h : k < 5) : 3 ≤ (nmL.getD k ⟨#[]⟩).size ∧ (nmL.getD k ⟨#[]⟩).size ≤ 3 := by
  have hk : k = 0 ∨ k = 1 ∨ k = 2 ∨ k = 3 ∨ k = 4 := by omega
  rcases hk with h | h | h | h | h <;> subst h <;> decide

end Go.Proofs

