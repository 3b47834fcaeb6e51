import Derived.Test.YtnejebkdlofdoaaN35
set_option linter.unusedSimpArgs false
set_option linter.unusedVariables false
namespace Go.Proofs
open Go Go.TL
/-! ltSto, ltO2, ltO1, ltAs, ltA, ltC, ltC0, ltC0s, ltCs, ltT, ltFr, ltS, wrOk, wrO, TL.get, hasFr, ↓reduceIte, Nat.reduceEqDiff, reduceCtorEq, Option.getD_some, Option.isSome_some, List.length_map, List.length_append, List.length_cons, List.length_nil, List.append_nil, List.mem_singleton, List.mem_cons, List.not_mem_nil, and_true, true_and, and_self, imp_self, forall_const, false_implies, implies_true, true_implies, or_false, Bool.false_eq_true, Bool.true_eq_false, ImXs_nil, true_or, or_true, false_or, false_and, and_false, rmK, rm1# journals of outputs -/
def upd (l : List Out) (x : Out) : List Out := if x.num = (l.length : Int) + 1 then l ++ [x] else l.set (x.num - 1).toNat x
def okN : List Out → List Out → Prop
  | [], _ => True
  | x :: xs, l => validO x = true ∧ x.num ≤ (l.length : Int) + 1 ∧ okN xs (upd l x)
theorem okN_snoc : ∀ (xs l : List Out) (x : Out), okN (xs ++ [x]) l ↔ okN xs l ∧ validO x = true ∧ x.num ≤ ((xs.foldl upd l).length : Int) + 1
  | [], l, x => by simp [okN]
  | y :: xs, l, x => by
    simp only [List.cons_append, okN, List.foldl_cons]
    rw [okN_snoc xs (upd l y) x]
    simp only [and_assoc]
theorem okN_valid : ∀ (xs l : List Out), okN xs l → ∀ x ∈ xs, validO x = true
  | [], _, _ => by simp
  | y :: xs, l, h => by
    intro x hx
    rcases List.mem_cons.1 hx with rfl | hx
    · exact h.1
    · exact okN_valid xs _ h.2.2 x hx
theorem outsL_enc : ∀ (xs l : List Out), okN xs l → outsL (xs.map encB) l = (0, xs.foldl upd l)
  | [], l, _ => rfl
  | x :: xs, l, h => by
    rw [List.map_cons, outsL, decP_enc h.1]
    dsimp only
    rw [if_neg (by have := h.2.1; omega), List.foldl_cons]
    have := outsL_enc xs (upd l x) h.2.2
    rw [← this]
    unfold upd
    split <;> rfl
abbrev recs (xs : List Out) : List (List UInt8) := xs.map encB
theorem small_recs {xs l : List Out} (h : okN xs l) : small (recs xs) := by
  intro b hb
  obtain ⟨x, hx, rfl⟩ := List.mem_map.1 hb
  have := encB_length (okN_valid xs l h x hx)
  omega
theorem whole_length : ∀ (ls : List (List UInt8)), (∀ l ∈ ls, l.length ≤ 3000) → (whole ls).length ≤ ls.length * 3008
  | [], _ => by simp [whole]
  | l :: ls, h => by
    have h1 := whole_length ls fun y hy => h y (by simp [hy])
    have h2 := h l (by simp)
    have h3 : (whole (l :: ls)).length = (frame l).length + (whole ls).length := by simp [whole]
    rw [h3, frame_length, List.length_cons]
    omega
theorem recs_length {xs l : List Out} (h : okN xs l) : (whole (recs xs)).length ≤ xs.length * 3008 := by
  have := whole_length (recs xs) fun b hb => by
    obtain ⟨x, hx, rfl⟩ := List.mem_map.1 hb
    exact encB_length (okN_valid xs l h x hx)
  rwa [List.length_map] at this
theorem whole_snoc (xs : List Out) (x : Out) : whole (recs xs) ++ frame (encB x) = whole (recs (xs ++ [x])) := by simp [whole]
theorem put_any {xs : List Out} (h : okN xs []) (hl : xs.length ≤ 40) {x : Out} (hv : validO x = true) :
    putS (whole (recs xs)) [] x = if x.num > ((xs.foldl upd []).length : Int) + 1 then .tup [vF (whole (recs xs)) [], vI 48] else .tup [vF (whole (recs (xs ++ [x]))) [], vI 0] := by
  have hs := small_recs h
  have hr := recs_length h
  have hx := encB_length hv
  have hee := errOf_whole (recs xs) hs (encB x) 0 (by omega) (by omega)
  have ho := outsL_enc xs [] h
  have hp : putE (whole (recs xs)) [] x = if x.num > ((xs.foldl upd []).length : Int) + 1 then 48 else 0 := by
    unfold putE
    rw [if_neg (by rw [hv]; simp), List.length_nil, if_neg (by rw [hee]; simp), readB_whole' _ hs, ho, if_neg (by simp)]
  unfold putS
  rw [hp]
  split
  · rw [if_neg (by decide)]
  · rw [if_pos rfl, List.nil_append, whole_snoc]
theorem load_any {xs : List Out} (h : okN xs []) : loadT (whole (recs xs)) = .tup [vF (whole (recs xs)) [], vOs (xs.foldl upd []), vI 0] := by
  unfold loadT
  rw [readB_whole' _ (small_recs h), outsL_enc xs [] h, if_pos rfl, List.take_length]
def w1 : Out := ⟨1, ⟨#[112]⟩, ⟨#[97, 110, 110]⟩, 0, ⟨#[]⟩, 1, []⟩
def w2 : Out := ⟨1, ⟨#[112]⟩, ⟨#[97, 110, 110]⟩, 0, ⟨#[]⟩, 4, []⟩
theorem c_law35_awake : Spc Try.prog F_law35_awake [] [] (vB true) [] := by
  have v1 : validO w1 = true := by kernel_rfl
  have v2 : validO w2 = true := by kernel_rfl
  have k1 : okN [w1] [] := ⟨v1, by decide, trivial⟩
  have k2 : okN [w1, w2] [] := ⟨v1, by decide, v2, by decide, trivial⟩
  have c1 := c_queue_Put [] [] w1 (by decide) (by simp) (by simp)
  have c2 := c_queue_Put (whole (recs [w1])) [] w2 (by decide) (by have := recs_length k1; simp at this ⊢; omega) (by simp)
  have c3 := c_queue_Load (whole (recs [w1, w2])) [] (by have := recs_length k2; simp at this ⊢; omega) (by simp)
  have e1 := put_any (xs := []) trivial (by simp) v1
  have e2 := put_any (xs := [w1]) k1 (by simp) v2
  have e3 := load_any k2
  have f2 : [w1, w2].foldl upd [] = [w2] := by kernel_rfl
  rw [if_neg (by decide)] at e1
  rw [if_neg (by decide)] at e2
  rw [f2] at e3
  rw [show whole (recs []) = [] from rfl] at e1
  rw [e1] at c1
  rw [e2] at c2
  rw [e3] at c3
  rw [show [] ++ [w1] = [w1] from rfl] at c1
  rw [show [w1] ++ [w2] = [w1, w2] from rfl] at c2
  generalize whole (recs [w1]) = b1 at *
  generalize whole (recs [w1, w2]) = b2 at *
  refine spec_of_ir fn_law35_awake mixm (by simp) fun e _ hst => W_start ?_
  unfold ir_law35_awake
  simp only [tl, tl2, tl4, ↓un_u, isCallR, entX, argFr, ret, retI, retB, intT, unT, endR, ressR, resR, tupT, bslR, boxR, lenAll, ↓reduceIte, Nat.reduceEqDiff, Nat.reduceAdd, Nat.reduceMul, Nat.reduceLT, Nat.reduceLeDiff, reduceCtorEq, Int.reduceLE, Int.reduceLT, ne_eq, Int.reduceEq, not_false_eq_true, decide_true, decide_false, Int.reduceToNat, tl3, Int.reduceBNe, Int.reduceBEq, rmK, rm1, not_true_eq_false]
  refine C1.shut [] c1 ?_ (by rfl) (by rfl) ?_
  · all_goals (try exact clA)
  simp only [tl, tl2, tl4, ↓un_u, isCallR, entX, argFr, ret, retI, retB, intT, unT, endR, ressR, resR, tupT, bslR, boxR, lenAll, ↓reduceIte, Nat.reduceEqDiff, Nat.reduceAdd, Nat.reduceMul, Nat.reduceLT, Nat.reduceLeDiff, reduceCtorEq, Int.reduceLE, Int.reduceLT, ne_eq, Int.reduceEq, not_false_eq_true, decide_true, decide_false, Int.reduceToNat, tl3, Int.reduceBNe, Int.reduceBEq, rmK, rm1, not_true_eq_false]
  refine C1.shut [] c2 ?_ (by rfl) (by rfl) ?_
  · all_goals (try exact clA)
  simp only [tl, tl2, tl4, ↓un_u, isCallR, entX, argFr, ret, retI, retB, intT, unT, endR, ressR, resR, tupT, bslR, boxR, lenAll, ↓reduceIte, Nat.reduceEqDiff, Nat.reduceAdd, Nat.reduceMul, Nat.reduceLT, Nat.reduceLeDiff, reduceCtorEq, Int.reduceLE, Int.reduceLT, ne_eq, Int.reduceEq, not_false_eq_true, decide_true, decide_false, Int.reduceToNat, tl3, Int.reduceBNe, Int.reduceBEq, rmK, rm1, not_true_eq_false]
  refine C1.shut [] c3 ?_ (by rfl) (by rfl) ?_
  · all_goals (try exact clA)
  simp only [tl, tl2, tl4, ↓un_u, isCallR, entX, argFr, ret, retI, retB, intT, unT, endR, ressR, resR, tupT, bslR, boxR, lenAll, ↓reduceIte, Nat.reduceEqDiff, Nat.reduceAdd, Nat.reduceMul, Nat.reduceLT, Nat.reduceLeDiff, reduceCtorEq, Int.reduceLE, Int.reduceLT, ne_eq, Int.reduceEq, not_false_eq_true, decide_true, decide_false, Int.reduceToNat, tl3, Int.reduceBNe, Int.reduceBEq, rmK, rm1, not_true_eq_false]
  refine ⟨fun _ => by decide, ?_⟩
  show EndOk [] (vB true) _ (vB true) []
  refine .of [] [] rfl (by first | rfl | (rw [hst]; rfl)) ?_ ?_
  all_goals (try exact clA)

end Go.Proofs

