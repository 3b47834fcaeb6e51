import Derived.Test.YtckkagikeoimhaaO29
set_option linter.unusedSimpArgs false
set_option linter.unusedVariables false
namespace Go.Proofs
open Go Go.TL
/-! ltSto, ltO2, ltO1, ltAs, ltA, ltC, ltCs, ltT, ltFr, ltS, wrOk, wrO, TL.get, hasFr, ↓reduceIte, Nat.reduceEqDiff, reduceCtorEq, Option.getD_some, Option.isSome_some, List.length_map, List.length_append, List.length_cons, List.length_nil, List.append_nil, List.mem_singleton, List.mem_cons, List.not_mem_nil, and_true, true_and, and_self, imp_self, forall_const, false_implies, implies_true, true_implies, or_false, Bool.false_eq_true, Bool.true_eq_false, ImXs_nil, true_or, or_true, false_or, false_and, and_false, rmK, rm1# the example of the chapter -/
def awR : Rls := ⟨0, [[0, 1], [0, 0]], [3, -1]⟩
def awQ : List Eqn := [⟨[0, 1], 3⟩]
theorem aw_all : allA [2, 2] [awR] = (awQ, 0) := by
  have h1 : rlsC [2, 2] [awR] = 0 := by kernel_rfl
  have h2 : tells [2, 2] [awR] = awQ := by kernel_rfl
  rw [allA, if_neg (fun e => e h1), h2]
theorem aw_yes : agrees awQ [1, 2, 0, 0] = true := by kernel_rfl
theorem aw_no : agrees awQ [1, 1, 0, 0] = false := by kernel_rfl
theorem awR_sm : RlsSm awR := ⟨by decide, by decide, by decide⟩
theorem c_law29_awake : Spc Try.prog F_law29_awake [] [] (vB true) [] := by
  have hOf := c_equations_Of [2, 2] awR (by decide) awR_sm
  rw [aw_all] at hOf
  have hS := c_ref29_Same awQ (by decide) (by decide)
  have hY := c_equations_Agrees awQ [1, 2, 0, 0] (by decide) (by decide) (by decide)
  have hN := c_equations_Agrees awQ [1, 1, 0, 0] (by decide) (by decide) (by decide)
  rw [aw_yes] at hY
  rw [aw_no] at hN
  refine spec_of_ir fn_law29_awake mixm (by simp) fun e _ hst => W_start ?_
  unfold ir_law29_awake
  simp only [tl, tl2, isCallR, entX, argFr, ret, retI, retB, intT, unT, endR, ressR, resR, tupT, bslR, boxR, lenAll, ↓reduceIte, Nat.reduceEqDiff, Nat.reduceAdd, Nat.reduceMul, Nat.reduceLT, Nat.reduceLeDiff, reduceCtorEq, Int.reduceLE, Int.reduceLT, ne_eq, Int.reduceEq, not_false_eq_true, decide_true, decide_false, Int.reduceToNat, tl3, Int.reduceBNe, Int.reduceBEq, rmK, rm1, not_true_eq_false]
  refine C1.shutD [8192, 12288, 12292, 12296, 12304] hOf ?_ (by rfl) rfl ?_
  · simp [ptw, ltAD, ltD, TL.get, T.cells, imT, imL, awR]
  simp only [tl, tl2, isCallR, entX, argFr, ret, retI, retB, intT, unT, endR, ressR, resR, tupT, bslR, boxR, lenAll, ↓reduceIte, Nat.reduceEqDiff, Nat.reduceAdd, Nat.reduceMul, Nat.reduceLT, Nat.reduceLeDiff, reduceCtorEq, Int.reduceLE, Int.reduceLT, ne_eq, Int.reduceEq, not_false_eq_true, decide_true, decide_false, Int.reduceToNat, tl3, Int.reduceBNe, Int.reduceBEq, rmK, rm1, not_true_eq_false]
  refine C2.lendD [20504, 20496] (fun _ => hS) (fun _ => ?_) (by rfl) (by rfl) ?_
  · simp [ptw, ltAD, ltD, TL.get, T.cells, imT, imL, awQ]
  simp only [tl, tl2, isCallR, entX, argFr, ret, retI, retB, intT, unT, endR, ressR, resR, tupT, bslR, boxR, lenAll, ↓reduceIte, Nat.reduceEqDiff, Nat.reduceAdd, Nat.reduceMul, Nat.reduceLT, Nat.reduceLeDiff, reduceCtorEq, Int.reduceLE, Int.reduceLT, ne_eq, Int.reduceEq, not_false_eq_true, decide_true, decide_false, Int.reduceToNat, tl3, Int.reduceBNe, Int.reduceBEq, rmK, rm1, not_true_eq_false]
  refine C2.lendD [20524] (fun _ => hY) (fun _ => ?_) (by rfl) (by rfl) ?_
  · simp [ptw, ltAD, ltD, TL.get, T.cells, imT, imL, awQ]
  simp only [tl, tl2, isCallR, entX, argFr, ret, retI, retB, intT, unT, endR, ressR, resR, tupT, bslR, boxR, lenAll, ↓reduceIte, Nat.reduceEqDiff, Nat.reduceAdd, Nat.reduceMul, Nat.reduceLT, Nat.reduceLeDiff, reduceCtorEq, Int.reduceLE, Int.reduceLT, ne_eq, Int.reduceEq, not_false_eq_true, decide_true, decide_false, Int.reduceToNat, tl3, Int.reduceBNe, Int.reduceBEq, rmK, rm1, not_true_eq_false]
  refine C2.lendD [20544] (fun _ => hN) (fun _ => ?_) (by rfl) (by rfl) ?_
  · simp [ptw, ltAD, ltD, TL.get, T.cells, imT, imL, awQ]
  simp only [tl, tl2, isCallR, entX, argFr, ret, retI, retB, intT, unT, endR, ressR, resR, tupT, bslR, boxR, lenAll, ↓reduceIte, Nat.reduceEqDiff, Nat.reduceAdd, Nat.reduceMul, Nat.reduceLT, Nat.reduceLeDiff, reduceCtorEq, Int.reduceLE, Int.reduceLT, ne_eq, Int.reduceEq, not_false_eq_true, decide_true, decide_false, Int.reduceToNat, tl3, Int.reduceBNe, Int.reduceBEq, rmK, rm1, not_true_eq_false]
  refine .of [] [] rfl (by first | rfl | (rw [hst]; rfl)) ?_ ?_
  all_goals (try simp only [ltSto, ltO2, ltO1, ltAs, ltA, ltC, ltCs, ltT, ltFr, ltS, wrOk, wrO, TL.get, hasFr, ↓reduceIte, Nat.reduceEqDiff, reduceCtorEq, Option.getD_some, Option.isSome_some, List.length_map, List.length_append, List.length_cons, List.length_nil, List.append_nil, List.mem_singleton, List.mem_cons, List.not_mem_nil, and_true, true_and, and_self, imp_self, forall_const, false_implies, implies_true, true_implies, or_false, Bool.false_eq_true, Bool.true_eq_false, ImXs_nil, true_or, or_true, false_or, false_and, and_false, rmK, rm1, List.map_append, List.map_cons, List.map_nil, List.cons_append, List.nil_append])
  all_goals (try (repeat' (first
      | exact ltXs_nil
      | (apply ltXs_map; intro _; exact ⟨rfl, rfl⟩)
      | (apply imXs_map; intro _; exact ⟨rfl, rfl⟩)
      | with_reducible apply imXs_append
      | with_reducible refine imXs_cons ⟨rfl, rfl⟩ ?_
      | exact imXs_nil
      | with_reducible apply ltXs_append
      | with_reducible refine ltXs_cons ⟨rfl, rfl, ?_⟩ ?_
      | with_reducible apply And.intro
      | exact ltCs_im rfl
      | exact ltCs_im (by assumption)
      | (refine ⟨⟨?_, rfl, ?_, rfl, ?_⟩, trivial⟩ <;> first | (simp; done) | (apply imXs_map; intro _; exact ⟨rfl, rfl⟩))
      | trivial
      | rfl
      | (rw [i64_succ (by omega)])
      | omega)))
/-! ltSto, ltO2, ltO1, ltAs, ltA, ltC, ltCs, ltT, ltFr, ltS, wrOk, wrO, TL.get, hasFr, ↓reduceIte, Nat.reduceEqDiff, reduceCtorEq, Option.getD_some, Option.isSome_some, List.length_map, List.length_append, List.length_cons, List.length_nil, List.append_nil, List.mem_singleton, List.mem_cons, List.not_mem_nil, and_true, true_and, and_self, imp_self, forall_const, false_implies, implies_true, true_implies, or_false, Bool.false_eq_true, Bool.true_eq_false, ImXs_nil, true_or, or_true, false_or, false_and, and_false, rmK, rm1# EquationsParts -/
theorem len400 (l : List UInt8) : (l.take 400).length ≤ 400 := by rw [List.length_take]; omega
theorem rls_sm {sz : List Int} {l : List Rls} (h : rlsC sz l = 0) : ∀ r ∈ l, RlsSm r := fun r hr => by
  obtain ⟨h1, h2, h3⟩ := rlsC_mem h
  have h4 := h3 r hr
  have h5 := h4.vw.len
  have h6 := h1.len
  have h7 := h4.vw.pub
  have h8 := h4.len
  refine ⟨by omega, fun g hg => ?_, by omega⟩
  obtain ⟨i, hi, rfl⟩ := List.getElem_of_mem hg
  have := (h4.vw.g hi).len
  omega
theorem rls_one {sz : List Int} {l : List Rls} (h : rlsC sz l = 0) {r : Rls} (hr : r ∈ l) : rlsC sz [r] = 0 := by
  obtain ⟨h1, h2, h3⟩ := rlsC_mem h
  have h4 := h3 r hr
  unfold rlsC
  rw [if_neg (fun e => e (chkS_ok.2 h1)), if_neg (by simp)]
  simp only [rlsF]
  rw [if_neg (fun e => e (rlsE_ok.2 h4))]
theorem tell_cells {sz : List Int} {l : List Rls} (h : SpOk sz) : ∀ x ∈ tells sz l, x.cells.length ≤ 48 := by
  have key : ∀ (gs : List (List Int)) (vs : List Int) (k : Nat), ∀ x ∈ tellF sz gs vs k, x.cells.length ≤ 48 := by
    intro gs vs
    induction vs with
    | nil => intro k x hx; simp [tellF] at hx
    | cons n vs ih =>
      intro k x hx
      simp only [tellF] at hx
      split at hx
      · exact ih _ x hx
      · rcases List.mem_cons.1 hx with rfl | hx
        · exact memb_len h _
        · exact ih _ x hx
  intro x hx
  obtain ⟨r, _, hx⟩ := List.mem_flatMap.1 hx
  exact key _ _ _ x hx
theorem c_law29_EquationsParts (l : List UInt8) : Spc Try.prog F_law29_EquationsParts [vL l] [] (vB true) [] := by
  refine spec_of_ir fn_law29_EquationsParts mixm (by simp) fun e _ hst => W_start ?_
  unfold ir_law29_EquationsParts
  simp only [tl, tl2, isCallR, entX, argFr, ret, retI, retB, intT, unT, endR, ressR, resR, tupT, bslR, boxR, lenAll, ↓reduceIte, Nat.reduceEqDiff, Nat.reduceAdd, Nat.reduceMul, Nat.reduceLT, Nat.reduceLeDiff, reduceCtorEq, Int.reduceLE, Int.reduceLT, ne_eq, Int.reduceEq, not_false_eq_true, decide_true, decide_false, Int.reduceToNat, tl3, Int.reduceBNe, Int.reduceBEq, rmK, rm1, not_true_eq_false]
  refine C1.newdraw 8196 (c_draw_New l) rfl rfl ?_
  simp only [tl, tl2, isCallR, entX, argFr, ret, retI, retB, intT, unT, endR, ressR, resR, tupT, bslR, boxR, lenAll, ↓reduceIte, Nat.reduceEqDiff, Nat.reduceAdd, Nat.reduceMul, Nat.reduceLT, Nat.reduceLeDiff, reduceCtorEq, Int.reduceLE, Int.reduceLT, ne_eq, Int.reduceEq, not_false_eq_true, decide_true, decide_false, Int.reduceToNat, tl3, Int.reduceBNe, Int.reduceBEq, rmK, rm1, not_true_eq_false]
  obtain ⟨cs, hcs⟩ : ∃ cs, cs = l.take 400 := ⟨_, rfl⟩
  have hl := len400 l
  rw [← hcs] at hl ⊢
  refine C1.draw 8196 cs 0 _ (c_made_Told cs 0 3 4 hl (by omega) (by omega) (by omega)) rfl rfl rfl ?_
  obtain ⟨t1, t2, t3, t4, t5, t6, t7⟩ := toldA_ok (cs := cs) (a := 0) (most := 3) (rel := 4) (by omega) (by omega) (by omega)
  obtain ⟨⟨a1, sz, t, L⟩, hT⟩ : ∃ y, y = toldA cs 0 3 4 := ⟨_, rfl⟩
  rw [← hT] at t1 t2 t3 t4 t5 t6 t7 ⊢
  dsimp only at t1 t2 t3 t4 t5 t6 t7 ⊢
  have hp := t2.prod
  obtain ⟨u1, u2, u3⟩ := drN_ok (cs := cs) (k := 3 + 1) (by omega) (n := (prodI sz).toNat) (x := (a1, [])) t1 (by simp)
  simp only [List.length_nil, Nat.zero_add] at u2
  have hAll := c_equations_All sz L (by have := t2.len; omega) (by omega) (rls_sm t5)
  have hA1 : allA sz L = (tells sz L, 0) := by rw [allA, if_neg (fun e => e t5)]
  rw [hA1] at hAll
  simp only [tl, tl2, isCallR, entX, argFr, ret, retI, retB, intT, unT, endR, ressR, resR, tupT, bslR, boxR, lenAll, ↓reduceIte, Nat.reduceEqDiff, Nat.reduceAdd, Nat.reduceMul, Nat.reduceLT, Nat.reduceLeDiff, reduceCtorEq, Int.reduceLE, Int.reduceLT, ne_eq, Int.reduceEq, not_false_eq_true, decide_true, decide_false, Int.reduceToNat, tl3, Int.reduceBNe, Int.reduceBEq, rmK, rm1, not_true_eq_false]
  refine C1.draw 8196 cs a1 _ (c_made_Cells cs a1 sz 3 hl t1 t2 (by omega)) rfl rfl rfl ?_
  obtain ⟨⟨a2, u⟩, hU⟩ : ∃ y, y = drN cs (3 + 1) (prodI sz).toNat (a1, []) := ⟨_, rfl⟩
  rw [← hU] at u1 u2 u3 ⊢
  dsimp only at u1 u2 u3 ⊢
  have hul : (u.length : Int) = prodI sz := by omega
  have huv : u.all okV = true := tab_okV (most := 3) (by omega) fun y hy => by have := u3 y hy; omega
  have hcl := fun (M : List Rls) => tell_cells (sz := sz) (l := M) t2
  simp only [tl, tl2, isCallR, entX, argFr, ret, retI, retB, intT, unT, endR, ressR, resR, tupT, bslR, boxR, lenAll, ↓reduceIte, Nat.reduceEqDiff, Nat.reduceAdd, Nat.reduceMul, Nat.reduceLT, Nat.reduceLeDiff, reduceCtorEq, Int.reduceLE, Int.reduceLT, ne_eq, Int.reduceEq, not_false_eq_true, decide_true, decide_false, Int.reduceToNat, tl3, Int.reduceBNe, Int.reduceBEq, rmK, rm1, not_true_eq_false]
  refine C1.shut [] hAll ?_ (by rfl) rfl ?_
  · simp only [ltSto, ltO2, ltO1, ltAs, ltA, ltC, ltCs, ltT, ltFr, ltS, wrOk, wrO, TL.get, hasFr, ↓reduceIte, Nat.reduceEqDiff, reduceCtorEq, Option.getD_some, Option.isSome_some, List.length_map, List.length_append, List.length_cons, List.length_nil, List.append_nil, List.mem_singleton, List.mem_cons, List.not_mem_nil, and_true, true_and, and_self, imp_self, forall_const, false_implies, implies_true, true_implies, or_false, Bool.false_eq_true, Bool.true_eq_false, ImXs_nil, true_or, or_true, false_or, false_and, and_false, rmK, rm1]
  simp only [tl, tl2, isCallR, entX, argFr, ret, retI, retB, intT, unT, endR, ressR, resR, tupT, bslR, boxR, lenAll, ↓reduceIte, Nat.reduceEqDiff, Nat.reduceAdd, Nat.reduceMul, Nat.reduceLT, Nat.reduceLeDiff, reduceCtorEq, Int.reduceLE, Int.reduceLT, ne_eq, Int.reduceEq, not_false_eq_true, decide_true, decide_false, Int.reduceToNat, tl3, Int.reduceBNe, Int.reduceBEq, rmK, rm1, not_true_eq_false]
  have hlen : ∀ i, (tells sz (L.take i)).length ≤ 24000000 := fun i => by
    have := tells_len (sz := sz) (l := L.take i) fun x hx => rls_sm t5 x (List.mem_of_mem_take hx)
    rw [List.length_take] at this
    omega
  obtain ⟨E, hE⟩ : ∃ E : Nat → Bool, E = fun i => (L.take i).all fun r => agrees (tell sz r) u := ⟨_, rfl⟩
  refine W_loopF mixm (α := Nat) [10, 11, 35] (fun i => i ≤ L.length) (fun i => [(10, .asl 1 (tells sz (L.take i)).length), (11, vB (E i)), (35, vI i)]) (fun i => [(12312, .arr 1 [spT sz] false), (1, .arr 2 ((tells sz (L.take i)).map eqnT) false)]) (fun i => L.length - i) 0 (by omega) ?_ fun i hi => ?_
  · have hE0 : E 0 = true := by rw [hE]; rfl
    rw [hE0]
    refine .of [(12312, some 12312), (1, none)] [] rfl (by first | rfl | (rw [hst]; rfl)) ?_ ?_
    all_goals (try simp only [ltSto, ltO2, ltO1, ltAs, ltA, ltC, ltCs, ltT, ltFr, ltS, wrOk, wrO, TL.get, hasFr, ↓reduceIte, Nat.reduceEqDiff, reduceCtorEq, Option.getD_some, Option.isSome_some, List.length_map, List.length_append, List.length_cons, List.length_nil, List.append_nil, List.mem_singleton, List.mem_cons, List.not_mem_nil, and_true, true_and, and_self, imp_self, forall_const, false_implies, implies_true, true_implies, or_false, Bool.false_eq_true, Bool.true_eq_false, ImXs_nil, true_or, or_true, false_or, false_and, and_false, rmK, rm1, List.map_append, List.map_cons, List.map_nil, List.cons_append, List.nil_append])
    all_goals (try (repeat' (first
        | exact ltXs_nil
        | (apply ltXs_map; intro _; exact ⟨rfl, rfl⟩)
        | (apply imXs_map; intro _; exact ⟨rfl, rfl⟩)
        | with_reducible apply imXs_append
        | with_reducible refine imXs_cons ⟨rfl, rfl⟩ ?_
        | exact imXs_nil
        | with_reducible apply ltXs_append
        | with_reducible refine ltXs_cons ⟨rfl, rfl, ?_⟩ ?_
        | with_reducible apply And.intro
        | exact ltCs_im rfl
        | exact ltCs_im (by assumption)
        | (refine ⟨⟨?_, rfl, ?_, rfl, ?_⟩, trivial⟩ <;> first | (simp; done) | (apply imXs_map; intro _; exact ⟨rfl, rfl⟩))
        | trivial
        | rfl
        | (rw [i64_succ (by omega)])
        | omega)))
  have hli := hlen i
  simp only [tl, tl2, isCallR, entX, argFr, ret, retI, retB, intT, unT, endR, ressR, resR, tupT, bslR, boxR, lenAll, ↓reduceIte, Nat.reduceEqDiff, Nat.reduceAdd, Nat.reduceMul, Nat.reduceLT, Nat.reduceLeDiff, reduceCtorEq, Int.reduceLE, Int.reduceLT, ne_eq, Int.reduceEq, not_false_eq_true, decide_true, decide_false, Int.reduceToNat, tl3, Int.reduceBNe, Int.reduceBEq, rmK, rm1, not_true_eq_false, decide_eq_true_eq, decide_eq_false_iff_not]
  refine ⟨fun h => ?_, fun h => ?_⟩
  · have hri := List.getElem_mem (show i < L.length by omega)
    have hsn := tells_snoc (sz := sz) (show i < L.length by omega)
    have hone := rls_one t5 hri
    have htl : tells sz [L[i]'(by omega)] = tell sz (L[i]'(by omega)) := by simp [tells]
    have hA2 : allA sz [L[i]'(by omega)] = (tell sz (L[i]'(by omega)), 0) := by rw [allA, if_neg (fun e => e hone), htl]
    have hOf := c_equations_Of sz (L[i]'(by omega)) (by have := t2.len; omega) (rls_sm t5 _ hri)
    rw [hA2] at hOf
    have hEs : E (i + 1) = (E i && agrees (tell sz (L[i]'(by omega))) u) := by
      rw [hE]
      simp only
      rw [take_snoc (show i < L.length by omega), List.all_append]
      simp
    have hcl2 := hcl [L[i]'(by omega)]
    rw [htl] at hcl2
    have hli2 := hlen (i + 1)
    rw [hsn, List.length_append] at hli2
    have hAg := c_equations_Agrees (tell sz (L[i]'(by omega))) u (by omega) (by omega) (fun x hx => by have := hcl2 x hx; omega)
    have hi2 : i < L.length := by omega
    have hwi := i64_succ (i := i) (by omega)
    simp only [tl, tl2, isCallR, entX, argFr, ret, retI, retB, intT, unT, endR, ressR, resR, tupT, bslR, boxR, lenAll, ↓reduceIte, Nat.reduceEqDiff, Nat.reduceAdd, Nat.reduceMul, Nat.reduceLT, Nat.reduceLeDiff, reduceCtorEq, Int.reduceLE, Int.reduceLT, ne_eq, Int.reduceEq, not_false_eq_true, decide_true, decide_false, Int.reduceToNat, tl3, Int.reduceBNe, Int.reduceBEq, rmK, rm1, not_true_eq_false, Int.toNat_natCast, getD_mapT hi2, hwi]
    refine ⟨by omega, ?_⟩
    refine C1.shut [] hOf ?_ (by rfl) rfl ?_
    · simp only [ltSto, ltO2, ltO1, ltAs, ltA, ltC, ltCs, ltT, ltFr, ltS, wrOk, wrO, TL.get, hasFr, ↓reduceIte, Nat.reduceEqDiff, reduceCtorEq, Option.getD_some, Option.isSome_some, List.length_map, List.length_append, List.length_cons, List.length_nil, List.append_nil, List.mem_singleton, List.mem_cons, List.not_mem_nil, and_true, true_and, and_self, imp_self, forall_const, false_implies, implies_true, true_implies, or_false, Bool.false_eq_true, Bool.true_eq_false, ImXs_nil, true_or, or_true, false_or, false_and, and_false, rmK, rm1]
    simp only [tl, tl2, isCallR, entX, argFr, ret, retI, retB, intT, unT, endR, ressR, resR, tupT, bslR, boxR, lenAll, ↓reduceIte, Nat.reduceEqDiff, Nat.reduceAdd, Nat.reduceMul, Nat.reduceLT, Nat.reduceLeDiff, reduceCtorEq, Int.reduceLE, Int.reduceLT, ne_eq, Int.reduceEq, not_false_eq_true, decide_true, decide_false, Int.reduceToNat, tl3, Int.reduceBNe, Int.reduceBEq, rmK, rm1, not_true_eq_false, bne_self_eq_false, List.length_map]
    refine ⟨by omega, ?_⟩
    refine C2.im (fun _ => hAg) (fun _ => rfl) (by rfl) ?_
    simp only [tl, tl2, isCallR, entX, argFr, ret, retI, retB, intT, unT, endR, ressR, resR, tupT, bslR, boxR, lenAll, ↓reduceIte, Nat.reduceEqDiff, Nat.reduceAdd, Nat.reduceMul, Nat.reduceLT, Nat.reduceLeDiff, reduceCtorEq, Int.reduceLE, Int.reduceLT, ne_eq, Int.reduceEq, not_false_eq_true, decide_true, decide_false, Int.reduceToNat, tl3, Int.reduceBNe, Int.reduceBEq, rmK, rm1, not_true_eq_false]
    refine ⟨i + 1, by omega, by omega, ?_⟩
    rw [hsn, hEs]
    refine .of [(12312, some 12312), (1, some 1)] [] rfl (by first | rfl | (rw [hst]; rfl)) ?_ ?_
    all_goals (try simp only [ltSto, ltO2, ltO1, ltAs, ltA, ltC, ltCs, ltT, ltFr, ltS, wrOk, wrO, TL.get, hasFr, ↓reduceIte, Nat.reduceEqDiff, reduceCtorEq, Option.getD_some, Option.isSome_some, List.length_map, List.length_append, List.length_cons, List.length_nil, List.append_nil, List.mem_singleton, List.mem_cons, List.not_mem_nil, and_true, true_and, and_self, imp_self, forall_const, false_implies, implies_true, true_implies, or_false, Bool.false_eq_true, Bool.true_eq_false, ImXs_nil, true_or, or_true, false_or, false_and, and_false, rmK, rm1, List.map_append, List.map_cons, List.map_nil, List.cons_append, List.nil_append, List.length_append])
    all_goals (try (repeat' (first
        | exact ltXs_nil
        | (apply ltXs_map; intro _; exact ⟨rfl, rfl⟩)
        | (apply imXs_map; intro _; exact ⟨rfl, rfl⟩)
        | with_reducible apply imXs_append
        | with_reducible refine imXs_cons ⟨rfl, rfl⟩ ?_
        | exact imXs_nil
        | with_reducible apply ltXs_append
        | with_reducible refine ltXs_cons ⟨rfl, rfl, ?_⟩ ?_
        | with_reducible apply And.intro
        | exact ltCs_im rfl
        | exact ltCs_im (by assumption)
        | (refine ⟨⟨?_, rfl, ?_, rfl, ?_⟩, trivial⟩ <;> first | (simp; done) | (apply imXs_map; intro _; exact ⟨rfl, rfl⟩))
        | trivial
        | rfl
        | (rw [i64_succ (by omega)])
        | omega)))
  · have hi2 : i = L.length := by omega
    subst hi2
    have hEe : E L.length = agrees (tells sz L) u := by
      rw [hE]
      simp only [List.take_length]
      exact (agrees_parts huv L).symm
    rw [hEe, List.take_length]
    have hS := c_ref29_Same (tells sz L) (by have := hlen L.length; rw [List.take_length] at this; omega) (fun x hx => by have := hcl L x hx; omega)
    have hAg := c_equations_Agrees (tells sz L) u (by have := hlen L.length; rw [List.take_length] at this; omega) (by omega) (fun x hx => by have := hcl L x hx; omega)
    have haw := c_law29_awake
    refine C2.lend [1] (fun _ => hS) (fun _ => ?_) (by rfl) (by rfl) ?_
    · all_goals (try simp only [ltSto, ltO2, ltO1, ltAs, ltA, ltC, ltCs, ltT, ltFr, ltS, wrOk, wrO, TL.get, hasFr, ↓reduceIte, Nat.reduceEqDiff, reduceCtorEq, Option.getD_some, Option.isSome_some, List.length_map, List.length_append, List.length_cons, List.length_nil, List.append_nil, List.mem_singleton, List.mem_cons, List.not_mem_nil, and_true, true_and, and_self, imp_self, forall_const, false_implies, implies_true, true_implies, or_false, Bool.false_eq_true, Bool.true_eq_false, ImXs_nil, true_or, or_true, false_or, false_and, and_false, rmK, rm1, List.map_append, List.map_cons, List.map_nil, List.cons_append, List.nil_append])
      all_goals (try (repeat' (first
          | exact ltXs_nil
          | (apply ltXs_map; intro _; exact ⟨rfl, rfl⟩)
          | (apply imXs_map; intro _; exact ⟨rfl, rfl⟩)
          | with_reducible apply imXs_append
          | with_reducible refine imXs_cons ⟨rfl, rfl⟩ ?_
          | exact imXs_nil
          | with_reducible apply ltXs_append
          | with_reducible refine ltXs_cons ⟨rfl, rfl, ?_⟩ ?_
          | with_reducible apply And.intro
          | exact ltCs_im rfl
          | exact ltCs_im (by assumption)
          | (refine ⟨⟨?_, rfl, ?_, rfl, ?_⟩, trivial⟩ <;> first | (simp; done) | (apply imXs_map; intro _; exact ⟨rfl, rfl⟩))
          | trivial
          | rfl
          | (rw [i64_succ (by omega)])
          | omega)))
    simp only [tl, tl2, isCallR, entX, argFr, ret, retI, retB, intT, unT, endR, ressR, resR, tupT, bslR, boxR, lenAll, ↓reduceIte, Nat.reduceEqDiff, Nat.reduceAdd, Nat.reduceMul, Nat.reduceLT, Nat.reduceLeDiff, reduceCtorEq, Int.reduceLE, Int.reduceLT, ne_eq, Int.reduceEq, not_false_eq_true, decide_true, decide_false, Int.reduceToNat, tl3, Int.reduceBNe, Int.reduceBEq, rmK, rm1, not_true_eq_false]
    refine C2.im (fun _ => hAg) (fun _ => rfl) (by rfl) ?_
    simp only [tl, tl2, isCallR, entX, argFr, ret, retI, retB, intT, unT, endR, ressR, resR, tupT, bslR, boxR, lenAll, ↓reduceIte, Nat.reduceEqDiff, Nat.reduceAdd, Nat.reduceMul, Nat.reduceLT, Nat.reduceLeDiff, reduceCtorEq, Int.reduceLE, Int.reduceLT, ne_eq, Int.reduceEq, not_false_eq_true, decide_true, decide_false, Int.reduceToNat, tl3, Int.reduceBNe, Int.reduceBEq, rmK, rm1, not_true_eq_false]
    refine C2.im (fun _ => haw) (fun _ => rfl) (by rfl) ?_
    simp only [tl, tl2, isCallR, entX, argFr, ret, retI, retB, intT, unT, endR, ressR, resR, tupT, bslR, boxR, lenAll, ↓reduceIte, Nat.reduceEqDiff, Nat.reduceAdd, Nat.reduceMul, Nat.reduceLT, Nat.reduceLeDiff, reduceCtorEq, Int.reduceLE, Int.reduceLT, ne_eq, Int.reduceEq, not_false_eq_true, decide_true, decide_false, Int.reduceToNat, tl3, Int.reduceBNe, Int.reduceBEq, rmK, rm1, not_true_eq_false]
    refine .of [] [] rfl (by first | rfl | (rw [hst]; rfl)) ?_ ?_
    all_goals (try simp only [ltSto, ltO2, ltO1, ltAs, ltA, ltC, ltCs, ltT, ltFr, ltS, wrOk, wrO, TL.get, hasFr, ↓reduceIte, Nat.reduceEqDiff, reduceCtorEq, Option.getD_some, Option.isSome_some, List.length_map, List.length_append, List.length_cons, List.length_nil, List.append_nil, List.mem_singleton, List.mem_cons, List.not_mem_nil, and_true, true_and, and_self, imp_self, forall_const, false_implies, implies_true, true_implies, or_false, Bool.false_eq_true, Bool.true_eq_false, ImXs_nil, true_or, or_true, false_or, false_and, and_false, rmK, rm1, List.map_append, List.map_cons, List.map_nil, List.cons_append, List.nil_append])
    all_goals (try (repeat' (first
        | exact ltXs_nil
        | (apply ltXs_map; intro _; exact ⟨rfl, rfl⟩)
        | (apply imXs_map; intro _; exact ⟨rfl, rfl⟩)
        | with_reducible apply imXs_append
        | with_reducible refine imXs_cons ⟨rfl, rfl⟩ ?_
        | exact imXs_nil
        | with_reducible apply ltXs_append
        | with_reducible refine ltXs_cons ⟨rfl, rfl, ?_⟩ ?_
        | with_reducible apply And.intro
        | exact ltCs_im rfl
        | exact ltCs_im (by assumption)
        | (refine ⟨⟨?_, rfl, ?_, rfl, ?_⟩, trivial⟩ <;> first | (simp; done) | (apply imXs_map; intro _; exact ⟨rfl, rfl⟩))
        | trivial
        | rfl
        | (rw [i64_succ (by omega)])
        | omega)))

end Go.Proofs

