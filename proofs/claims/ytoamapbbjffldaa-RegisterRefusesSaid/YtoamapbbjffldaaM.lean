import Derived.Test.YtoamapbbjffldaaL
set_option linter.unusedSimpArgs false
set_option linter.unusedVariables false
namespace Go.Proofs
open Go Go.TL
/-! ltSto, ltO2, ltO1, ltAs, ltA, ltC, ltCs, ltT, ltFr, ltS, wrOk, wrO, TL.get, hasFr, ↓reduceIte, Nat.reduceEqDiff, reduceCtorEq, Option.getD_some, Option.isSome_some, List.length_map, List.length_append, List.length_cons, List.length_nil, List.append_nil, List.mem_singleton, List.mem_cons, List.not_mem_nil, and_true, true_and, and_self, imp_self, forall_const, false_implies, implies_true, true_implies, or_false, Bool.false_eq_true, Bool.true_eq_false, ImXs_nil, true_or, or_true, false_or, false_and, and_false, rmK, rm1# made.Register -/
theorem getElem_snoc_lt {α : Type} {l : List α} {x : α} {i : Nat} (h : i < l.length) : (l ++ [x])[i]'(by simp; omega) = l[i] := List.getElem_append_left h
theorem fe_append {l : List Ent} {x : Ent} : ∀ n, n ≤ l.length → feI (l ++ [x]) n = feI l n
  | 0, _ => rfl
  | n + 1, h => by
    have hn : n < l.length := by omega
    have hn2 : n < (l ++ [x]).length := by simp; omega
    have e1 : (l ++ [x])[n]? = some l[n] := by rw [List.getElem?_append_left hn, List.getElem?_eq_getElem hn]
    have e0 := fe_append (l := l) (x := x) n (by omega)
    simp only [feI, e0, e1, List.getElem?_eq_getElem hn]
    have e2 : (l ++ [x]).take n = l.take n := List.take_append_of_le_length (by omega)
    unfold errE
    rw [e2]
theorem about_link {l : List Ent} {x : Ent} : aboutI l (linked x) = aboutI l x := rfl
theorem linkI_link {x : Ent} : linkI (linked x) = linkI x := rfl
theorem add_ok {l : List Ent} (kind of_ out : Int) (text : ByteArray) (h : chkI l = 0) : chkI (addA l kind of_ out text).1 = 0 ∧ (addA l kind of_ out text).1.length ≤ l.length + 1 := by
  unfold addA
  rw [if_neg (fun h' => h' h)]
  split
  · exact ⟨h, by simp⟩
  · split
    · exact ⟨h, by simp⟩
    · rename_i h2 h3
      have h3 : aboutI l (newE l kind of_ out text) = 0 := Classical.byContradiction h3
      have hl := chk_len h
      refine ⟨?_, by simp⟩
      simp only
      unfold chkI
      rw [if_neg (by simp; omega), List.length_append]
      have e1 : (l ++ [linked (newE l kind of_ out text)])[l.length]? = some (linked (newE l kind of_ out text)) := by simp
      simp only [List.length_cons, List.length_nil, Nat.zero_add, feI, fe_append l.length (Nat.le_refl _), chk_fe h, if_true, e1]
      unfold errE
      rw [List.take_left, about_link, h3, linkI_link]
      simp [linked, newE]
abbrev vCd (cs : List UInt8) (a : Nat) : Ob := oC cs a
def regTexts : List ByteArray := [⟨#[]⟩, ⟨#[97]⟩, ⟨#[116, 101, 120, 116, 10]⟩]
def regStep (cs : List UInt8) (x : Nat × List Ent) : Nat × List Ent :=
  let k := nx cs x.1 3
  let kind := 1 + k.1
  let o := if kind ≠ 1 then nx cs k.2 ((x.2.length : Int) + 1 - 0 + 1) else (0, k.2)
  let p := if kind ≠ 2 then nx cs o.2 8 else (-1, o.2)
  let t := if kind ≠ 2 then nx cs p.2 3 else (0, p.2)
  (t.2, (addA x.2 kind o.1 (1 + p.1) (regTexts.getD t.1.toNat ⟨#[]⟩)).1)
def regLoop (cs : List UInt8) : Nat → Nat × List Ent → Nat × List Ent
  | 0, x => x
  | n + 1, x => regLoop cs n (regStep cs x)
def regA (cs : List UInt8) (a : Nat) (most : Int) : Nat × List Ent := let n := nx cs a (most + 1); regLoop cs n.1.toNat (n.2, [])
/-- what holds of a made register -/
structure RegOk (l : List Ent) (n : Nat) : Prop where
  chk : chkI l = 0
  len : l.length ≤ n
theorem small_of {l : List Ent} (h : chkI l = 0) : small l := fun x hx => by
  obtain ⟨i, hi, rfl⟩ := List.getElem_of_mem hx
  have := about_size (chk_about h i hi)
  omega
theorem regStep_ok {cs : List UInt8} {x : Nat × List Ent} {n : Nat} (h : RegOk x.2 n) (ha : x.1 ≤ cs.length) : RegOk (regStep cs x).2 (n + 1) ∧ (regStep cs x).1 ≤ cs.length := by
  refine ⟨⟨(add_ok _ _ _ _ h.chk).1, ?_⟩, ?_⟩
  · refine Nat.le_trans (add_ok _ _ _ _ h.chk).2 ?_
    have h2 := h.len
    omega
  · unfold regStep
    simp only
    have h1 := nx_le cs x.1 3 ha
    repeat' split
    all_goals first
      | exact h1
      | exact nx_le _ _ _ (nx_le _ _ _ (nx_le _ _ _ h1))
      | exact nx_le _ _ _ (nx_le _ _ _ h1)
      | exact nx_le _ _ _ h1
theorem regLoop_ok {cs : List UInt8} : ∀ {n : Nat} {x : Nat × List Ent} {m : Nat}, RegOk x.2 m → x.1 ≤ cs.length → RegOk (regLoop cs n x).2 (m + n) ∧ (regLoop cs n x).1 ≤ cs.length
  | 0, _, _, h, ha => ⟨h, ha⟩
  | n + 1, x, m, h, ha => by
    obtain ⟨h1, h2⟩ := regStep_ok h ha
    have := regLoop_ok (n := n) h1 h2
    rw [show m + 1 + n = m + (n + 1) by omega] at this
    exact this
theorem regA_ok {cs : List UInt8} {a : Nat} (ha : a ≤ cs.length) {most : Nat} : RegOk (regA cs a most).2 most ∧ (regA cs a most).1 ≤ cs.length := by
  unfold regA
  have h1 := nx_le cs a ((most : Int) + 1) ha
  have h2 := nx_range cs a ((most : Int) + 1) (by omega)
  have h3 := regLoop_ok (cs := cs) (n := (nx cs a ((most : Int) + 1)).1.toNat) (x := ((nx cs a ((most : Int) + 1)).2, [])) (m := 0) ⟨rfl, by simp⟩ h1
  exact ⟨⟨h3.1.chk, Nat.le_trans h3.1.len (by omega)⟩, h3.2⟩
theorem c_made_Register (cs : List UInt8) (a : Nat) (most : Nat) (hl : cs.length ≤ 400) (ha : a ≤ cs.length) (hm : most ≤ 60) :
    Spc Try.prog F_made_Register [.ptr 0 1 0 0, vI most] [(0, oC cs a)] (vEs (regA cs a most).2) [(0, oC cs (regA cs a most).1)] := by
  have hw0 : IntKind.i64.wrap ((most : Int) + 1) = (most : Int) + 1 := IntWalk.i64_in _ (by omega)
  refine spec_of_ir fn_made_Register mixm (by simp) fun e _ hst => W_start ?_
  unfold ir_made_Register
  simp only [tl, tl2, isCallR, entX, argFr, ret, retI, retB, intT, unT, endR, ressR, resR, tupT, bslR, boxR, lenAll, ↓reduceIte, Nat.reduceEqDiff, Nat.reduceAdd, Nat.reduceMul, Nat.reduceLT, Nat.reduceLeDiff, reduceCtorEq, Int.reduceLE, Int.reduceLT, ne_eq, Int.reduceEq, not_false_eq_true, decide_true, decide_false, Int.reduceToNat, tl3, Int.reduceBNe, Int.reduceBEq, rmK, rm1, not_true_eq_false, hw0]
  refine C1.draw 0 cs a _ (c_draw_Codes_Next cs a (most + 1) hl ha (by omega)) rfl rfl rfl ?_
  have h1 := nx_le cs a ((most : Int) + 1) ha
  have h2 := nx_range cs a ((most : Int) + 1) (by omega)
  simp only [tl, tl2, isCallR, entX, argFr, ret, retI, retB, intT, unT, endR, ressR, resR, tupT, bslR, boxR, lenAll, ↓reduceIte, Nat.reduceEqDiff, Nat.reduceAdd, Nat.reduceMul, Nat.reduceLT, Nat.reduceLeDiff, reduceCtorEq, Int.reduceLE, Int.reduceLT, ne_eq, Int.reduceEq, not_false_eq_true, decide_true, decide_false, Int.reduceToNat, tl3, Int.reduceBNe, Int.reduceBEq, rmK, rm1, not_true_eq_false]
  obtain ⟨R, hR⟩ : ∃ R, R = regA cs a most := ⟨_, rfl⟩
  rw [← hR]
  refine W_loopF mixm (α := Nat × Nat × List Ent) [5, 6] (fun x => x.2.1 ≤ cs.length ∧ (∃ n, RegOk x.2.2 n) ∧ x.1 ≤ 60 ∧ regLoop cs x.1 x.2 = R) (fun x => [(5, vEs x.2.2), (6, vI x.1)]) (fun x => [(0, oC cs x.2.1)]) (fun x => x.1) ((nx cs a ((most : Int) + 1)).1.toNat, (nx cs a ((most : Int) + 1)).2, []) ⟨h1, ⟨0, rfl, by simp⟩, by simp only; omega, hR.symm⟩ ?_ fun x hx => ?_
  · refine .of [(0, some 0)] [] rfl (by first | rfl | (rw [hst]; rfl)) ?_ ?_
    all_goals (try simp only [ltSto, ltO2, ltO1, ltAs, ltA, ltC, ltCs, ltT, ltFr, ltS, wrOk, wrO, TL.get, hasFr, ↓reduceIte, Nat.reduceEqDiff, reduceCtorEq, Option.getD_some, Option.isSome_some, List.length_map, List.length_append, List.length_cons, List.length_nil, List.append_nil, List.mem_singleton, List.mem_cons, List.not_mem_nil, and_true, true_and, and_self, imp_self, forall_const, false_implies, implies_true, true_implies, or_false, Bool.false_eq_true, Bool.true_eq_false, ImXs_nil, true_or, or_true, false_or, false_and, and_false, rmK, rm1, List.map_append, List.map_cons, List.map_nil, List.cons_append, List.nil_append, Int.toNat_of_nonneg h2.1])
    all_goals (try (repeat' (first
        | exact ltXs_nil
        | (apply ltXs_map; intro _; exact ⟨rfl, rfl⟩)
        | (apply imXs_map; intro _; exact ⟨rfl, rfl⟩)
        | with_reducible apply imXs_append
        | with_reducible refine imXs_cons ⟨rfl, rfl⟩ ?_
        | exact imXs_nil
        | with_reducible apply ltXs_append
        | with_reducible refine ltXs_cons ⟨rfl, rfl, ?_⟩ ?_
        | with_reducible apply And.intro
        | exact ltCs_im rfl
        | exact ltCs_im (by assumption)
        | (refine ⟨⟨?_, rfl, ?_, rfl, ?_⟩, trivial⟩ <;> first | (simp; done) | (apply imXs_map; intro _; exact ⟨rfl, rfl⟩))
        | trivial
        | rfl
        | (rw [i64_succ (by omega)])
        | omega)))
  obtain ⟨q, a1, L⟩ := x
  obtain ⟨ha1, ⟨n0, hok⟩, hq, hreg⟩ := hx
  dsimp only at ha1 hok hq hreg
  have hsm := small_of hok.chk
  have hlen := chk_len hok.chk
  simp only [tl, tl2, isCallR, entX, argFr, ret, retI, retB, intT, unT, endR, ressR, resR, tupT, bslR, boxR, lenAll, ↓reduceIte, Nat.reduceEqDiff, Nat.reduceAdd, Nat.reduceMul, Nat.reduceLT, Nat.reduceLeDiff, reduceCtorEq, Int.reduceLE, Int.reduceLT, ne_eq, Int.reduceEq, not_false_eq_true, decide_true, decide_false, Int.reduceToNat, tl3, Int.reduceBNe, Int.reduceBEq, rmK, rm1, not_true_eq_false, decide_eq_true_eq, decide_eq_false_iff_not]
  refine ⟨fun h5 => ?_, fun h5 => ?_⟩
  · obtain ⟨q, rfl⟩ : ∃ c, q = c + 1 := ⟨q - 1, by omega⟩
    have hwq : IntKind.i64.wrap (((q + 1 : Nat) : Int) - 1) = q := by rw [IntWalk.i64_in _ (by omega)]; omega
    have hstep := regStep_ok (cs := cs) (x := (a1, L)) hok ha1
    refine C1.draw 0 cs a1 _ (c_draw_Codes_Range cs a1 1 3 hl ha1 (by omega) (by omega)) rfl rfl rfl ?_
    have e3 : ((3 : Int) - 1 + 1) = 3 := rfl
    have hk1 := nx_range cs a1 3 (by omega)
    have ha2 := nx_le cs a1 3 ha1
    rw [e3]
    obtain ⟨⟨k, a2⟩, hk⟩ : ∃ y, y = nx cs a1 3 := ⟨_, rfl⟩
    rw [← hk] at hk1 ha2 ⊢
    dsimp only at hk1 ha2 ⊢
    simp only [tl, tl2, isCallR, entX, argFr, ret, retI, retB, intT, unT, endR, ressR, resR, tupT, bslR, boxR, lenAll, ↓reduceIte, Nat.reduceEqDiff, Nat.reduceAdd, Nat.reduceMul, Nat.reduceLT, Nat.reduceLeDiff, reduceCtorEq, Int.reduceLE, Int.reduceLT, ne_eq, Int.reduceEq, not_false_eq_true, decide_true, decide_false, Int.reduceToNat, tl3, Int.reduceBNe, Int.reduceBEq, rmK, rm1, not_true_eq_false, bne_iff_ne, bne_eq_false_iff_eq]
    refine ⟨fun h6 => ?_, fun h6 => ?_⟩
    · have hwl : IntKind.i64.wrap ((L.length : Int) + 1) = (L.length : Int) + 1 := IntWalk.i64_in _ (by omega)
      simp only [hwl]
      refine C1.draw 0 cs a2 _ (c_draw_Codes_Range cs a2 0 ((L.length : Int) + 1) hl ha2 (by omega) (by omega)) rfl rfl rfl ?_
      have ha3 := nx_le cs a2 ((L.length : Int) + 1 - 0 + 1) ha2
      have ho1 := nx_range cs a2 ((L.length : Int) + 1 - 0 + 1) (by omega)
      obtain ⟨⟨o, a3⟩, ho⟩ : ∃ y, y = nx cs a2 ((L.length : Int) + 1 - 0 + 1) := ⟨_, rfl⟩
      rw [← ho] at ho1 ha3 ⊢
      dsimp only at ho1 ha3 ⊢
      simp only [tl, tl2, isCallR, entX, argFr, ret, retI, retB, intT, unT, endR, ressR, resR, tupT, bslR, boxR, lenAll, ↓reduceIte, Nat.reduceEqDiff, Nat.reduceAdd, Nat.reduceMul, Nat.reduceLT, Nat.reduceLeDiff, reduceCtorEq, Int.reduceLE, Int.reduceLT, ne_eq, Int.reduceEq, not_false_eq_true, decide_true, decide_false, Int.reduceToNat, tl3, Int.reduceBNe, Int.reduceBEq, rmK, rm1, not_true_eq_false, bne_iff_ne, bne_eq_false_iff_eq, Int.zero_add]
      refine ⟨fun h7 => ?_, fun h7 => ?_⟩
      · refine C1.draw 0 cs a3 _ (c_draw_Codes_Range cs a3 1 8 hl ha3 (by omega) (by omega)) rfl rfl rfl ?_
        have e8 : ((8 : Int) - 1 + 1) = 8 := rfl
        have hp1 := nx_range cs a3 8 (by omega)
        have ha4 := nx_le cs a3 8 ha3
        rw [e8]
        obtain ⟨⟨p, a4⟩, hp⟩ : ∃ y, y = nx cs a3 8 := ⟨_, rfl⟩
        rw [← hp] at hp1 ha4 ⊢
        dsimp only at hp1 ha4 ⊢
        simp only [tl, tl2, isCallR, entX, argFr, ret, retI, retB, intT, unT, endR, ressR, resR, tupT, bslR, boxR, lenAll, ↓reduceIte, Nat.reduceEqDiff, Nat.reduceAdd, Nat.reduceMul, Nat.reduceLT, Nat.reduceLeDiff, reduceCtorEq, Int.reduceLE, Int.reduceLT, ne_eq, Int.reduceEq, not_false_eq_true, decide_true, decide_false, Int.reduceToNat, tl3, Int.reduceBNe, Int.reduceBEq, rmK, rm1, not_true_eq_false]
        refine C1.draw 0 cs a4 _ (c_draw_Codes_Next cs a4 3 hl ha4 (by omega)) rfl rfl rfl ?_
        have ht1 := nx_range cs a4 3 (by omega)
        have ha5 := nx_le cs a4 3 ha4
        obtain ⟨⟨t, a5⟩, ht⟩ : ∃ y, y = nx cs a4 3 := ⟨_, rfl⟩
        rw [← ht] at ht1 ha5 ⊢
        dsimp only at ht1 ha5 ⊢
        have hti : t.toNat < regTexts.length := by
          show t.toNat < 3
          omega
        have hrl : regTexts.length = 3 := rfl
        have htg : regTexts.getD t.toNat ⟨#[]⟩ = regTexts[t.toNat] := getD_get hti
        simp only [show ([T.v (.string ⟨#[]⟩), T.v (.string ⟨#[97]⟩), T.v (.string ⟨#[116, 101, 120, 116, 10]⟩)] : List T) = regTexts.map vS from rfl]
        simp only [tl, tl2, isCallR, entX, argFr, ret, retI, retB, intT, unT, endR, ressR, resR, tupT, bslR, boxR, lenAll, ↓reduceIte, Nat.reduceEqDiff, Nat.reduceAdd, Nat.reduceMul, Nat.reduceLT, Nat.reduceLeDiff, reduceCtorEq, Int.reduceLE, Int.reduceLT, ne_eq, Int.reduceEq, not_false_eq_true, decide_true, decide_false, Int.reduceToNat, tl3, Int.reduceBNe, Int.reduceBEq, rmK, rm1, not_true_eq_false, getD_mapT hti]
        refine ⟨⟨rfl, by omega, by omega⟩, ⟨rfl, hti⟩, by kernel_rfl, ?_⟩
        have hsq : regStep cs (a1, L) = (a5, (addA L (1 + k) o (1 + p) regTexts[t.toNat]).1) := by
          simp only [regStep, ← hk, ← ho, ← hp, ← ht, ne_eq, h6, h7, not_false_eq_true, if_true, htg]
          try rfl
        refine C1.im (c_ref38_Add L (1 + k) o (1 + p) regTexts[t.toNat] (by omega) hsm) rfl (by rfl) ?_
        simp only [tl, tl2, isCallR, entX, argFr, ret, retI, retB, intT, unT, endR, ressR, resR, tupT, bslR, boxR, lenAll, ↓reduceIte, Nat.reduceEqDiff, Nat.reduceAdd, Nat.reduceMul, Nat.reduceLT, Nat.reduceLeDiff, reduceCtorEq, Int.reduceLE, Int.reduceLT, ne_eq, Int.reduceEq, not_false_eq_true, decide_true, decide_false, Int.reduceToNat, tl3, Int.reduceBNe, Int.reduceBEq, rmK, rm1, not_true_eq_false, hwq]
        rw [hsq] at hstep
        refine ⟨(q, a5, (addA L (1 + k) o (1 + p) regTexts[t.toNat]).1), ⟨hstep.2, ⟨_, hstep.1⟩, by simp only; omega, ?_⟩, by simp only; omega, ?_⟩
        · rw [← hreg, regLoop, hsq]
        · refine .of [(0, some 0)] [] rfl (by first | rfl | (rw [hst]; rfl)) ?_ ?_
          all_goals (try simp only [ltSto, ltO2, ltO1, ltAs, ltA, ltC, ltCs, ltT, ltFr, ltS, wrOk, wrO, TL.get, hasFr, ↓reduceIte, Nat.reduceEqDiff, reduceCtorEq, Option.getD_some, Option.isSome_some, List.length_map, List.length_append, List.length_cons, List.length_nil, List.append_nil, List.mem_singleton, List.mem_cons, List.not_mem_nil, and_true, true_and, and_self, imp_self, forall_const, false_implies, implies_true, true_implies, or_false, Bool.false_eq_true, Bool.true_eq_false, ImXs_nil, true_or, or_true, false_or, false_and, and_false, rmK, rm1, List.map_append, List.map_cons, List.map_nil, List.cons_append, List.nil_append])
          all_goals (try (repeat' (first
              | exact ltXs_nil
              | (apply ltXs_map; intro _; exact ⟨rfl, rfl⟩)
              | (apply imXs_map; intro _; exact ⟨rfl, rfl⟩)
              | with_reducible apply imXs_append
              | with_reducible refine imXs_cons ⟨rfl, rfl⟩ ?_
              | exact imXs_nil
              | with_reducible apply ltXs_append
              | with_reducible refine ltXs_cons ⟨rfl, rfl, ?_⟩ ?_
              | with_reducible apply And.intro
              | exact ltCs_im rfl
              | exact ltCs_im (by assumption)
              | (refine ⟨⟨?_, rfl, ?_, rfl, ?_⟩, trivial⟩ <;> first | (simp; done) | (apply imXs_map; intro _; exact ⟨rfl, rfl⟩))
              | trivial
              | rfl
              | (rw [i64_succ (by omega)])
              | omega)))
      · have hsq : regStep cs (a1, L) = (a3, (addA L (1 + k) o 0 ⟨#[]⟩).1) := by
          simp only [regStep, ← hk, ← ho, ne_eq, h6, h7, not_false_eq_true, if_true, not_true, if_false]
          try rfl
        refine C1.im (c_ref38_Add L (1 + k) o 0 ⟨#[]⟩ (by omega) hsm) rfl (by rfl) ?_
        simp only [tl, tl2, isCallR, entX, argFr, ret, retI, retB, intT, unT, endR, ressR, resR, tupT, bslR, boxR, lenAll, ↓reduceIte, Nat.reduceEqDiff, Nat.reduceAdd, Nat.reduceMul, Nat.reduceLT, Nat.reduceLeDiff, reduceCtorEq, Int.reduceLE, Int.reduceLT, ne_eq, Int.reduceEq, not_false_eq_true, decide_true, decide_false, Int.reduceToNat, tl3, Int.reduceBNe, Int.reduceBEq, rmK, rm1, not_true_eq_false, hwq]
        rw [hsq] at hstep
        refine ⟨(q, a3, (addA L (1 + k) o 0 ⟨#[]⟩).1), ⟨hstep.2, ⟨_, hstep.1⟩, by simp only; omega, ?_⟩, by simp only; omega, ?_⟩
        · rw [← hreg, regLoop, hsq]
        · refine .of [(0, some 0)] [] rfl (by first | rfl | (rw [hst]; rfl)) ?_ ?_
          all_goals (try simp only [ltSto, ltO2, ltO1, ltAs, ltA, ltC, ltCs, ltT, ltFr, ltS, wrOk, wrO, TL.get, hasFr, ↓reduceIte, Nat.reduceEqDiff, reduceCtorEq, Option.getD_some, Option.isSome_some, List.length_map, List.length_append, List.length_cons, List.length_nil, List.append_nil, List.mem_singleton, List.mem_cons, List.not_mem_nil, and_true, true_and, and_self, imp_self, forall_const, false_implies, implies_true, true_implies, or_false, Bool.false_eq_true, Bool.true_eq_false, ImXs_nil, true_or, or_true, false_or, false_and, and_false, rmK, rm1, List.map_append, List.map_cons, List.map_nil, List.cons_append, List.nil_append])
          all_goals (try (repeat' (first
              | exact ltXs_nil
              | (apply ltXs_map; intro _; exact ⟨rfl, rfl⟩)
              | (apply imXs_map; intro _; exact ⟨rfl, rfl⟩)
              | with_reducible apply imXs_append
              | with_reducible refine imXs_cons ⟨rfl, rfl⟩ ?_
              | exact imXs_nil
              | with_reducible apply ltXs_append
              | with_reducible refine ltXs_cons ⟨rfl, rfl, ?_⟩ ?_
              | with_reducible apply And.intro
              | exact ltCs_im rfl
              | exact ltCs_im (by assumption)
              | (refine ⟨⟨?_, rfl, ?_, rfl, ?_⟩, trivial⟩ <;> first | (simp; done) | (apply imXs_map; intro _; exact ⟨rfl, rfl⟩))
              | trivial
              | rfl
              | (rw [i64_succ (by omega)])
              | omega)))
    · have hk0 : k = 0 := by omega
      subst hk0
      refine ⟨fun h7 => ?_, fun h7 => ?_⟩
      · refine C1.draw 0 cs a2 _ (c_draw_Codes_Range cs a2 1 8 hl ha2 (by omega) (by omega)) rfl rfl rfl ?_
        have e8 : ((8 : Int) - 1 + 1) = 8 := rfl
        have hp1 := nx_range cs a2 8 (by omega)
        have ha4 := nx_le cs a2 8 ha2
        rw [e8]
        obtain ⟨⟨p, a4⟩, hp⟩ : ∃ y, y = nx cs a2 8 := ⟨_, rfl⟩
        rw [← hp] at hp1 ha4 ⊢
        dsimp only at hp1 ha4 ⊢
        simp only [tl, tl2, isCallR, entX, argFr, ret, retI, retB, intT, unT, endR, ressR, resR, tupT, bslR, boxR, lenAll, ↓reduceIte, Nat.reduceEqDiff, Nat.reduceAdd, Nat.reduceMul, Nat.reduceLT, Nat.reduceLeDiff, reduceCtorEq, Int.reduceLE, Int.reduceLT, ne_eq, Int.reduceEq, not_false_eq_true, decide_true, decide_false, Int.reduceToNat, tl3, Int.reduceBNe, Int.reduceBEq, rmK, rm1, not_true_eq_false]
        refine C1.draw 0 cs a4 _ (c_draw_Codes_Next cs a4 3 hl ha4 (by omega)) rfl rfl rfl ?_
        have ht1 := nx_range cs a4 3 (by omega)
        have ha5 := nx_le cs a4 3 ha4
        obtain ⟨⟨t, a5⟩, ht⟩ : ∃ y, y = nx cs a4 3 := ⟨_, rfl⟩
        rw [← ht] at ht1 ha5 ⊢
        dsimp only at ht1 ha5 ⊢
        have hti : t.toNat < regTexts.length := by
          show t.toNat < 3
          omega
        have hrl : regTexts.length = 3 := rfl
        have htg : regTexts.getD t.toNat ⟨#[]⟩ = regTexts[t.toNat] := getD_get hti
        simp only [show ([T.v (.string ⟨#[]⟩), T.v (.string ⟨#[97]⟩), T.v (.string ⟨#[116, 101, 120, 116, 10]⟩)] : List T) = regTexts.map vS from rfl]
        simp only [tl, tl2, isCallR, entX, argFr, ret, retI, retB, intT, unT, endR, ressR, resR, tupT, bslR, boxR, lenAll, ↓reduceIte, Nat.reduceEqDiff, Nat.reduceAdd, Nat.reduceMul, Nat.reduceLT, Nat.reduceLeDiff, reduceCtorEq, Int.reduceLE, Int.reduceLT, ne_eq, Int.reduceEq, not_false_eq_true, decide_true, decide_false, Int.reduceToNat, tl3, Int.reduceBNe, Int.reduceBEq, rmK, rm1, not_true_eq_false, getD_mapT hti]
        refine ⟨⟨rfl, by omega, by omega⟩, ⟨rfl, hti⟩, by kernel_rfl, ?_⟩
        have hsq : regStep cs (a1, L) = (a5, (addA L 1 0 (1 + p) regTexts[t.toNat]).1) := by
          simp only [regStep, ← hk, Int.reduceAdd, Int.reduceEq, ← hp, ← ht, ne_eq, h6, h7, not_false_eq_true, not_true, if_false, if_true, htg]
          try rfl
        refine C1.im (c_ref38_Add L 1 0 (1 + p) regTexts[t.toNat] (by omega) hsm) rfl (by rfl) ?_
        simp only [tl, tl2, isCallR, entX, argFr, ret, retI, retB, intT, unT, endR, ressR, resR, tupT, bslR, boxR, lenAll, ↓reduceIte, Nat.reduceEqDiff, Nat.reduceAdd, Nat.reduceMul, Nat.reduceLT, Nat.reduceLeDiff, reduceCtorEq, Int.reduceLE, Int.reduceLT, ne_eq, Int.reduceEq, not_false_eq_true, decide_true, decide_false, Int.reduceToNat, tl3, Int.reduceBNe, Int.reduceBEq, rmK, rm1, not_true_eq_false, hwq]
        rw [hsq] at hstep
        refine ⟨(q, a5, (addA L 1 0 (1 + p) regTexts[t.toNat]).1), ⟨hstep.2, ⟨_, hstep.1⟩, by simp only; omega, ?_⟩, by simp only; omega, ?_⟩
        · rw [← hreg, regLoop, hsq]
        · refine .of [(0, some 0)] [] rfl (by first | rfl | (rw [hst]; rfl)) ?_ ?_
          all_goals (try simp only [ltSto, ltO2, ltO1, ltAs, ltA, ltC, ltCs, ltT, ltFr, ltS, wrOk, wrO, TL.get, hasFr, ↓reduceIte, Nat.reduceEqDiff, reduceCtorEq, Option.getD_some, Option.isSome_some, List.length_map, List.length_append, List.length_cons, List.length_nil, List.append_nil, List.mem_singleton, List.mem_cons, List.not_mem_nil, and_true, true_and, and_self, imp_self, forall_const, false_implies, implies_true, true_implies, or_false, Bool.false_eq_true, Bool.true_eq_false, ImXs_nil, true_or, or_true, false_or, false_and, and_false, rmK, rm1, List.map_append, List.map_cons, List.map_nil, List.cons_append, List.nil_append])
          all_goals (try (repeat' (first
              | exact ltXs_nil
              | (apply ltXs_map; intro _; exact ⟨rfl, rfl⟩)
              | (apply imXs_map; intro _; exact ⟨rfl, rfl⟩)
              | with_reducible apply imXs_append
              | with_reducible refine imXs_cons ⟨rfl, rfl⟩ ?_
              | exact imXs_nil
              | with_reducible apply ltXs_append
              | with_reducible refine ltXs_cons ⟨rfl, rfl, ?_⟩ ?_
              | with_reducible apply And.intro
              | exact ltCs_im rfl
              | exact ltCs_im (by assumption)
              | (refine ⟨⟨?_, rfl, ?_, rfl, ?_⟩, trivial⟩ <;> first | (simp; done) | (apply imXs_map; intro _; exact ⟨rfl, rfl⟩))
              | trivial
              | rfl
              | (rw [i64_succ (by omega)])
              | omega)))
      · exact absurd h7 (by decide)
  · obtain rfl : q = 0 := by omega
    rw [show R = (a1, L) from hreg.symm]
    refine .of [(0, some 0)] [] rfl (by first | rfl | (rw [hst]; rfl)) ?_ ?_
    all_goals (try simp only [ltSto, ltO2, ltO1, ltAs, ltA, ltC, ltCs, ltT, ltFr, ltS, wrOk, wrO, TL.get, hasFr, ↓reduceIte, Nat.reduceEqDiff, reduceCtorEq, Option.getD_some, Option.isSome_some, List.length_map, List.length_append, List.length_cons, List.length_nil, List.append_nil, List.mem_singleton, List.mem_cons, List.not_mem_nil, and_true, true_and, and_self, imp_self, forall_const, false_implies, implies_true, true_implies, or_false, Bool.false_eq_true, Bool.true_eq_false, ImXs_nil, true_or, or_true, false_or, false_and, and_false, rmK, rm1, List.map_append, List.map_cons, List.map_nil, List.cons_append, List.nil_append])
    all_goals (try (repeat' (first
        | exact ltXs_nil
        | (apply ltXs_map; intro _; exact ⟨rfl, rfl⟩)
        | (apply imXs_map; intro _; exact ⟨rfl, rfl⟩)
        | with_reducible apply imXs_append
        | with_reducible refine imXs_cons ⟨rfl, rfl⟩ ?_
        | exact imXs_nil
        | with_reducible apply ltXs_append
        | with_reducible refine ltXs_cons ⟨rfl, rfl, ?_⟩ ?_
        | with_reducible apply And.intro
        | exact ltCs_im rfl
        | exact ltCs_im (by assumption)
        | (refine ⟨⟨?_, rfl, ?_, rfl, ?_⟩, trivial⟩ <;> first | (simp; done) | (apply imXs_map; intro _; exact ⟨rfl, rfl⟩))
        | trivial
        | rfl
        | (rw [i64_succ (by omega)])
        | omega)))

end Go.Proofs

